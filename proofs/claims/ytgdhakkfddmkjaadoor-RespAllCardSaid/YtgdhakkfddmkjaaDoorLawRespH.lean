/- The law RespAll at all its arguments. -/
import Derived.Test.YtgdhakkfddmkjaaDoorLawResp6
import Derived.Test.YtgdhakkfddmkjaaDoorLawRespA
import Derived.Test.YtgdhakkfddmkjaaDoorArgs2
set_option linter.unusedVariables false
set_option linter.unusedSimpArgs false
namespace Go.Proofs.YtgdhakkfddmkjaaDoor
open Go Go.RowKit

theorem respAll_walk (p : Option Addr) (L : List Rsp) (c : Nat) (k : Nat) (w : World) (hi : RspsIn w L p c) (hk : k < 256) (hS : Std w) (hA : StdA w) :
    Calls Tryd.prog 8 #[.slice p L.length c, .int .u8 k] w fun e w' => e = .returned (.bool true) ∧ Below w.heap.size w w' := by
  obtain ⟨h1, h2, h3, h4⟩ := hi
  unfold maxLen at h2
  have hbig : L.length ≤ 9223372036854775807 := by omega
  have hok : fewB L = true → (∀ r ∈ L, RspOk r ∧ smallR r = true) ∧ L.length ≤ 60 := fun h => by
    obtain ⟨f1, f2⟩ := few_all h
    refine ⟨fun r hr => ⟨?_, f1 r hr⟩, f2⟩
    obtain ⟨P, c', hin⟩ := h4 r hr
    have := f1 r hr
    simp only [smallR, Bool.not_eq_true', Bool.or_eq_false_iff, decide_eq_false_iff_not] at this
    exact hin.ok (by omega)
  have hm : k % (L.length + 1) ≤ L.length := by have := Nat.mod_lt k (show 0 < L.length + 1 by omega); omega
  refine all_core p L.length c (k % (L.length + 1)) k w (fewB L) (allF L) (allF (L.take (k % (L.length + 1)))) (allF (L.drop (k % (L.length + 1)))) hbig h1 h2 (by omega) (by omega) ?_ hm ?_ ?_ (fun h => (hok h).2) ?_ (fun W hW => alive09_walk W (hS.below hW) (hA.below hW)) ?_ ?_ ?_ ?_
  · rw [Int.tmod_eq_emod_of_nonneg (by omega)]
    rfl
  · rw [← allF_app, List.take_append_drop]
  · intro h
    have := allF_len L (hok h).1
    have := (hok h).2
    omega
  · exact few_any p _ c L w h3 hbig (fun r hr => by obtain ⟨P, c', hin⟩ := h4 r hr; exact hin.max)
  · intro h W hW
    exact allR_any p c L W ((h3.below hW (Nat.le_refl _)).more hW.size) (hok h).1 (hok h).2 (hS.below hW) (hA.below hW)
  · intro h W hW
    exact rallR_any p c L W ((h3.below hW (Nat.le_refl _)).more hW.size) (hok h).1 (hok h).2 (hS.below hW) (hA.below hW)
  · intro h W hW
    have := allR_any p c (L.take (k % (L.length + 1))) W (((h3.upto _).below hW (Nat.le_refl _)).more hW.size) (fun r hr => (hok h).1 r (List.mem_of_mem_take hr)) (by have := (hok h).2; rw [List.length_take]; omega) (hS.below hW) (hA.below hW)
    rw [List.length_take, Nat.min_eq_left hm] at this
    exact this
  · intro h W hW
    have hf := (h3.from (k % (L.length + 1)))
    have hf2 : Rsps w w.heap.size (if c = k % (L.length + 1) then p else p.map (·.add ((k % (L.length + 1)) * 10))) (L.drop (k % (L.length + 1))) := by
      split
      · intro i hi
        rw [List.length_drop] at hi
        omega
      · exact hf
    have := allR_any _ (c - k % (L.length + 1)) (L.drop (k % (L.length + 1))) W ((hf2.below hW (Nat.le_refl _)).more hW.size) (fun r hr => (hok h).1 r (List.mem_of_mem_drop hr)) (by have := (hok h).2; rw [List.length_drop]; omega) (hS.below hW) (hA.below hW)
    rw [List.length_drop] at this
    exact this
end Go.Proofs.YtgdhakkfddmkjaaDoor
