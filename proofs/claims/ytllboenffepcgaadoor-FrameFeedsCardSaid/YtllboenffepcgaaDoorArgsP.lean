/- An argument of type [][]byte, as the walk of FrameFeeds takes it. -/
import Derived.Test.YtllboenffepcgaaDoorArgs
import Derived.Test.YtllboenffepcgaaDoorLawFrm3
import Derived.Deep.Slices
import Derived.SizedLaws
set_option linter.unusedVariables false
set_option linter.unusedSimpArgs false
namespace Go.Proofs.YtllboenffepcgaaDoor
open Go Go.ChangeShapes Go.WideShapes Go.ChangeAt Go.RowKit Go.Deep

theorem list_of {A : Type} {Q : Nat → A → Prop} (n : Nat) (h : ∀ i, i < n → ∃ a, Q i a) : ∃ L : List A, L.length = n ∧ ∀ i (hi : i < L.length), Q i L[i] := by
  refine ⟨List.ofFn (fun i : Fin n => Classical.choose (h i.val i.isLt)), by simp, fun i hi => ?_⟩
  have hi' : i < n := by simpa using hi
  rw [List.getElem_ofFn]
  exact Classical.choose_spec (h i hi')
theorem bytes_u8 : Tryd.prog.bytesOf 5 = 1 := by kernel_rfl
theorem cellsBs : Tryd.prog.cellsOf 26 = 1 := by kernel_rfl
/-- A slice of bytes in memory, of the weight that its datum tells. -/
theorem bytes_weigh {H : Type} {enc : TypeId × Value → H} {W : World} {m : Nat} {v : Value} {y : DataW H × List MemPlace} (h : DataW.trod enc Tryd.prog W 0 (fun _ => true) true m 26 [v] = some y) (hz : (y.1.weights Tryd.prog 26).all (· ≤ reachBytes) = true) :
    ∃ (l : List UInt8) (a : Option Addr) (cap : Nat), v = .slice a l.length cap ∧ Bys W W.heap.size a l ∧ l.length ≤ 140737488351232 := by
  have hT : ∀ a n cap, v = .slice a n cap → DataW.Trod enc Tryd.prog W 0 (fun _ => true) true 26 (.slice a n cap) y.1 y.2 := fun a n cap e => ⟨m, by subst e; simpa [Value.cells] using h⟩
  obtain ⟨a, n, cap, hm, hw, rfl⟩ : ∃ a n cap, n ≤ cap ∧ cap ≤ 140737488351232 ∧ v = .slice a n cap := by
    rcases open_ints Tryd.underlying26 Tryd.underlying5 cellsU8 h with ⟨hcs, _⟩ | ⟨a, len, cap, zs, hcs, _, hl, hm, hzl, rfl, _⟩
    · injection hcs with hv
      exact ⟨none, 0, 0, Nat.le_refl _, by decide, hv⟩
    · injection hcs with hv
      refine ⟨some a, len, cap, hl, ?_, hv⟩
      simp only [DataW.weights, Tryd.underlying26, bytes_u8, List.all_cons, Bool.and_eq_true, decide_eq_true_eq, reachBytes, lits, List.length_map, List.length_take, List.length_drop] at hz
      simp only [if_true] at hzl
      have := of_decide_eq_true hz.1
      omega
  obtain ⟨xs, hx, hcap, hb, _, hr, hn⟩ := opened_bytes Tryd.underlying26 Tryd.underlying5 cellsU8 (hT _ _ _ rfl)
  have hl : (Lib.bytesOf xs).length = n := by rw [Lib.bytesOf_length, hx]
  refine ⟨Lib.bytesOf xs, a, cap, by rw [hl], fun hp => ?_, by omega⟩
  obtain ⟨b, o, e1, hcell⟩ := hb (by omega)
  refine ⟨b, o, e1, World.block_lt_of_cell? _ _ (hcell 0 (by omega)), fun i hi => ?_⟩
  rw [hcell i (by omega)]
  have hi' : i < xs.length := by omega
  have hxr := hr (xs[i]) (List.getElem_mem hi')
  have : ((Lib.bytesOf xs)[i].toNat : Int) = xs[i] := by
    simp only [Lib.bytesOf, List.getElem_map]
    rw [UInt8.toNat_ofNat']
    omega
  rw [this]
  simp [List.getD, hi']
theorem weights_mem {H : Type} {P : Program} {e : TypeId} {d : DataW H} : ∀ {ds : List (DataW H)}, d ∈ ds → (DataW.weightsAll P e ds).all (· ≤ reachBytes) = true → (d.weights P e).all (· ≤ reachBytes) = true
  | [], h, _ => by cases h
  | x :: ds, h, hz => by
    simp only [DataW.weightsAll, List.all_append, Bool.and_eq_true] at hz
    rcases List.mem_cons.1 h with rfl | h
    · exact hz.1
    · exact weights_mem h hz.2
set_option maxRecDepth 100000 in
theorem parts_arg {H : Type} {enc : TypeId × Value → H} {W : World} {r : Reach} {b0 : Nat} {v : Value} {d : DataW H} {p : List MemPlace} (hval : Value.okWide Tryd.prog W r b0 22 v) (h0 : DataW.Trod enc Tryd.prog W 0 (fun _ => true) true 22 v d p) (hz : (d.weights Tryd.prog 22).all (· ≤ reachBytes) = true) :
    ∃ (q : Option Addr) (L : List (List UInt8)) (c : Nat), v = .slice q L.length c ∧ Parts W q L ∧ L.length ≤ c ∧ ∀ P ∈ L, P.length ≤ 140737488351232 := by
  obtain ⟨a, n, cap, rfl⟩ := okWide_slice Tryd.underlying22 hval
  obtain ⟨fuel, hf⟩ := h0
  rcases open_slice1 Tryd.underlying22 cellsBs hf with ⟨hcs, _⟩ | ⟨a2, len, cap2, m, k, V, D, Pl, hcs, _, hl, hm, hmm, hx, hel⟩
  · simp [Value.cells] at hcs
    obtain ⟨rfl, rfl, rfl⟩ := hcs
    exact ⟨none, [], 0, rfl, fun k P h => by simp at h, Nat.zero_le _, fun P h => by cases h⟩
  · simp [Value.cells] at hcs
    obtain ⟨rfl, rfl, rfl⟩ := hcs
    have hm2 : m = cap := by rw [hmm]; rfl
    injection hx with hd _
    subst hd
    simp only [DataW.weights, Tryd.underlying22, List.all_cons, List.all_append, Bool.and_eq_true] at hz
    have hQ : ∀ i, i < n → ∃ l : List UInt8, ∃ a' cap', V i = .slice a' l.length cap' ∧ Bys W W.heap.size a' l ∧ l.length ≤ 140737488351232 ∧ W.cell? (a2.add i) = some (.slice a' l.length cap') := fun i hi => by
      obtain ⟨hc, ht⟩ := hel i (by omega)
      obtain ⟨l, a', cap', e, hb, hw⟩ := bytes_weigh ht (weights_mem (List.mem_map.2 ⟨i, List.mem_range.2 hi, rfl⟩) hz.2.1)
      exact ⟨l, a', cap', e, hb, hw, by rw [hc, e]⟩
    obtain ⟨L, hL, hall⟩ := list_of n hQ
    refine ⟨some a2, L, cap, by rw [hL], fun i P hi => ?_, by omega, fun P hP => ?_⟩
    · obtain ⟨hi', rfl⟩ := List.getElem?_eq_some_iff.1 hi
      obtain ⟨a', cap', _, hb, _, hc⟩ := hall i hi'
      have hs : a2 = ⟨a2.block, a2.off, none⟩ := by
        obtain ⟨_, _, _, _, _, hc0⟩ := hall 0 (by omega)
        have h1 : a2.spot = none := World.cell?_spot (w := W) (a := a2) hc0
        cases a2
        simp only at h1
        rw [h1]
      rw [hs, Go.WideShapes.add_plain] at hc
      exact ⟨a2.block, a2.off, a', cap', by rw [← hs], World.block_lt_of_cell? W ⟨a2.block, a2.off + i, none⟩ hc, hc, hb⟩
    · obtain ⟨i, hi, rfl⟩ := List.getElem_of_mem hP
      obtain ⟨_, _, _, _, hw, _⟩ := hall i hi
      exact hw
end Go.Proofs.YtllboenffepcgaaDoor
