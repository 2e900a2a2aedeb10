/- The law RespPrints at every response. -/
import Derived.Test.YtgdhakkfddmkjaaDoorLawResp1
import Derived.Test.YtgdhakkfddmkjaaDoorArgsR
set_option linter.unusedVariables false
set_option linter.unusedSimpArgs false
namespace Go.Proofs.YtgdhakkfddmkjaaDoor
open Go.RowKit

theorem few_one {r : Rsp} (h : fewB [r] = true) : r.tag.length ≤ 100 ∧ r.text.length ≤ 300 ∧ r.body.length ≤ 500 := by
  simp [fewB, smallR] at h
  omega
theorem few_two {a b : Rsp} (h : fewB [a, b] = true) : (a.tag.length ≤ 100 ∧ a.text.length ≤ 300 ∧ a.body.length ≤ 500) ∧ (b.tag.length ≤ 100 ∧ b.text.length ≤ 300 ∧ b.body.length ≤ 500) := by
  simp [fewB, smallR] at h
  omega
theorem RspIn.ok {W : World} {r : Rsp} {P : Option Addr} {c : Nat} (h : RspIn W r P c) (hf : r.tag.length ≤ 100 ∧ r.text.length ≤ 300 ∧ r.body.length ≤ 500) : RspOk r := by
  obtain ⟨h1, h2, h3, h4, _⟩ := h
  exact ⟨h1, h2, h3, h4, by omega, by omega, by omega⟩
theorem RspIn.max {W : World} {r : Rsp} {P : Option Addr} {c : Nat} (h : RspIn W r P c) : r.tag.length ≤ maxLen ∧ r.text.length ≤ maxLen ∧ r.body.length ≤ maxLen := by
  obtain ⟨_, _, _, _, h5, h6, h7, h8, _⟩ := h
  exact ⟨h5, h6, by omega⟩
theorem RspIn.cap {W : World} {r : Rsp} {P : Option Addr} {c : Nat} (h : RspIn W r P c) : r.body.length ≤ c := h.2.2.2.2.2.2.1
theorem RspIn.bys {W W' : World} {r : Rsp} {P : Option Addr} {c : Nat} (h : RspIn W r P c) (hb : Below W.heap.size W W') : Bys W' W'.heap.size P r.body := (h.2.2.2.2.2.2.2.2.1.below hb).more hb.size

theorem respPrints_walk (r : Rsp) (P : Option Addr) (c : Nat) (w : World) (hi : RspIn w r P c) (hS : Std w) (hA : StdA w) :
    Calls Tryd.prog 3 #[.agg (rspA r P c)] w fun e w' => e = .returned (.bool true) ∧ Below w.heap.size w w' := by
  have hok : fewB [r] = true → RspOk r := fun h => hi.ok (few_one h)
  refine prints_core r.kind r.n r.status r.items r.flags r.uid r.size (ofL r.tag) (ofL r.text) P r.body.length c w (fewB [r]) (vldB r) (if fewB [r] = true then if vldB r = true then formR r else [] else []) ?_ ?_ ?_ ?_ ?_ ?_ ?_ ?_
  · split
    · rename_i h
      split
      · have := line_len r (hok h)
        simp only [formR, List.length_append, List.length_cons, List.length_nil]; omega
      · simp
    · simp
  · intro h; rw [h]; split <;> rfl
  · exact fun W g h => few_blk r P c g W hi.max h
  · exact fun W hW => alive09_walk W (hS.below hW) (hA.below hW)
  · intro h W hW
    rw [if_pos h]
    exact print_any r P c W (hok h) (hi.bys hW) hi.cap (hS.below hW) (hA.below hW)
  · exact fun h W hW => valid_any r P c W (hok h) (hi.bys hW)
  · exact fun h W hW => rvalid_any r P c W (hok h) (hi.bys hW)
  · intro h hv W hW
    rw [if_pos h, if_pos hv]
    exact rform_any r P c W (hok h) (hi.bys hW) ((vldB_iff r).1 hv)
end Go.Proofs.YtgdhakkfddmkjaaDoor
