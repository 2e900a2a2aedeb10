/- The law RespSame at every two responses. -/
import Derived.Test.YtgdhakkfddmkjaaDoorLawResp2
set_option linter.unusedVariables false
set_option linter.unusedSimpArgs false
namespace Go.Proofs.YtgdhakkfddmkjaaDoor
open Go.RowKit

theorem sameR_eq {a b : Rsp} (h : sameR a b) : a = b := by
  obtain ⟨h1, h2, h3, h4, h5, h6, h7, h8, h9, h10⟩ := h
  obtain ⟨⟩ := a
  obtain ⟨⟩ := b
  simp_all
theorem form_same {a b : Rsp} (ha : vldB a = true) (hb : vldB b = true) : decide (formR a = formR b) = sameFR a b := by
  rw [Bool.eq_iff_iff, decide_eq_true_eq, sameFR_iff]
  constructor
  · intro h
    exact line_tell ((vldB_iff a).1 ha) ((vldB_iff b).1 hb) (List.append_cancel_right h)
  · intro h
    rw [sameR_eq h]
theorem form_le {r : Rsp} (h : RspOk r) : (formR r).length ≤ 1000000 := by
  have := line_len r h
  simp only [formR, List.length_append, List.length_cons, List.length_nil]; omega
theorem same_resp (a b : Rsp) (P P' : Option Addr) (c c' : Nat) (W : World) (ha : RspOk a) (hb : RspOk b) (h1 : Bys W W.heap.size P a.body) (h2 : Bys W W.heap.size P' b.body) :
    Calls Tryd.prog 16 #[.agg (rspA a P c), .agg (rspA b P' c')] W fun e w' => e = .returned (.bool (sameFR a b)) ∧ Below W.heap.size W w' :=
  same_any a.kind a.n a.status a.items a.flags a.uid a.size (ofL a.tag) (ofL a.text) P c a.body b.kind b.n b.status b.items b.flags b.uid b.size (ofL b.tag) (ofL b.text) P' c' b.body W h1 h2 (by have := ha.2.2.2.2.2.2; omega) (by have := hb.2.2.2.2.2.2; omega)
theorem same_ref (a b : Rsp) (P P' : Option Addr) (c c' : Nat) (W : World) (ha : RspOk a) (hb : RspOk b) (h1 : Bys W W.heap.size P a.body) (h2 : Bys W W.heap.size P' b.body) :
    Calls Tryd.prog 15 #[.agg (rspA a P c), .agg (rspA b P' c')] W fun e w' => e = .returned (.bool (sameFR a b)) ∧ Below W.heap.size W w' :=
  rSame_any a.kind a.n a.status a.items a.flags a.uid a.size (ofL a.tag) (ofL a.text) P c a.body b.kind b.n b.status b.items b.flags b.uid b.size (ofL b.tag) (ofL b.text) P' c' b.body W h1 h2 (by have := ha.2.2.2.2.2.2; omega) (by have := hb.2.2.2.2.2.2; omega)
theorem sameFR_refl (a : Rsp) : sameFR a a = true := (sameFR_iff a a).2 ⟨rfl, rfl, rfl, rfl, rfl, rfl, rfl, rfl, rfl, rfl⟩

theorem respSame_walk (a : Rsp) (P : Option Addr) (c : Nat) (b : Rsp) (P' : Option Addr) (c' : Nat) (w : World) (hi : RspIn w a P c) (hi' : RspIn w b P' c') (hS : Std w) (hA : StdA w) :
    Calls Tryd.prog 4 #[.agg (rspA a P c), .agg (rspA b P' c')] w fun e w' => e = .returned (.bool true) ∧ Below w.heap.size w w' := by
  have hok : fewB [a, b] = true → RspOk a ∧ RspOk b := fun h => ⟨hi.ok (few_two h).1, hi'.ok (few_two h).2⟩
  refine same_core a.kind a.n a.status a.items a.flags a.uid a.size (ofL a.tag) (ofL a.text) P a.body.length c b.kind b.n b.status b.items b.flags b.uid b.size (ofL b.tag) (ofL b.text) P' b.body.length c' w (fewB [a, b]) (vldB a) (vldB b) (sameFR a b) (if fewB [a, b] = true then if vldB a = true then formR a else [] else []) (if fewB [a, b] = true then if vldB b = true then formR b else [] else []) ?_ ?_ ?_ ?_ ?_ ?_ ?_ ?_ ?_ ?_
  · split
    · rename_i h
      split
      · exact form_le (hok h).1
      · simp
    · simp
  · split
    · rename_i h
      split
      · exact form_le (hok h).2
      · simp
    · simp
  · intro h h1 h2
    rw [if_pos h, if_pos h, if_pos h1, if_pos h2]
    exact form_same h1 h2
  · exact fun W g h => few_blk2 a b P P' c c' g W hi.max hi'.max h
  · exact fun W hW => alive09_walk W (hS.below hW) (hA.below hW)
  · intro h W hW
    rw [if_pos h]
    exact print_any a P c W (hok h).1 (hi.bys hW) hi.cap (hS.below hW) (hA.below hW)
  · intro h W hW
    rw [if_pos h]
    exact print_any b P' c' W (hok h).2 (hi'.bys hW) hi'.cap (hS.below hW) (hA.below hW)
  · exact fun h W hW => same_ref a b P P' c c' W (hok h).1 (hok h).2 (hi.bys hW) (hi'.bys hW)
  · exact fun h W hW => same_resp a b P P' c c' W (hok h).1 (hok h).2 (hi.bys hW) (hi'.bys hW)
  · intro h W hW
    have := same_resp a a P P c c W (hok h).1 (hok h).1 (hi.bys hW) (hi.bys hW)
    rw [sameFR_refl] at this
    exact this
end Go.Proofs.YtgdhakkfddmkjaaDoor
