/- The reference's Valid and Form at every response. · The walk of the example of chapter 09. · The walk of the reference's Few. -/
import Derived.Test.YtgdhakkfddmkjaaDoorRValid
import Derived.Test.YtgdhakkfddmkjaaDoorJ8
set_option linter.unusedVariables false
set_option linter.unusedSimpArgs false
namespace Go.Proofs.YtgdhakkfddmkjaaDoor
open Go.RowKit

theorem sameR_symm {a b : Rsp} (h : sameR a b) : sameR b a := by
  obtain ⟨a1, a2, a3, a4, a5, a6, a7, a8, a9, a10⟩ := h
  exact ⟨a1.symm, a2.symm, a3.symm, a4.symm, a5.symm, a6.symm, a7.symm, a8.symm, a9.symm, a10.symm⟩
theorem sameFR_symm (a b : Rsp) : sameFR a b = sameFR b a := by
  rw [Bool.eq_iff_iff, sameFR_iff, sameFR_iff]
  exact ⟨sameR_symm, sameR_symm⟩
theorem items_fin : ∀ k : Fin 32, (bits .and .i64 (k.val : Int) 8 == 0) = decide (itemsOf (hasI (k.val : Int) 1) (hasI (k.val : Int) 2) (hasI (k.val : Int) 4) (hasI (k.val : Int) 16) = (k.val : Int)) := by decide +kernel
theorem itemsOf_lt (b1 b2 b4 b16 : Bool) : 0 ≤ itemsOf b1 b2 b4 b16 ∧ itemsOf b1 b2 b4 b16 ≤ 31 := by
  cases b1 <;> cases b2 <;> cases b4 <;> cases b16 <;> decide
theorem items_iff (x : Int) : (1 ≤ x ∧ x ≤ 31 ∧ (bits .and .i64 x 8 == 0) = true) ↔ (itemsOf (hasI x 1) (hasI x 2) (hasI x 4) (hasI x 16) ≠ 0 ∧ itemsOf (hasI x 1) (hasI x 2) (hasI x 4) (hasI x 16) = x) := by
  have hb := itemsOf_lt (hasI x 1) (hasI x 2) (hasI x 4) (hasI x 16)
  by_cases h : 0 ≤ x ∧ x ≤ 31
  · obtain ⟨n, rfl⟩ := Int.eq_ofNat_of_zero_le h.1
    have := items_fin ⟨n, by omega⟩
    dsimp only at this
    rw [this, decide_eq_true_eq]
    constructor
    · rintro ⟨h1, h2, h3⟩; exact ⟨by rw [h3]; omega, h3⟩
    · rintro ⟨h1, h2⟩; exact ⟨by rw [h2] at h1; omega, h.2, h2⟩
  · constructor
    · rintro ⟨h1, h2, h3⟩; omega
    · rintro ⟨h1, h2⟩; omega

/-- What the reference compares a Fetched with. -/
def restR (r : Rsp) : Rsp := ⟨4, r.n, [], 0, [], r.items, if hasI r.items 1 then r.flags else 0, if hasI r.items 2 then r.uid else 0, if hasI r.items 4 then r.size else 0, if hasI r.items 16 then r.body else []⟩
theorem vld_four (r : Rsp) (hk : r.kind = 4) : vldB r = (okV r.items r.flags r.body.length && sameFR r (restR r)) := by
  rw [Bool.eq_iff_iff, vldB_iff, Bool.and_eq_true, sameFR_iff, ValidR]
  have hm : maskR r = { restR r with items := itemsOf (hasI r.items 1) (hasI r.items 2) (hasI r.items 4) (hasI r.items 16) } := by
    unfold maskR restR
    rw [if_neg (by rw [hk]; decide), if_pos hk, hk]
  rw [hm]
  have hi := items_iff r.items
  simp only [okV, Bool.and_eq_true, decide_eq_true_eq]
  constructor
  · rintro ⟨h1, a1, a2, a3, a4, a5, a6, a7, a8, a9, a10⟩
    dsimp only at a6
    rcases h1 with (h | h | h | h) | ⟨_, h5, h6, h7⟩ | ⟨h, _⟩ | ⟨h, _⟩
    · omega
    · omega
    · omega
    · omega
    · obtain ⟨i1, i2, i3⟩ := hi.2 ⟨h5, a6⟩
      exact ⟨⟨i1, i2, i3, by omega, by omega⟩, a1.symm, a2.symm, a3.symm, a4.symm, a5.symm, rfl, a7.symm, a8.symm, a9.symm, a10.symm⟩
    · omega
    · omega
  · rintro ⟨⟨i1, i2, i3, h6, h7⟩, a1, a2, a3, a4, a5, a6, a7, a8, a9, a10⟩
    obtain ⟨h5, e⟩ := hi.1 ⟨i1, i2, i3⟩
    exact ⟨.inr (.inl ⟨hk, h5, by omega, by omega⟩), a1.symm, a2.symm, a3.symm, a4.symm, a5.symm, e, a7.symm, a8.symm, a9.symm, a10.symm⟩

theorem rvalid_none (k n st it fl ui sz : Int) (tg tx : ByteArray) (P : Option Addr) (bl c : Nat) (w : World) (h : k ≠ 1 ∧ k ≠ 2 ∧ k ≠ 3 ∧ k ≠ 4 ∧ k ≠ 5 ∧ k ≠ 6 ∧ k ≠ 7 ∧ k ≠ 8 ∧ k ≠ 9 ∧ k ≠ 10) :
    Calls Tryd.prog 12 #[.agg #[.int .i64 k, .int .u32 n, .string tg, .int .i64 st, .string tx, .int .i64 it, .int .u8 fl, .int .u32 ui, .int .u32 sz, .slice P bl c]] w fun e w' => e = .returned (.bool false) ∧ Below w.heap.size w w' := by
  obtain ⟨h1, h2, h3, h4, h5, h6, h7, h8, h9, h10⟩ := h
  replace h1 := int_ne h1
  replace h2 := int_ne h2
  replace h3 := int_ne h3
  replace h4 := int_ne h4
  replace h5 := int_ne h5
  replace h6 := int_ne h6
  replace h7 := int_ne h7
  replace h8 := int_ne h8
  replace h9 := int_ne h9
  replace h10 := int_ne h10
  go_enter Tryd.func12, Tryd.ntmps12
  go_wp2_with fail
  go_ret
  refine ⟨rfl, ?_⟩
  (repeat (first | with_reducible refine Below.drew ?_ | with_reducible refine Below.setCell ?_ (by first | (simp only [World.size_alloc]; omega) | (dsimp only; omega)) _ | with_reducible refine Below.alloc ?_ (by first | exact Nat.le_refl _ | (simp only [World.size_alloc]; omega)) _))
  exact Below.refl _ _

theorem rvalid_any (r : Rsp) (P : Option Addr) (c : Nat) (w : World) (hr : RspOk r) (hb : Bys w w.heap.size P r.body) :
    Calls Tryd.prog 12 #[.agg (rspA r P c)] w fun e w' => e = .returned (.bool (vldB r)) ∧ Below w.heap.size w w' := by
  have hsm : ∀ (m : Rsp) (P' : Option Addr) (c' : Nat), Bys w w.heap.size P' m.body → m.body.length ≤ 1048576 → ∀ W, Below w.heap.size w W →
      Calls Tryd.prog 15 #[.agg (rspA r P c), .agg (rspA m P' c')] W fun e w' => e = .returned (.bool (sameFR r m)) ∧ Below W.heap.size W w' := fun m P' c' hb' hl' W hW =>
    rSame_any r.kind r.n r.status r.items r.flags r.uid r.size (ofL r.tag) (ofL r.text) P c r.body m.kind m.n m.status m.items m.flags m.uid m.size (ofL m.tag) (ofL m.text) P' c' m.body W ((hb.below hW).more hW.size) ((hb'.below hW).more hW.size) (by have := hr.2.2.2.2.2.2; omega) hl'
  obtain ⟨kind, n, tag, status, text, items, flags, uid, size, body⟩ := r
  obtain ⟨o1, o2, o3, o4, o5, o6, o7⟩ := hr
  dsimp only at o1 o2 o3 o4 o5 o6 o7 hb
  have hn : Bys w w.heap.size none [] := Bys.nil _ _ _
  have n0 : ([] : List UInt8).length ≤ 1048576 := by decide
  have htx : (ofL text).size ≤ 100000 := by rw [ofL_size]; omega
  have htg : (ofL tag).size ≤ 100000 := by rw [ofL_size]; omega
  have HX : ∀ W, Calls Tryd.prog 27 #[.string (ofL text)] W fun e w' => e = .returned (.bool (txtL text)) ∧ w' = W := fun W => isTextS_any (ofL text) W (by unfold maxLen; omega)
  have HT : ∀ W, Calls Tryd.prog 28 #[.string (ofL tag)] W fun e w' => e = .returned (.bool (tagL tag)) ∧ w' = W := fun W => isTagS_any (ofL tag) W (by unfold maxLen; omega)
  rcases kinds kind with rfl | rfl | rfl | rfl | rfl | rfl | rfl | rfl | rfl | rfl | hk
  · rw [vld_of (right := true) (m := { zeroR 1 with n := n }) (by rfl) (by simp [rightR]), sameFR_symm, Bool.true_and]
    exact rValid_1 n status items flags uid size (ofL tag) (ofL text) P body.length c w _ (hsm { zeroR 1 with n := n } none 0 hn n0)
  · rw [vld_of (right := true) (m := { zeroR 2 with n := n }) (by rfl) (by simp [rightR]), sameFR_symm, Bool.true_and]
    exact rValid_2 n status items flags uid size (ofL tag) (ofL text) P body.length c w _ (hsm { zeroR 2 with n := n } none 0 hn n0)
  · rw [vld_of (right := true) (m := { zeroR 3 with n := n }) (by rfl) (by simp [rightR]), sameFR_symm, Bool.true_and]
    exact rValid_3 n status items flags uid size (ofL tag) (ofL text) P body.length c w _ (hsm { zeroR 3 with n := n } none 0 hn n0)
  · rw [vld_four _ rfl]
    generalize h1 : hasI items 1 = b1
    generalize h2 : hasI items 2 = b2
    generalize h4 : hasI items 4 = b4
    generalize h16 : hasI items 16 = b16
    have hm : restR ⟨4, n, tag, status, text, items, flags, uid, size, body⟩ = ⟨4, n, [], 0, [], items, if b1 = true then flags else 0, if b2 = true then uid else 0, if b4 = true then size else 0, if b16 = true then body else []⟩ := by subst h1; subst h2; subst h4; subst h16; rfl
    rw [hm]
    refine rValid_4 n status items flags uid size (ofL tag) (ofL text) P body.length c w _ b1 b2 b4 b16 h1 h2 h4 h16 ?_
    have := hsm ⟨4, n, [], 0, [], items, if b1 = true then flags else 0, if b2 = true then uid else 0, if b4 = true then size else 0, if b16 = true then body else []⟩ (selA b16 P) (selN b16 c) (bys_sel b16 hb) (by cases b16 <;> simp <;> omega)
    rw [selI_nat, selI_nat, selI_nat, sel_len]
    exact this
  · rw [vld_of (right := true) (m := zeroR 5) (by rfl) (by simp [rightR]), sameFR_symm, Bool.true_and]
    exact rValid_5 n status items flags uid size (ofL tag) (ofL text) P body.length c w _ (hsm (zeroR 5) none 0 hn n0)
  · rw [vld_of (right := txtL text) (m := { zeroR 6 with text := text }) (by rfl) (by simp [rightR]), sameFR_symm]
    exact rValid_6 n status items flags uid size (ofL tag) (ofL text) P body.length c w _ _ HX (hsm { zeroR 6 with text := text } none 0 hn n0)
  · rw [vld_of (right := txtL text) (m := { zeroR 7 with text := text }) (by rfl) (by simp [rightR]), sameFR_symm]
    exact rValid_7 n status items flags uid size (ofL tag) (ofL text) P body.length c w _ _ HX (hsm { zeroR 7 with text := text } none 0 hn n0)
  · rw [vld_of (right := txtL text) (m := { zeroR 8 with text := text }) (by rfl) (by simp [rightR]), sameFR_symm]
    exact rValid_8 n status items flags uid size (ofL tag) (ofL text) P body.length c w _ _ HX (hsm { zeroR 8 with text := text } none 0 hn n0)
  · rw [vld_of (right := tagL tag && txtL text && decide (0 ≤ status) && decide (status ≤ 2)) (m := { zeroR 9 with tag := tag, status := status, text := text }) (by rfl) (by
      simp only [rightR, Bool.and_eq_true, decide_eq_true_eq]
      constructor
      · rintro (h | h | h | ⟨_, h5, h6, h7, h8⟩)
        · omega
        · omega
        · omega
        · exact ⟨⟨⟨h5, h6⟩, h7⟩, h8⟩
      · rintro ⟨⟨⟨h5, h6⟩, h7⟩, h8⟩
        exact .inr (.inr (.inr ⟨trivial, h5, h6, h7, h8⟩))), sameFR_symm]
    exact rValid_9 n status items flags uid size (ofL tag) (ofL text) P body.length c w _ _ _ HT HX (hsm { zeroR 9 with tag := tag, status := status, text := text } none 0 hn n0)
  · rw [vld_of (right := txtL text) (m := { zeroR 10 with text := text }) (by rfl) (by simp [rightR]), sameFR_symm]
    exact rValid_10 n status items flags uid size (ofL tag) (ofL text) P body.length c w _ _ HX (hsm { zeroR 10 with text := text } none 0 hn n0)
  · rw [vld_none (by simp only [rightR]; omega)]
    exact rvalid_none kind n status items flags uid size (ofL tag) (ofL text) P body.length c w hk

theorem rform_any (r : Rsp) (P : Option Addr) (c : Nat) (w : World) (hr : RspOk r) (hb : Bys w w.heap.size P r.body) (hv : ValidR r) :
    Calls Tryd.prog 14 #[.agg (rspA r P c)] w fun e w' => e = .returned (.string (ofL (formR r))) ∧ Below w.heap.size w w' := by
  have hvr := hv.1
  clear hv
  obtain ⟨kind, n, tag, status, text, items, flags, uid, size, body⟩ := r
  obtain ⟨o1, o2, o3, o4, o5, o6, o7⟩ := hr
  dsimp only at o1 o2 o3 o4 o5 o6 o7 hb hvr
  have htx : (ofL text).size ≤ 100000 := by rw [ofL_size]; omega
  have htg : (ofL tag).size ≤ 100000 := by rw [ofL_size]; omega
  have e1310 : (⟨#[13, 10]⟩ : ByteArray) = ofL [13, 10] := rfl
  have e32 : (⟨#[32]⟩ : ByteArray) = ofL [32] := rfl
  have fix : ∀ {v v' : List UInt8} {f : FuncId} {args : Array Value}, v = v' → (Calls Tryd.prog f args w fun e w' => e = .returned (.string (ofL v)) ∧ Below w.heap.size w w') → Calls Tryd.prog f args w fun e w' => e = .returned (.string (ofL v')) ∧ Below w.heap.size w w' := fun e h => e ▸ h
  have fixS : ∀ {s : ByteArray} {v' : List UInt8} {f : FuncId} {args : Array Value}, s = ofL v' → (Calls Tryd.prog f args w fun e w' => e = .returned (.string s) ∧ Below w.heap.size w w') → Calls Tryd.prog f args w fun e w' => e = .returned (.string (ofL v')) ∧ Below w.heap.size w w' := fun e h => e ▸ h
  rcases hvr with (rfl | rfl | rfl | rfl) | ⟨rfl, hne, -, -⟩ | ⟨rfl | rfl | rfl | rfl, _⟩ | ⟨rfl, -, -, h0, h2⟩
  · exact fix (by simp [formR, lineR]) (rForm_1 n status items flags uid size (ofL tag) (ofL text) P body.length c w o1)
  · exact fix (by simp [formR, lineR]) (rForm_2 n status items flags uid size (ofL tag) (ofL text) P body.length c w o1)
  · exact fix (by simp [formR, lineR]) (rForm_3 n status items flags uid size (ofL tag) (ofL text) P body.length c w o1)
  · exact fix (by simp [formR, lineR]) (rForm_5 n status items flags uid size (ofL tag) (ofL text) P body.length c w)
  · have hll := line_len ⟨4, n, tag, status, text, items, flags, uid, size, body⟩ ⟨o1, o2, o3, o4, o5, o6, o7⟩
    have hjw : (joinF (wordsR ⟨4, n, tag, status, text, items, flags, uid, size, body⟩)).length ≤ 500000 := by
      simp only [lineR, List.length_append] at hll
      simp at hll
      omega
    refine fixS ?_ (rForm_4 n status items flags uid size (ofL tag) (ofL text) P body.length c w o1 (ofL (joinF (wordsR ⟨4, n, tag, status, text, items, flags, uid, size, body⟩))) (by rw [ofL_size]; omega) fun W hW => ?_)
    · rw [show (⟨#[42, 32]⟩ : ByteArray) = ofL [42, 32] from rfl, show (⟨#[32, 70, 69, 84, 67, 72, 32, 40]⟩ : ByteArray) = ofL [32, 70, 69, 84, 67, 72, 32, 40] from rfl, show (⟨#[41]⟩ : ByteArray) = ofL [41] from rfl, e1310, ofL_append, ofL_append, ofL_append, ofL_append, ofL_append]
      simp [formR, lineR]
    · refine items_any 4 status items n flags uid size (ofL tag) (ofL text) P body c W _ _ _ _ rfl rfl rfl rfl o2 o3 o4 ((hb.below hW).more hW.size) o7 ?_
      rcases hp : fdL4 (hasI items 1) (hasI items 2) (hasI items 4) (hasI items 16) ([70, 76, 65, 71, 83, 32] ++ listF flags) ([85, 73, 68, 32] ++ Lib.decDigits uid) ([82, 70, 67, 56, 50, 50, 46, 83, 73, 90, 69, 32] ++ Lib.decDigits size) ([66, 79, 68, 89, 91, 93, 32] ++ litB body) with _ | ⟨x, y⟩
      · exfalso
        apply hne
        dsimp only
        revert hp
        cases hasI items 1 <;> cases hasI items 2 <;> cases hasI items 4 <;> cases hasI items 16 <;> intro hp <;> first | rfl | (simp [fdL4, optW] at hp)
      · exact Nat.succ_pos _
  · exact fixS (by rw [show (⟨#[42, 32, 79, 75, 32]⟩ : ByteArray) = ofL [42, 32, 79, 75, 32] from rfl, e1310, ofL_append, ofL_append]; rfl) (rForm_6 n status items flags uid size (ofL tag) (ofL text) P body.length c w htx)
  · exact fixS (by rw [show (⟨#[42, 32, 66, 89, 69, 32]⟩ : ByteArray) = ofL [42, 32, 66, 89, 69, 32] from rfl, e1310, ofL_append, ofL_append]; rfl) (rForm_7 n status items flags uid size (ofL tag) (ofL text) P body.length c w htx)
  · exact fixS (by rw [show (⟨#[42, 32, 66, 65, 68, 32]⟩ : ByteArray) = ofL [42, 32, 66, 65, 68, 32] from rfl, e1310, ofL_append, ofL_append]; rfl) (rForm_8 n status items flags uid size (ofL tag) (ofL text) P body.length c w htx)
  · exact fixS (by rw [show (⟨#[43, 32]⟩ : ByteArray) = ofL [43, 32] from rfl, e1310, ofL_append, ofL_append]; rfl) (rForm_10 n status items flags uid size (ofL tag) (ofL text) P body.length c w htx)
  · dsimp only at h0 h2
    obtain rfl | rfl | rfl : status = 0 ∨ status = 1 ∨ status = 2 := by omega
    · exact fixS (by rw [show (⟨#[79, 75]⟩ : ByteArray) = ofL [79, 75] from rfl, e1310, e32, ofL_append, ofL_append, ofL_append, ofL_append, ofL_append]; simp [formR, lineR, stW]) (rForm_9_0 n items flags uid size (ofL tag) (ofL text) P body.length c w htg htx)
    · exact fixS (by rw [show (⟨#[78, 79]⟩ : ByteArray) = ofL [78, 79] from rfl, e1310, e32, ofL_append, ofL_append, ofL_append, ofL_append, ofL_append]; simp [formR, lineR, stW]) (rForm_9_1 n items flags uid size (ofL tag) (ofL text) P body.length c w htg htx)
    · exact fixS (by rw [show (⟨#[66, 65, 68]⟩ : ByteArray) = ofL [66, 65, 68] from rfl, e1310, e32, ofL_append, ofL_append, ofL_append, ofL_append, ofL_append]; simp [formR, lineR, stW]) (rForm_9_2 n items flags uid size (ofL tag) (ofL text) P body.length c w htg htx)
end Go.Proofs.YtgdhakkfddmkjaaDoor
namespace Go.Proofs.YtgdhakkfddmkjaaDoor
open Go.RowKit

def exR : Rsp := ⟨4, 2, [], 0, [], 3, 8, 7, 0, []⟩
theorem exR_valid : ValidR exR := by
  refine ⟨.inr (.inl ⟨rfl, by decide +kernel, by decide, by decide⟩), ?_⟩
  refine ⟨rfl, rfl, rfl, rfl, rfl, by decide +kernel, ?_, ?_, ?_, ?_⟩ <;> decide +kernel
theorem exR_form : formR exR = [42, 32, 50, 32, 70, 69, 84, 67, 72, 32, 40, 70, 76, 65, 71, 83, 32, 40, 92, 83, 101, 101, 110, 41, 32, 85, 73, 68, 32, 55, 41, 13, 10] := by decide +kernel
theorem exR_ok : RspOk exR := by refine ⟨?_, ?_, ?_, ?_, ?_, ?_, ?_⟩ <;> decide

set_option maxRecDepth 100000 in
set_option maxHeartbeats 1600000 in
theorem alive09_walk (w : World) (hS : Std w) (hA : StdA w) : Calls Tryd.prog 10 #[] w fun e w' => e = .returned (.bool true) ∧ Below w.heap.size w w' := by
  have H1 := Lib.hid (fun W : World => message_any 2 3 3 8 7 none [] 0 W (by rfl) true true false false (by rfl) (by rfl) (by rfl) (by rfl) (Bys.nil _ _ _) (by decide) (fun _ => ⟨rfl, rfl⟩) (by decide) (by decide))
  have H2 := Lib.hid (fun (W : World) (hW : Below w.heap.size w W) => print_any exR none 0 W exR_ok (Bys.nil _ _ _) (by decide) (hS.below hW) (hA.below hW))
  rw [(vldB_iff exR).2 exR_valid, if_pos rfl, exR_form] at H2
  clear hS hA
  go_enter Tryd.func10, Tryd.ntmps10
  go_wp2_with fail
  refine (H1.out _).mono ?_
  rintro e w1 ⟨pv, cv, rfl, -, hb⟩
  rw [show outC 4 2 (orI (orI (orI (orI 0 true 1) true 2) false 4) false 16) (selI true 8) (selI true 7) (selI false ((([] : List UInt8).length : Nat) : Int)) (.slice (selA false pv) (selN false ([] : List UInt8).length) (selN false cv)) = rspA exR none 0 from rfl]
  have HB1 := Lib.hid hb
  clear hb
  go_wp2_with fail
  refine (H2.out _ HB1.out).mono ?_
  rintro e w2 ⟨v, rfl, hbuf, hb2⟩
  obtain ⟨p, c, rfl, -, hby⟩ := hbuf.bys
  have hcnv : (convert 24 9 (.slice p 33 c)).run Tryd.prog w2 = .ok (.string ⟨#[42, 32, 50, 32, 70, 69, 84, 67, 72, 32, 40, 70, 76, 65, 71, 83, 32, 40, 92, 83, 101, 101, 110, 41, 32, 85, 73, 68, 32, 55, 41, 13, 10]⟩) w2 := conv_bys hby c Tryd.underlying24 Tryd.underlying5 Tryd.underlying9
  have HB2 := Lib.hid (below_call HB1.out hb2)
  clear hb2 hbuf hby
  go_wp2_with fail
  go_ret
  exact ⟨rfl, HB2.out⟩
end Go.Proofs.YtgdhakkfddmkjaaDoor
namespace Go.Proofs.YtgdhakkfddmkjaaDoor
open Go.RowKit

/-- Is a response small. -/
def smallR (r : Rsp) : Bool := !(decide (100 < r.tag.length) || (decide (300 < r.text.length) || decide (500 < r.body.length)))
def fewB (L : List Rsp) : Bool := L.all smallR && decide (L.length ≤ 60)

set_option maxRecDepth 100000 in
set_option maxHeartbeats 1600000 in
theorem few_nil (p : Option Addr) (c : Nat) (w : World) :
    Calls Tryd.prog 9 #[.slice p 0 c] w fun e w' => e = .returned (.bool true) ∧ w = w' := by
  go_enter Tryd.func9, Tryd.ntmps9
  go_wp2_with fail
  go_loop [3] (fun i => i = .int .i64 0) (fun i => 0)
  case atStart => rfl
  case round =>
    subst hrel
    go_wp2_with fail
    go_ret
    exact ⟨rfl, rfl⟩

set_option maxRecDepth 100000 in
set_option maxHeartbeats 3200000 in
theorem few_some (b o cap : Nat) (L : List Rsp) (w : World) (hL : L.length ≤ 9223372036854775807)
    (hs : ∀ i (h : i < L.length), L[i].tag.length ≤ maxLen ∧ L[i].text.length ≤ maxLen ∧ L[i].body.length ≤ maxLen)
    (hc : ∀ i (h : i < L.length), w.cell? ⟨b, o + i * 10 + 2, none⟩ = some (.string (ofL L[i].tag)) ∧ w.cell? ⟨b, o + i * 10 + 4, none⟩ = some (.string (ofL L[i].text)) ∧ ∃ P c, w.cell? ⟨b, o + i * 10 + 9, none⟩ = some (.slice P L[i].body.length c)) :
    Calls Tryd.prog 9 #[.slice (some ⟨b, o, none⟩) L.length cap] w fun e w' => e = .returned (.bool (fewB L)) ∧ w = w' := by
  have HC := Lib.hid hc
  have HS := Lib.hid hs
  clear hc hs
  go_enter Tryd.func9, Tryd.ntmps9
  go_wp2_with fail
  go_loop [3] (fun i => ∃ k : Nat, k ≤ L.length ∧ i = .int .i64 k ∧ (L.take k).all smallR = true) (fun i => L.length - (intOf i).toNat)
  case atStart => exact ⟨0, by omega, rfl, rfl⟩
  case round =>
    obtain ⟨k, hk, rfl, ha⟩ := hrel
    have HA := Lib.hid ha
    clear ha
    by_cases hlt : k < L.length
    · obtain ⟨c2, c4, P, c, c9⟩ := HC.out k hlt
      obtain ⟨s1, s2, s3⟩ := HS.out k hlt
      unfold maxLen at s1 s2 s3
      have hno : Hid (smallR L[k] = false → fewB L = false) := Lib.hid fun h => by
        unfold fewB; rw [take_all_no hlt h]; rfl
      have hyes : Hid (smallR L[k] = true → (L.take (k + 1)).all smallR = true) := Lib.hid fun h => take_all_yes hlt HA.out h
      have hsm : Hid (smallR L[k] = !(decide (100 < L[k].tag.length) || (decide (300 < L[k].text.length) || decide (500 < L[k].body.length)))) := Lib.hid rfl
      have e1 : (ofL L[k].tag).size = L[k].tag.length := ofL_size _
      have e2 : (ofL L[k].text).size = L[k].text.length := ofL_size _
      rw [← e1] at s1 hsm
      rw [← e2] at s2 hsm
      clear e1 e2
      generalize ofL L[k].tag = tg at *
      generalize ofL L[k].text = tx at *
      generalize L[k].body.length = bl at *
      generalize smallR L[k] = sm at *
      by_cases h1 : 100 < tg.size
      · have R := Lib.hid (hno.out (by rw [hsm.out, decide_eq_true h1]; rfl))
        have h1' : (100 : Int) < tg.size := by omega
        clear h1 hno hyes hsm
        go_wp2_with fail
        go_ret
        exact ⟨by rw [R.out]; rfl, rfl⟩
      have h1' : ¬ (100 : Int) < tg.size := by omega
      by_cases h2 : 300 < tx.size
      · have R := Lib.hid (hno.out (by rw [hsm.out, decide_eq_false h1, decide_eq_true h2]; rfl))
        have h2' : (300 : Int) < tx.size := by omega
        clear h1 h2 hno hyes hsm
        go_wp2_with fail
        go_ret
        exact ⟨by rw [R.out]; rfl, rfl⟩
      have h2' : ¬ (300 : Int) < tx.size := by omega
      by_cases h3 : 500 < bl
      · have R := Lib.hid (hno.out (by rw [hsm.out, decide_eq_false h1, decide_eq_false h2, decide_eq_true h3]; rfl))
        have h3' : (500 : Int) < bl := by omega
        clear h1 h2 h3 hno hyes hsm
        go_wp2_with fail
        go_ret
        exact ⟨by rw [R.out]; rfl, rfl⟩
      have h3' : ¬ (500 : Int) < bl := by omega
      have R := Lib.hid (hyes.out (by rw [hsm.out, decide_eq_false h1, decide_eq_false h2, decide_eq_false h3]; rfl))
      clear h1 h2 h3 hno hyes hsm
      go_wp2_with fail
      go_round
      case rel => exact ⟨k + 1, by omega, by go_num, R.out⟩
      case measure => simp [intOf]; omega
    · obtain rfl : k = L.length := by omega
      have hall : L.all smallR = true := by have := HA.out; rwa [List.take_length] at this
      have R : Hid (fewB L = decide (L.length ≤ 60)) := Lib.hid (by unfold fewB; rw [hall]; rfl)
      clear hall
      by_cases h6 : L.length ≤ 60
      · have h6' : (L.length : Int) ≤ 60 := by omega
        rw [decide_eq_true h6] at R
        clear h6
        go_wp2_with fail
        go_ret
        exact ⟨by rw [R.out]; rfl, rfl⟩
      · have h6' : ¬ (L.length : Int) ≤ 60 := by omega
        rw [decide_eq_false h6] at R
        clear h6
        go_wp2_with fail
        go_ret
        exact ⟨by rw [R.out]; rfl, rfl⟩
end Go.Proofs.YtgdhakkfddmkjaaDoor
