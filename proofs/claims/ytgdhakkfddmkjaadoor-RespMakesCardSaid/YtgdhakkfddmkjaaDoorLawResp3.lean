/- The walk of the law RespEnds. -/
import Derived.Test.YtgdhakkfddmkjaaDoorJ13
import Derived.Test.YtgdhakkfddmkjaaDoorLawResp1
import Derived.Test.YtgdhakkfddmkjaaDoorIdx
set_option linter.unusedVariables false
set_option linter.unusedSimpArgs false
namespace Go.Proofs.YtgdhakkfddmkjaaDoor
open Go.RowKit

theorem below_drewN {B : Nat} {a w : World} (h : Below B a w) (n : Nat) : Below B a (w.drewN n) := ⟨h.os, h.tape, h.output, h.size, h.block⟩

set_option maxRecDepth 100000 in
set_option maxHeartbeats 6400000 in
theorem ends_core (k n st it fl ui sz : Int) (tg tx : ByteArray) (P : Option Addr) (bl c : Nat) (w : World) (few ok bd : Bool) (l : List UInt8) (hl : l.length ≤ 1000000)
    (hbd : (bits .and .i64 it 16 != 0) = bd) (hcl : few = true → ok = true → bd = false → (∀ b ∈ l, (b.toNat : Int) ≠ 13) ∧ ∀ b ∈ l, (b.toNat : Int) ≠ 10)
    (hfew : ∀ W g, Blk W g 26 #[.int .i64 k, .int .u32 n, .string tg, .int .i64 st, .string tx, .int .i64 it, .int .u8 fl, .int .u32 ui, .int .u32 sz, .slice P bl c] → Calls Tryd.prog 9 #[.slice (some ⟨g, 0, none⟩) 1 1] W fun e w' => e = .returned (.bool few) ∧ W = w')
    (hal : ∀ W, Below w.heap.size w W → Calls Tryd.prog 10 #[] W fun e w' => e = .returned (.bool true) ∧ Below W.heap.size W w')
    (hpr0 : few = true → ok = false → ∀ W, Below w.heap.size w W → Calls Tryd.prog 11 #[.agg #[.int .i64 k, .int .u32 n, .string tg, .int .i64 st, .string tx, .int .i64 it, .int .u8 fl, .int .u32 ui, .int .u32 sz, .slice P bl c]] W (PrPost W false []))
    (hpr1 : few = true → ok = true → ∀ W, Below w.heap.size w W → Calls Tryd.prog 11 #[.agg #[.int .i64 k, .int .u32 n, .string tg, .int .i64 st, .string tx, .int .i64 it, .int .u8 fl, .int .u32 ui, .int .u32 sz, .slice P bl c]] W (PrPost W true (l ++ [13, 10])))
    (hrv : few = true → ∀ W, Below w.heap.size w W → Calls Tryd.prog 12 #[.agg #[.int .i64 k, .int .u32 n, .string tg, .int .i64 st, .string tx, .int .i64 it, .int .u8 fl, .int .u32 ui, .int .u32 sz, .slice P bl c]] W fun e w' => e = .returned (.bool ok) ∧ Below W.heap.size W w') :
    Calls Tryd.prog 7 #[.agg #[.int .i64 k, .int .u32 n, .string tg, .int .i64 st, .string tx, .int .i64 it, .int .u8 fl, .int .u32 ui, .int .u32 sz, .slice P bl c]] w fun e w' => e = .returned (.bool true) ∧ Below w.heap.size w w' := by
  have HFW := Lib.hid hfew
  have HAL := Lib.hid hal
  have HPR0 := Lib.hid hpr0
  have HPR1 := Lib.hid hpr1
  have HRV := Lib.hid hrv
  have HCL := Lib.hid hcl
  have HBD := Lib.hid hbd
  clear hfew hal hpr0 hpr1 hrv hcl hbd
  have HW0 : Hid ((Below w.heap.size w ((w.alloc (.cells #[.int .i64 k, .int .u32 n, .string tg, .int .i64 st, .string tx, .int .i64 it, .int .u8 fl, .int .u32 ui, .int .u32 sz, .slice P bl c] 26)).alloc (.cells #[.int .i64 k, .int .u32 n, .string tg, .int .i64 st, .string tx, .int .i64 it, .int .u8 fl, .int .u32 ui, .int .u32 sz, .slice P bl c] 26)) ∧ Blk ((w.alloc (.cells #[.int .i64 k, .int .u32 n, .string tg, .int .i64 st, .string tx, .int .i64 it, .int .u8 fl, .int .u32 ui, .int .u32 sz, .slice P bl c] 26)).alloc (.cells #[.int .i64 k, .int .u32 n, .string tg, .int .i64 st, .string tx, .int .i64 it, .int .u8 fl, .int .u32 ui, .int .u32 sz, .slice P bl c] 26)) w.heap.size 26 #[.int .i64 k, .int .u32 n, .string tg, .int .i64 st, .string tx, .int .i64 it, .int .u8 fl, .int .u32 ui, .int .u32 sz, .slice P bl c] ∧ w.heap.size < ((w.alloc (.cells #[.int .i64 k, .int .u32 n, .string tg, .int .i64 st, .string tx, .int .i64 it, .int .u8 fl, .int .u32 ui, .int .u32 sz, .slice P bl c] 26)).alloc (.cells #[.int .i64 k, .int .u32 n, .string tg, .int .i64 st, .string tx, .int .i64 it, .int .u8 fl, .int .u32 ui, .int .u32 sz, .slice P bl c] 26)).heap.size) ∧ Blk ((w.alloc (.cells #[.int .i64 k, .int .u32 n, .string tg, .int .i64 st, .string tx, .int .i64 it, .int .u8 fl, .int .u32 ui, .int .u32 sz, .slice P bl c] 26)).alloc (.cells #[.int .i64 k, .int .u32 n, .string tg, .int .i64 st, .string tx, .int .i64 it, .int .u8 fl, .int .u32 ui, .int .u32 sz, .slice P bl c] 26)) (w.heap.size + 1) 26 #[.int .i64 k, .int .u32 n, .string tg, .int .i64 st, .string tx, .int .i64 it, .int .u8 fl, .int .u32 ui, .int .u32 sz, .slice P bl c]) := Lib.hid ⟨⟨((Below.refl _ _).alloc (Nat.le_refl _) _).alloc (by rw [World.size_alloc]; omega) _, (Blk.made _ _ _).past _, by simp only [World.size_alloc]; omega⟩, by have := Blk.made (w.alloc (.cells #[.int .i64 k, .int .u32 n, .string tg, .int .i64 st, .string tx, .int .i64 it, .int .u8 fl, .int .u32 ui, .int .u32 sz, .slice P bl c] 26)) 26 #[.int .i64 k, .int .u32 n, .string tg, .int .i64 st, .string tx, .int .i64 it, .int .u8 fl, .int .u32 ui, .int .u32 sz, .slice P bl c]; rw [World.size_alloc] at this; exact this⟩
  cases few with
  | false =>
    go_enter Tryd.func7, Tryd.ntmps7
    go_wp2_with fail
    refine (HFW.out _ _ HW0.out.2).mono ?_
    rintro e w1 ⟨rfl, rfl⟩
    go_wp2_with fail
    refine (HAL.out _ HW0.out.1.1).mono ?_
    rintro e w1 ⟨rfl, hb⟩
    have HB := Lib.hid (below_call HW0.out.1.1 hb)
    clear hb
    go_wp2_with fail
    go_ret
    exact ⟨rfl, HB.out⟩
  | true =>
    replace HPR0 := Lib.hid (HPR0.out rfl)
    replace HPR1 := Lib.hid (HPR1.out rfl)
    replace HRV := Lib.hid (HRV.out rfl)
    replace HCL := Lib.hid (HCL.out rfl)
    go_enter Tryd.func7, Tryd.ntmps7
    go_wp2_with fail
    refine (HFW.out _ _ HW0.out.2).mono ?_
    rintro e w1 ⟨rfl, rfl⟩
    go_wp2_with fail
    replace HW0 := Lib.hid HW0.out.1
    generalize ((w.alloc (.cells #[.int .i64 k, .int .u32 n, .string tg, .int .i64 st, .string tx, .int .i64 it, .int .u8 fl, .int .u32 ui, .int .u32 sz, .slice P bl c] 26)).alloc (.cells #[.int .i64 k, .int .u32 n, .string tg, .int .i64 st, .string tx, .int .i64 it, .int .u8 fl, .int .u32 ui, .int .u32 sz, .slice P bl c] 26)) = w0 at *
    cases ok with
    | false =>
      refine (HPR0.out rfl _ HW0.out.1).mono ?_
      rintro e w1 ⟨v, rfl, hbuf, hb1⟩
      obtain ⟨pv, cv, rfl, -, hby⟩ := hbuf.bys
      have H1 : Hid (Below w.heap.size w w1 ∧ Blk w1 w.heap.size 26 #[.int .i64 k, .int .u32 n, .string tg, .int .i64 st, .string tx, .int .i64 it, .int .u8 fl, .int .u32 ui, .int .u32 sz, .slice P bl c] ∧ w.heap.size < w1.heap.size) := Lib.hid ⟨below_call HW0.out.1 hb1, Blk.below HW0.out.2.1 hb1 HW0.out.2.2, Nat.lt_of_lt_of_le HW0.out.2.2 hb1.size⟩
      clear hb1 hbuf hby HW0
      go_wp2_with fail
      refine (HAL.out _ H1.out.1).mono ?_
      rintro e w2 ⟨rfl, hb2⟩
      have H2 : Hid (Below w.heap.size w w2 ∧ Blk w2 w.heap.size 26 #[.int .i64 k, .int .u32 n, .string tg, .int .i64 st, .string tx, .int .i64 it, .int .u8 fl, .int .u32 ui, .int .u32 sz, .slice P bl c] ∧ w.heap.size < w2.heap.size) := Lib.hid ⟨below_call H1.out.1 hb2, Blk.below H1.out.2.1 hb2 H1.out.2.2, Nat.lt_of_lt_of_le H1.out.2.2 hb2.size⟩
      clear hb2 H1
      obtain ⟨⟨c0, c1, c2, c3, c4, c5, c6, c7, c8, c9⟩, -⟩ := Blk.ten H2.out.2.1
      go_wp2_with fail
      refine (HRV.out _ H2.out.1).mono ?_
      rintro e w3 ⟨rfl, hb3⟩
      have HB := Lib.hid (below_call H2.out.1 hb3)
      clear hb3
      go_wp2_with fail
      go_ret
      exact ⟨rfl, HB.out⟩
    | true =>
      replace HCL := Lib.hid (HCL.out rfl)
      refine (HPR1.out rfl _ HW0.out.1).mono ?_
      rintro e w1 ⟨v, rfl, hbuf, hb1⟩
      obtain ⟨pv, cv, rfl, hcv, hby⟩ := hbuf.bys
      have H1 : Hid (Below w.heap.size w w1 ∧ Blk w1 w.heap.size 26 #[.int .i64 k, .int .u32 n, .string tg, .int .i64 st, .string tx, .int .i64 it, .int .u8 fl, .int .u32 ui, .int .u32 sz, .slice P bl c] ∧ w.heap.size < w1.heap.size) := Lib.hid ⟨below_call HW0.out.1 hb1, Blk.below HW0.out.2.1 hb1 HW0.out.2.2, Nat.lt_of_lt_of_le HW0.out.2.2 hb1.size⟩
      obtain ⟨pb, po, rfl, -, hce⟩ := hby.at (by simp)
      have e13 := hce l.length (by simp)
      have e10 := hce (l.length + 1) (by simp)
      have hpre : Bys w1 w1.heap.size (some ⟨pb, po, none⟩) l := by
        have := hby.upto l.length
        simpa using this
      have HP := Lib.hid hpre
      rw [List.getElem_append_right (Nat.le_refl _)] at e13
      rw [List.getElem_append_right (Nat.le_add_right _ _)] at e10
      simp only [Nat.sub_self, List.getElem_cons_zero, Nat.add_sub_cancel_left, List.getElem_cons_succ] at e13 e10
      have hlen : (l ++ [13, 10]).length = l.length + 2 := by simp
      rw [hlen] at hcv ⊢
      clear hb1 hbuf hby hce hpre HW0 hlen
      generalize hml : l.length = m at *
      have HML := Lib.hid hml
      clear hml
      have hm2 : (m : Int) ≤ 1000000 := by omega
      clear hl
      obtain ⟨⟨c0, c1, c2, c3, c4, c5, c6, c7, c8, c9⟩, -⟩ := Blk.ten H1.out.2.1
      go_wp2_with fail
      refine (HAL.out _ H1.out.1).mono ?_
      rintro e w2 ⟨rfl, hb2⟩
      have H2 : Hid (Below w.heap.size w w2 ∧ Blk w2 w.heap.size 26 #[.int .i64 k, .int .u32 n, .string tg, .int .i64 st, .string tx, .int .i64 it, .int .u8 fl, .int .u32 ui, .int .u32 sz, .slice P bl c]) := Lib.hid ⟨below_call H1.out.1 hb2, Blk.below H1.out.2.1 hb2 H1.out.2.2⟩
      have HP2 := Lib.hid ((HP.out.below hb2).more hb2.size)
      clear hb2 H1 HP c0 c1 c2 c3 c4 c5 c6 c7 c8 c9 e13 e10
      obtain ⟨⟨c0, c1, c2, c3, c4, c5, c6, c7, c8, c9⟩, -⟩ := Blk.ten H2.out.2
      have hbb := HBD.out
      cases bd with
      | true =>
        go_wp2_with fail
        go_ret
        exact ⟨rfl, H2.out.1⟩
      | false =>
        replace HCL := Lib.hid (HCL.out rfl)
        have HC13 := Lib.hid (fun (W : World) (hW : Bys W w2.heap.size (some ⟨pb, po, none⟩) l) => contains_none (some ⟨pb, po, none⟩) cv l 13 W w2.heap.size hW (by have := HML.out; omega) HCL.out.1)
        have HC10 := Lib.hid (fun (W : World) (hW : Bys W w2.heap.size (some ⟨pb, po, none⟩) l) => contains_none (some ⟨pb, po, none⟩) cv l 10 W w2.heap.size hW (by have := HML.out; omega) HCL.out.2)
        rw [HML.out] at HC13 HC10
        go_wp2_with fail
        refine (HC13.out _ HP2.out).mono ?_
        rintro e w3 ⟨rfl, j3, rfl⟩
        go_wp2_with fail
        refine (HC10.out _ (HP2.out.drewN _)).mono ?_
        rintro e w4 ⟨rfl, j4, rfl⟩
        go_wp2_with fail
        go_ret
        exact ⟨rfl, below_drewN H2.out.1 _⟩
end Go.Proofs.YtgdhakkfddmkjaaDoor
