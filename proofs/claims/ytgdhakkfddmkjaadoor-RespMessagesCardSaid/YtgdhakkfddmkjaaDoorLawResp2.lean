/- The walk of the law RespSame. -/
import Derived.Test.YtgdhakkfddmkjaaDoorLawRespA
set_option linter.unusedVariables false
set_option linter.unusedSimpArgs false
namespace Go.Proofs.YtgdhakkfddmkjaaDoor
open Go.RowKit

theorem few_blk2 (r r' : Rsp) (P P' : Option Addr) (c c' g : Nat) (W : World) (hs : r.tag.length ≤ maxLen ∧ r.text.length ≤ maxLen ∧ r.body.length ≤ maxLen) (hs' : r'.tag.length ≤ maxLen ∧ r'.text.length ≤ maxLen ∧ r'.body.length ≤ maxLen) (h : Blk W g 26 (rspA r P c ++ rspA r' P' c')) :
    Calls Tryd.prog 9 #[.slice (some ⟨g, 0, none⟩) 2 2] W fun e w' => e = .returned (.bool (fewB [r, r'])) ∧ W = w' :=
  few_some g 0 2 [r, r'] W (by simp) (fun i hi => by
      have : i = 0 ∨ i = 1 := by simp at hi; omega
      rcases this with rfl | rfl
      · exact hs
      · exact hs') (fun i hi => by
      have : i = 0 ∨ i = 1 := by simp at hi; omega
      rcases this with rfl | rfl
      · refine ⟨by rw [h.cell]; rfl, by rw [h.cell]; rfl, P, c, by rw [h.cell]; rfl⟩
      · refine ⟨by rw [h.cell]; rfl, by rw [h.cell]; rfl, P', c', by rw [h.cell]; rfl⟩)

set_option maxRecDepth 100000 in
set_option maxHeartbeats 6400000 in
theorem same_core (k n st it fl ui sz : Int) (tg tx : ByteArray) (P : Option Addr) (bl c : Nat) (k' n' st' it' fl' ui' sz' : Int) (tg' tx' : ByteArray) (P' : Option Addr) (bl' c' : Nat) (w : World) (few ok ok' sm : Bool) (l l' : List UInt8) (hl : l.length ≤ 1000000) (hl' : l'.length ≤ 1000000)
    (heq : few = true → ok = true → ok' = true → decide (l = l') = sm)
    (hfew : ∀ W g, Blk W g 26 #[.int .i64 k, .int .u32 n, .string tg, .int .i64 st, .string tx, .int .i64 it, .int .u8 fl, .int .u32 ui, .int .u32 sz, .slice P bl c, .int .i64 k', .int .u32 n', .string tg', .int .i64 st', .string tx', .int .i64 it', .int .u8 fl', .int .u32 ui', .int .u32 sz', .slice P' bl' c'] → Calls Tryd.prog 9 #[.slice (some ⟨g, 0, none⟩) 2 2] W fun e w' => e = .returned (.bool few) ∧ W = w')
    (hal : ∀ W, Below w.heap.size w W → Calls Tryd.prog 10 #[] W fun e w' => e = .returned (.bool true) ∧ Below W.heap.size W w')
    (hpr : few = true → ∀ W, Below w.heap.size w W → Calls Tryd.prog 11 #[.agg #[.int .i64 k, .int .u32 n, .string tg, .int .i64 st, .string tx, .int .i64 it, .int .u8 fl, .int .u32 ui, .int .u32 sz, .slice P bl c]] W (PrPost W ok l))
    (hpr' : few = true → ∀ W, Below w.heap.size w W → Calls Tryd.prog 11 #[.agg #[.int .i64 k', .int .u32 n', .string tg', .int .i64 st', .string tx', .int .i64 it', .int .u8 fl', .int .u32 ui', .int .u32 sz', .slice P' bl' c']] W (PrPost W ok' l'))
    (hrs : few = true → ∀ W, Below w.heap.size w W → Calls Tryd.prog 15 #[.agg #[.int .i64 k, .int .u32 n, .string tg, .int .i64 st, .string tx, .int .i64 it, .int .u8 fl, .int .u32 ui, .int .u32 sz, .slice P bl c], .agg #[.int .i64 k', .int .u32 n', .string tg', .int .i64 st', .string tx', .int .i64 it', .int .u8 fl', .int .u32 ui', .int .u32 sz', .slice P' bl' c']] W fun e w' => e = .returned (.bool sm) ∧ Below W.heap.size W w')
    (hs : few = true → ∀ W, Below w.heap.size w W → Calls Tryd.prog 16 #[.agg #[.int .i64 k, .int .u32 n, .string tg, .int .i64 st, .string tx, .int .i64 it, .int .u8 fl, .int .u32 ui, .int .u32 sz, .slice P bl c], .agg #[.int .i64 k', .int .u32 n', .string tg', .int .i64 st', .string tx', .int .i64 it', .int .u8 fl', .int .u32 ui', .int .u32 sz', .slice P' bl' c']] W fun e w' => e = .returned (.bool sm) ∧ Below W.heap.size W w')
    (hsa : few = true → ∀ W, Below w.heap.size w W → Calls Tryd.prog 16 #[.agg #[.int .i64 k, .int .u32 n, .string tg, .int .i64 st, .string tx, .int .i64 it, .int .u8 fl, .int .u32 ui, .int .u32 sz, .slice P bl c], .agg #[.int .i64 k, .int .u32 n, .string tg, .int .i64 st, .string tx, .int .i64 it, .int .u8 fl, .int .u32 ui, .int .u32 sz, .slice P bl c]] W fun e w' => e = .returned (.bool true) ∧ Below W.heap.size W w') :
    Calls Tryd.prog 4 #[.agg #[.int .i64 k, .int .u32 n, .string tg, .int .i64 st, .string tx, .int .i64 it, .int .u8 fl, .int .u32 ui, .int .u32 sz, .slice P bl c], .agg #[.int .i64 k', .int .u32 n', .string tg', .int .i64 st', .string tx', .int .i64 it', .int .u8 fl', .int .u32 ui', .int .u32 sz', .slice P' bl' c']] w fun e w' => e = .returned (.bool true) ∧ Below w.heap.size w w' := by
  have HFW := Lib.hid hfew
  have HAL := Lib.hid hal
  have HPR := Lib.hid hpr
  have HPR' := Lib.hid hpr'
  have HRS := Lib.hid hrs
  have HS := Lib.hid hs
  have HSA := Lib.hid hsa
  have HEQ := Lib.hid heq
  clear hfew hal hpr hpr' hrs hs hsa heq
  have HW0 : Hid ((Below w.heap.size w (((w.alloc (.cells #[.int .i64 k, .int .u32 n, .string tg, .int .i64 st, .string tx, .int .i64 it, .int .u8 fl, .int .u32 ui, .int .u32 sz, .slice P bl c] 26)).alloc (.cells #[.int .i64 k', .int .u32 n', .string tg', .int .i64 st', .string tx', .int .i64 it', .int .u8 fl', .int .u32 ui', .int .u32 sz', .slice P' bl' c'] 26)).alloc (.cells #[.int .i64 k, .int .u32 n, .string tg, .int .i64 st, .string tx, .int .i64 it, .int .u8 fl, .int .u32 ui, .int .u32 sz, .slice P bl c, .int .i64 k', .int .u32 n', .string tg', .int .i64 st', .string tx', .int .i64 it', .int .u8 fl', .int .u32 ui', .int .u32 sz', .slice P' bl' c'] 26)) ∧ Blk (((w.alloc (.cells #[.int .i64 k, .int .u32 n, .string tg, .int .i64 st, .string tx, .int .i64 it, .int .u8 fl, .int .u32 ui, .int .u32 sz, .slice P bl c] 26)).alloc (.cells #[.int .i64 k', .int .u32 n', .string tg', .int .i64 st', .string tx', .int .i64 it', .int .u8 fl', .int .u32 ui', .int .u32 sz', .slice P' bl' c'] 26)).alloc (.cells #[.int .i64 k, .int .u32 n, .string tg, .int .i64 st, .string tx, .int .i64 it, .int .u8 fl, .int .u32 ui, .int .u32 sz, .slice P bl c, .int .i64 k', .int .u32 n', .string tg', .int .i64 st', .string tx', .int .i64 it', .int .u8 fl', .int .u32 ui', .int .u32 sz', .slice P' bl' c'] 26)) w.heap.size 26 #[.int .i64 k, .int .u32 n, .string tg, .int .i64 st, .string tx, .int .i64 it, .int .u8 fl, .int .u32 ui, .int .u32 sz, .slice P bl c] ∧ Blk (((w.alloc (.cells #[.int .i64 k, .int .u32 n, .string tg, .int .i64 st, .string tx, .int .i64 it, .int .u8 fl, .int .u32 ui, .int .u32 sz, .slice P bl c] 26)).alloc (.cells #[.int .i64 k', .int .u32 n', .string tg', .int .i64 st', .string tx', .int .i64 it', .int .u8 fl', .int .u32 ui', .int .u32 sz', .slice P' bl' c'] 26)).alloc (.cells #[.int .i64 k, .int .u32 n, .string tg, .int .i64 st, .string tx, .int .i64 it, .int .u8 fl, .int .u32 ui, .int .u32 sz, .slice P bl c, .int .i64 k', .int .u32 n', .string tg', .int .i64 st', .string tx', .int .i64 it', .int .u8 fl', .int .u32 ui', .int .u32 sz', .slice P' bl' c'] 26)) (w.heap.size + 1) 26 #[.int .i64 k', .int .u32 n', .string tg', .int .i64 st', .string tx', .int .i64 it', .int .u8 fl', .int .u32 ui', .int .u32 sz', .slice P' bl' c'] ∧ w.heap.size + 1 < (((w.alloc (.cells #[.int .i64 k, .int .u32 n, .string tg, .int .i64 st, .string tx, .int .i64 it, .int .u8 fl, .int .u32 ui, .int .u32 sz, .slice P bl c] 26)).alloc (.cells #[.int .i64 k', .int .u32 n', .string tg', .int .i64 st', .string tx', .int .i64 it', .int .u8 fl', .int .u32 ui', .int .u32 sz', .slice P' bl' c'] 26)).alloc (.cells #[.int .i64 k, .int .u32 n, .string tg, .int .i64 st, .string tx, .int .i64 it, .int .u8 fl, .int .u32 ui, .int .u32 sz, .slice P bl c, .int .i64 k', .int .u32 n', .string tg', .int .i64 st', .string tx', .int .i64 it', .int .u8 fl', .int .u32 ui', .int .u32 sz', .slice P' bl' c'] 26)).heap.size) ∧ Blk (((w.alloc (.cells #[.int .i64 k, .int .u32 n, .string tg, .int .i64 st, .string tx, .int .i64 it, .int .u8 fl, .int .u32 ui, .int .u32 sz, .slice P bl c] 26)).alloc (.cells #[.int .i64 k', .int .u32 n', .string tg', .int .i64 st', .string tx', .int .i64 it', .int .u8 fl', .int .u32 ui', .int .u32 sz', .slice P' bl' c'] 26)).alloc (.cells #[.int .i64 k, .int .u32 n, .string tg, .int .i64 st, .string tx, .int .i64 it, .int .u8 fl, .int .u32 ui, .int .u32 sz, .slice P bl c, .int .i64 k', .int .u32 n', .string tg', .int .i64 st', .string tx', .int .i64 it', .int .u8 fl', .int .u32 ui', .int .u32 sz', .slice P' bl' c'] 26)) (w.heap.size + 1 + 1) 26 #[.int .i64 k, .int .u32 n, .string tg, .int .i64 st, .string tx, .int .i64 it, .int .u8 fl, .int .u32 ui, .int .u32 sz, .slice P bl c, .int .i64 k', .int .u32 n', .string tg', .int .i64 st', .string tx', .int .i64 it', .int .u8 fl', .int .u32 ui', .int .u32 sz', .slice P' bl' c']) := Lib.hid ⟨⟨(((Below.refl _ _).alloc (Nat.le_refl _) _).alloc (by rw [World.size_alloc]; omega) _).alloc (by simp only [World.size_alloc]; omega) _, ((Blk.made _ _ _).past _).past _, (by have := Blk.made (w.alloc (.cells #[.int .i64 k, .int .u32 n, .string tg, .int .i64 st, .string tx, .int .i64 it, .int .u8 fl, .int .u32 ui, .int .u32 sz, .slice P bl c] 26)) 26 #[.int .i64 k', .int .u32 n', .string tg', .int .i64 st', .string tx', .int .i64 it', .int .u8 fl', .int .u32 ui', .int .u32 sz', .slice P' bl' c']; rw [World.size_alloc] at this; exact this.past _), by simp only [World.size_alloc]; omega⟩, by have := Blk.made ((w.alloc (.cells #[.int .i64 k, .int .u32 n, .string tg, .int .i64 st, .string tx, .int .i64 it, .int .u8 fl, .int .u32 ui, .int .u32 sz, .slice P bl c] 26)).alloc (.cells #[.int .i64 k', .int .u32 n', .string tg', .int .i64 st', .string tx', .int .i64 it', .int .u8 fl', .int .u32 ui', .int .u32 sz', .slice P' bl' c'] 26)) 26 #[.int .i64 k, .int .u32 n, .string tg, .int .i64 st, .string tx, .int .i64 it, .int .u8 fl, .int .u32 ui, .int .u32 sz, .slice P bl c, .int .i64 k', .int .u32 n', .string tg', .int .i64 st', .string tx', .int .i64 it', .int .u8 fl', .int .u32 ui', .int .u32 sz', .slice P' bl' c']; simp only [World.size_alloc] at this; exact this⟩
  cases few with
  | false =>
    go_enter Tryd.func4, Tryd.ntmps4
    go_wp2_with fail
    refine (HFW.out _ _ HW0.out.2).mono ?_
    rintro e w1 ⟨rfl, rfl⟩
    go_wp2_with fail
    refine (HAL.out _ HW0.out.1.1).mono ?_
    rintro e w1 ⟨rfl, hb⟩
    have HB := Lib.hid (below_call HW0.out.1.1 hb)
    clear hb
    go_wp2_with fail
    go_ret
    exact ⟨rfl, HB.out⟩
  | true =>
    replace HPR := Lib.hid (HPR.out rfl)
    replace HPR' := Lib.hid (HPR'.out rfl)
    replace HRS := Lib.hid (HRS.out rfl)
    replace HS := Lib.hid (HS.out rfl)
    replace HSA := Lib.hid (HSA.out rfl)
    replace HEQ := Lib.hid (HEQ.out rfl)
    go_enter Tryd.func4, Tryd.ntmps4
    go_wp2_with fail
    refine (HFW.out _ _ HW0.out.2).mono ?_
    rintro e w1 ⟨rfl, rfl⟩
    go_wp2_with fail
    replace HW0 := Lib.hid HW0.out.1
    generalize ((w.alloc (.cells #[.int .i64 k, .int .u32 n, .string tg, .int .i64 st, .string tx, .int .i64 it, .int .u8 fl, .int .u32 ui, .int .u32 sz, .slice P bl c] 26)).alloc (.cells #[.int .i64 k', .int .u32 n', .string tg', .int .i64 st', .string tx', .int .i64 it', .int .u8 fl', .int .u32 ui', .int .u32 sz', .slice P' bl' c'] 26)).alloc (.cells #[.int .i64 k, .int .u32 n, .string tg, .int .i64 st, .string tx, .int .i64 it, .int .u8 fl, .int .u32 ui, .int .u32 sz, .slice P bl c, .int .i64 k', .int .u32 n', .string tg', .int .i64 st', .string tx', .int .i64 it', .int .u8 fl', .int .u32 ui', .int .u32 sz', .slice P' bl' c'] 26) = w0 at *
    refine (HPR.out _ HW0.out.1).mono ?_
    rintro e w1 ⟨v, rfl, hbuf, hb1⟩
    obtain ⟨pv, cv, rfl, -, hby⟩ := hbuf.bys
    have H1 : Hid (Below w.heap.size w w1 ∧ Blk w1 w.heap.size 26 #[.int .i64 k, .int .u32 n, .string tg, .int .i64 st, .string tx, .int .i64 it, .int .u8 fl, .int .u32 ui, .int .u32 sz, .slice P bl c] ∧ Blk w1 (w.heap.size + 1) 26 #[.int .i64 k', .int .u32 n', .string tg', .int .i64 st', .string tx', .int .i64 it', .int .u8 fl', .int .u32 ui', .int .u32 sz', .slice P' bl' c'] ∧ w.heap.size + 1 < w1.heap.size) := Lib.hid ⟨below_call HW0.out.1 hb1, Blk.below HW0.out.2.1 hb1 HW0.out.2.1.lt, Blk.below HW0.out.2.2.1 hb1 HW0.out.2.2.1.lt, Nat.lt_of_lt_of_le HW0.out.2.2.2 hb1.size⟩
    have HX1 := Lib.hid hby
    clear hb1 hbuf hby HW0
    obtain ⟨⟨c0, c1, c2, c3, c4, c5, c6, c7, c8, c9⟩, -⟩ := Blk.ten H1.out.2.1
    obtain ⟨⟨d0, d1, d2, d3, d4, d5, d6, d7, d8, d9⟩, -⟩ := Blk.ten H1.out.2.2.1
    go_wp2_with fail
    refine (HPR'.out _ H1.out.1).mono ?_
    rintro e w2 ⟨v, rfl, hbuf, hb2⟩
    obtain ⟨pv', cv', rfl, -, hby⟩ := hbuf.bys
    have H2 : Hid (Below w.heap.size w w2 ∧ Blk w2 w.heap.size 26 #[.int .i64 k, .int .u32 n, .string tg, .int .i64 st, .string tx, .int .i64 it, .int .u8 fl, .int .u32 ui, .int .u32 sz, .slice P bl c] ∧ Blk w2 (w.heap.size + 1) 26 #[.int .i64 k', .int .u32 n', .string tg', .int .i64 st', .string tx', .int .i64 it', .int .u8 fl', .int .u32 ui', .int .u32 sz', .slice P' bl' c'] ∧ w.heap.size + 1 < w2.heap.size) := Lib.hid ⟨below_call H1.out.1 hb2, Blk.below H1.out.2.1 hb2 H1.out.2.1.lt, Blk.below H1.out.2.2.1 hb2 H1.out.2.2.1.lt, Nat.lt_of_lt_of_le H1.out.2.2.2 hb2.size⟩
    have HX2 := Lib.hid (And.intro ((HX1.out.below hb2).more hb2.size) hby)
    clear hb2 hbuf hby H1 HX1 c0 c1 c2 c3 c4 c5 c6 c7 c8 c9 d0 d1 d2 d3 d4 d5 d6 d7 d8 d9
    obtain ⟨⟨c0, c1, c2, c3, c4, c5, c6, c7, c8, c9⟩, -⟩ := Blk.ten H2.out.2.1
    obtain ⟨⟨d0, d1, d2, d3, d4, d5, d6, d7, d8, d9⟩, -⟩ := Blk.ten H2.out.2.2.1
    go_wp2_with fail
    refine (HRS.out _ H2.out.1).mono ?_
    rintro e w3 ⟨rfl, hb3⟩
    have H3 : Hid (Below w.heap.size w w3 ∧ Blk w3 w.heap.size 26 #[.int .i64 k, .int .u32 n, .string tg, .int .i64 st, .string tx, .int .i64 it, .int .u8 fl, .int .u32 ui, .int .u32 sz, .slice P bl c] ∧ Blk w3 (w.heap.size + 1) 26 #[.int .i64 k', .int .u32 n', .string tg', .int .i64 st', .string tx', .int .i64 it', .int .u8 fl', .int .u32 ui', .int .u32 sz', .slice P' bl' c'] ∧ w.heap.size + 1 < w3.heap.size) := Lib.hid ⟨below_call H2.out.1 hb3, Blk.below H2.out.2.1 hb3 H2.out.2.1.lt, Blk.below H2.out.2.2.1 hb3 H2.out.2.2.1.lt, Nat.lt_of_lt_of_le H2.out.2.2.2 hb3.size⟩
    have HX3 := Lib.hid (And.intro ((HX2.out.1.below hb3).more hb3.size) ((HX2.out.2.below hb3).more hb3.size))
    clear hb3 H2 HX2 c0 c1 c2 c3 c4 c5 c6 c7 c8 c9 d0 d1 d2 d3 d4 d5 d6 d7 d8 d9
    obtain ⟨⟨c0, c1, c2, c3, c4, c5, c6, c7, c8, c9⟩, -⟩ := Blk.ten H3.out.2.1
    obtain ⟨⟨d0, d1, d2, d3, d4, d5, d6, d7, d8, d9⟩, -⟩ := Blk.ten H3.out.2.2.1
    go_wp2_with fail
    refine (HAL.out _ H3.out.1).mono ?_
    rintro e w4 ⟨rfl, hb4⟩
    have H4 : Hid (Below w.heap.size w w4 ∧ Blk w4 w.heap.size 26 #[.int .i64 k, .int .u32 n, .string tg, .int .i64 st, .string tx, .int .i64 it, .int .u8 fl, .int .u32 ui, .int .u32 sz, .slice P bl c] ∧ Blk w4 (w.heap.size + 1) 26 #[.int .i64 k', .int .u32 n', .string tg', .int .i64 st', .string tx', .int .i64 it', .int .u8 fl', .int .u32 ui', .int .u32 sz', .slice P' bl' c'] ∧ w.heap.size + 1 < w4.heap.size) := Lib.hid ⟨below_call H3.out.1 hb4, Blk.below H3.out.2.1 hb4 H3.out.2.1.lt, Blk.below H3.out.2.2.1 hb4 H3.out.2.2.1.lt, Nat.lt_of_lt_of_le H3.out.2.2.2 hb4.size⟩
    have HX4 := Lib.hid (And.intro ((HX3.out.1.below hb4).more hb4.size) ((HX3.out.2.below hb4).more hb4.size))
    clear hb4 H3 HX3 c0 c1 c2 c3 c4 c5 c6 c7 c8 c9 d0 d1 d2 d3 d4 d5 d6 d7 d8 d9
    obtain ⟨⟨c0, c1, c2, c3, c4, c5, c6, c7, c8, c9⟩, -⟩ := Blk.ten H4.out.2.1
    obtain ⟨⟨d0, d1, d2, d3, d4, d5, d6, d7, d8, d9⟩, -⟩ := Blk.ten H4.out.2.2.1
    go_wp2_with fail
    refine (HS.out _ H4.out.1).mono ?_
    rintro e w5 ⟨rfl, hb5⟩
    have H5 : Hid (Below w.heap.size w w5 ∧ Blk w5 w.heap.size 26 #[.int .i64 k, .int .u32 n, .string tg, .int .i64 st, .string tx, .int .i64 it, .int .u8 fl, .int .u32 ui, .int .u32 sz, .slice P bl c] ∧ Blk w5 (w.heap.size + 1) 26 #[.int .i64 k', .int .u32 n', .string tg', .int .i64 st', .string tx', .int .i64 it', .int .u8 fl', .int .u32 ui', .int .u32 sz', .slice P' bl' c'] ∧ w.heap.size + 1 < w5.heap.size) := Lib.hid ⟨below_call H4.out.1 hb5, Blk.below H4.out.2.1 hb5 H4.out.2.1.lt, Blk.below H4.out.2.2.1 hb5 H4.out.2.2.1.lt, Nat.lt_of_lt_of_le H4.out.2.2.2 hb5.size⟩
    have HX5 := Lib.hid (And.intro ((HX4.out.1.below hb5).more hb5.size) ((HX4.out.2.below hb5).more hb5.size))
    clear hb5 H4 HX4 c0 c1 c2 c3 c4 c5 c6 c7 c8 c9 d0 d1 d2 d3 d4 d5 d6 d7 d8 d9
    obtain ⟨⟨c0, c1, c2, c3, c4, c5, c6, c7, c8, c9⟩, -⟩ := Blk.ten H5.out.2.1
    obtain ⟨⟨d0, d1, d2, d3, d4, d5, d6, d7, d8, d9⟩, -⟩ := Blk.ten H5.out.2.2.1
    have hsm : (sm == sm) = true := by cases sm <;> rfl
    cases ok with
    | false =>
      go_wp2_with fail
      refine (HSA.out _ H5.out.1).mono ?_
      rintro e w6 ⟨rfl, hb6⟩
      have HB := Lib.hid (below_call H5.out.1 hb6)
      clear hb6
      go_wp2_with fail
      go_ret
      exact ⟨rfl, HB.out⟩
    | true =>
      cases ok' with
      | false =>
        go_wp2_with fail
        refine (HSA.out _ H5.out.1).mono ?_
        rintro e w6 ⟨rfl, hb6⟩
        have HB := Lib.hid (below_call H5.out.1 hb6)
        clear hb6
        go_wp2_with fail
        go_ret
        exact ⟨rfl, HB.out⟩
      | true =>
        replace HEQ := Lib.hid (HEQ.out rfl rfl)
        go_wp2_with fail
        refine (HSA.out _ H5.out.1).mono ?_
        rintro e w6 ⟨rfl, hb6⟩
        have HB := Lib.hid (below_call H5.out.1 hb6)
        have HX6 := Lib.hid (And.intro ((HX5.out.1.below hb6).more hb6.size) ((HX5.out.2.below hb6).more hb6.size))
        clear hb6
        go_wp2_with fail
        refine (equal_any pv pv' cv cv' l l' _ _ _ HX6.out.1 HX6.out.2 (by omega) (by omega)).mono ?_
        rw [HEQ.out]
        rintro e w7 ⟨rfl, hb7⟩
        have HB7 := Lib.hid (below_call HB.out hb7)
        clear hb7
        go_wp2_with fail
        go_ret
        exact ⟨rfl, HB7.out⟩
end Go.Proofs.YtgdhakkfddmkjaaDoor
