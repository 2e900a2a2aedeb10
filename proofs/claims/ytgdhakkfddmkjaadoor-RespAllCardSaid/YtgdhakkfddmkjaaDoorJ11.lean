/- The walks of the tagged form's functions. · resp.Valid and resp.Print, at every response. · resp.Print at every response. · The walk of the reference's Form. · The walk of the reference's Same. -/
import Derived.Test.YtgdhakkfddmkjaaDoorJ6
import Derived.Test.YtgdhakkfddmkjaaDoorJ10
import Derived.Test.YtgdhakkfddmkjaaDoorRFet
import Derived.Deep.RegionHeld3
import Derived.Test.YtgdhakkfddmkjaaDoorJ8
set_option linter.unusedVariables false
set_option linter.unusedSimpArgs false
namespace Go.Proofs.YtgdhakkfddmkjaaDoor
open Go.RowKit

def rgtTag (tg tx : ByteArray) (st : Int) : Bool := allS tagB tg && allS textB tx && decide (0 ≤ st) && decide (st ≤ 2)
set_option maxRecDepth 100000 in
set_option maxHeartbeats 6400000 in
theorem tagged2_any (k st it : Int) (n fl ui sz bl c : Nat) (tg tx : ByteArray) (P : Option Addr) (w : World) (hg : tg.size ≤ 100000) (ht : tx.size ≤ 100000) :
    Calls Tryd.prog 71 #[.agg #[.int .i64 k, .int .u32 n, .string tg, .int .i64 st, .string tx, .int .i64 it, .int .u8 fl, .int .u32 ui, .int .u32 sz, .slice P bl c]] w fun e w' => e = .returned (.tuple #[.agg #[.int .i64 0, .int .u32 0, .string tg, .int .i64 st, .string tx, .int .i64 0, .int .u8 0, .int .u32 0, .int .u32 0, .slice none 0 0], .bool (rgtTag tg tx st)]) ∧ Below w.heap.size w w' := by
  have HA := Lib.hid (fun W => all_any 68 textB tx W (by unfold maxLen; omega) (fun _ _ => rfl) (fun c W h1 h2 => (text_any c W h1 h2).mono fun e w' ⟨h, h2⟩ => ⟨h, h2 ▸ Below.refl _ _⟩))
  have HT := Lib.hid (fun W => all_any 72 tagB tg W (by unfold maxLen; omega) (fun _ _ => rfl) (fun c W h1 h2 => tag_any c W h1 h2))
  unfold rgtTag
  generalize allS textB tx = ok at *
  generalize allS tagB tg = oq at *
  cases oq with
  | false =>
    rw [show (false && ok && decide (0 ≤ st) && decide (st ≤ 2)) = false from rfl]
    go_enter Tryd.func71, Tryd.ntmps71
    go_wp2_with fail
    refine (HT.out _).mono ?_
    rintro e w1 ⟨rfl, hb⟩
    have hb1 : Below w.heap.size w w1 := (((Below.refl _ _).alloc (Nat.le_refl _) _).alloc (by rw [World.size_alloc]; omega) _).trans (hb.mono (by simp only [World.size_alloc]; omega))
    have hq1 : Blk w1 w.heap.size 26 #[.int .i64 k, .int .u32 n, .string tg, .int .i64 st, .string tx, .int .i64 it, .int .u8 fl, .int .u32 ui, .int .u32 sz, .slice P bl c] := Blk.below (Blk.past (Blk.made _ _ _) _) hb (by simp only [World.size_alloc]; omega)
    have hq2 : Blk w1 (w.heap.size + 1) 26 #[.int .i64 0, .int .u32 0, .string ⟨#[]⟩, .int .i64 0, .string ⟨#[]⟩, .int .i64 0, .int .u8 0, .int .u32 0, .int .u32 0, .slice none 0 0] := by
      have := Blk.below (Blk.made (w.alloc (.cells #[.int .i64 k, .int .u32 n, .string tg, .int .i64 st, .string tx, .int .i64 it, .int .u8 fl, .int .u32 ui, .int .u32 sz, .slice P bl c] 26)) 26 #[.int .i64 0, .int .u32 0, .string ⟨#[]⟩, .int .i64 0, .string ⟨#[]⟩, .int .i64 0, .int .u8 0, .int .u32 0, .int .u32 0, .slice none 0 0]) hb (by simp only [World.size_alloc]; omega)
      rw [World.size_alloc] at this
      exact this
    have HB := Lib.hid hb1
    have HQ2 := Lib.hid hq2
    obtain ⟨⟨c0, c1, c2, c3, c4, c5, c6, c7, c8, c9⟩, -⟩ := Blk.ten hq1
    obtain ⟨⟨d0, d1, d2, d3, d4, d5, d6, d7, d8, d9⟩, f0, f1, f2, f3, f4, f5, f6, f7, f8, f9⟩ := Blk.ten hq2
    clear hb hb1 hq1 hq2
    go_wp2_with fail
    have hp := ((((((((((HQ2.out.put 0 (.int .i64 0)).put 1 (.int .u32 0)).put 2 (.string tg)).put 3 (.int .i64 st)).put 4 (.string tx)).put 5 (.int .i64 0)).put 6 (.int .u8 0)).put 7 (.int .u32 0)).put 8 (.int .u32 0)).put 9 (.slice none 0 0))
    obtain ⟨⟨z0, z1, z2, z3, z4, z5, z6, z7, z8, z9⟩, -⟩ := Blk.ten hp
    refine bodyPost_ret (v := .tuple #[.agg #[.int .i64 0, .int .u32 0, .string tg, .int .i64 st, .string tx, .int .i64 0, .int .u8 0, .int .u32 0, .int .u32 0, .slice none 0 0], .bool false]) (by simp [results, Tryd.results71, go_sem, z0, z1, z2, z3, z4, z5, z6, z7, z8, z9]) rfl ⟨rfl, ?_⟩
    (repeat refine Below.setCell ?_ (Nat.le_succ _) _)
    exact HB.out
  | true =>
    cases ok with
    | false =>
      rw [show (true && false && decide (0 ≤ st) && decide (st ≤ 2)) = false from rfl]
      go_enter Tryd.func71, Tryd.ntmps71
      go_wp2_with fail
      refine (HT.out _).mono ?_
      rintro e w1 ⟨rfl, hb⟩
      have hb1 : Below w.heap.size w w1 := (((Below.refl _ _).alloc (Nat.le_refl _) _).alloc (by rw [World.size_alloc]; omega) _).trans (hb.mono (by simp only [World.size_alloc]; omega))
      have hq1 : Blk w1 w.heap.size 26 #[.int .i64 k, .int .u32 n, .string tg, .int .i64 st, .string tx, .int .i64 it, .int .u8 fl, .int .u32 ui, .int .u32 sz, .slice P bl c] := Blk.below (Blk.past (Blk.made _ _ _) _) hb (by simp only [World.size_alloc]; omega)
      have hq2 : Blk w1 (w.heap.size + 1) 26 #[.int .i64 0, .int .u32 0, .string ⟨#[]⟩, .int .i64 0, .string ⟨#[]⟩, .int .i64 0, .int .u8 0, .int .u32 0, .int .u32 0, .slice none 0 0] := by
        have := Blk.below (Blk.made (w.alloc (.cells #[.int .i64 k, .int .u32 n, .string tg, .int .i64 st, .string tx, .int .i64 it, .int .u8 fl, .int .u32 ui, .int .u32 sz, .slice P bl c] 26)) 26 #[.int .i64 0, .int .u32 0, .string ⟨#[]⟩, .int .i64 0, .string ⟨#[]⟩, .int .i64 0, .int .u8 0, .int .u32 0, .int .u32 0, .slice none 0 0]) hb (by simp only [World.size_alloc]; omega)
        rw [World.size_alloc] at this
        exact this
      obtain ⟨⟨c0, c1, c2, c3, c4, c5, c6, c7, c8, c9⟩, -⟩ := Blk.ten hq1
      clear hb
      have HP := Lib.hid (And.intro hb1 (And.intro hq1 hq2))
      clear hb1 hq1 hq2
      go_wp2_with fail
      refine (HA.out _).mono ?_
      rintro e w2 ⟨rfl, hb⟩
      have hb1 : Below w.heap.size w w2 := HP.out.1.trans (hb.mono HP.out.1.size)
      have hq1 := Blk.below HP.out.2.1 hb HP.out.2.1.lt
      have hq2 := Blk.below HP.out.2.2 hb HP.out.2.2.lt
      clear c0 c1 c2 c3 c4 c5 c6 c7 c8 c9
      have HB := Lib.hid hb1
      have HQ2 := Lib.hid hq2
      obtain ⟨⟨c0, c1, c2, c3, c4, c5, c6, c7, c8, c9⟩, -⟩ := Blk.ten hq1
      obtain ⟨⟨d0, d1, d2, d3, d4, d5, d6, d7, d8, d9⟩, f0, f1, f2, f3, f4, f5, f6, f7, f8, f9⟩ := Blk.ten hq2
      clear hb hb1 hq1 hq2
      go_wp2_with fail
      have hp := ((((((((((HQ2.out.put 0 (.int .i64 0)).put 1 (.int .u32 0)).put 2 (.string tg)).put 3 (.int .i64 st)).put 4 (.string tx)).put 5 (.int .i64 0)).put 6 (.int .u8 0)).put 7 (.int .u32 0)).put 8 (.int .u32 0)).put 9 (.slice none 0 0))
      obtain ⟨⟨z0, z1, z2, z3, z4, z5, z6, z7, z8, z9⟩, -⟩ := Blk.ten hp
      refine bodyPost_ret (v := .tuple #[.agg #[.int .i64 0, .int .u32 0, .string tg, .int .i64 st, .string tx, .int .i64 0, .int .u8 0, .int .u32 0, .int .u32 0, .slice none 0 0], .bool false]) (by simp [results, Tryd.results71, go_sem, z0, z1, z2, z3, z4, z5, z6, z7, z8, z9]) rfl ⟨rfl, ?_⟩
      (repeat refine Below.setCell ?_ (Nat.le_succ _) _)
      exact HB.out
    | true =>
      rw [show (true && true && decide (0 ≤ st) && decide (st ≤ 2)) = (decide (0 ≤ st) && decide (st ≤ 2)) from rfl]
      by_cases h0 : 0 ≤ st
      · rw [decide_eq_true h0]
        by_cases h2 : st ≤ 2
        · rw [decide_eq_true h2]
          go_enter Tryd.func71, Tryd.ntmps71
          go_wp2_with fail
          refine (HT.out _).mono ?_
          rintro e w1 ⟨rfl, hb⟩
          have hb1 : Below w.heap.size w w1 := (((Below.refl _ _).alloc (Nat.le_refl _) _).alloc (by rw [World.size_alloc]; omega) _).trans (hb.mono (by simp only [World.size_alloc]; omega))
          have hq1 : Blk w1 w.heap.size 26 #[.int .i64 k, .int .u32 n, .string tg, .int .i64 st, .string tx, .int .i64 it, .int .u8 fl, .int .u32 ui, .int .u32 sz, .slice P bl c] := Blk.below (Blk.past (Blk.made _ _ _) _) hb (by simp only [World.size_alloc]; omega)
          have hq2 : Blk w1 (w.heap.size + 1) 26 #[.int .i64 0, .int .u32 0, .string ⟨#[]⟩, .int .i64 0, .string ⟨#[]⟩, .int .i64 0, .int .u8 0, .int .u32 0, .int .u32 0, .slice none 0 0] := by
            have := Blk.below (Blk.made (w.alloc (.cells #[.int .i64 k, .int .u32 n, .string tg, .int .i64 st, .string tx, .int .i64 it, .int .u8 fl, .int .u32 ui, .int .u32 sz, .slice P bl c] 26)) 26 #[.int .i64 0, .int .u32 0, .string ⟨#[]⟩, .int .i64 0, .string ⟨#[]⟩, .int .i64 0, .int .u8 0, .int .u32 0, .int .u32 0, .slice none 0 0]) hb (by simp only [World.size_alloc]; omega)
            rw [World.size_alloc] at this
            exact this
          obtain ⟨⟨c0, c1, c2, c3, c4, c5, c6, c7, c8, c9⟩, -⟩ := Blk.ten hq1
          clear hb
          have HP := Lib.hid (And.intro hb1 (And.intro hq1 hq2))
          clear hb1 hq1 hq2
          go_wp2_with fail
          refine (HA.out _).mono ?_
          rintro e w2 ⟨rfl, hb⟩
          have hb1 : Below w.heap.size w w2 := HP.out.1.trans (hb.mono HP.out.1.size)
          have hq1 := Blk.below HP.out.2.1 hb HP.out.2.1.lt
          have hq2 := Blk.below HP.out.2.2 hb HP.out.2.2.lt
          clear c0 c1 c2 c3 c4 c5 c6 c7 c8 c9
          have HB := Lib.hid hb1
          have HQ2 := Lib.hid hq2
          obtain ⟨⟨c0, c1, c2, c3, c4, c5, c6, c7, c8, c9⟩, -⟩ := Blk.ten hq1
          obtain ⟨⟨d0, d1, d2, d3, d4, d5, d6, d7, d8, d9⟩, f0, f1, f2, f3, f4, f5, f6, f7, f8, f9⟩ := Blk.ten hq2
          clear hb hb1 hq1 hq2
          go_wp2_with fail
          have hp := ((((((((((HQ2.out.put 0 (.int .i64 0)).put 1 (.int .u32 0)).put 2 (.string tg)).put 3 (.int .i64 st)).put 4 (.string tx)).put 5 (.int .i64 0)).put 6 (.int .u8 0)).put 7 (.int .u32 0)).put 8 (.int .u32 0)).put 9 (.slice none 0 0))
          obtain ⟨⟨z0, z1, z2, z3, z4, z5, z6, z7, z8, z9⟩, -⟩ := Blk.ten hp
          refine bodyPost_ret (v := .tuple #[.agg #[.int .i64 0, .int .u32 0, .string tg, .int .i64 st, .string tx, .int .i64 0, .int .u8 0, .int .u32 0, .int .u32 0, .slice none 0 0], .bool true]) (by simp [results, Tryd.results71, go_sem, z0, z1, z2, z3, z4, z5, z6, z7, z8, z9]) rfl ⟨rfl, ?_⟩
          (repeat refine Below.setCell ?_ (Nat.le_succ _) _)
          exact HB.out
        · rw [decide_eq_false h2]
          have h2' : 2 < st := by omega
          have hd2 : decide (st ≤ 2) = false := decide_eq_false h2
          clear h2
          go_enter Tryd.func71, Tryd.ntmps71
          go_wp2_with fail
          refine (HT.out _).mono ?_
          rintro e w1 ⟨rfl, hb⟩
          have hb1 : Below w.heap.size w w1 := (((Below.refl _ _).alloc (Nat.le_refl _) _).alloc (by rw [World.size_alloc]; omega) _).trans (hb.mono (by simp only [World.size_alloc]; omega))
          have hq1 : Blk w1 w.heap.size 26 #[.int .i64 k, .int .u32 n, .string tg, .int .i64 st, .string tx, .int .i64 it, .int .u8 fl, .int .u32 ui, .int .u32 sz, .slice P bl c] := Blk.below (Blk.past (Blk.made _ _ _) _) hb (by simp only [World.size_alloc]; omega)
          have hq2 : Blk w1 (w.heap.size + 1) 26 #[.int .i64 0, .int .u32 0, .string ⟨#[]⟩, .int .i64 0, .string ⟨#[]⟩, .int .i64 0, .int .u8 0, .int .u32 0, .int .u32 0, .slice none 0 0] := by
            have := Blk.below (Blk.made (w.alloc (.cells #[.int .i64 k, .int .u32 n, .string tg, .int .i64 st, .string tx, .int .i64 it, .int .u8 fl, .int .u32 ui, .int .u32 sz, .slice P bl c] 26)) 26 #[.int .i64 0, .int .u32 0, .string ⟨#[]⟩, .int .i64 0, .string ⟨#[]⟩, .int .i64 0, .int .u8 0, .int .u32 0, .int .u32 0, .slice none 0 0]) hb (by simp only [World.size_alloc]; omega)
            rw [World.size_alloc] at this
            exact this
          obtain ⟨⟨c0, c1, c2, c3, c4, c5, c6, c7, c8, c9⟩, -⟩ := Blk.ten hq1
          clear hb
          have HP := Lib.hid (And.intro hb1 (And.intro hq1 hq2))
          clear hb1 hq1 hq2
          go_wp2_with fail
          refine (HA.out _).mono ?_
          rintro e w2 ⟨rfl, hb⟩
          have hb1 : Below w.heap.size w w2 := HP.out.1.trans (hb.mono HP.out.1.size)
          have hq1 := Blk.below HP.out.2.1 hb HP.out.2.1.lt
          have hq2 := Blk.below HP.out.2.2 hb HP.out.2.2.lt
          clear c0 c1 c2 c3 c4 c5 c6 c7 c8 c9
          have HB := Lib.hid hb1
          have HQ2 := Lib.hid hq2
          obtain ⟨⟨c0, c1, c2, c3, c4, c5, c6, c7, c8, c9⟩, -⟩ := Blk.ten hq1
          obtain ⟨⟨d0, d1, d2, d3, d4, d5, d6, d7, d8, d9⟩, f0, f1, f2, f3, f4, f5, f6, f7, f8, f9⟩ := Blk.ten hq2
          clear hb hb1 hq1 hq2
          go_wp2_with fail
          have hp := ((((((((((HQ2.out.put 0 (.int .i64 0)).put 1 (.int .u32 0)).put 2 (.string tg)).put 3 (.int .i64 st)).put 4 (.string tx)).put 5 (.int .i64 0)).put 6 (.int .u8 0)).put 7 (.int .u32 0)).put 8 (.int .u32 0)).put 9 (.slice none 0 0))
          obtain ⟨⟨z0, z1, z2, z3, z4, z5, z6, z7, z8, z9⟩, -⟩ := Blk.ten hp
          refine bodyPost_ret (v := .tuple #[.agg #[.int .i64 0, .int .u32 0, .string tg, .int .i64 st, .string tx, .int .i64 0, .int .u8 0, .int .u32 0, .int .u32 0, .slice none 0 0], .bool false]) (by simp [results, Tryd.results71, go_sem, z0, z1, z2, z3, z4, z5, z6, z7, z8, z9]) rfl ⟨rfl, ?_⟩
          (repeat refine Below.setCell ?_ (Nat.le_succ _) _)
          exact HB.out
      · rw [decide_eq_false h0]
        have h0' : st < 0 := by omega
        have hd0 : decide (0 ≤ st) = false := decide_eq_false h0
        clear h0
        rw [show (false && decide (st ≤ 2)) = false from rfl]
        go_enter Tryd.func71, Tryd.ntmps71
        go_wp2_with fail
        refine (HT.out _).mono ?_
        rintro e w1 ⟨rfl, hb⟩
        have hb1 : Below w.heap.size w w1 := (((Below.refl _ _).alloc (Nat.le_refl _) _).alloc (by rw [World.size_alloc]; omega) _).trans (hb.mono (by simp only [World.size_alloc]; omega))
        have hq1 : Blk w1 w.heap.size 26 #[.int .i64 k, .int .u32 n, .string tg, .int .i64 st, .string tx, .int .i64 it, .int .u8 fl, .int .u32 ui, .int .u32 sz, .slice P bl c] := Blk.below (Blk.past (Blk.made _ _ _) _) hb (by simp only [World.size_alloc]; omega)
        have hq2 : Blk w1 (w.heap.size + 1) 26 #[.int .i64 0, .int .u32 0, .string ⟨#[]⟩, .int .i64 0, .string ⟨#[]⟩, .int .i64 0, .int .u8 0, .int .u32 0, .int .u32 0, .slice none 0 0] := by
          have := Blk.below (Blk.made (w.alloc (.cells #[.int .i64 k, .int .u32 n, .string tg, .int .i64 st, .string tx, .int .i64 it, .int .u8 fl, .int .u32 ui, .int .u32 sz, .slice P bl c] 26)) 26 #[.int .i64 0, .int .u32 0, .string ⟨#[]⟩, .int .i64 0, .string ⟨#[]⟩, .int .i64 0, .int .u8 0, .int .u32 0, .int .u32 0, .slice none 0 0]) hb (by simp only [World.size_alloc]; omega)
          rw [World.size_alloc] at this
          exact this
        obtain ⟨⟨c0, c1, c2, c3, c4, c5, c6, c7, c8, c9⟩, -⟩ := Blk.ten hq1
        clear hb
        have HP := Lib.hid (And.intro hb1 (And.intro hq1 hq2))
        clear hb1 hq1 hq2
        go_wp2_with fail
        refine (HA.out _).mono ?_
        rintro e w2 ⟨rfl, hb⟩
        have hb1 : Below w.heap.size w w2 := HP.out.1.trans (hb.mono HP.out.1.size)
        have hq1 := Blk.below HP.out.2.1 hb HP.out.2.1.lt
        have hq2 := Blk.below HP.out.2.2 hb HP.out.2.2.lt
        clear c0 c1 c2 c3 c4 c5 c6 c7 c8 c9
        have HB := Lib.hid hb1
        have HQ2 := Lib.hid hq2
        obtain ⟨⟨c0, c1, c2, c3, c4, c5, c6, c7, c8, c9⟩, -⟩ := Blk.ten hq1
        obtain ⟨⟨d0, d1, d2, d3, d4, d5, d6, d7, d8, d9⟩, f0, f1, f2, f3, f4, f5, f6, f7, f8, f9⟩ := Blk.ten hq2
        clear hb hb1 hq1 hq2
        go_wp2_with fail
        have hp := ((((((((((HQ2.out.put 0 (.int .i64 0)).put 1 (.int .u32 0)).put 2 (.string tg)).put 3 (.int .i64 st)).put 4 (.string tx)).put 5 (.int .i64 0)).put 6 (.int .u8 0)).put 7 (.int .u32 0)).put 8 (.int .u32 0)).put 9 (.slice none 0 0))
        obtain ⟨⟨z0, z1, z2, z3, z4, z5, z6, z7, z8, z9⟩, -⟩ := Blk.ten hp
        refine bodyPost_ret (v := .tuple #[.agg #[.int .i64 0, .int .u32 0, .string tg, .int .i64 st, .string tx, .int .i64 0, .int .u8 0, .int .u32 0, .int .u32 0, .slice none 0 0], .bool false]) (by simp [results, Tryd.results71, go_sem, z0, z1, z2, z3, z4, z5, z6, z7, z8, z9]) rfl ⟨rfl, ?_⟩
        (repeat refine Below.setCell ?_ (Nat.le_succ _) _)
        exact HB.out
end Go.Proofs.YtgdhakkfddmkjaaDoor
namespace Go.Proofs.YtgdhakkfddmkjaaDoor
open Go.RowKit

/-- The bounds of the types, and sizes. -/
def RspOk (r : Rsp) : Prop := r.n < 4294967296 ∧ r.flags < 256 ∧ r.uid < 4294967296 ∧ r.size < 4294967296 ∧ r.tag.length ≤ 1000 ∧ r.text.length ≤ 1000 ∧ r.body.length ≤ 100000
open Classical in
noncomputable def vldB (r : Rsp) : Bool := decide (ValidR r)
def sameFR (a b : Rsp) : Bool := sameF a.kind a.n a.status a.items a.flags a.uid a.size (ofL a.tag) (ofL a.text) a.body b.kind b.n b.status b.items b.flags b.uid b.size (ofL b.tag) (ofL b.text) b.body
theorem sameFR_iff (a b : Rsp) : sameFR a b = true ↔ sameR a b := by
  have h1 : ∀ x y : List UInt8, ofL x = ofL y ↔ x = y := fun x y => ⟨ofL_inj, fun h => by rw [h]⟩
  simp only [sameFR, sameF, sameR, Bool.and_eq_true, decide_eq_true_eq, h1]
  constructor
  · rintro ⟨a1, a2, a3, a4, a5, a6, a7, a8, a9, a10⟩
    exact ⟨a1, by omega, a3, a4, a5, a6, by omega, by omega, by omega, a10⟩
  · rintro ⟨a1, a2, a3, a4, a5, a6, a7, a8, a9, a10⟩
    exact ⟨a1, by omega, a3, a4, a5, a6, by omega, by omega, by omega, a10⟩
theorem vldB_iff (r : Rsp) : vldB r = true ↔ ValidR r := by
  unfold vldB
  exact @decide_eq_true_iff _ (Classical.propDecidable _)
theorem vld_of {r m : Rsp} {right : Bool} (hm : maskR r = m) (hr : rightR r ↔ right = true) : vldB r = (right && sameFR m r) := by
  rw [Bool.eq_iff_iff]
  rw [vldB_iff, Bool.and_eq_true, sameFR_iff, ValidR, hm, hr]
theorem vld_none {r : Rsp} (h : ¬ rightR r) : vldB r = false := by
  rw [Bool.eq_false_iff, ne_eq, vldB_iff]
  exact fun hh => h hh.1
theorem orI_items (b1 b2 b4 b16 : Bool) : orI (orI (orI (orI 0 b1 1) b2 2) b4 4) b16 16 = itemsOf b1 b2 b4 b16 := by
  cases b1 <;> cases b2 <;> cases b4 <;> cases b16 <;> rfl
theorem selI_nat (b : Bool) (x : Nat) : selI b (x : Int) = ((if b = true then x else 0 : Nat) : Int) := by cases b <;> rfl
theorem kinds (k : Int) : k = 1 ∨ k = 2 ∨ k = 3 ∨ k = 4 ∨ k = 5 ∨ k = 6 ∨ k = 7 ∨ k = 8 ∨ k = 9 ∨ k = 10 ∨ (k ≠ 1 ∧ k ≠ 2 ∧ k ≠ 3 ∧ k ≠ 4 ∧ k ≠ 5 ∧ k ≠ 6 ∧ k ≠ 7 ∧ k ≠ 8 ∧ k ≠ 9 ∧ k ≠ 10) := by omega
theorem frm_none {k : Int} (h : k ≠ 1 ∧ k ≠ 2 ∧ k ≠ 3 ∧ k ≠ 4 ∧ k ≠ 5 ∧ k ≠ 6 ∧ k ≠ 7 ∧ k ≠ 8 ∧ k ≠ 9 ∧ k ≠ 10) (g1 g2 g3 g6 g7 g8 g10 : Nat) : lookK (frmMap g1 g2 g3 g6 g7 g8 g10) k = none := by
  obtain ⟨h1, h2, h3, h4, h5, h6, h7, h8, h9, h10⟩ := h
  simp [lookK, frmMap, h1, h2, h3, h4, h5, h6, h7, h8, h9, h10]
theorem bys_sel {w : World} {B : Nat} {P : Option Addr} {l : List UInt8} (b : Bool) (h : Bys w B P l) : Bys w B (selA b P) (if b = true then l else []) := by
  cases b
  · exact Bys.nil _ _ _
  · exact h
theorem sel_len (b : Bool) (l : List UInt8) : selN b l.length = (if b = true then l else []).length := by cases b <;> rfl

theorem valid_any (r : Rsp) (P : Option Addr) (c : Nat) (w : World) (hr : RspOk r) (hb : Bys w w.heap.size P r.body) :
    Calls Tryd.prog 13 #[.agg (rspA r P c)] w fun e w' => e = .returned (.bool (vldB r)) ∧ Below w.heap.size w w' := by
  obtain ⟨kind, n, tag, status, text, items, flags, uid, size, body⟩ := r
  obtain ⟨o1, o2, o3, o4, o5, o6, o7⟩ := hr
  dsimp only at o1 o2 o3 o4 o5 o6 o7 hb
  have hn : Bys w w.heap.size none [] := Bys.nil _ _ _
  have n0 : ([] : List UInt8).length ≤ 1048576 := by decide
  have htx : (ofL text).size ≤ 100000 := by rw [ofL_size]; omega
  have htg : (ofL tag).size ≤ 100000 := by rw [ofL_size]; omega
  rcases kinds kind with rfl | rfl | rfl | rfl | rfl | rfl | rfl | rfl | rfl | rfl | hk
  all_goals try (rw [show vldB _ = (true && sameFR _ _) from vld_of (m := { zeroR _ with n := n }) (by rfl) (by simp [rightR])])
  · exact valid_walk 59 1 n status items flags uid size (ofL tag) (ofL text) P body c w n 0 0 0 0 0 ⟨#[]⟩ ⟨#[]⟩ none [] 0 true (fun _ _ => by kernel_rfl) (fun _ _ _ _ _ _ _ => ⟨_, _, rfl⟩) (fun W _ => number2_any 1 status items n flags uid size _ c _ _ P W) hb hn (by omega) n0
  · exact valid_walk 59 2 n status items flags uid size (ofL tag) (ofL text) P body c w n 0 0 0 0 0 ⟨#[]⟩ ⟨#[]⟩ none [] 0 true (fun _ _ => by kernel_rfl) (fun _ _ _ _ _ _ _ => ⟨_, _, rfl⟩) (fun W _ => number2_any 2 status items n flags uid size _ c _ _ P W) hb hn (by omega) n0
  · exact valid_walk 59 3 n status items flags uid size (ofL tag) (ofL text) P body c w n 0 0 0 0 0 ⟨#[]⟩ ⟨#[]⟩ none [] 0 true (fun _ _ => by kernel_rfl) (fun _ _ _ _ _ _ _ => ⟨_, _, rfl⟩) (fun W _ => number2_any 3 status items n flags uid size _ c _ _ P W) hb hn (by omega) n0
  · generalize h1 : hasI items 1 = b1
    generalize h2 : hasI items 2 = b2
    generalize h4 : hasI items 4 = b4
    generalize h16 : hasI items 16 = b16
    rw [vld_of (right := okF (itemsOf b1 b2 b4 b16) flags body.length) (m := ⟨4, n, [], 0, [], itemsOf b1 b2 b4 b16, if b1 = true then flags else 0, if b2 = true then uid else 0, if b4 = true then size else 0, if b16 = true then body else []⟩)
      (by subst h1; subst h2; subst h4; subst h16; rfl)
      (by subst h1; subst h2; subst h4; subst h16; simp only [rightR, okF, Bool.and_eq_true, decide_eq_true_eq, bne_iff_ne]; constructor
          · rintro (h | ⟨_, h5, h6, h7⟩ | h | h)
            · omega
            · exact ⟨h5, by omega, by omega⟩
            · omega
            · omega
          · rintro ⟨h5, h6, h7⟩
            exact .inr (.inl ⟨trivial, h5, by omega, by omega⟩))]
    exact valid_walk 62 4 n status items flags uid size (ofL tag) (ofL text) P body c w n 0 (itemsOf b1 b2 b4 b16) (if b1 = true then flags else 0 : Nat) (if b2 = true then uid else 0 : Nat) (if b4 = true then size else 0 : Nat) ⟨#[]⟩ ⟨#[]⟩ (selA b16 P) (if b16 = true then body else []) (selN b16 c) _ (fun _ _ => by kernel_rfl) (fun _ _ _ _ _ _ _ => ⟨_, _, rfl⟩)
      (fun W _ => by
        have := fetched2_any 4 n status items flags uid size (ofL tag) (ofL text) P body.length c W b1 b2 b4 b16 h1 h2 h4 h16
        rw [orI_items, selI_nat, selI_nat, selI_nat, sel_len] at this
        exact this) hb (bys_sel b16 hb) (by omega) (by cases b16 <;> simp <;> omega)
  · rw [vld_of (right := true) (m := zeroR 5) (by rfl) (by simp [rightR])]
    exact valid_walk 40 5 n status items flags uid size (ofL tag) (ofL text) P body c w 0 0 0 0 0 0 ⟨#[]⟩ ⟨#[]⟩ none [] 0 true (fun _ _ => by kernel_rfl) (fun _ _ _ _ _ _ _ => ⟨_, _, rfl⟩) (fun W _ => forms2_any 5 status items n flags uid size _ c _ _ P W) hb hn (by omega) n0
  · rw [vld_of (right := txtL text) (m := { zeroR 6 with text := text }) (by rfl) (by simp [rightR])]
    exact valid_walk 66 6 n status items flags uid size (ofL tag) (ofL text) P body c w 0 0 0 0 0 0 ⟨#[]⟩ (ofL text) none [] 0 _ (fun _ _ => by kernel_rfl) (fun _ _ _ _ _ _ _ => ⟨_, _, rfl⟩) (fun W _ => text2_any 6 status items n flags uid size _ c _ _ P W htx) hb hn (by omega) n0
  · rw [vld_of (right := txtL text) (m := { zeroR 7 with text := text }) (by rfl) (by simp [rightR])]
    exact valid_walk 66 7 n status items flags uid size (ofL tag) (ofL text) P body c w 0 0 0 0 0 0 ⟨#[]⟩ (ofL text) none [] 0 _ (fun _ _ => by kernel_rfl) (fun _ _ _ _ _ _ _ => ⟨_, _, rfl⟩) (fun W _ => text2_any 7 status items n flags uid size _ c _ _ P W htx) hb hn (by omega) n0
  · rw [vld_of (right := txtL text) (m := { zeroR 8 with text := text }) (by rfl) (by simp [rightR])]
    exact valid_walk 66 8 n status items flags uid size (ofL tag) (ofL text) P body c w 0 0 0 0 0 0 ⟨#[]⟩ (ofL text) none [] 0 _ (fun _ _ => by kernel_rfl) (fun _ _ _ _ _ _ _ => ⟨_, _, rfl⟩) (fun W _ => text2_any 8 status items n flags uid size _ c _ _ P W htx) hb hn (by omega) n0
  · rw [vld_of (right := rgtTag (ofL tag) (ofL text) status) (m := { zeroR 9 with tag := tag, status := status, text := text }) (by rfl) (by
      simp only [rightR, rgtTag, Bool.and_eq_true, decide_eq_true_eq]
      constructor
      · rintro (h | h | h | ⟨_, h5, h6, h7, h8⟩)
        · omega
        · omega
        · omega
        · exact ⟨⟨⟨h5, h6⟩, h7⟩, h8⟩
      · rintro ⟨⟨⟨h5, h6⟩, h7⟩, h8⟩
        exact .inr (.inr (.inr ⟨trivial, h5, h6, h7, h8⟩)))]
    exact valid_walk 71 9 n status items flags uid size (ofL tag) (ofL text) P body c w 0 status 0 0 0 0 (ofL tag) (ofL text) none [] 0 _ (fun _ _ => by kernel_rfl) (fun _ _ _ _ _ _ _ => ⟨_, _, rfl⟩) (fun W _ => tagged2_any 9 status items n flags uid size _ c _ _ P W htg htx) hb hn (by omega) n0
  · rw [vld_of (right := txtL text) (m := { zeroR 10 with text := text }) (by rfl) (by simp [rightR])]
    exact valid_walk 66 10 n status items flags uid size (ofL tag) (ofL text) P body c w 0 0 0 0 0 0 ⟨#[]⟩ (ofL text) none [] 0 _ (fun _ _ => by kernel_rfl) (fun _ _ _ _ _ _ _ => ⟨_, _, rfl⟩) (fun W _ => text2_any 10 status items n flags uid size _ c _ _ P W htx) hb hn (by omega) n0
  · rw [vld_none (by simp only [rightR]; omega)]
    exact valid_none kind n status items flags uid size (ofL tag) (ofL text) P body.length c w (frm_none hk)
end Go.Proofs.YtgdhakkfddmkjaaDoor
namespace Go.Proofs.YtgdhakkfddmkjaaDoor
open Go.RowKit

theorem fmst_word {w0 wi : World} {b g1 g2 g3 g6 g7 g8 g10 : Nat} (h : FmSt w0 b (frmMap g1 g2 g3 g6 g7 g8 g10) (frmWd g1 g2 g3 g6 g7 g8 g10) wi) {g : Nat} {s : ByteArray} (hm : (g, s) ∈ frmWd g1 g2 g3 g6 g7 g8 g10) :
    wi.cell? ⟨g, 0, none⟩ = some (.string s) ∧ g < wi.heap.size := by
  have := (h.2.2.2 _ hm).1
  exact ⟨by rw [this.cell]; rfl, this.lt⟩
theorem line_len (r : Rsp) (hr : RspOk r) : (lineR r).length ≤ 500000 := by
  obtain ⟨o1, o2, o3, o4, o5, o6, o7⟩ := hr
  have h1 := decDigits_len r.n (by omega)
  have h2 := decDigits_len r.uid (by omega)
  have h3 := decDigits_len r.size (by omega)
  have h4 := listF_le r.flags o2
  have h5 := litB_len r.body (by omega)
  have h6 := listF_le 31 (by decide)
  have hs : (stW r.status).length ≤ 3 := by unfold stW; split; decide; split <;> decide
  have hL : ∀ x ∈ wordsR r, x.length ≤ 100100 := fun x hx => by
    unfold wordsR at hx
    rcases List.mem_append.1 hx with hx | hx
    · exact optW_len _ _ _ (by simp [wF]; omega) x hx
    · rcases List.mem_append.1 hx with hx | hx
      · exact optW_len _ _ _ (by simp [wU]; omega) x hx
      · rcases List.mem_append.1 hx with hx | hx
        · exact optW_len _ _ _ (by simp [wS]; omega) x hx
        · exact optW_len _ _ _ (by simp [wB]; omega) x hx
  have hLn : (wordsR r).length ≤ 4 := by
    have := optW_count (hasI r.items 1) (wF r); have := optW_count (hasI r.items 2) (wU r); have := optW_count (hasI r.items 4) (wS r); have := optW_count (hasI r.items 16) (wB r)
    simp only [wordsR, List.length_append]; omega
  have hj := joinF_len _ 100100 hL
  have hj2 : (wordsR r).length * (100100 + 1) ≤ 4 * (100100 + 1) := Nat.mul_le_mul_right _ hLn
  unfold lineR
  repeat' split
  all_goals (simp only [List.length_append, List.length_cons, List.length_nil]; omega)

theorem print_any (r : Rsp) (P : Option Addr) (c : Nat) (w : World) (hr : RspOk r) (hb : Bys w w.heap.size P r.body) (hc : r.body.length ≤ c) (hS : Std w) (hA : StdA w) :
    Calls Tryd.prog 11 #[.agg (rspA r P c)] w (PrPost w (vldB r) (if vldB r = true then formR r else [])) := by
  have HV : ∀ W, Below w.heap.size w W → Calls Tryd.prog 13 #[.agg (rspA r P c)] W fun e w' => e = .returned (.bool (vldB r)) ∧ Below W.heap.size W w' := fun W hW => valid_any r P c W hr ((hb.below hW).more hW.size)
  have hll := line_len r hr
  cases hv : vldB r with
  | false =>
    rw [hv] at HV
    exact print_no r.kind r.n r.status r.items r.flags r.uid r.size (ofL r.tag) (ofL r.text) P r.body.length c w HV
  | true =>
    rw [hv] at HV
    rw [if_pos rfl]
    have hvr := ((vldB_iff r).1 hv).1
    have hstm : ∀ f1 : FuncId, (∀ args W, (callFunc f1 args).run Tryd.prog W = .ok (.enter f1 args) W) →
        (∀ (w0 wi : World) b g1 g2 g3 g6 g7 g8 g10, Below w.heap.size w w0 → FmSt w0 b (frmMap g1 g2 g3 g6 g7 g8 g10) (frmWd g1 g2 g3 g6 g7 g8 g10) wi → ∃ cc f2, lookK (frmMap g1 g2 g3 g6 g7 g8 g10) r.kind = some (fmV f1 f2 cc) ∧
          Calls Tryd.prog f1 (#[.agg (rspA r P c)] ++ cc) wi fun e w' => e = .returned (.string (ofL (lineR r))) ∧ Below wi.heap.size wi w') →
        Calls Tryd.prog 11 #[.agg (rspA r P c)] w (PrPost w true (formR r)) := fun f1 h1 h2 =>
      print_yes f1 r.kind r.n r.status r.items r.flags r.uid r.size (ofL r.tag) (ofL r.text) P r.body.length c w (ofL (lineR r)) (by rw [ofL_size]; omega) HV h1 h2
    clear HV hv
    obtain ⟨kind, n, tag, status, text, items, flags, uid, size, body⟩ := r
    obtain ⟨o1, o2, o3, o4, o5, o6, o7⟩ := hr
    dsimp only at o1 o2 o3 o4 o5 o6 o7 hb hc hvr
    have htx : (ofL text).size ≤ 100000 := by rw [ofL_size]; omega
    have htg : (ofL tag).size ≤ 100000 := by rw [ofL_size]; omega
    have eT : ∀ bf : List UInt8, ofL bf ++ ofL [32] ++ ofL text = ofL (bf ++ [32] ++ text) := fun bf => by rw [ofL_append, ofL_append]
    rcases hvr with (rfl | rfl | rfl | rfl) | ⟨rfl, _⟩ | ⟨rfl | rfl | rfl | rfl, _⟩ | ⟨rfl, hg⟩
    · exact hstm 58 (fun _ _ => by kernel_rfl) fun w0 wi b g1 g2 g3 g6 g7 g8 g10 h0 hf => ⟨_, _, rfl, number1_any 1 status items n flags uid size body.length c (ofL tag) (ofL text) P g1 [69, 88, 73, 83, 84, 83] wi o1 (fmst_word hf (by simp [frmWd, ofL])).1 (by decide) (fmst_word hf (s := ⟨#[69, 88, 73, 83, 84, 83]⟩) (by simp [frmWd])).2 (hS.below (below_call h0 hf.2.1))⟩
    · exact hstm 58 (fun _ _ => by kernel_rfl) fun w0 wi b g1 g2 g3 g6 g7 g8 g10 h0 hf => ⟨_, _, rfl, number1_any 2 status items n flags uid size body.length c (ofL tag) (ofL text) P g2 [82, 69, 67, 69, 78, 84] wi o1 (fmst_word hf (by simp [frmWd, ofL])).1 (by decide) (fmst_word hf (s := ⟨#[82, 69, 67, 69, 78, 84]⟩) (by simp [frmWd])).2 (hS.below (below_call h0 hf.2.1))⟩
    · exact hstm 58 (fun _ _ => by kernel_rfl) fun w0 wi b g1 g2 g3 g6 g7 g8 g10 h0 hf => ⟨_, _, rfl, number1_any 3 status items n flags uid size body.length c (ofL tag) (ofL text) P g3 [69, 88, 80, 85, 78, 71, 69] wi o1 (fmst_word hf (by simp [frmWd, ofL])).1 (by decide) (fmst_word hf (s := ⟨#[69, 88, 80, 85, 78, 71, 69]⟩) (by simp [frmWd])).2 (hS.below (below_call h0 hf.2.1))⟩
    · exact hstm 38 (fun _ _ => by kernel_rfl) fun w0 wi b g1 g2 g3 g6 g7 g8 g10 h0 hf => ⟨_, _, rfl, forms1_any 5 status items n flags uid size body.length c (ofL tag) (ofL text) P wi (hA.below (below_call h0 hf.2.1))⟩
    · exact hstm 60 (fun _ _ => by kernel_rfl) fun w0 wi b g1 g2 g3 g6 g7 g8 g10 h0 hf => ⟨_, _, rfl, fetched1_any 4 status items n flags uid size (ofL tag) (ofL text) P body c wi _ _ _ _ rfl rfl rfl rfl o1 o2 o3 o4 ((hb.below (below_call h0 hf.2.1)).more (below_call h0 hf.2.1).size) o7 hc (hS.below (below_call h0 hf.2.1)) (hA.below (below_call h0 hf.2.1))⟩
    · exact hstm 65 (fun _ _ => by kernel_rfl) fun w0 wi b g1 g2 g3 g6 g7 g8 g10 h0 hf => ⟨_, _, rfl, by
        have := text1_any 6 status items n flags uid size body.length c (ofL tag) (ofL text) P g6 [42, 32, 79, 75] wi (fmst_word hf (by simp [frmWd, ofL])).1 (by decide) (fmst_word hf (s := ⟨#[42, 32, 79, 75]⟩) (by simp [frmWd])).2 htx
        rw [eT] at this; exact this⟩
    · exact hstm 65 (fun _ _ => by kernel_rfl) fun w0 wi b g1 g2 g3 g6 g7 g8 g10 h0 hf => ⟨_, _, rfl, by
        have := text1_any 7 status items n flags uid size body.length c (ofL tag) (ofL text) P g7 [42, 32, 66, 89, 69] wi (fmst_word hf (by simp [frmWd, ofL])).1 (by decide) (fmst_word hf (s := ⟨#[42, 32, 66, 89, 69]⟩) (by simp [frmWd])).2 htx
        rw [eT] at this; exact this⟩
    · exact hstm 65 (fun _ _ => by kernel_rfl) fun w0 wi b g1 g2 g3 g6 g7 g8 g10 h0 hf => ⟨_, _, rfl, by
        have := text1_any 8 status items n flags uid size body.length c (ofL tag) (ofL text) P g8 [42, 32, 66, 65, 68] wi (fmst_word hf (by simp [frmWd, ofL])).1 (by decide) (fmst_word hf (s := ⟨#[42, 32, 66, 65, 68]⟩) (by simp [frmWd])).2 htx
        rw [eT] at this; exact this⟩
    · exact hstm 65 (fun _ _ => by kernel_rfl) fun w0 wi b g1 g2 g3 g6 g7 g8 g10 h0 hf => ⟨_, _, rfl, by
        have := text1_any 10 status items n flags uid size body.length c (ofL tag) (ofL text) P g10 [43] wi (fmst_word hf (by simp [frmWd, ofL])).1 (by decide) (fmst_word hf (s := ⟨#[43]⟩) (by simp [frmWd])).2 htx
        rw [eT] at this; exact this⟩
    · exact hstm 69 (fun _ _ => by kernel_rfl) fun w0 wi b g1 g2 g3 g6 g7 g8 g10 h0 hf => ⟨_, _, rfl, by
        have := tagged1_any 9 status items n flags uid size body.length c (ofL tag) (ofL text) P wi hg.2.2.1 hg.2.2.2 htg htx (hA.below (below_call h0 hf.2.1))
        rw [show (⟨#[32]⟩ : ByteArray) = ofL [32] from rfl, ofL_append, ofL_append, ofL_append, ofL_append] at this
        simp only [List.append_assoc, List.cons_append, List.nil_append] at this
        exact this⟩
end Go.Proofs.YtgdhakkfddmkjaaDoor
namespace Go.Proofs.YtgdhakkfddmkjaaDoor
open Go.RowKit


set_option maxRecDepth 100000 in
set_option maxHeartbeats 1600000 in
theorem rForm_1 (n : Nat) (st it fl ui sz : Int) (tg tx : ByteArray) (P : Option Addr) (bl c : Nat) (w : World) (hn : n < 4294967296) :
    Calls Tryd.prog 14 #[.agg #[.int .i64 1, .int .u32 n, .string tg, .int .i64 st, .string tx, .int .i64 it, .int .u8 fl, .int .u32 ui, .int .u32 sz, .slice P bl c]] w fun e w' => e = .returned (.string (ofL ([42, 32] ++ (Lib.decDigits n ++ [32, 69, 88, 73, 83, 84, 83]) ++ [13, 10]))) ∧ Below w.heap.size w w' := by
  have HN := Lib.hid (fun W => rNum_any n W hn)
  have HE : Hid ((⟨#[42, 32]⟩ : ByteArray) ++ ofL (Lib.decDigits n) ++ ⟨#[32, 69, 88, 73, 83, 84, 83]⟩ ++ ⟨#[13, 10]⟩ = ofL ([42, 32] ++ (Lib.decDigits n ++ [32, 69, 88, 73, 83, 84, 83]) ++ [13, 10])) := Lib.hid (by
    rw [show (⟨#[42, 32]⟩ : ByteArray) = ofL [42, 32] from rfl, show (⟨#[32, 69, 88, 73, 83, 84, 83]⟩ : ByteArray) = ofL [32, 69, 88, 73, 83, 84, 83] from rfl, show (⟨#[13, 10]⟩ : ByteArray) = ofL [13, 10] from rfl, ofL_append, ofL_append, ofL_append]; simp)
  have hz1 : (ofL (Lib.decDigits n)).size ≤ 10 := by exact decDigits_len n (by omega)
  generalize ofL ([42, 32] ++ (Lib.decDigits n ++ [32, 69, 88, 73, 83, 84, 83]) ++ [13, 10]) = res at *
  generalize ofL (Lib.decDigits n) = dd at *
  go_enter Tryd.func14, Tryd.ntmps14
  go_wp2_with fail
  refine (HN.out _).mono ?_
  rintro e w1 ⟨rfl, rfl⟩
  go_wp2_with fail
  go_ret
  exact ⟨by rw [← HE.out]; rfl, (Below.refl _ _).alloc (Nat.le_refl _) _⟩

set_option maxRecDepth 100000 in
set_option maxHeartbeats 1600000 in
theorem rForm_2 (n : Nat) (st it fl ui sz : Int) (tg tx : ByteArray) (P : Option Addr) (bl c : Nat) (w : World) (hn : n < 4294967296) :
    Calls Tryd.prog 14 #[.agg #[.int .i64 2, .int .u32 n, .string tg, .int .i64 st, .string tx, .int .i64 it, .int .u8 fl, .int .u32 ui, .int .u32 sz, .slice P bl c]] w fun e w' => e = .returned (.string (ofL ([42, 32] ++ (Lib.decDigits n ++ [32, 82, 69, 67, 69, 78, 84]) ++ [13, 10]))) ∧ Below w.heap.size w w' := by
  have HN := Lib.hid (fun W => rNum_any n W hn)
  have HE : Hid ((⟨#[42, 32]⟩ : ByteArray) ++ ofL (Lib.decDigits n) ++ ⟨#[32, 82, 69, 67, 69, 78, 84]⟩ ++ ⟨#[13, 10]⟩ = ofL ([42, 32] ++ (Lib.decDigits n ++ [32, 82, 69, 67, 69, 78, 84]) ++ [13, 10])) := Lib.hid (by
    rw [show (⟨#[42, 32]⟩ : ByteArray) = ofL [42, 32] from rfl, show (⟨#[32, 82, 69, 67, 69, 78, 84]⟩ : ByteArray) = ofL [32, 82, 69, 67, 69, 78, 84] from rfl, show (⟨#[13, 10]⟩ : ByteArray) = ofL [13, 10] from rfl, ofL_append, ofL_append, ofL_append]; simp)
  have hz1 : (ofL (Lib.decDigits n)).size ≤ 10 := by exact decDigits_len n (by omega)
  generalize ofL ([42, 32] ++ (Lib.decDigits n ++ [32, 82, 69, 67, 69, 78, 84]) ++ [13, 10]) = res at *
  generalize ofL (Lib.decDigits n) = dd at *
  go_enter Tryd.func14, Tryd.ntmps14
  go_wp2_with fail
  refine (HN.out _).mono ?_
  rintro e w1 ⟨rfl, rfl⟩
  go_wp2_with fail
  go_ret
  exact ⟨by rw [← HE.out]; rfl, (Below.refl _ _).alloc (Nat.le_refl _) _⟩

set_option maxRecDepth 100000 in
set_option maxHeartbeats 1600000 in
theorem rForm_3 (n : Nat) (st it fl ui sz : Int) (tg tx : ByteArray) (P : Option Addr) (bl c : Nat) (w : World) (hn : n < 4294967296) :
    Calls Tryd.prog 14 #[.agg #[.int .i64 3, .int .u32 n, .string tg, .int .i64 st, .string tx, .int .i64 it, .int .u8 fl, .int .u32 ui, .int .u32 sz, .slice P bl c]] w fun e w' => e = .returned (.string (ofL ([42, 32] ++ (Lib.decDigits n ++ [32, 69, 88, 80, 85, 78, 71, 69]) ++ [13, 10]))) ∧ Below w.heap.size w w' := by
  have HN := Lib.hid (fun W => rNum_any n W hn)
  have HE : Hid ((⟨#[42, 32]⟩ : ByteArray) ++ ofL (Lib.decDigits n) ++ ⟨#[32, 69, 88, 80, 85, 78, 71, 69]⟩ ++ ⟨#[13, 10]⟩ = ofL ([42, 32] ++ (Lib.decDigits n ++ [32, 69, 88, 80, 85, 78, 71, 69]) ++ [13, 10])) := Lib.hid (by
    rw [show (⟨#[42, 32]⟩ : ByteArray) = ofL [42, 32] from rfl, show (⟨#[32, 69, 88, 80, 85, 78, 71, 69]⟩ : ByteArray) = ofL [32, 69, 88, 80, 85, 78, 71, 69] from rfl, show (⟨#[13, 10]⟩ : ByteArray) = ofL [13, 10] from rfl, ofL_append, ofL_append, ofL_append]; simp)
  have hz1 : (ofL (Lib.decDigits n)).size ≤ 10 := by exact decDigits_len n (by omega)
  generalize ofL ([42, 32] ++ (Lib.decDigits n ++ [32, 69, 88, 80, 85, 78, 71, 69]) ++ [13, 10]) = res at *
  generalize ofL (Lib.decDigits n) = dd at *
  go_enter Tryd.func14, Tryd.ntmps14
  go_wp2_with fail
  refine (HN.out _).mono ?_
  rintro e w1 ⟨rfl, rfl⟩
  go_wp2_with fail
  go_ret
  exact ⟨by rw [← HE.out]; rfl, (Below.refl _ _).alloc (Nat.le_refl _) _⟩

set_option maxRecDepth 100000 in
set_option maxHeartbeats 1600000 in
theorem rForm_6 (n st it fl ui sz : Int) (tg tx : ByteArray) (P : Option Addr) (bl c : Nat) (w : World) (ht : tx.size ≤ 100000) :
    Calls Tryd.prog 14 #[.agg #[.int .i64 6, .int .u32 n, .string tg, .int .i64 st, .string tx, .int .i64 it, .int .u8 fl, .int .u32 ui, .int .u32 sz, .slice P bl c]] w fun e w' => e = .returned (.string (⟨#[42, 32, 79, 75, 32]⟩ ++ tx ++ ⟨#[13, 10]⟩)) ∧ Below w.heap.size w w' := by
  go_enter Tryd.func14, Tryd.ntmps14
  go_wp2_with fail
  go_ret
  exact ⟨rfl, (Below.refl _ _).alloc (Nat.le_refl _) _⟩

set_option maxRecDepth 100000 in
set_option maxHeartbeats 1600000 in
theorem rForm_7 (n st it fl ui sz : Int) (tg tx : ByteArray) (P : Option Addr) (bl c : Nat) (w : World) (ht : tx.size ≤ 100000) :
    Calls Tryd.prog 14 #[.agg #[.int .i64 7, .int .u32 n, .string tg, .int .i64 st, .string tx, .int .i64 it, .int .u8 fl, .int .u32 ui, .int .u32 sz, .slice P bl c]] w fun e w' => e = .returned (.string (⟨#[42, 32, 66, 89, 69, 32]⟩ ++ tx ++ ⟨#[13, 10]⟩)) ∧ Below w.heap.size w w' := by
  go_enter Tryd.func14, Tryd.ntmps14
  go_wp2_with fail
  go_ret
  exact ⟨rfl, (Below.refl _ _).alloc (Nat.le_refl _) _⟩

set_option maxRecDepth 100000 in
set_option maxHeartbeats 1600000 in
theorem rForm_8 (n st it fl ui sz : Int) (tg tx : ByteArray) (P : Option Addr) (bl c : Nat) (w : World) (ht : tx.size ≤ 100000) :
    Calls Tryd.prog 14 #[.agg #[.int .i64 8, .int .u32 n, .string tg, .int .i64 st, .string tx, .int .i64 it, .int .u8 fl, .int .u32 ui, .int .u32 sz, .slice P bl c]] w fun e w' => e = .returned (.string (⟨#[42, 32, 66, 65, 68, 32]⟩ ++ tx ++ ⟨#[13, 10]⟩)) ∧ Below w.heap.size w w' := by
  go_enter Tryd.func14, Tryd.ntmps14
  go_wp2_with fail
  go_ret
  exact ⟨rfl, (Below.refl _ _).alloc (Nat.le_refl _) _⟩

set_option maxRecDepth 100000 in
set_option maxHeartbeats 1600000 in
theorem rForm_10 (n st it fl ui sz : Int) (tg tx : ByteArray) (P : Option Addr) (bl c : Nat) (w : World) (ht : tx.size ≤ 100000) :
    Calls Tryd.prog 14 #[.agg #[.int .i64 10, .int .u32 n, .string tg, .int .i64 st, .string tx, .int .i64 it, .int .u8 fl, .int .u32 ui, .int .u32 sz, .slice P bl c]] w fun e w' => e = .returned (.string (⟨#[43, 32]⟩ ++ tx ++ ⟨#[13, 10]⟩)) ∧ Below w.heap.size w w' := by
  go_enter Tryd.func14, Tryd.ntmps14
  go_wp2_with fail
  go_ret
  exact ⟨rfl, (Below.refl _ _).alloc (Nat.le_refl _) _⟩

set_option maxRecDepth 100000 in
set_option maxHeartbeats 1600000 in
theorem rForm_5 (n st it fl ui sz : Int) (tg tx : ByteArray) (P : Option Addr) (bl c : Nat) (w : World) :
    Calls Tryd.prog 14 #[.agg #[.int .i64 5, .int .u32 n, .string tg, .int .i64 st, .string tx, .int .i64 it, .int .u8 fl, .int .u32 ui, .int .u32 sz, .slice P bl c]] w fun e w' => e = .returned (.string (ofL ([42, 32, 70, 76, 65, 71, 83, 32] ++ listF 31 ++ [13, 10]))) ∧ Below w.heap.size w w' := by
  have HN := Lib.hid (fun W => rList_any 31 (by decide) W)
  have HE : Hid ((⟨#[42, 32, 70, 76, 65, 71, 83, 32]⟩ : ByteArray) ++ ofL (listF 31) ++ ⟨#[13, 10]⟩ = ofL ([42, 32, 70, 76, 65, 71, 83, 32] ++ listF 31 ++ [13, 10])) := Lib.hid (by
    rw [show (⟨#[42, 32, 70, 76, 65, 71, 83, 32]⟩ : ByteArray) = ofL [42, 32, 70, 76, 65, 71, 83, 32] from rfl, show (⟨#[13, 10]⟩ : ByteArray) = ofL [13, 10] from rfl, ofL_append, ofL_append])
  have hz1 : (ofL (listF 31)).size ≤ 60 := by have := listF_le 31 (by decide); rw [ofL_size]; omega
  generalize ofL ([42, 32, 70, 76, 65, 71, 83, 32] ++ listF 31 ++ [13, 10]) = res at *
  generalize ofL (listF 31) = dd at *
  go_enter Tryd.func14, Tryd.ntmps14
  go_wp2_with fail
  refine (HN.out _).mono ?_
  rintro e w1 ⟨rfl, rfl⟩
  go_wp2_with fail
  go_ret
  exact ⟨by rw [← HE.out]; rfl, (Below.refl _ _).alloc (Nat.le_refl _) _⟩

set_option maxRecDepth 100000 in
set_option maxHeartbeats 3200000 in
theorem rForm_9_0 (n it fl ui sz : Int) (tg tx : ByteArray) (P : Option Addr) (bl c : Nat) (w : World) (hg : tg.size ≤ 100000) (ht : tx.size ≤ 100000) :
    Calls Tryd.prog 14 #[.agg #[.int .i64 9, .int .u32 n, .string tg, .int .i64 0, .string tx, .int .i64 it, .int .u8 fl, .int .u32 ui, .int .u32 sz, .slice P bl c]] w fun e w' => e = .returned (.string (tg ++ ⟨#[32]⟩ ++ ⟨#[79, 75]⟩ ++ ⟨#[32]⟩ ++ tx ++ ⟨#[13, 10]⟩)) ∧ Below w.heap.size w w' := by
  have z1 : ¬ (9223372036854775807 < tg.size + 1) := by omega
  go_enter Tryd.func14, Tryd.ntmps14
  go_wp2_with fail
  go_region
  all_goals
    go_wp2_with fail
    go_ret
    refine ⟨rfl, ?_⟩
    (repeat (first | with_reducible refine Below.drew ?_ | with_reducible refine Below.setCell ?_ (by dsimp only; omega) _ | with_reducible refine Below.alloc ?_ (by simp) _))
    exact Below.refl _ _

set_option maxRecDepth 100000 in
set_option maxHeartbeats 3200000 in
theorem rForm_9_1 (n it fl ui sz : Int) (tg tx : ByteArray) (P : Option Addr) (bl c : Nat) (w : World) (hg : tg.size ≤ 100000) (ht : tx.size ≤ 100000) :
    Calls Tryd.prog 14 #[.agg #[.int .i64 9, .int .u32 n, .string tg, .int .i64 1, .string tx, .int .i64 it, .int .u8 fl, .int .u32 ui, .int .u32 sz, .slice P bl c]] w fun e w' => e = .returned (.string (tg ++ ⟨#[32]⟩ ++ ⟨#[78, 79]⟩ ++ ⟨#[32]⟩ ++ tx ++ ⟨#[13, 10]⟩)) ∧ Below w.heap.size w w' := by
  have z1 : ¬ (9223372036854775807 < tg.size + 1) := by omega
  go_enter Tryd.func14, Tryd.ntmps14
  go_wp2_with fail
  go_region
  all_goals
    go_wp2_with fail
    go_ret
    refine ⟨rfl, ?_⟩
    (repeat (first | with_reducible refine Below.drew ?_ | with_reducible refine Below.setCell ?_ (by dsimp only; omega) _ | with_reducible refine Below.alloc ?_ (by simp) _))
    exact Below.refl _ _

set_option maxRecDepth 100000 in
set_option maxHeartbeats 3200000 in
theorem rForm_9_2 (n it fl ui sz : Int) (tg tx : ByteArray) (P : Option Addr) (bl c : Nat) (w : World) (hg : tg.size ≤ 100000) (ht : tx.size ≤ 100000) :
    Calls Tryd.prog 14 #[.agg #[.int .i64 9, .int .u32 n, .string tg, .int .i64 2, .string tx, .int .i64 it, .int .u8 fl, .int .u32 ui, .int .u32 sz, .slice P bl c]] w fun e w' => e = .returned (.string (tg ++ ⟨#[32]⟩ ++ ⟨#[66, 65, 68]⟩ ++ ⟨#[32]⟩ ++ tx ++ ⟨#[13, 10]⟩)) ∧ Below w.heap.size w w' := by
  have z1 : ¬ (9223372036854775807 < tg.size + 1) := by omega
  go_enter Tryd.func14, Tryd.ntmps14
  go_wp2_with fail
  go_region
  all_goals
    go_wp2_with fail
    go_ret
    refine ⟨rfl, ?_⟩
    (repeat (first | with_reducible refine Below.drew ?_ | with_reducible refine Below.setCell ?_ (by dsimp only; omega) _ | with_reducible refine Below.alloc ?_ (by simp) _))
    exact Below.refl _ _

set_option maxRecDepth 100000 in
set_option maxHeartbeats 6400000 in
theorem rForm_4 (n : Nat) (st it fl ui sz : Int) (tg tx : ByteArray) (P : Option Addr) (bl c : Nat) (w : World) (hn : n < 4294967296) (js : ByteArray) (hjs : js.size ≤ 1000000)
    (hi : ∀ W, Below w.heap.size w W → Calls Tryd.prog 30 #[.agg #[.int .i64 4, .int .u32 n, .string tg, .int .i64 st, .string tx, .int .i64 it, .int .u8 fl, .int .u32 ui, .int .u32 sz, .slice P bl c]] W fun e w' => e = .returned (.string js) ∧ Below W.heap.size W w') :
    Calls Tryd.prog 14 #[.agg #[.int .i64 4, .int .u32 n, .string tg, .int .i64 st, .string tx, .int .i64 it, .int .u8 fl, .int .u32 ui, .int .u32 sz, .slice P bl c]] w fun e w' => e = .returned (.string ((⟨#[42, 32]⟩ : ByteArray) ++ ofL (Lib.decDigits n) ++ ⟨#[32, 70, 69, 84, 67, 72, 32, 40]⟩ ++ js ++ ⟨#[41]⟩ ++ ⟨#[13, 10]⟩)) ∧ Below w.heap.size w w' := by
  have HN := Lib.hid (fun W => rNum_any n W hn)
  have HI := Lib.hid hi
  clear hi
  have hz1 : (ofL (Lib.decDigits n)).size ≤ 10 := by exact decDigits_len n (by omega)
  generalize ofL (Lib.decDigits n) = dd at *
  go_enter Tryd.func14, Tryd.ntmps14
  go_wp2_with fail
  have HW0 := Lib.hid (w0_facts w #[.int .i64 4, .int .u32 n, .string tg, .int .i64 st, .string tx, .int .i64 it, .int .u8 fl, .int .u32 ui, .int .u32 sz, .slice P bl c])
  have hlt0 := HW0.out.2.2
  generalize w.alloc (.cells #[.int .i64 4, .int .u32 n, .string tg, .int .i64 st, .string tx, .int .i64 it, .int .u8 fl, .int .u32 ui, .int .u32 sz, .slice P bl c] 26) = w0 at *
  have hle0 := HW0.out.1.size
  refine wp_region_noPanic ?_
  refine wp_region_held_drew (S := (fun W => W.cell? ⟨w.heap.size, 0, none⟩ = some (.int .i64 4) ∧ W.cell? ⟨w.heap.size, 1, none⟩ = some (.int .u32 n) ∧ W.cell? ⟨w.heap.size, 2, none⟩ = some (.string tg) ∧ W.cell? ⟨w.heap.size, 3, none⟩ = some (.int .i64 st) ∧ W.cell? ⟨w.heap.size, 4, none⟩ = some (.string tx) ∧ W.cell? ⟨w.heap.size, 5, none⟩ = some (.int .i64 it) ∧ W.cell? ⟨w.heap.size, 6, none⟩ = some (.int .u8 fl) ∧ W.cell? ⟨w.heap.size, 7, none⟩ = some (.int .u32 ui) ∧ W.cell? ⟨w.heap.size, 8, none⟩ = some (.int .u32 sz) ∧ W.cell? ⟨w.heap.size, 9, none⟩ = some (.slice P bl c))) (by kernel_rfl) ?_ (fun hHeldA => ?_)
  · first | (dsimp only; ((refine ten_all (t := 26) ?_; (repeat (first | with_reducible refine Blk.drew ?_ | with_reducible refine Blk.past ?_ _ | with_reducible refine Blk.far3 ?_ (by omega) _)); first | with_reducible exact HE4.out.1 | with_reducible exact HW0.out.2.1))) | ((refine ten_all (t := 26) ?_; (repeat (first | with_reducible refine Blk.drew ?_ | with_reducible refine Blk.past ?_ _ | with_reducible refine Blk.far3 ?_ (by omega) _)); first | with_reducible exact HE4.out.1 | with_reducible exact HW0.out.2.1))
  refine wpAnyH_take (i := 0) (v := ?_) rfl (by kernel_rfl) (by kernel_rfl) (by kernel_rfl) (fun _ _ _ h => h) (Or.inl ⟨by rfl, ?_⟩) (by assumption) ?_
  rotate_left
  · intro w hSw
    try dsimp only at hSw
    go_simp
    try with_reducible rfl
  try simp only [List.getElem_toArray, List.getElem_cons_zero, List.getElem_cons_succ, Act.put, List.setIfInBounds_toArray, List.set_cons_zero, List.set_cons_succ]
  refine wpAnyH_take (i := 1) (v := ?_) rfl (by kernel_rfl) (by kernel_rfl) (by kernel_rfl) (fun _ _ _ h => h) (Or.inl ⟨by rfl, ?_⟩) (by assumption) ?_
  rotate_left
  · intro w hSw
    try dsimp only at hSw
    go_simp
    try with_reducible rfl
  try simp only [List.getElem_toArray, List.getElem_cons_zero, List.getElem_cons_succ, Act.put, List.setIfInBounds_toArray, List.set_cons_zero, List.set_cons_succ]
  refine wpAnyH_take (i := 5) (v := ?_) rfl (by kernel_rfl) (by kernel_rfl) (by kernel_rfl) (fun _ _ _ h => h) (Or.inl ⟨by rfl, ?_⟩) (by assumption) ?_
  rotate_left
  · intro w hSw
    try dsimp only at hSw
    go_simp
    try with_reducible rfl
  try simp only [List.getElem_toArray, List.getElem_cons_zero, List.getElem_cons_succ, Act.put, List.setIfInBounds_toArray, List.set_cons_zero, List.set_cons_succ]
  refine wpAnyH_ready (rs := [2]) (by kernel_rfl) (by simp) ?_
  refine AllReadyH.cons rfl (fun K hK => ?_) AllReadyH.nil
  try simp only [List.getElem_toArray, List.getElem_cons_zero, List.getElem_cons_succ]
  go_simp
  (first
      | (go_at_call 29; refine (HN.out _).mono ?_; rintro e w2 ⟨rfl, rfl⟩)
      | (go_at_call 30; refine (HI.out _ (Below.drew HW0.out.1)).mono ?_; rintro e w4 ⟨rfl, hb4⟩; have HE4 : Hid (Blk w4 w.heap.size 26 #[.int .i64 4, .int .u32 n, .string tg, .int .i64 st, .string tx, .int .i64 it, .int .u8 fl, .int .u32 ui, .int .u32 sz, .slice P bl c] ∧ Below w.heap.size w w4) := Lib.hid ⟨Blk.below HW0.out.2.1.drewd hb4 HW0.out.2.2, below_call (Below.drew HW0.out.1) hb4⟩; clear hb4))
  first | (with_reducible refine hK.out _ _ ?_ (fun hHeldB => ?_)) | (go_wp2_with fail; refine hK.out _ _ ?_ (fun hHeldB => ?_))
  · first | (dsimp only; ((refine ten_all (t := 26) ?_; (repeat (first | with_reducible refine Blk.drew ?_ | with_reducible refine Blk.past ?_ _ | with_reducible refine Blk.far3 ?_ (by omega) _)); first | with_reducible exact HE4.out.1 | with_reducible exact HW0.out.2.1))) | ((refine ten_all (t := 26) ?_; (repeat (first | with_reducible refine Blk.drew ?_ | with_reducible refine Blk.past ?_ _ | with_reducible refine Blk.far3 ?_ (by omega) _)); first | with_reducible exact HE4.out.1 | with_reducible exact HW0.out.2.1))
  clear hK K hHeldA
  try simp only [Act.put, List.setIfInBounds_toArray, List.set_cons_zero, List.set_cons_succ]
  refine wpAnyH_ready (rs := [3, 6]) (by kernel_rfl) (by simp) ?_
  refine AllReadyH.cons rfl (fun K hK => ?w1x3) (AllReadyH.cons rfl (fun K hK => ?w1x6) (AllReadyH.nil))
  case' w1x3 =>
    try simp only [List.getElem_toArray, List.getElem_cons_zero, List.getElem_cons_succ]
    go_simp
    first | (with_reducible refine hK.out _ _ ?_ (fun hHeldA => ?_)) | (go_wp2_with fail; refine hK.out _ _ ?_ (fun hHeldA => ?_))
    · first | (dsimp only; ((refine ten_all (t := 26) ?_; (repeat (first | with_reducible refine Blk.drew ?_ | with_reducible refine Blk.past ?_ _ | with_reducible refine Blk.far3 ?_ (by omega) _)); first | with_reducible exact HE4.out.1 | with_reducible exact HW0.out.2.1))) | ((refine ten_all (t := 26) ?_; (repeat (first | with_reducible refine Blk.drew ?_ | with_reducible refine Blk.past ?_ _ | with_reducible refine Blk.far3 ?_ (by omega) _)); first | with_reducible exact HE4.out.1 | with_reducible exact HW0.out.2.1))
    clear hK K hHeldB
    try simp only [Act.put, List.setIfInBounds_toArray, List.set_cons_zero, List.set_cons_succ]
    refine wpAnyH_ready (rs := [4, 6]) (by kernel_rfl) (by simp) ?_
    refine AllReadyH.cons rfl (fun K hK => ?w2x4) (AllReadyH.cons rfl (fun K hK => ?w2x6) (AllReadyH.nil))
    case' w2x4 =>
      try simp only [List.getElem_toArray, List.getElem_cons_zero, List.getElem_cons_succ]
      go_simp
      first | (with_reducible refine hK.out _ _ ?_ (fun hHeldB => ?_)) | (go_wp2_with fail; refine hK.out _ _ ?_ (fun hHeldB => ?_))
      · first | (dsimp only; ((refine ten_all (t := 26) ?_; (repeat (first | with_reducible refine Blk.drew ?_ | with_reducible refine Blk.past ?_ _ | with_reducible refine Blk.far3 ?_ (by omega) _)); first | with_reducible exact HE4.out.1 | with_reducible exact HW0.out.2.1))) | ((refine ten_all (t := 26) ?_; (repeat (first | with_reducible refine Blk.drew ?_ | with_reducible refine Blk.past ?_ _ | with_reducible refine Blk.far3 ?_ (by omega) _)); first | with_reducible exact HE4.out.1 | with_reducible exact HW0.out.2.1))
      clear hK K hHeldA
      try simp only [Act.put, List.setIfInBounds_toArray, List.set_cons_zero, List.set_cons_succ]
      refine wpAnyH_ready (rs := [6]) (by kernel_rfl) (by simp) ?_
      refine AllReadyH.cons rfl (fun K hK => ?_) AllReadyH.nil
      try simp only [List.getElem_toArray, List.getElem_cons_zero, List.getElem_cons_succ]
      go_simp
      (first
      | (go_at_call 29; refine (HN.out _).mono ?_; rintro e w2 ⟨rfl, rfl⟩)
      | (go_at_call 30; refine (HI.out _ (Below.drew HW0.out.1)).mono ?_; rintro e w4 ⟨rfl, hb4⟩; have HE4 : Hid (Blk w4 w.heap.size 26 #[.int .i64 4, .int .u32 n, .string tg, .int .i64 st, .string tx, .int .i64 it, .int .u8 fl, .int .u32 ui, .int .u32 sz, .slice P bl c] ∧ Below w.heap.size w w4) := Lib.hid ⟨Blk.below HW0.out.2.1.drewd hb4 HW0.out.2.2, below_call (Below.drew HW0.out.1) hb4⟩; clear hb4))
      first | (with_reducible refine hK.out _ _ ?_ (fun hHeldA => ?_)) | (go_wp2_with fail; refine hK.out _ _ ?_ (fun hHeldA => ?_))
      · first | (dsimp only; ((refine ten_all (t := 26) ?_; (repeat (first | with_reducible refine Blk.drew ?_ | with_reducible refine Blk.past ?_ _ | with_reducible refine Blk.far3 ?_ (by omega) _)); first | with_reducible exact HE4.out.1 | with_reducible exact HW0.out.2.1))) | ((refine ten_all (t := 26) ?_; (repeat (first | with_reducible refine Blk.drew ?_ | with_reducible refine Blk.past ?_ _ | with_reducible refine Blk.far3 ?_ (by omega) _)); first | with_reducible exact HE4.out.1 | with_reducible exact HW0.out.2.1))
      clear hK K hHeldB
      try simp only [Act.put, List.setIfInBounds_toArray, List.set_cons_zero, List.set_cons_succ]
      refine wpAnyH_ready (rs := [7]) (by kernel_rfl) (by simp) ?_
      refine AllReadyH.cons rfl (fun K hK => ?_) AllReadyH.nil
      try simp only [List.getElem_toArray, List.getElem_cons_zero, List.getElem_cons_succ]
      go_simp
      first | (with_reducible refine hK.out _ _ ?_ (fun hHeldB => ?_)) | (go_wp2_with fail; refine hK.out _ _ ?_ (fun hHeldB => ?_))
      · first | (dsimp only; ((refine ten_all (t := 26) ?_; (repeat (first | with_reducible refine Blk.drew ?_ | with_reducible refine Blk.past ?_ _ | with_reducible refine Blk.far3 ?_ (by omega) _)); first | with_reducible exact HE4.out.1 | with_reducible exact HW0.out.2.1))) | ((refine ten_all (t := 26) ?_; (repeat (first | with_reducible refine Blk.drew ?_ | with_reducible refine Blk.past ?_ _ | with_reducible refine Blk.far3 ?_ (by omega) _)); first | with_reducible exact HE4.out.1 | with_reducible exact HW0.out.2.1))
      clear hK K hHeldA
      try simp only [Act.put, List.setIfInBounds_toArray, List.set_cons_zero, List.set_cons_succ]
      refine wpAnyH_ready (rs := [8]) (by kernel_rfl) (by simp) ?_
      refine AllReadyH.cons rfl (fun K hK => ?_) AllReadyH.nil
      try simp only [List.getElem_toArray, List.getElem_cons_zero, List.getElem_cons_succ]
      go_simp
      first | (with_reducible refine hK.out _ _ ?_ (fun hHeldA => ?_)) | (go_wp2_with fail; refine hK.out _ _ ?_ (fun hHeldA => ?_))
      · first | (dsimp only; ((refine ten_all (t := 26) ?_; (repeat (first | with_reducible refine Blk.drew ?_ | with_reducible refine Blk.past ?_ _ | with_reducible refine Blk.far3 ?_ (by omega) _)); first | with_reducible exact HE4.out.1 | with_reducible exact HW0.out.2.1))) | ((refine ten_all (t := 26) ?_; (repeat (first | with_reducible refine Blk.drew ?_ | with_reducible refine Blk.past ?_ _ | with_reducible refine Blk.far3 ?_ (by omega) _)); first | with_reducible exact HE4.out.1 | with_reducible exact HW0.out.2.1))
      clear hK K hHeldB
      try simp only [Act.put, List.setIfInBounds_toArray, List.set_cons_zero, List.set_cons_succ]
      refine wpAnyH_take (i := 9) (v := ?_) rfl (by kernel_rfl) (by kernel_rfl) (by kernel_rfl) (fun _ _ _ h => h) (Or.inl ⟨by rfl, ?_⟩) (by assumption) ?_
      rotate_left
      · intro w hSw
        try dsimp only at hSw
        go_simp
        try with_reducible rfl
      try simp only [List.getElem_toArray, List.getElem_cons_zero, List.getElem_cons_succ, Act.put, List.setIfInBounds_toArray, List.set_cons_zero, List.set_cons_succ]
      refine wpAnyH_done (by kernel_rfl) ?_ _
      refine NoPanic.normal ?_
    case' w2x6 =>
      try simp only [List.getElem_toArray, List.getElem_cons_zero, List.getElem_cons_succ]
      go_simp
      (first
      | (go_at_call 29; refine (HN.out _).mono ?_; rintro e w2 ⟨rfl, rfl⟩)
      | (go_at_call 30; refine (HI.out _ (Below.drew HW0.out.1)).mono ?_; rintro e w4 ⟨rfl, hb4⟩; have HE4 : Hid (Blk w4 w.heap.size 26 #[.int .i64 4, .int .u32 n, .string tg, .int .i64 st, .string tx, .int .i64 it, .int .u8 fl, .int .u32 ui, .int .u32 sz, .slice P bl c] ∧ Below w.heap.size w w4) := Lib.hid ⟨Blk.below HW0.out.2.1.drewd hb4 HW0.out.2.2, below_call (Below.drew HW0.out.1) hb4⟩; clear hb4))
      first | (with_reducible refine hK.out _ _ ?_ (fun hHeldB => ?_)) | (go_wp2_with fail; refine hK.out _ _ ?_ (fun hHeldB => ?_))
      · first | (dsimp only; ((refine ten_all (t := 26) ?_; (repeat (first | with_reducible refine Blk.drew ?_ | with_reducible refine Blk.past ?_ _ | with_reducible refine Blk.far3 ?_ (by omega) _)); first | with_reducible exact HE4.out.1 | with_reducible exact HW0.out.2.1))) | ((refine ten_all (t := 26) ?_; (repeat (first | with_reducible refine Blk.drew ?_ | with_reducible refine Blk.past ?_ _ | with_reducible refine Blk.far3 ?_ (by omega) _)); first | with_reducible exact HE4.out.1 | with_reducible exact HW0.out.2.1))
      clear hK K hHeldA
      try simp only [Act.put, List.setIfInBounds_toArray, List.set_cons_zero, List.set_cons_succ]
      refine wpAnyH_ready (rs := [4]) (by kernel_rfl) (by simp) ?_
      refine AllReadyH.cons rfl (fun K hK => ?_) AllReadyH.nil
      try simp only [List.getElem_toArray, List.getElem_cons_zero, List.getElem_cons_succ]
      go_simp
      first | (with_reducible refine hK.out _ _ ?_ (fun hHeldA => ?_)) | (go_wp2_with fail; refine hK.out _ _ ?_ (fun hHeldA => ?_))
      · first | (dsimp only; ((refine ten_all (t := 26) ?_; (repeat (first | with_reducible refine Blk.drew ?_ | with_reducible refine Blk.past ?_ _ | with_reducible refine Blk.far3 ?_ (by omega) _)); first | with_reducible exact HE4.out.1 | with_reducible exact HW0.out.2.1))) | ((refine ten_all (t := 26) ?_; (repeat (first | with_reducible refine Blk.drew ?_ | with_reducible refine Blk.past ?_ _ | with_reducible refine Blk.far3 ?_ (by omega) _)); first | with_reducible exact HE4.out.1 | with_reducible exact HW0.out.2.1))
      clear hK K hHeldB
      try simp only [Act.put, List.setIfInBounds_toArray, List.set_cons_zero, List.set_cons_succ]
      refine wpAnyH_ready (rs := [7]) (by kernel_rfl) (by simp) ?_
      refine AllReadyH.cons rfl (fun K hK => ?_) AllReadyH.nil
      try simp only [List.getElem_toArray, List.getElem_cons_zero, List.getElem_cons_succ]
      go_simp
      first | (with_reducible refine hK.out _ _ ?_ (fun hHeldB => ?_)) | (go_wp2_with fail; refine hK.out _ _ ?_ (fun hHeldB => ?_))
      · first | (dsimp only; ((refine ten_all (t := 26) ?_; (repeat (first | with_reducible refine Blk.drew ?_ | with_reducible refine Blk.past ?_ _ | with_reducible refine Blk.far3 ?_ (by omega) _)); first | with_reducible exact HE4.out.1 | with_reducible exact HW0.out.2.1))) | ((refine ten_all (t := 26) ?_; (repeat (first | with_reducible refine Blk.drew ?_ | with_reducible refine Blk.past ?_ _ | with_reducible refine Blk.far3 ?_ (by omega) _)); first | with_reducible exact HE4.out.1 | with_reducible exact HW0.out.2.1))
      clear hK K hHeldA
      try simp only [Act.put, List.setIfInBounds_toArray, List.set_cons_zero, List.set_cons_succ]
      refine wpAnyH_ready (rs := [8]) (by kernel_rfl) (by simp) ?_
      refine AllReadyH.cons rfl (fun K hK => ?_) AllReadyH.nil
      try simp only [List.getElem_toArray, List.getElem_cons_zero, List.getElem_cons_succ]
      go_simp
      first | (with_reducible refine hK.out _ _ ?_ (fun hHeldA => ?_)) | (go_wp2_with fail; refine hK.out _ _ ?_ (fun hHeldA => ?_))
      · first | (dsimp only; ((refine ten_all (t := 26) ?_; (repeat (first | with_reducible refine Blk.drew ?_ | with_reducible refine Blk.past ?_ _ | with_reducible refine Blk.far3 ?_ (by omega) _)); first | with_reducible exact HE4.out.1 | with_reducible exact HW0.out.2.1))) | ((refine ten_all (t := 26) ?_; (repeat (first | with_reducible refine Blk.drew ?_ | with_reducible refine Blk.past ?_ _ | with_reducible refine Blk.far3 ?_ (by omega) _)); first | with_reducible exact HE4.out.1 | with_reducible exact HW0.out.2.1))
      clear hK K hHeldB
      try simp only [Act.put, List.setIfInBounds_toArray, List.set_cons_zero, List.set_cons_succ]
      refine wpAnyH_take (i := 9) (v := ?_) rfl (by kernel_rfl) (by kernel_rfl) (by kernel_rfl) (fun _ _ _ h => h) (Or.inl ⟨by rfl, ?_⟩) (by assumption) ?_
      rotate_left
      · intro w hSw
        try dsimp only at hSw
        go_simp
        try with_reducible rfl
      try simp only [List.getElem_toArray, List.getElem_cons_zero, List.getElem_cons_succ, Act.put, List.setIfInBounds_toArray, List.set_cons_zero, List.set_cons_succ]
      refine wpAnyH_done (by kernel_rfl) ?_ _
      refine NoPanic.normal ?_
  case' w1x6 =>
    try simp only [List.getElem_toArray, List.getElem_cons_zero, List.getElem_cons_succ]
    go_simp
    (first
      | (go_at_call 29; refine (HN.out _).mono ?_; rintro e w2 ⟨rfl, rfl⟩)
      | (go_at_call 30; refine (HI.out _ (Below.drew HW0.out.1)).mono ?_; rintro e w4 ⟨rfl, hb4⟩; have HE4 : Hid (Blk w4 w.heap.size 26 #[.int .i64 4, .int .u32 n, .string tg, .int .i64 st, .string tx, .int .i64 it, .int .u8 fl, .int .u32 ui, .int .u32 sz, .slice P bl c] ∧ Below w.heap.size w w4) := Lib.hid ⟨Blk.below HW0.out.2.1.drewd hb4 HW0.out.2.2, below_call (Below.drew HW0.out.1) hb4⟩; clear hb4))
    first | (with_reducible refine hK.out _ _ ?_ (fun hHeldA => ?_)) | (go_wp2_with fail; refine hK.out _ _ ?_ (fun hHeldA => ?_))
    · first | (dsimp only; ((refine ten_all (t := 26) ?_; (repeat (first | with_reducible refine Blk.drew ?_ | with_reducible refine Blk.past ?_ _ | with_reducible refine Blk.far3 ?_ (by omega) _)); first | with_reducible exact HE4.out.1 | with_reducible exact HW0.out.2.1))) | ((refine ten_all (t := 26) ?_; (repeat (first | with_reducible refine Blk.drew ?_ | with_reducible refine Blk.past ?_ _ | with_reducible refine Blk.far3 ?_ (by omega) _)); first | with_reducible exact HE4.out.1 | with_reducible exact HW0.out.2.1))
    clear hK K hHeldB
    try simp only [Act.put, List.setIfInBounds_toArray, List.set_cons_zero, List.set_cons_succ]
    refine wpAnyH_ready (rs := [3]) (by kernel_rfl) (by simp) ?_
    refine AllReadyH.cons rfl (fun K hK => ?_) AllReadyH.nil
    try simp only [List.getElem_toArray, List.getElem_cons_zero, List.getElem_cons_succ]
    go_simp
    first | (with_reducible refine hK.out _ _ ?_ (fun hHeldB => ?_)) | (go_wp2_with fail; refine hK.out _ _ ?_ (fun hHeldB => ?_))
    · first | (dsimp only; ((refine ten_all (t := 26) ?_; (repeat (first | with_reducible refine Blk.drew ?_ | with_reducible refine Blk.past ?_ _ | with_reducible refine Blk.far3 ?_ (by omega) _)); first | with_reducible exact HE4.out.1 | with_reducible exact HW0.out.2.1))) | ((refine ten_all (t := 26) ?_; (repeat (first | with_reducible refine Blk.drew ?_ | with_reducible refine Blk.past ?_ _ | with_reducible refine Blk.far3 ?_ (by omega) _)); first | with_reducible exact HE4.out.1 | with_reducible exact HW0.out.2.1))
    clear hK K hHeldA
    try simp only [Act.put, List.setIfInBounds_toArray, List.set_cons_zero, List.set_cons_succ]
    refine wpAnyH_ready (rs := [4]) (by kernel_rfl) (by simp) ?_
    refine AllReadyH.cons rfl (fun K hK => ?_) AllReadyH.nil
    try simp only [List.getElem_toArray, List.getElem_cons_zero, List.getElem_cons_succ]
    go_simp
    first | (with_reducible refine hK.out _ _ ?_ (fun hHeldA => ?_)) | (go_wp2_with fail; refine hK.out _ _ ?_ (fun hHeldA => ?_))
    · first | (dsimp only; ((refine ten_all (t := 26) ?_; (repeat (first | with_reducible refine Blk.drew ?_ | with_reducible refine Blk.past ?_ _ | with_reducible refine Blk.far3 ?_ (by omega) _)); first | with_reducible exact HE4.out.1 | with_reducible exact HW0.out.2.1))) | ((refine ten_all (t := 26) ?_; (repeat (first | with_reducible refine Blk.drew ?_ | with_reducible refine Blk.past ?_ _ | with_reducible refine Blk.far3 ?_ (by omega) _)); first | with_reducible exact HE4.out.1 | with_reducible exact HW0.out.2.1))
    clear hK K hHeldB
    try simp only [Act.put, List.setIfInBounds_toArray, List.set_cons_zero, List.set_cons_succ]
    refine wpAnyH_ready (rs := [7]) (by kernel_rfl) (by simp) ?_
    refine AllReadyH.cons rfl (fun K hK => ?_) AllReadyH.nil
    try simp only [List.getElem_toArray, List.getElem_cons_zero, List.getElem_cons_succ]
    go_simp
    first | (with_reducible refine hK.out _ _ ?_ (fun hHeldB => ?_)) | (go_wp2_with fail; refine hK.out _ _ ?_ (fun hHeldB => ?_))
    · first | (dsimp only; ((refine ten_all (t := 26) ?_; (repeat (first | with_reducible refine Blk.drew ?_ | with_reducible refine Blk.past ?_ _ | with_reducible refine Blk.far3 ?_ (by omega) _)); first | with_reducible exact HE4.out.1 | with_reducible exact HW0.out.2.1))) | ((refine ten_all (t := 26) ?_; (repeat (first | with_reducible refine Blk.drew ?_ | with_reducible refine Blk.past ?_ _ | with_reducible refine Blk.far3 ?_ (by omega) _)); first | with_reducible exact HE4.out.1 | with_reducible exact HW0.out.2.1))
    clear hK K hHeldA
    try simp only [Act.put, List.setIfInBounds_toArray, List.set_cons_zero, List.set_cons_succ]
    refine wpAnyH_ready (rs := [8]) (by kernel_rfl) (by simp) ?_
    refine AllReadyH.cons rfl (fun K hK => ?_) AllReadyH.nil
    try simp only [List.getElem_toArray, List.getElem_cons_zero, List.getElem_cons_succ]
    go_simp
    first | (with_reducible refine hK.out _ _ ?_ (fun hHeldA => ?_)) | (go_wp2_with fail; refine hK.out _ _ ?_ (fun hHeldA => ?_))
    · first | (dsimp only; ((refine ten_all (t := 26) ?_; (repeat (first | with_reducible refine Blk.drew ?_ | with_reducible refine Blk.past ?_ _ | with_reducible refine Blk.far3 ?_ (by omega) _)); first | with_reducible exact HE4.out.1 | with_reducible exact HW0.out.2.1))) | ((refine ten_all (t := 26) ?_; (repeat (first | with_reducible refine Blk.drew ?_ | with_reducible refine Blk.past ?_ _ | with_reducible refine Blk.far3 ?_ (by omega) _)); first | with_reducible exact HE4.out.1 | with_reducible exact HW0.out.2.1))
    clear hK K hHeldB
    try simp only [Act.put, List.setIfInBounds_toArray, List.set_cons_zero, List.set_cons_succ]
    refine wpAnyH_take (i := 9) (v := ?_) rfl (by kernel_rfl) (by kernel_rfl) (by kernel_rfl) (fun _ _ _ h => h) (Or.inl ⟨by rfl, ?_⟩) (by assumption) ?_
    rotate_left
    · intro w hSw
      try dsimp only at hSw
      go_simp
      try with_reducible rfl
    try simp only [List.getElem_toArray, List.getElem_cons_zero, List.getElem_cons_succ, Act.put, List.setIfInBounds_toArray, List.set_cons_zero, List.set_cons_succ]
    refine wpAnyH_done (by kernel_rfl) ?_ _
    refine NoPanic.normal ?_
  all_goals
    go_wp2_with fail
    go_ret
    exact ⟨rfl, HE4.out.2⟩
end Go.Proofs.YtgdhakkfddmkjaaDoor
namespace Go.Proofs.YtgdhakkfddmkjaaDoor
open Go.RowKit

set_option maxRecDepth 100000 in
set_option maxHeartbeats 6400000 in
theorem rSame_any (k n st it fl ui sz : Int) (tg tx : ByteArray) (P : Option Addr) (c : Nat) (l : List UInt8) (k' n' st' it' fl' ui' sz' : Int) (tg' tx' : ByteArray) (P' : Option Addr) (c' : Nat) (l' : List UInt8) (w : World) (hb : Bys w w.heap.size P l) (hb' : Bys w w.heap.size P' l') (hl : l.length ≤ 1048576) (hl' : l'.length ≤ 1048576) :
    Calls Tryd.prog 15 #[.agg #[.int .i64 k, .int .u32 n, .string tg, .int .i64 st, .string tx, .int .i64 it, .int .u8 fl, .int .u32 ui, .int .u32 sz, .slice P l.length c], .agg #[.int .i64 k', .int .u32 n', .string tg', .int .i64 st', .string tx', .int .i64 it', .int .u8 fl', .int .u32 ui', .int .u32 sz', .slice P' l'.length c']] w fun e w' => e = .returned (.bool (sameF k n st it fl ui sz tg tx l k' n' st' it' fl' ui' sz' tg' tx' l')) ∧ Below w.heap.size w w' := by
  have HC1 : Hid (∀ W, Below w.heap.size w W → (convert 24 9 (.slice P l.length c)).run Tryd.prog W = .ok (.string (ofL l)) W) := Lib.hid (fun W hW => conv_bys (hb.below hW) c Tryd.underlying24 Tryd.underlying5 Tryd.underlying9)
  have HC2 : Hid (∀ W, Below w.heap.size w W → (convert 24 9 (.slice P' l'.length c')).run Tryd.prog W = .ok (.string (ofL l')) W) := Lib.hid (fun W hW => conv_bys (hb'.below hW) c' Tryd.underlying24 Tryd.underlying5 Tryd.underlying9)
  have HLE : decide (l = l') = decide (ofL l = ofL l') := by
    by_cases h : l = l'
    · rw [h]; simp
    · rw [decide_eq_false h, decide_eq_false (fun e => h (by rw [← ofL_data l, e, ofL_data]))]
  unfold sameF
  rw [HLE]
  clear HLE
  generalize ofL l = bs at *
  generalize ofL l' = bs' at *
  generalize l.length = bl at *
  generalize l'.length = bl' at *
  clear hb hb' hl hl'
  by_cases h0 : k = k'
  rotate_left
  · rw [decide_eq_false h0]
    have hd := int_ne h0
    clear h0 HC1 HC2
    simp only [Bool.false_and, Bool.and_false]
    go_enter Tryd.func15, Tryd.ntmps15
    go_wp2_with fail
    go_ret
    exact ⟨rfl, (((Below.refl _ _).alloc (Nat.le_refl _) _).alloc (by rw [World.size_alloc]; omega) _)⟩
  subst h0
  rw [show decide (k = k) = true from decide_eq_true rfl, Bool.true_and]
  by_cases h1 : n = n'
  rotate_left
  · rw [decide_eq_false h1]
    have hd := int_ne h1
    clear h1 HC1 HC2
    simp only [Bool.false_and, Bool.and_false]
    go_enter Tryd.func15, Tryd.ntmps15
    go_wp2_with fail
    go_ret
    exact ⟨rfl, (((Below.refl _ _).alloc (Nat.le_refl _) _).alloc (by rw [World.size_alloc]; omega) _)⟩
  subst h1
  rw [show decide (n = n) = true from decide_eq_true rfl, Bool.true_and]
  by_cases h2 : tg = tg'
  rotate_left
  · rw [decide_eq_false h2]
    have hd := ba_ne h2
    clear h2 HC1 HC2
    simp only [Bool.false_and, Bool.and_false]
    go_enter Tryd.func15, Tryd.ntmps15
    go_wp2_with fail
    go_ret
    exact ⟨rfl, (((Below.refl _ _).alloc (Nat.le_refl _) _).alloc (by rw [World.size_alloc]; omega) _)⟩
  subst h2
  rw [show decide (tg = tg) = true from decide_eq_true rfl, Bool.true_and]
  by_cases h3 : st = st'
  rotate_left
  · rw [decide_eq_false h3]
    have hd := int_ne h3
    clear h3 HC1 HC2
    simp only [Bool.false_and, Bool.and_false]
    go_enter Tryd.func15, Tryd.ntmps15
    go_wp2_with fail
    go_ret
    exact ⟨rfl, (((Below.refl _ _).alloc (Nat.le_refl _) _).alloc (by rw [World.size_alloc]; omega) _)⟩
  subst h3
  rw [show decide (st = st) = true from decide_eq_true rfl, Bool.true_and]
  by_cases h4 : tx = tx'
  rotate_left
  · rw [decide_eq_false h4]
    have hd := ba_ne h4
    clear h4 HC1 HC2
    simp only [Bool.false_and, Bool.and_false]
    go_enter Tryd.func15, Tryd.ntmps15
    go_wp2_with fail
    go_ret
    exact ⟨rfl, (((Below.refl _ _).alloc (Nat.le_refl _) _).alloc (by rw [World.size_alloc]; omega) _)⟩
  subst h4
  rw [show decide (tx = tx) = true from decide_eq_true rfl, Bool.true_and]
  by_cases h5 : it = it'
  rotate_left
  · rw [decide_eq_false h5]
    have hd := int_ne h5
    clear h5 HC1 HC2
    simp only [Bool.false_and, Bool.and_false]
    go_enter Tryd.func15, Tryd.ntmps15
    go_wp2_with fail
    go_ret
    exact ⟨rfl, (((Below.refl _ _).alloc (Nat.le_refl _) _).alloc (by rw [World.size_alloc]; omega) _)⟩
  subst h5
  rw [show decide (it = it) = true from decide_eq_true rfl, Bool.true_and]
  by_cases h6 : fl = fl'
  rotate_left
  · rw [decide_eq_false h6]
    have hd := int_ne h6
    clear h6 HC1 HC2
    simp only [Bool.false_and, Bool.and_false]
    go_enter Tryd.func15, Tryd.ntmps15
    go_wp2_with fail
    go_ret
    exact ⟨rfl, (((Below.refl _ _).alloc (Nat.le_refl _) _).alloc (by rw [World.size_alloc]; omega) _)⟩
  subst h6
  rw [show decide (fl = fl) = true from decide_eq_true rfl, Bool.true_and]
  by_cases h7 : ui = ui'
  rotate_left
  · rw [decide_eq_false h7]
    have hd := int_ne h7
    clear h7 HC1 HC2
    simp only [Bool.false_and, Bool.and_false]
    go_enter Tryd.func15, Tryd.ntmps15
    go_wp2_with fail
    go_ret
    exact ⟨rfl, (((Below.refl _ _).alloc (Nat.le_refl _) _).alloc (by rw [World.size_alloc]; omega) _)⟩
  subst h7
  rw [show decide (ui = ui) = true from decide_eq_true rfl, Bool.true_and]
  by_cases h8 : sz = sz'
  rotate_left
  · rw [decide_eq_false h8]
    have hd := int_ne h8
    clear h8 HC1 HC2
    simp only [Bool.false_and, Bool.and_false]
    go_enter Tryd.func15, Tryd.ntmps15
    go_wp2_with fail
    go_ret
    exact ⟨rfl, (((Below.refl _ _).alloc (Nat.le_refl _) _).alloc (by rw [World.size_alloc]; omega) _)⟩
  subst h8
  rw [show decide (sz = sz) = true from decide_eq_true rfl, Bool.true_and]
  have hw2 : Below w.heap.size w ((w.alloc (.cells #[.int .i64 k, .int .u32 n, .string tg, .int .i64 st, .string tx, .int .i64 it, .int .u8 fl, .int .u32 ui, .int .u32 sz, .slice P bl c] 26)).alloc (.cells #[.int .i64 k, .int .u32 n, .string tg, .int .i64 st, .string tx, .int .i64 it, .int .u8 fl, .int .u32 ui, .int .u32 sz, .slice P' bl' c'] 26)) := ((Below.refl _ _).alloc (Nat.le_refl _) _).alloc (by rw [World.size_alloc]; omega) _
  have hc1 := HC1.out _ hw2
  have hc2 := HC2.out _ hw2
  clear hw2
  by_cases h9 : bs = bs'
  · rw [decide_eq_true h9]
    subst h9
    clear HC1 HC2
    go_enter Tryd.func15, Tryd.ntmps15
    go_wp2_with fail
    go_ret
    exact ⟨rfl, (((Below.refl _ _).alloc (Nat.le_refl _) _).alloc (by rw [World.size_alloc]; omega) _)⟩
  · rw [decide_eq_false h9]
    have hd := ba_ne h9
    clear h9 HC1 HC2
    go_enter Tryd.func15, Tryd.ntmps15
    go_wp2_with fail
    go_ret
    exact ⟨rfl, (((Below.refl _ _).alloc (Nat.le_refl _) _).alloc (by rw [World.size_alloc]; omega) _)⟩
end Go.Proofs.YtgdhakkfddmkjaaDoor
