/- The walk of the law RespMakes. -/
import Derived.Test.YtgdhakkfddmkjaaDoorJ13
import Derived.Test.YtgdhakkfddmkjaaDoorMake
import Derived.Test.YtgdhakkfddmkjaaDoorLawResp3
set_option linter.unusedVariables false
set_option linter.unusedSimpArgs false
namespace Go.Proofs.YtgdhakkfddmkjaaDoor
open Go.RowKit

theorem same_refl (k n st it fl ui sz : Int) (tg tx : ByteArray) (w : World) :
    Calls Tryd.prog 15 #[.agg #[.int .i64 k, .int .u32 n, .string tg, .int .i64 st, .string tx, .int .i64 it, .int .u8 fl, .int .u32 ui, .int .u32 sz, .slice none 0 0], .agg #[.int .i64 k, .int .u32 n, .string tg, .int .i64 st, .string tx, .int .i64 it, .int .u8 fl, .int .u32 ui, .int .u32 sz, .slice none 0 0]] w fun e w' => e = .returned (.bool true) ∧ Below w.heap.size w w' := by
  have h := rSame_any k n st it fl ui sz tg tx none 0 [] k n st it fl ui sz tg tx none 0 [] w (Bys.nil _ _ _) (Bys.nil _ _ _) (by decide) (by decide)
  rw [show sameF k n st it fl ui sz tg tx [] k n st it fl ui sz tg tx [] = true by simp [sameF]] at h
  exact h

set_option maxRecDepth 100000 in
set_option maxHeartbeats 1600000 in
theorem makes_core (k n : Int) (tg tx : ByteArray) (w : World) (hn : 0 ≤ n) (hn2 : n < 4294967296) (ht : tg.size ≤ 9223372036854775807) (hx : tx.size ≤ 9223372036854775807)
    (hal : ∀ W, Below w.heap.size w W → Calls Tryd.prog 10 #[] W fun e w' => e = .returned (.bool true) ∧ Below W.heap.size W w') :
    Calls Tryd.prog 6 #[.int .i64 k, .int .u32 n, .agg #[.string tg, .string tx]] w fun e w' => e = .returned (.bool true) ∧ Below w.heap.size w w' := by
  have HAL := Lib.hid hal
  have HC := Lib.hid (fun W => count_any k n W hn hn2)
  have HR := Lib.hid (fun W => reply_any k tg tx W)
  have HS1 := Lib.hid (fun W => same_refl k n 0 0 0 0 0 ⟨#[]⟩ ⟨#[]⟩ W)
  have HS2 := Lib.hid (fun W => same_refl 9 0 k 0 0 0 0 tg tx W)
  have hw : IntKind.i64.wrap n = n := IntWalk.i64_in _ (by omega)
  have HW0 : Hid (Below w.heap.size w (w.alloc (.cells #[.string tg, .string tx] 40))) := Lib.hid ((Below.refl _ _).alloc (Nat.le_refl _) _)
  have d0 : (w.alloc (.cells #[.string tg, .string tx] 40)).cell? ⟨w.heap.size, 0, none⟩ = some (.string tg) := by
    have := Blk.made w 40 #[.string tg, .string tx]
    rw [this.cell]; rfl
  have d1 : (w.alloc (.cells #[.string tg, .string tx] 40)).cell? ⟨w.heap.size, 1, none⟩ = some (.string tx) := by
    have := Blk.made w 40 #[.string tg, .string tx]
    rw [this.cell]; rfl
  clear hal hn hn2
  go_enter Tryd.func6, Tryd.ntmps6
  go_wp2_with fail
  generalize w.alloc (.cells #[.string tg, .string tx] 40) = w0 at *
  go_quiet (fail)
  go_wp2_with fail
  all_goals
    refine (HAL.out _ (below_drewN HW0.out nq)).mono ?_
    rintro e w1 ⟨rfl, hb1⟩
    have H1 := Lib.hid (below_call (below_drewN HW0.out nq) hb1)
    clear hb1
    go_wp2_with fail
    first
    | (go_ret
       exact ⟨rfl, H1.out⟩)
    | (refine (HC.out _).mono ?_
       rintro e w2 ⟨rfl, hb2⟩
       have H2 := Lib.hid (below_call H1.out hb2)
       clear hb2
       unfold cntA
       go_wp2_with fail
       refine (HS1.out _).mono ?_
       rintro e w3 ⟨rfl, hb3⟩
       have H3 := Lib.hid (below_call H2.out hb3)
       clear hb3
       go_wp2_with fail
       refine (HR.out _).mono ?_
       rintro e w4 ⟨rfl, hb4⟩
       have H4 := Lib.hid (below_call H3.out hb4)
       clear hb4
       unfold repA
       go_wp2_with fail
       refine (HS2.out _).mono ?_
       rintro e w5 ⟨rfl, hb5⟩
       have H5 := Lib.hid (below_call H4.out hb5)
       clear hb5
       go_wp2_with fail
       go_ret
       exact ⟨rfl, H5.out⟩)
end Go.Proofs.YtgdhakkfddmkjaaDoor
