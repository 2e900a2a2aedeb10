/- The walk of the law QuoteScans. -/
import Derived.Test.YthoccgkkgnlbpaaDoorScan5
import Derived.Test.YthoccgkkgnlbpaaDoorRScan2
namespace Go.Proofs.YthoccgkkgnlbpaaDoor
open Go.RowKit

set_option maxRecDepth 100000 in
set_option maxHeartbeats 3200000 in
theorem quoteScans_walk (p : Option Addr) (cap : Nat) (l : List UInt8) (a : Int) (w : World) (h : Bys w w.heap.size p l) (hcap : l.length ≤ cap) (hS : Std w) :
    Calls Tryd.prog 6 #[.slice p l.length cap, .int .i64 a] w fun e w' => e = .returned (.bool true) ∧ Below w.heap.size w w' := by
  by_cases hl : l.length ≤ 1000
  · have hb1 : ∀ w1, Below w.heap.size w w1 → Bys w1 w1.heap.size p l := fun w1 hw => (h.below hw).more hw.size
    have H1 := Lib.hid (fun w1 (hw : Below w.heap.size w w1) => scanQuoted_any p l cap a w1 (hb1 w1 hw) (by omega))
    have H2 := Lib.hid (fun w1 (hw : Below w.heap.size w w1) => rScanQuoted_any p l cap a w1 (hb1 w1 hw) (by omega))
    have H3 := Lib.hid (fun w1 (hw : Below w.heap.size w w1) => scanLiteral_any p l cap a w1 (hb1 w1 hw) (by omega) hcap (hS.below hw))
    have H4 := Lib.hid (fun w1 (hw : Below w.heap.size w w1) => rScanLiteral_any p l cap a w1 (hb1 w1 hw) (by omega) hcap)
    have H5 := Lib.hid (fun w1 (hw : Below w.heap.size w w1) => alive04_walk w1 (hS.below hw))
    have l1 := scanQ_len l a
    have l2 := scanL_len l a
    generalize scanQ l a = q1 at *
    generalize scanL l a = q2 at *
    have E := Lib.hid (fun (p1 p2 : Option Addr) (c1 c2 : Nat) (w1 : World) (h1 : Bys w1 w1.heap.size p1 (rdM q1)) (h2 : Bys w1 w1.heap.size p2 (rdM q1)) => equal_any p1 p2 c1 c2 (rdM q1) (rdM q1) w1 _ _ h1 h2 (by omega) (by omega))
    have E2 := Lib.hid (fun (p1 p2 : Option Addr) (c1 c2 : Nat) (w1 : World) (h1 : Bys w1 w1.heap.size p1 (rdM q2)) (h2 : Bys w1 w1.heap.size p2 (rdM q2)) => equal_any p1 p2 c1 c2 (rdM q2) (rdM q2) w1 _ _ h1 h2 (by omega) (by omega))
    rw [decide_eq_true (rfl : rdM q1 = rdM q1)] at E
    rw [decide_eq_true (rfl : rdM q2 = rdM q2)] at E2
    have hl2 : (l.length : Int) ≤ 1000 := by omega
    clear hS h hb1
    generalize l.length = n at *
    go_enter Tryd.func6, Tryd.ntmps6
    go_wp2_with fail
    refine (H1.out _ (Below.refl _ _)).mono ?_
    rintro e w1 hr1
    obtain ⟨p1, c1, rfl, -, y1, b1⟩ := hr1.parts
    have HB1 := Lib.hid b1
    have Y1 := Lib.hid y1
    clear hr1 b1 y1
    go_wp2_with fail
    refine (H2.out _ HB1.out).mono ?_
    rintro e w2 hr2
    obtain ⟨p2, c2, rfl, -, y2, b2⟩ := hr2.parts
    have HB2 := Lib.hid (HB1.out.trans (b2.mono HB1.out.size))
    have Y2 := Lib.hid (And.intro ((Y1.out.below b2).more b2.size) y2)
    clear hr2 b2 y2
    go_wp2_with fail
    refine (H3.out _ HB2.out).mono ?_
    rintro e w3 hr3
    obtain ⟨p3, c3, rfl, -, y3, b3⟩ := hr3.parts
    have HB3 := Lib.hid (HB2.out.trans (b3.mono HB2.out.size))
    have Y3 := Lib.hid (And.intro ((Y2.out.1.below b3).more b3.size) (And.intro ((Y2.out.2.below b3).more b3.size) y3))
    clear hr3 b3 y3
    go_wp2_with fail
    refine (H4.out _ HB3.out).mono ?_
    rintro e w4 hr4
    obtain ⟨p4, c4, rfl, -, y4, b4⟩ := hr4.parts
    have HB4 := Lib.hid (HB3.out.trans (b4.mono HB3.out.size))
    have Y4 := Lib.hid (And.intro ((Y3.out.1.below b4).more b4.size) (And.intro ((Y3.out.2.1.below b4).more b4.size) (And.intro ((Y3.out.2.2.below b4).more b4.size) y4)))
    clear hr4 b4 y4
    go_wp2_with fail
    refine (H5.out _ HB4.out).mono ?_
    rintro e w5 ⟨rfl, b5⟩
    have HB5 := Lib.hid (HB4.out.trans (b5.mono HB4.out.size))
    have Y5 := Lib.hid (And.intro ((Y4.out.1.below b5).more b5.size) (And.intro ((Y4.out.2.1.below b5).more b5.size) (And.intro ((Y4.out.2.2.1.below b5).more b5.size) ((Y4.out.2.2.2.below b5).more b5.size))))
    clear b5
    go_wp2_with fail
    refine (E.out p1 p2 c1 c2 w5 Y5.out.1 Y5.out.2.1).mono ?_
    rintro e w6 ⟨rfl, b6⟩
    have HB6 := Lib.hid (HB5.out.trans (b6.mono HB5.out.size))
    have Y6 := Lib.hid (And.intro ((Y5.out.2.2.1.below b6).more b6.size) ((Y5.out.2.2.2.below b6).more b6.size))
    clear b6
    go_wp2_with fail
    refine (E2.out p3 p4 c3 c4 w6 Y6.out.1 Y6.out.2).mono ?_
    rintro e w7 ⟨rfl, b7⟩
    have HB7 := Lib.hid (HB6.out.trans (b7.mono HB6.out.size))
    clear b7
    go_wp2_with fail
    go_ret
    exact ⟨rfl, HB7.out⟩
  · have HA := Lib.hid (alive04_walk w hS)
    have hl2 : 1000 < (l.length : Int) := by omega
    clear hS h hcap
    generalize l.length = n at *
    go_enter Tryd.func6, Tryd.ntmps6
    go_wp2_with fail
    refine HA.out.mono ?_
    rintro e w1 ⟨rfl, hb⟩
    have HB := Lib.hid hb
    clear hb
    go_wp2_with fail
    go_ret
    exact ⟨rfl, HB.out⟩
end Go.Proofs.YthoccgkkgnlbpaaDoor
