/- The walk of the law QuoteAnnounces. -/
import Derived.Test.YthoccgkkgnlbpaaDoorAlv
namespace Go.Proofs.YthoccgkkgnlbpaaDoor
open Go.RowKit

set_option maxRecDepth 100000 in
set_option maxHeartbeats 800000 in
theorem quoteAnnounces_walk (p : Option Addr) (cap : Nat) (l : List UInt8) (w : World) (h : Bys w w.heap.size p l) (hcap : l.length ≤ cap) (hS : Std w) :
    Calls Tryd.prog 3 #[.slice p l.length cap] w fun e w' => e = .returned (.bool true) ∧ Below w.heap.size w w' := by
  by_cases hl : l.length ≤ 1000
  · have H1 := Lib.hid (announced_any p cap l w h (by omega) hcap hS)
    have H2 := Lib.hid (fun (w1 : World) (hb : Below w.heap.size w w1) => rAnnounced_any p cap l w1 ((h.below hb).more hb.size) (by omega) hcap)
    have H3 := Lib.hid (fun (w1 : World) (hb : Below w.heap.size w w1) => alive04_walk w1 (hS.below hb))
    rw [ann_eq] at H1
    have hn : (l.length : Int) ≤ 1000 := by omega
    generalize annR l = o at H1 H2
    generalize l.length = n at *
    clear h hS hl hcap
    cases o
    all_goals
      simp only [annV_none, annV_some] at H1 H2
      go_enter Tryd.func3, Tryd.ntmps3
      go_wp2_with fail
      refine H1.out.mono ?_
      rintro e w1 ⟨rfl, hb1⟩
      go_wp2_with fail
      refine (H2.out _ hb1).mono ?_
      rintro e w2 ⟨rfl, rfl⟩
      go_wp2_with fail
      refine (H3.out _ hb1).mono ?_
      rintro e w3 ⟨rfl, hb3⟩
      have hb4 := hb1.trans (hb3.mono hb1.size)
      go_wp2_with fail
      go_ret
      exact ⟨rfl, hb4⟩
  · have H3 := Lib.hid (alive04_walk w hS)
    have hn : 1000 < (l.length : Int) := by omega
    generalize l.length = n at *
    clear h hS hl hcap
    go_enter Tryd.func3, Tryd.ntmps3
    go_wp2_with fail
    refine H3.out.mono ?_
    rintro e w3 ⟨rfl, hb3⟩
    go_wp2_with fail
    go_ret
    exact ⟨rfl, hb3⟩
end Go.Proofs.YthoccgkkgnlbpaaDoor
