/- The walks of the scanner of package quote. -/
import Derived.Test.YthoccgkkgnlbpaaDoorEql
namespace Go.Proofs.YthoccgkkgnlbpaaDoor
open Go.RowKit

set_option maxRecDepth 100000 in
set_option maxHeartbeats 800000 in
theorem take_yes (g : Nat) (p o : Nat) (n c : Nat) (k : Nat) (x : Int) (out : Value) (w : World) (h : Blk w g 67 #[.slice (some ⟨p, o, none⟩) n c, .int .i64 k, out]) (hk : k < n) (hn : n ≤ 1048576)
    (hx : w.cell? ⟨p, o + k, none⟩ = some (.int .u8 x)) (hg : p ≠ g) :
    Calls Tryd.prog 45 #[.pointer (some ⟨g, 0, none⟩)] w fun e w' => e = .returned (.tuple #[.int .u8 x, .bool true]) ∧ ∃ i, w' = (w.setCell ⟨g, 1, none⟩ (.int .i64 ((k : Int) + 1))).drewN i := by
  have c0 : w.cell? ⟨g, 0, none⟩ = some (.slice (some ⟨p, o, none⟩) n c) := by rw [h.cell]; rfl
  have c1 : w.cell? ⟨g, 1, none⟩ = some (.int .i64 k) := by rw [h.cell]; rfl
  have f1 : w.frozen? ⟨g, 1, none⟩ = false := h.frz 1
  have hd0 : decide ((k : Int) < 0) = false := decide_eq_false (by omega)
  have hd1 : decide ((n : Int) ≤ (k : Int)) = false := decide_eq_false (by omega)
  have hi0 : (0 : Int) ≤ k := by omega
  have hi1 : (k : Int) < n := by omega
  have hi2 : (k : Int) ≤ 1048576 := by omega
  have hb := h.put 1 (.int .i64 ((k : Int) + 1))
  have d0 : (w.setCell ⟨g, 1, none⟩ (.int .i64 ((k : Int) + 1))).cell? ⟨g, 0, none⟩ = some (.slice (some ⟨p, o, none⟩) n c) := by rw [hb.cell]; rfl
  have d1 : (w.setCell ⟨g, 1, none⟩ (.int .i64 ((k : Int) + 1))).cell? ⟨g, 1, none⟩ = some (.int .i64 ((k : Int) + 1)) := by rw [hb.cell]; rfl
  have dx : (w.setCell ⟨g, 1, none⟩ (.int .i64 ((k : Int) + 1))).cell? ⟨p, o + k, none⟩ = some (.int .u8 x) := by
    rw [← hx]
    exact World.cell?_setCell_far _ _ _ _ (fun e => hg e.symm)
  clear hb h
  have D := Lib.hid (And.intro d0 (And.intro d1 dx))
  clear d0 d1 dx hx
  go_enter Tryd.func45, Tryd.ntmps45
  go_wp2_with fail
  go_quiet (fail)
  go_wp2_with fail
  change Code.wp _ _ _ _ ((w.setCell ⟨g, 1, none⟩ (.int .i64 ((k : Int) + 1))).drewN nq)
  obtain ⟨d0, d1, dx⟩ := D.out
  clear c0 c1 f1 D
  generalize hw1 : w.setCell ⟨g, 1, none⟩ (.int .i64 ((k : Int) + 1)) = w1 at *
  have HW := Lib.hid hw1
  clear hw1
  go_quiet (fail)
  go_wp2_with fail
  go_ret2
  exact ⟨rfl, _, by rw [HW.out, World.drewN_drewN]⟩

set_option maxRecDepth 100000 in
set_option maxHeartbeats 800000 in
theorem take_no (g : Nat) (p : Option Addr) (n c : Nat) (k : Int) (out : Value) (w : World) (h : Blk w g 67 #[.slice p n c, .int .i64 k, out]) (hk : k < 0 ∨ (n : Int) ≤ k) :
    Calls Tryd.prog 45 #[.pointer (some ⟨g, 0, none⟩)] w fun e w' => e = .returned (.tuple #[.int .u8 0, .bool false]) ∧ ∃ i, w' = w.drewN i := by
  have c0 : w.cell? ⟨g, 0, none⟩ = some (.slice p n c) := by rw [h.cell]; rfl
  have c1 : w.cell? ⟨g, 1, none⟩ = some (.int .i64 k) := by rw [h.cell]; rfl
  clear h
  by_cases h0 : k < 0
  · have hd0 : decide (k < 0) = true := decide_eq_true h0
    clear hk h0
    go_enter Tryd.func45, Tryd.ntmps45
    go_wp2_with fail
    go_quiet (fail)
    go_wp2_with fail
    go_ret2
    exact ⟨rfl, _, rfl⟩
  · have hd0 : decide (k < 0) = false := decide_eq_false h0
    have hd1 : decide ((n : Int) ≤ k) = true := decide_eq_true (by omega)
    clear hk h0
    go_enter Tryd.func45, Tryd.ntmps45
    go_wp2_with fail
    go_quiet (fail)
    go_wp2_with fail
    go_ret2
    exact ⟨rfl, _, rfl⟩

set_option maxRecDepth 100000 in
set_option maxHeartbeats 800000 in
theorem is_yes (g : Nat) (p o : Nat) (n c : Nat) (k : Nat) (x v : Int) (b : Bool) (out : Value) (w : World) (h : Blk w g 67 #[.slice (some ⟨p, o, none⟩) n c, .int .i64 k, out]) (hk : k < n) (hn : n ≤ 1048576)
    (hx : w.cell? ⟨p, o + k, none⟩ = some (.int .u8 x)) (hg : p ≠ g) (hv : (x == v) = b) :
    Calls Tryd.prog 44 #[.pointer (some ⟨g, 0, none⟩), .int .u8 v] w fun e w' => e = .returned (.bool b) ∧ ∃ i, w' = (w.setCell ⟨g, 1, none⟩ (.int .i64 ((k : Int) + 1))).drewN i := by
  have H := Lib.hid (take_yes g p o n c k x out w h hk hn hx hg)
  clear h hk hn hx hg
  go_enter Tryd.func44, Tryd.ntmps44
  go_wp2_with fail
  refine H.out.mono ?_
  rintro e w1 ⟨rfl, i, hi⟩
  have HI := Lib.hid hi
  clear hi
  go_wp2_with fail
  go_ret
  exact ⟨by simp only [hv]; rfl, i, HI.out⟩
set_option maxRecDepth 100000 in
set_option maxHeartbeats 800000 in
theorem is_no (g : Nat) (p : Option Addr) (n c : Nat) (k v : Int) (out : Value) (w : World) (h : Blk w g 67 #[.slice p n c, .int .i64 k, out]) (hk : k < 0 ∨ (n : Int) ≤ k) :
    Calls Tryd.prog 44 #[.pointer (some ⟨g, 0, none⟩), .int .u8 v] w fun e w' => e = .returned (.bool false) ∧ ∃ i, w' = w.drewN i := by
  have H := Lib.hid (take_no g p n c k out w h hk)
  clear h hk
  go_enter Tryd.func44, Tryd.ntmps44
  go_wp2_with fail
  refine H.out.mono ?_
  rintro e w1 ⟨rfl, i, hi⟩
  have HI := Lib.hid hi
  clear hi
  go_wp2_with fail
  go_ret
  exact ⟨rfl, i, HI.out⟩
end Go.Proofs.YthoccgkkgnlbpaaDoor
