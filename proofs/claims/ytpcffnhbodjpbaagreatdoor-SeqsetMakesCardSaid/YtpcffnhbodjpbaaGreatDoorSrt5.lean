/- The walks of median, medianAdjacent and choosePivot at unsigned numbers. -/
import Derived.Test.YtpcffnhbodjpbaaGreatDoorSrt4
set_option linter.unusedVariables false
set_option linter.unusedSimpArgs false
namespace Go.Proofs.YtpcffnhbodjpbaaGreatDoor
open Go.RowKit Go.Sort

theorem order2_in {d : Array Int} {a b sw n : Nat} (ha : a < n) (hb : b < n) : (order2 ltInt d a b sw).1 < n ∧ (order2 ltInt d a b sw).2.1 < n ∧ (order2 ltInt d a b sw).2.2 ≤ sw + 1 := by
  unfold order2
  split
  · exact ⟨hb, ha, Nat.le_refl _⟩
  · exact ⟨ha, hb, Nat.le_succ _⟩
theorem median_in {d : Array Int} {a b c sw n : Nat} (ha : a < n) (hb : b < n) (hc : c < n) : (median ltInt d a b c sw).1 < n ∧ (median ltInt d a b c sw).2 ≤ sw + 3 := by
  obtain ⟨p1, p2, p3⟩ := order2_in (d := d) (sw := sw) ha hb
  obtain ⟨q1, q2, q3⟩ := order2_in (d := d) (sw := (order2 ltInt d a b sw).2.2) p2 hc
  obtain ⟨r1, r2, r3⟩ := order2_in (d := d) (sw := (order2 ltInt d (order2 ltInt d a b sw).2.1 c (order2 ltInt d a b sw).2.2).2.2) p1 q1
  exact ⟨r2, by simp only [median]; omega⟩

set_option maxRecDepth 100000 in
set_option maxHeartbeats 1600000 in
theorem median_u32 (blk off cap a b c s sw : Nat) (d : Array Int) (w : World) (h : Holds (Value.int .u32) w blk off d) (ha : a < d.size) (hb : b < d.size) (hc : c < d.size) (hd : d.size ≤ 1048576) (hs : Box1 w s sw) (hsw : sw ≤ 990) (hbk : blk < w.heap.size) (hne : blk ≠ s) :
    Calls Tryz.prog 118 #[.slice (some ⟨blk, off, none⟩) d.size cap, .int .i64 a, .int .i64 b, .int .i64 c, .pointer (some ⟨s, 0, none⟩)] w fun e w' => e = .returned (.int .i64 (median ltInt d a b c sw).1) ∧ BP w s (median ltInt d a b c sw).2 w' := by
  obtain ⟨n, hn⟩ : ∃ n, d.size = n := ⟨_, rfl⟩
  rw [hn] at ha hb hc hd ⊢
  have HO := Lib.hid (fun (p q k : Nat) (wk : World) (hp : p < n) (hq : q < n) (hk : k ≤ 1000) (hB : BP w s k wk) => by
    have := order2_u32 blk off cap p q s k d wk (hB.row h hbk hne) (by omega) (by omega) (by omega) hB.1 hk
    rw [hn] at this
    exact this)
  have HB : Hid (BP w s sw w) := Lib.hid ⟨hs, World.grownBy.refl _ _, .refl _⟩
  obtain ⟨p1, p2, p3⟩ := order2_in (d := d) (sw := sw) ha hb
  obtain ⟨a1, ha1⟩ : ∃ x, (order2 ltInt d a b sw).1 = x := ⟨_, rfl⟩
  obtain ⟨b1, hb1⟩ : ∃ x, (order2 ltInt d a b sw).2.1 = x := ⟨_, rfl⟩
  obtain ⟨s1, hs1⟩ : ∃ x, (order2 ltInt d a b sw).2.2 = x := ⟨_, rfl⟩
  rw [ha1] at p1; rw [hb1] at p2; rw [hs1] at p3
  obtain ⟨q1, q2, q3⟩ := order2_in (d := d) (sw := s1) p2 hc
  obtain ⟨b2, hb2⟩ : ∃ x, (order2 ltInt d b1 c s1).1 = x := ⟨_, rfl⟩
  obtain ⟨c2, hc2⟩ : ∃ x, (order2 ltInt d b1 c s1).2.1 = x := ⟨_, rfl⟩
  obtain ⟨s2, hs2⟩ : ∃ x, (order2 ltInt d b1 c s1).2.2 = x := ⟨_, rfl⟩
  rw [hb2] at q1; rw [hc2] at q2; rw [hs2] at q3
  have HM : Hid (median ltInt d a b c sw = ((order2 ltInt d a1 b2 s2).2.1, (order2 ltInt d a1 b2 s2).2.2)) := Lib.hid (by simp only [median, ha1, hb1, hs1, hb2, hs2])
  rw [HM.out]
  have E1 := Lib.hid (HO.out a b sw w ha hb (by omega) HB.out)
  rw [ha1, hb1, hs1] at E1
  have E2 := Lib.hid (fun wk hB => HO.out b1 c s1 wk p2 hc (by omega) hB)
  rw [hb2, hc2, hs2] at E2
  have E3 := Lib.hid (fun wk hB => HO.out a1 b2 s2 wk p1 q1 (by omega) hB)
  obtain ⟨a3, ha3⟩ : ∃ x, (order2 ltInt d a1 b2 s2).1 = x := ⟨_, rfl⟩
  obtain ⟨b3, hb3⟩ : ∃ x, (order2 ltInt d a1 b2 s2).2.1 = x := ⟨_, rfl⟩
  obtain ⟨s3, hs3⟩ : ∃ x, (order2 ltInt d a1 b2 s2).2.2 = x := ⟨_, rfl⟩
  rw [ha3, hb3, hs3] at E3
  rw [hb3, hs3]
  clear h hn hs ha1 hb1 hs1 hb2 hc2 hs2 ha3 hb3 hs3 HM HO
  go_enter Tryz.func118, Tryz.ntmps118
  go_wp2_with fail
  refine E1.out.mono ?_
  rintro e w1 ⟨rfl, k1⟩
  have K1 := Lib.hid k1
  clear k1
  go_wp2_with fail
  refine (E2.out _ K1.out).mono ?_
  rintro e w2 ⟨rfl, k2⟩
  have K2 := Lib.hid (K1.out.trans k2)
  clear k2
  go_wp2_with fail
  refine (E3.out _ K2.out).mono ?_
  rintro e w3 ⟨rfl, k3⟩
  have K3 := Lib.hid (K2.out.trans k3)
  clear k3
  go_wp2_with fail
  go_ret
  exact ⟨rfl, K3.out⟩

set_option maxRecDepth 100000 in
theorem adjacent_u32 (blk off cap a s sw : Nat) (d : Array Int) (w : World) (h : Holds (Value.int .u32) w blk off d) (h0 : 0 < a) (ha : a + 1 < d.size) (hd : d.size ≤ 1048576) (hs : Box1 w s sw) (hsw : sw ≤ 990) (hbk : blk < w.heap.size) (hne : blk ≠ s) :
    Calls Tryz.prog 117 #[.slice (some ⟨blk, off, none⟩) d.size cap, .int .i64 a, .pointer (some ⟨s, 0, none⟩)] w fun e w' => e = .returned (.int .i64 (medianAdjacent ltInt d a sw).1) ∧ BP w s (medianAdjacent ltInt d a sw).2 w' := by
  have E := Lib.hid (median_u32 blk off cap (a - 1) a (a + 1) s sw d w h (by omega) (by omega) ha hd hs hsw hbk hne)
  unfold medianAdjacent
  have e1 : (((a - 1 : Nat)) : Int) = (a : Int) - 1 := by omega
  have e2 : (((a + 1 : Nat)) : Int) = (a : Int) + 1 := by omega
  rw [e1, e2] at E
  have i1 : (a : Int) ≤ 1048576 := by omega
  have i2 : (1 : Int) ≤ a := by omega
  clear h hs
  go_enter Tryz.func117, Tryz.ntmps117
  go_wp2_with fail
  refine E.out.mono ?_
  rintro e w1 ⟨rfl, k1⟩
  have K1 := Lib.hid k1
  clear k1
  go_wp2_with fail
  go_ret
  exact ⟨rfl, K1.out⟩
end Go.Proofs.YtpcffnhbodjpbaaGreatDoor
