/- The walks of reverseRange, order2 and median at unsigned numbers. -/
import Derived.Test.YtpcffnhbodjpbaaGreatDoorSrt3
set_option linter.unusedVariables false
set_option linter.unusedSimpArgs false
namespace Go.Proofs.YtpcffnhbodjpbaaGreatDoor
open Go.RowKit Go.Sort

set_option maxRecDepth 100000 in
set_option maxHeartbeats 1600000 in
theorem reverse_u32 (blk off cap a b : Nat) (d : Array Int) (w : World) (h : Holds (Value.int .u32) w blk off d) (hab : a < b) (hb : b ≤ d.size) (hd : d.size ≤ 1048576) (hcap : d.size ≤ cap) :
    Calls Tryz.prog 93 #[.slice (some ⟨blk, off, none⟩) d.size cap, .int .i64 a, .int .i64 b] w fun e w' => (∃ v, e = .returned v) ∧ SP w blk off (reverseRange d a b) w' := by
  obtain ⟨n, hn⟩ : ∃ n, d.size = n := ⟨_, rfl⟩
  obtain ⟨b1, hb1⟩ : ∃ b1, b - 1 = b1 := ⟨_, rfl⟩
  have hbI : (b : Int) - 1 = (b1 : Int) := by omega
  have HS := Lib.hid (And.intro (SP.start h) (And.intro hn hb1))
  rw [hn] at hb hd hcap ⊢
  have hlt1 : b1 < n := by omega
  have hab1 : a ≤ b1 := by omega
  clear h hn hb1
  have hd1 : (n : Int) ≤ 1048576 := by omega
  go_enter Tryz.func93, Tryz.ntmps93
  go_wp2_with fail
  go_loopw [6, 7] (fun i j wr => ∃ (p q : Nat) (dk : Array Int), i = .int .i64 p ∧ j = .int .i64 q ∧ p ≤ q + 1 ∧ q < n ∧ dk.size = n ∧ SP w blk off dk wr ∧ reverseLoop p q dk = reverseLoop a b1 d) (fun i j _ => ((intOf j) + 1 - (intOf i)).toNat)
  case atStart => exact ⟨a, b1, d, rfl, rfl, by omega, hlt1, HS.out.2.1, HS.out.1, rfl⟩
  case round =>
    obtain ⟨p, q, dk, rfl, rfl, hpq, hq, hdk, hsp, hr⟩ := hrel
    have HO := Lib.hid (And.intro hdk (And.intro hsp hr))
    by_cases hlt : p < q
    · obtain ⟨c0, f0⟩ := hsp.1 p (by omega)
      obtain ⟨c1, f1⟩ := hsp.1 q (by omega)
      obtain ⟨x0, hx0⟩ : ∃ x, dk[p]! = x := ⟨_, rfl⟩
      obtain ⟨x1, hx1⟩ : ∃ x, dk[q]! = x := ⟨_, rfl⟩
      rw [hx0] at c0
      rw [hx1] at c1
      have HX := Lib.hid (And.intro hx0 hx1)
      obtain ⟨y, hy⟩ := cell?_setCell_some (w := wr) (p := ⟨blk, off + p, none⟩) (x := .int .u32 x1) (q := ⟨blk, off + q, none⟩) (v := .int .u32 x1) c1
      have i1 : (p : Int) < q := by omega
      have i2 : (q : Int) < n := by omega
      obtain ⟨q1, hq1⟩ : ∃ q1, q - 1 = q1 := ⟨_, rfl⟩
      have hqI : (q : Int) - 1 = (q1 : Int) := by omega
      have HQ := Lib.hid hq1
      clear hdk hsp hr hx0 hx1 hq1
      go_wp2_with fail
      go_region
      all_goals
        go_wp2_with fail
        obtain ⟨hdk, hsp, hr⟩ := HO.out
        have hsw := fun W (hW : SP w blk off dk W) => hW.swp (i := p) (j := q) (by omega) (by omega)
        rw [HX.out.1, HX.out.2] at hsw
        refine ⟨⟨p + 1, q1, swp dk p q, by first | rfl | go_num, by first | rfl | go_num, by omega, by omega, by rw [swp_size]; exact hdk, by first | exact (hsw _ hsp).drew | exact hsw _ hsp.drew, ?_⟩, by simp [intOf]; omega⟩
        rw [← hr]
        conv => rhs; unfold reverseLoop
        rw [if_pos hlt, HQ.out]
    · have i1 : decide ((p : Int) < q) = false := decide_eq_false (by omega)
      have i1n : decide (p < q) = false := decide_eq_false (by omega)
      clear hdk hsp hr
      go_wp2_with fail
      go_end0
      obtain ⟨hdk, hsp, hr⟩ := HO.out
      refine ⟨⟨_, rfl⟩, ?_⟩
      unfold reverseRange
      rw [HS.out.2.2, ← hr]
      unfold reverseLoop
      rw [if_neg hlt]
      exact hsp

/-- A box of a number, apart from the row. -/
def Box1 (w : World) (s : Nat) (v : Int) : Prop := w.cell? ⟨s, 0, none⟩ = some (.int .i64 v) ∧ w.frozen? ⟨s, 0, none⟩ = false
/-- What order2 and its callers leave: the box alone has turned. -/
structure BP (w : World) (s : Nat) (v : Int) (w' : World) : Prop where
  box : Box1 w' s v
  grown : w.grownBy w' (some s)
  dom : Dom w w'
theorem BP.trans {w w1 w2 : World} {s : Nat} {v u : Int} (h : BP w s v w1) (k : BP w1 s u w2) : BP w s u w2 := ⟨k.1, grown_trans h.2 k.2, h.3.trans k.3⟩
theorem BP.row {w w1 : World} {s blk off : Nat} {v : Int} {d : Array Int} (h : BP w s v w1) (hH : Holds (Value.int .u32) w blk off d) (hb : blk < w.heap.size) (hne : blk ≠ s) : Holds (Value.int .u32) w1 blk off d := fun j hj => by
  have e := h.2.block blk hb (fun e => by injection e with e; exact hne e)
  obtain ⟨h1, h2⟩ := hH j hj
  exact ⟨by rw [World.cell?_of_block (a := ⟨blk, off + j, none⟩) e]; exact h1, by rw [World.frozen?_of_block (a := ⟨blk, off + j, none⟩) e]; exact h2⟩

theorem less_is (x y : Int) (r : Bool) (h : ltInt x y = r) (w : World) : Calls Tryz.prog 95 #[.int .u32 x, .int .u32 y] w fun e w' => e = .returned (.bool r) ∧ w' = w := by subst h; exact less_u32 x y w
set_option maxRecDepth 100000 in
set_option maxHeartbeats 1600000 in
theorem order2_u32 (blk off cap a b s sw : Nat) (d : Array Int) (w : World) (h : Holds (Value.int .u32) w blk off d) (ha : a < d.size) (hb : b < d.size) (hd : d.size ≤ 1048576) (hs : Box1 w s sw) (hsw : sw ≤ 1000) :
    Calls Tryz.prog 128 #[.slice (some ⟨blk, off, none⟩) d.size cap, .int .i64 a, .int .i64 b, .pointer (some ⟨s, 0, none⟩)] w fun e w' => e = .returned (.tuple #[.int .i64 (order2 ltInt d a b sw).1, .int .i64 (order2 ltInt d a b sw).2.1]) ∧ BP w s (order2 ltInt d a b sw).2.2 w' := by
  obtain ⟨ca, fa⟩ := h a ha
  obtain ⟨cb, fb⟩ := h b hb
  obtain ⟨xa, hxa⟩ : ∃ x, d[a]! = x := ⟨_, rfl⟩
  obtain ⟨xb, hxb⟩ : ∃ x, d[b]! = x := ⟨_, rfl⟩
  rw [hxa] at ca
  rw [hxb] at cb
  obtain ⟨bx, bf⟩ := id hs
  have HB := Lib.hid hs
  have HX : Hid (order2 ltInt d a b sw = if ltInt xb xa then (b, a, sw + 1) else (a, b, sw)) := Lib.hid (by unfold order2; rw [hxa, hxb])
  obtain ⟨n, hn⟩ : ∃ n, d.size = n := ⟨_, rfl⟩
  rw [hn] at ha hb hd ⊢
  have i1 : (a : Int) < n := by omega
  have i2 : (b : Int) < n := by omega
  have i3 : (n : Int) ≤ 1048576 := by omega
  have i4 : (sw : Int) ≤ 1000 := by omega
  rw [HX.out]
  clear h hs hxa hxb hn
  cases hl : ltInt xb xa with
  | true =>
    have HL := Lib.hid hl
    simp only [if_true]
    go_enter Tryz.func128, Tryz.ntmps128
    go_wp2_with fail
    go_quiet ((go_at_call 95; first | exact Calls.quiet_of_same (less_is _ _ _ HL.out _) | exact quietA (less_is _ _ _ HL.out _)))
    go_wp2_with fail
    go_ret2
    refine ⟨rfl, ⟨World.cell?_setCell_same _ _ _ (show (w.drewN nq).cell? _ = some (.int .i64 sw) from HB.out.1), by rw [World.frozen?_setCell]; exact HB.out.2⟩, grown_put (grown_drewN (World.grownBy.refl _ _) _) _ _, Dom.put (b := w.drewN nq) (fun _ h => ⟨h, rfl⟩) _ _⟩
  | false =>
    have HL := Lib.hid hl
    simp only [Bool.false_eq_true, if_false]
    go_enter Tryz.func128, Tryz.ntmps128
    go_wp2_with fail
    go_quiet ((go_at_call 95; first | exact Calls.quiet_of_same (less_is _ _ _ HL.out _) | exact quietA (less_is _ _ _ HL.out _)))
    go_wp2_with fail
    go_ret2
    exact ⟨rfl, HB.out, grown_drewN (World.grownBy.refl _ _) _, fun _ h => ⟨h, rfl⟩⟩
end Go.Proofs.YtpcffnhbodjpbaaGreatDoor
