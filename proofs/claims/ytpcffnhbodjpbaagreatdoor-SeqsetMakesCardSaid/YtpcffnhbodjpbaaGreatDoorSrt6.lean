/- The walk of choosePivot at unsigned numbers. -/
import Derived.Test.YtpcffnhbodjpbaaGreatDoorSrt5
import Derived.Sort.LotD4
set_option linter.unusedVariables false
set_option linter.unusedSimpArgs false
namespace Go.Proofs.YtpcffnhbodjpbaaGreatDoor
open Go.RowKit Go.Sort

theorem grown_box {w W0 W4 : World} {row : Option Nat} {s : Nat} (h : w.grownBy W0 row) (k : W0.grownBy W4 (some s)) (hs : w.heap.size ≤ s) : w.grownBy W4 row :=
  ⟨k.os.trans h.os, k.tape.trans h.tape, k.output.trans h.output, Nat.le_trans h.size k.size, fun i hi hne => (k.block i (Nat.lt_of_lt_of_le hi h.size) (fun e => by injection e with e; omega)).trans (h.block i hi hne)⟩
/-- The row is as it was; the counter's box, laid after w, holds v. -/
def CP (w : World) (blk off : Nat) (d : Array Int) (v : Int) (w' : World) : Prop := SP w blk off d w' ∧ Box1 w' w.heap.size v ∧ w.heap.size < w'.heap.size
theorem CP.step {w w1 w2 : World} {blk off : Nat} {d : Array Int} {v u : Int} (h : CP w blk off d v w1) (hb : blk < w.heap.size) (k : BP w1 w.heap.size u w2) : CP w blk off d u w2 :=
  ⟨⟨k.row h.1.1 (by have := h.1.2.size; omega) (by omega), grown_box h.1.2 k.2 (Nat.le_refl _), h.1.3.trans k.3⟩, k.1, by have := k.2.size; have := h.2.2; omega⟩
theorem CP.start {w : World} {blk off : Nat} {d : Array Int} (h : Holds (Value.int .u32) w blk off d) (hb : blk < w.heap.size) (t : TypeId) : CP w blk off d 0 (w.alloc (.cells #[.int .i64 0] t)) := by
  refine ⟨⟨fun j hj => ?_, grown_alloc (World.grownBy.refl _ _) _, (Dom.refl _).alloc _⟩, ⟨?_, ?_⟩, by rw [World.size_alloc]; omega⟩
  · have e := (World.grownBy_alloc w (.cells #[.int .i64 0] t) none).block blk hb (by simp)
    obtain ⟨h1, h2⟩ := h j hj
    exact ⟨by rw [World.cell?_of_block (a := ⟨blk, off + j, none⟩) e]; exact h1, by rw [World.frozen?_of_block (a := ⟨blk, off + j, none⟩) e]; exact h2⟩
  · simp
  · simp

theorem beq_i {a b : Int} (h : (a == b) = true) : a = b := by simpa using h
theorem bne_i {a b : Int} (h : (a == b) = false) : a ≠ b := by simpa using h
set_option maxRecDepth 100000 in
set_option maxHeartbeats 3200000 in
theorem pivot_u32 (blk off cap a b : Nat) (d : Array Int) (w : World) (h : Holds (Value.int .u32) w blk off d) (hbk : blk < w.heap.size) (hab : a < b) (hb : b ≤ d.size) (hd : d.size ≤ 1048576) :
    Calls Tryz.prog 92 #[.slice (some ⟨blk, off, none⟩) d.size cap, .int .i64 a, .int .i64 b] w fun e w' => e = .returned (.tuple #[.int .i64 (choosePivot ltInt d a b).1, .int .i64 (hintCode (choosePivot ltInt d a b).2)]) ∧ SP w blk off d w' := by
  obtain ⟨n, hn⟩ : ∃ n, d.size = n := ⟨_, rfl⟩
  have MA := Lib.hid (fun (W : World) (x s : Nat) (C : CP w blk off d s W) (h1 : 1 ≤ x) (h2 : x + 1 < n) (h3 : s ≤ 990) => by
    have := adjacent_u32 blk off cap x w.heap.size s d W C.1.1 h1 (by omega) hd C.2.1 h3 (by have := C.2.2; omega) (by omega)
    rw [hn] at this
    exact this.mono fun e w' ⟨he, hB⟩ => (⟨he, C.step hbk hB⟩ : _ ∧ CP w blk off d (medianAdjacent ltInt d x s).2 w'))
  have MD := Lib.hid (fun (W : World) (x y z s : Nat) (C : CP w blk off d s W) (hx : x < n) (hy : y < n) (hz : z < n) (h3 : s ≤ 990) => by
    have := median_u32 blk off cap x y z w.heap.size s d W C.1.1 (by omega) (by omega) (by omega) hd C.2.1 h3 (by have := C.2.2; omega) (by omega)
    rw [hn] at this
    exact this.mono fun e w' ⟨he, hB⟩ => (⟨he, C.step hbk hB⟩ : _ ∧ CP w blk off d (median ltInt d x y z s).2 w'))
  have C0 := Lib.hid (CP.start (d := d) (off := off) h hbk 3)
  rw [choosePivot_eq]
  rw [hn] at hb hd ⊢
  clear h hn
  obtain ⟨L, hL⟩ : ∃ L, b - a = L := ⟨_, rfl⟩
  have hLz : (b : Int) - (a : Int) = (L : Int) := by omega
  obtain ⟨q, hq⟩ : ∃ q, L / 4 = q := ⟨_, rfl⟩
  have hqd : Int.tdiv (L : Int) 4 = (q : Int) := by rw [Int.tdiv_eq_ediv_of_nonneg (by omega)]; omega
  have hqe : (L : Int) / 4 = (q : Int) := by omega
  have hL1 : (L : Int) ≤ 1048576 := by omega
  have hq1 : (q : Int) ≤ 1048576 := by omega
  have ha1 : (a : Int) ≤ 1048576 := by omega
  have HI : Hid ((a : Int) + (q : Int) = ((a + q * 1 : Nat) : Int) ∧ (a : Int) + (q : Int) * 2 = ((a + q * 2 : Nat) : Int) ∧ (a : Int) + (q : Int) * 3 = ((a + q * 3 : Nat) : Int) ∧ q * 4 ≤ L ∧ L < q * 4 + 4) := Lib.hid ⟨by omega, by omega, by omega, by omega, by omega⟩
  have HR : Hid (rawPivot ltInt d a b = if L ≥ 8 then if L ≥ 50 then median ltInt d (medianAdjacent ltInt d (a + q * 1) 0).1 (medianAdjacent ltInt d (a + q * 2) (medianAdjacent ltInt d (a + q * 1) 0).2).1 (medianAdjacent ltInt d (a + q * 3) (medianAdjacent ltInt d (a + q * 2) (medianAdjacent ltInt d (a + q * 1) 0).2).2).1 (medianAdjacent ltInt d (a + q * 3) (medianAdjacent ltInt d (a + q * 2) (medianAdjacent ltInt d (a + q * 1) 0).2).2).2 else median ltInt d (a + q * 1) (a + q * 2) (a + q * 3) 0 else (a + q * 2, 0)) := Lib.hid (by
    unfold rawPivot
    rw [hL, hq])
  rw [HR.out]
  have hfin : ∀ (p s : Nat), s = 0 → hintCode (hintOf s) = 1 := fun _ s h => by subst h; rfl
  have hfin2 : ∀ (p s : Nat), s = 12 → hintCode (hintOf s) = 2 := fun _ s h => by subst h; rfl
  have hfin0 : ∀ (p s : Nat), s ≠ 0 → s ≠ 12 → hintCode (hintOf s) = 0 := fun _ s h1 h2 => by unfold hintOf; rw [if_neg h1, if_neg h2]; rfl
  have HF := Lib.hid (And.intro hfin (And.intro hfin2 hfin0))
  have haL : a + L ≤ n := by omega
  clear hfin hfin2 hfin0 hq hL
  by_cases h8 : 8 ≤ L
  · by_cases h50 : 50 ≤ L
    · have hz8 : (8 : Int) ≤ L := by omega
      have hz50 : (50 : Int) ≤ L := by omega
      rw [if_pos h8, if_pos h50]
      obtain ⟨e1, e2, e3, k4, k5⟩ := HI.out
      obtain ⟨i1, s1, h1⟩ : ∃ i1 s1, medianAdjacent ltInt d (a + q * 1) 0 = (i1, s1) := ⟨_, _, rfl⟩
      obtain ⟨j1, s2, h2⟩ : ∃ j1 s2, medianAdjacent ltInt d (a + q * 2) s1 = (j1, s2) := ⟨_, _, rfl⟩
      obtain ⟨k1, s3, h3⟩ : ∃ k1 s3, medianAdjacent ltInt d (a + q * 3) s2 = (k1, s3) := ⟨_, _, rfl⟩
      obtain ⟨p, s, h4⟩ : ∃ p s, median ltInt d i1 j1 k1 s3 = (p, s) := ⟨_, _, rfl⟩
      have m1 := medianAdjacent_mem ltInt d (a + q * 1) 0; rw [h1] at m1
      have m2 := medianAdjacent_mem ltInt d (a + q * 2) s1; rw [h2] at m2
      have m3 := medianAdjacent_mem ltInt d (a + q * 3) s2; rw [h3] at m3
      have n1 := medianAdjacent_count ltInt d (a + q * 1) 0; rw [h1] at n1
      have n2 := medianAdjacent_count ltInt d (a + q * 2) s1; rw [h2] at n2
      have n3 := medianAdjacent_count ltInt d (a + q * 3) s2; rw [h3] at n3
      simp only [] at m1 m2 m3 n1 n2 n3
      have E1 := Lib.hid (fun W C => MA.out W (a + q * 1) 0 C (by omega) (by omega) (by omega))
      have E2 := Lib.hid (fun W C => MA.out W (a + q * 2) s1 C (by omega) (by omega) (by omega))
      have E3 := Lib.hid (fun W C => MA.out W (a + q * 3) s2 C (by omega) (by omega) (by omega))
      have E4 := Lib.hid (fun W C => MD.out W i1 j1 k1 s3 C (by omega) (by omega) (by omega) (by omega))
      rw [h1, ← e1] at E1; rw [h2, ← e2] at E2; rw [h3, ← e3] at E3; rw [h4] at E4
      rw [h1]; simp only []; rw [h2]; simp only []; rw [h3]; simp only []; rw [h4]; simp only []
      clear h1 h2 h3 h4 m1 m2 m3 n1 n2 n3 e1 e2 e3 k4 k5 hab hb h8 h50 haL
      obtain ⟨Hc, hHc⟩ : ∃ Hc : Int, hintCode (hintOf s) = Hc := ⟨_, rfl⟩
      have HH := Lib.hid hHc
      rw [hHc]; clear hHc
      go_enter Tryz.func92, Tryz.ntmps92
      go_wp2_with fail
      refine (E1.out _ C0.out).mono ?_
      rintro e w1 ⟨rfl, k1⟩
      have K1 := Lib.hid k1
      clear k1
      go_wp2_with fail
      refine (E2.out _ K1.out).mono ?_
      rintro e w2 ⟨rfl, k2⟩
      have K2 := Lib.hid k2
      clear k2
      go_wp2_with fail
      refine (E3.out _ K2.out).mono ?_
      rintro e w3 ⟨rfl, k3⟩
      have K3 := Lib.hid k3
      clear k3
      go_wp2_with fail
      refine (E4.out _ K3.out).mono ?_
      rintro e w4 ⟨rfl, k4⟩
      have K4 := Lib.hid k4
      obtain ⟨-, ⟨bx, bf⟩, -⟩ := k4
      go_wp2_with fail
      all_goals
        go_ret2
        refine ⟨?_, K4.out.1⟩
        first
          | (have e0 : (s : Int) = 0 := beq_i (by assumption)
             rw [← HH.out, HF.out.1 p s (by omega)]; rfl)
          | (have e1 : (s : Int) = 12 := beq_i (by assumption)
             rw [← HH.out, HF.out.2.1 p s (by omega)]; rfl)
          | (have e0 : (s : Int) ≠ 0 := bne_i (by assumption)
             have e1 : (s : Int) ≠ 12 := bne_i (by assumption)
             rw [← HH.out, HF.out.2.2 p s (by omega) (by omega)]; rfl)
    · have hz8 : (8 : Int) ≤ L := by omega
      have hz50 : decide ((50 : Int) ≤ L) = false := decide_eq_false (by omega)
      have hz50n : decide (50 ≤ L) = false := decide_eq_false (by omega)
      rw [if_pos h8, if_neg h50]
      obtain ⟨e1, e2, e3, k4, k5⟩ := HI.out
      obtain ⟨p, s, h4⟩ : ∃ p s, median ltInt d (a + q * 1) (a + q * 2) (a + q * 3) 0 = (p, s) := ⟨_, _, rfl⟩
      have E4 := Lib.hid (fun W C => MD.out W (a + q * 1) (a + q * 2) (a + q * 3) 0 C (by omega) (by omega) (by omega) (by omega))
      rw [h4, ← e1, ← e2, ← e3] at E4
      rw [h4]; simp only []
      clear h4 e1 e2 e3 k4 k5 hab hb h8 h50 haL
      obtain ⟨Hc, hHc⟩ : ∃ Hc : Int, hintCode (hintOf s) = Hc := ⟨_, rfl⟩
      have HH := Lib.hid hHc
      rw [hHc]; clear hHc
      go_enter Tryz.func92, Tryz.ntmps92
      go_wp2_with fail
      refine (E4.out _ C0.out).mono ?_
      rintro e w4 ⟨rfl, k4⟩
      have K4 := Lib.hid k4
      obtain ⟨-, ⟨bx, bf⟩, -⟩ := k4
      go_wp2_with fail
      all_goals
        go_ret2
        refine ⟨?_, K4.out.1⟩
        first
          | (have e0 : (s : Int) = 0 := beq_i (by assumption)
             rw [← HH.out, HF.out.1 p s (by omega)]; rfl)
          | (have e1 : (s : Int) = 12 := beq_i (by assumption)
             rw [← HH.out, HF.out.2.1 p s (by omega)]; rfl)
          | (have e0 : (s : Int) ≠ 0 := bne_i (by assumption)
             have e1 : (s : Int) ≠ 12 := bne_i (by assumption)
             rw [← HH.out, HF.out.2.2 p s (by omega) (by omega)]; rfl)
  · have hz8 : decide ((8 : Int) ≤ L) = false := decide_eq_false (by omega)
    have hz8n : decide (8 ≤ L) = false := decide_eq_false (by omega)
    rw [if_neg h8]
    simp only []
    rw [← HI.out.2.1, HF.out.1 0 0 rfl]
    clear hab hb h8 haL
    obtain ⟨-, ⟨bx, bf⟩, -⟩ := C0.out
    go_enter Tryz.func92, Tryz.ntmps92
    go_wp2_with fail
    all_goals
      go_ret2
      exact ⟨rfl, C0.out.1⟩
end Go.Proofs.YtpcffnhbodjpbaaGreatDoor
