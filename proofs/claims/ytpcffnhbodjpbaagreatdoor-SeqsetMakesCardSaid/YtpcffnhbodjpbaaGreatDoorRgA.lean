/- Sets of ranges in memory; Valid, plain. -/
import Derived.Test.YtpcffnhbodjpbaaGreatDoorShelfC
import Derived.Test.YtpcffnhbodjpbaaGreatDoorSetSpec
import Derived.Test.YtpcffnhbodjpbaaGreatDoorGrow
set_option linter.unusedVariables false
set_option linter.unusedSimpArgs false
namespace Go.Proofs.YtpcffnhbodjpbaaGreatDoor
open Go Go.RowKit Go.Shelf Go.Lib Go.Sort

instance : Inhabited Rng := ⟨⟨0, 0⟩⟩
def encR (r : Rng) : List Value := [.int .u32 r.lo, .int .u32 r.hi]
/-- The slice value v reads as the ranges l, in a block below B. -/
def RgL (W : World) (B : Nat) (v : Value) (l : List Rng) : Prop :=
  ∃ A cap, v = .slice A l.length cap ∧ l.length ≤ cap ∧ (0 < l.length → ∃ b o, A = some ⟨b, o, none⟩ ∧ b < B ∧ ∀ j r, l[j]? = some r → W.cell? ⟨b, o + j * 2, none⟩ = some (.int .u32 r.lo) ∧ W.cell? ⟨b, o + j * 2 + 1, none⟩ = some (.int .u32 r.hi))
theorem RgL.below {W W' : World} {B n : Nat} {v : Value} {l : List Rng} (h : RgL W B v l) (hb : Below n W W') (hn : B ≤ n) : RgL W' B v l := by
  obtain ⟨A, cap, e, h1, h2⟩ := h
  exact ⟨A, cap, e, h1, fun h0 => by
    obtain ⟨b, o, e2, h3, h4⟩ := h2 h0
    exact ⟨b, o, e2, h3, fun j r hj => ⟨(hb.cell (p := ⟨b, o + j * 2, none⟩) (Nat.lt_of_lt_of_le h3 hn)).trans (h4 j r hj).1, (hb.cell (p := ⟨b, o + j * 2 + 1, none⟩) (Nat.lt_of_lt_of_le h3 hn)).trans (h4 j r hj).2⟩⟩⟩
theorem RgL.mono {W : World} {B B' : Nat} {v : Value} {l : List Rng} (h : RgL W B v l) (hB : B ≤ B') : RgL W B' v l := by
  obtain ⟨A, cap, e, h1, h2⟩ := h
  exact ⟨A, cap, e, h1, fun h0 => by
    obtain ⟨b, o, e2, h3, h4⟩ := h2 h0
    exact ⟨b, o, e2, by omega, h4⟩⟩

theorem valid1 (top B : Nat) (w : World) (hB : B < w.heap.size) (hcell : w.cell? ⟨B, 0, none⟩ = some (.int .u32 top)) :
    PredBelow Tryz.prog 32 #[.pointer (some ⟨B, 0, none⟩)] (fun r : Rng => .agg (encR r).toArray) (fun r => decide (top < max r.lo r.hi)) w := fun W r hb => by
  have hc : W.cell? ⟨B, 0, none⟩ = some (.int .u32 top) := (hb.cell (p := ⟨B, 0, none⟩) hB).trans hcell
  have hBW : B < W.heap.size := Nat.lt_of_lt_of_le hB hb.size
  have hne : B ≠ W.heap.size := by omega
  have HB := Lib.hid hb
  obtain ⟨a, c⟩ := r
  clear hb hcell
  show Calls Tryz.prog 32 #[.agg #[.int .u32 (a : Nat), .int .u32 (c : Nat)], .pointer (some ⟨B, 0, none⟩)] W _
  go_enter Tryz.func32, Tryz.ntmps32
  go_wp2
  all_goals (go_ret; exact ⟨by simp only [] at *; congr 2; simp; omega, HB.out.alloc HB.out.size _⟩)

theorem valid_eq {top : Nat} {l : List Rng} (h1 : 0 < top) (h2 : 0 < l.length) : validB top l = !(l.any fun r => decide (top < max r.lo r.hi)) := by
  unfold validB
  rw [decide_eq_true h1, Bool.true_and]
  have : l.isEmpty = false := by cases l; simp at h2; rfl
  rw [this, Bool.not_false, Bool.true_and, Bool.eq_iff_iff, Bool.not_eq_true', List.any_eq_false, List.all_eq_true]
  refine forall₂_congr fun r _ => ?_
  simp only [Bool.and_eq_true, decide_eq_true_eq]
  omega
set_option maxHeartbeats 1000000 in
theorem valid_any (top : Nat) (l : List Rng) (v : Value) (w : World) (hR : RgL w w.heap.size v l) (hl : l.length ≤ 1048576) :
    Calls Tryz.prog 14 #[.int .u32 top, v] w fun e w' => e = .returned (.bool (validB top l)) ∧ Below w.heap.size w w' := by
  obtain ⟨A, cap, rfl, h1, h2⟩ := hR
  rcases Nat.eq_zero_or_pos top with rfl | ht
  · have HV : validB 0 l = false := by unfold validB; simp
    rw [HV]
    clear HV h2 h1 hl
    go_enter Tryz.func14, Tryz.ntmps14
    go_wp2_with fail
    go_ret
    exact ⟨rfl, (Below.refl _ w).alloc (Nat.le_refl _) _⟩
  · have ht' : (0 : Int) < top := by omega
    rcases Nat.eq_zero_or_pos l.length with h0 | h0
    · have HV : validB top l = false := by
        have : l = [] := List.eq_nil_of_length_eq_zero h0
        subst this
        unfold validB; simp
      rw [HV, h0]
      clear HV h2 h1 hl ht h0
      go_enter Tryz.func14, Tryz.ntmps14
      go_wp2_with fail
      go_ret
      exact ⟨rfl, (Below.refl _ w).alloc (Nat.le_refl _) _⟩
    · obtain ⟨b, o, rfl, hb, hc⟩ := h2 h0
      have hb0 : Below w.heap.size w (w.alloc (.cells #[.int .u32 top] 30)) := (Below.refl _ w).alloc (Nat.le_refl _) _
      have eg : ∀ args w, (callFunc 32 args).run Tryz.prog w = .ok (.enter 32 args) w := enters_of Tryz.func32 (by kernel_rfl) rfl
      have hcon := AnyQ.slices_ContainsFunc Tryz.lContains 2 Tryz.isAgg32 Tryz.sizeOf32 encR (fun _ => rfl) (fun r => decide (top < max r.lo r.hi)) 32 #[.pointer (some ⟨w.heap.size, 0, none⟩)] eg b o l.length cap l (w.alloc (.cells #[.int .u32 top] 30))
        (valid1 top w.heap.size _ (by simp) (by simp)) (Nat.le_refl _) (by omega) (by simp; omega) (fun j hj i v hi => by
          have h1 := hc j l[j] (List.getElem?_eq_getElem hj)
          rw [getElem!_pos l j hj] at hi
          generalize l[j] = y at hi h1
          match i, hi with
          | 0, hi => simp [encR] at hi; rw [← hi]; exact (hb0.cell (p := ⟨b, o + j * 2, none⟩) hb).trans h1.1
          | 1, hi => simp [encR] at hi; rw [← hi]; exact (hb0.cell (p := ⟨b, o + j * 2 + 1, none⟩) hb).trans h1.2
          | i + 2, hi => simp [encR] at hi)
      rw [List.take_length] at hcon
      change Calls Tryz.prog 31 _ _ _ at hcon
      have HV : Hid (validB top l = !(l.any fun r => decide (top < max r.lo r.hi))) := Lib.hid (valid_eq ht h0)
      have hlz : (0 : Int) < l.length := by omega
      clear hc h1 h2 ht h0 hl
      rw [HV.out]
      generalize (l.any fun r => decide (top < max r.lo r.hi)) = q at hcon ⊢
      generalize l.length = n at hcon hlz ⊢
      have HC := Lib.hid hcon
      clear hcon HV eg
      go_enter Tryz.func14, Tryz.ntmps14
      go_wp2_with (go_at_call 31; refine HC.out.mono ?_; rintro e w' ⟨rfl, hb'⟩)
      go_ret
      exact ⟨rfl, hb0.trans (hb'.mono hb0.size)⟩

theorem results_two {fn : Func} {p : Tmp} (hr : fn.results = #[.cell p 32]) {tmps : Array Value} {w : World} {g : Nat} {a0 a1 : Value} (hp : tmps.getD p undef = .pointer (some ⟨g, 0, none⟩))
    (c0 : w.cell? ⟨g, 0, none⟩ = some a0) (c1 : w.cell? ⟨g, 1, none⟩ = some a1) :
    (results fn tmps).run Tryz.prog w = .ok (.agg #[a0, a1]) w := by
  have e : (results fn tmps).run Tryz.prog w = ((asAddr (tmps.getD p undef)).run Tryz.prog w).andThen fun a w₁ => (loadVar 32 a).run Tryz.prog w₁ := by
    simp only [results, hr]
    simp [Sem.run_bind, Result.andThen]
  rw [e, hp, show (asAddr (.pointer (some ⟨g, 0, none⟩))).run Tryz.prog w = .ok ⟨g, 0, none⟩ w from rfl]
  simp only [Result.andThen]
  simp [go_sem, c0, c1]
theorem two_cells (w : World) (o : Obj) (a0 a1 : Value) (t : TypeId) : ((w.alloc o).alloc (.cells #[a0, a1] t)).cell? ⟨w.heap.size + 1, 0, none⟩ = some a0 ∧ ((w.alloc o).alloc (.cells #[a0, a1] t)).cell? ⟨w.heap.size + 1, 1, none⟩ = some a1 := by
  have h := Blk.made (w.alloc o) t #[a0, a1]
  rw [World.size_alloc] at h
  exact ⟨h.cell 0, h.cell 1⟩

set_option maxHeartbeats 1600000 in
theorem plain_any (top : Nat) (r : Rng) (w : World) :
    Calls Tryz.prog 49 #[.int .u32 top, .agg #[.int .u32 r.lo, .int .u32 r.hi]] w fun e w' => e = .returned (.agg #[.int .u32 (plainR top r).lo, .int .u32 (plainR top r).hi]) ∧ Below w.heap.size w w' := by
  obtain ⟨a, c⟩ := r
  have hB : ∀ o o', Below w.heap.size w ((w.alloc o).alloc o') := fun o o' => ((Below.refl _ w).alloc (Nat.le_refl _) _).alloc (by simp) _
  have HB := Lib.hid hB
  clear hB
  have HP : Hid ((plainR top ⟨a, c⟩).lo = min (if a = 0 then top else a) (if c = 0 then top else c) ∧ (plainR top ⟨a, c⟩).hi = max (if a = 0 then top else a) (if c = 0 then top else c)) := Lib.hid ⟨rfl, rfl⟩
  rw [HP.out.1, HP.out.2]
  have HM : Hid (∀ x y : Nat, ((min x y : Nat) : Int) = min (x : Int) (y : Int) ∧ ((max x y : Nat) : Int) = max (x : Int) (y : Int)) := Lib.hid (fun x y => by omega)
  by_cases ha : a = 0
  · subst ha
    by_cases hc : c = 0
    · subst hc
      go_enter Tryz.func49, Tryz.ntmps49
      go_wp2
      refine bodyPost_ret (results_two rfl rfl (two_cells _ _ _ _ _).1 (two_cells _ _ _ _ _).2) rfl ?_
      exact ⟨by simp [HM.out], HB.out _ _⟩
    · have hcz : ((c : Int) == 0) = false := by simp; omega
      go_enter Tryz.func49, Tryz.ntmps49
      go_wp2
      refine bodyPost_ret (results_two rfl rfl (two_cells _ _ _ _ _).1 (two_cells _ _ _ _ _).2) rfl ?_
      exact ⟨by simp [HM.out], HB.out _ _⟩
  · have haz : ((a : Int) == 0) = false := by simp; omega
    by_cases hc : c = 0
    · subst hc
      go_enter Tryz.func49, Tryz.ntmps49
      go_wp2
      refine bodyPost_ret (results_two rfl rfl (two_cells _ _ _ _ _).1 (two_cells _ _ _ _ _).2) rfl ?_
      exact ⟨by simp [HM.out], HB.out _ _⟩
    · have hcz : ((c : Int) == 0) = false := by simp; omega
      go_enter Tryz.func49, Tryz.ntmps49
      go_wp2
      refine bodyPost_ret (results_two rfl rfl (two_cells _ _ _ _ _).1 (two_cells _ _ _ _ _).2) rfl ?_
      exact ⟨by simp [HM.out], HB.out _ _⟩
end Go.Proofs.YtpcffnhbodjpbaaGreatDoor
