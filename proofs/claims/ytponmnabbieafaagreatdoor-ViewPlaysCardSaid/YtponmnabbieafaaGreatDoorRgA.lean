/- Sets of ranges in memory; Valid, plain. -/
import Derived.Test.YtponmnabbieafaaGreatDoorShelfC
import Derived.Test.YtponmnabbieafaaGreatDoorSetSpec
import Derived.Test.YtponmnabbieafaaGreatDoorGrow
set_option linter.unusedVariables false
set_option linter.unusedSimpArgs false
namespace Go.Proofs.YtponmnabbieafaaGreatDoor
open Go Go.RowKit Go.Shelf Go.Lib Go.Sort

instance : Inhabited Rng := ⟨⟨0, 0⟩⟩
def encR (r : Rng) : List Value := [.int .u32 r.lo, .int .u32 r.hi]
/-- The slice value v reads as the ranges l, in a block below B. -/
def RgL (W : World) (B : Nat) (v : Value) (l : List Rng) : Prop :=
  ∃ A cap, v = .slice A l.length cap ∧ l.length ≤ cap ∧ (0 < l.length → ∃ b o, A = some ⟨b, o, none⟩ ∧ b < B ∧ ∀ j r, l[j]? = some r → W.cell? ⟨b, o + j * 2, none⟩ = some (.int .u32 r.lo) ∧ W.cell? ⟨b, o + j * 2 + 1, none⟩ = some (.int .u32 r.hi))
theorem RgL.below {W W' : World} {B n : Nat} {v : Value} {l : List Rng} (h : RgL W B v l) (hb : Below n W W') (hn : B ≤ n) : RgL W' B v l := by
  obtain ⟨A, cap, e, h1, h2⟩ := h
  exact ⟨A, cap, e, h1, fun h0 => by
    obtain ⟨b, o, e2, h3, h4⟩ := h2 h0
    exact ⟨b, o, e2, h3, fun j r hj => ⟨(hb.cell (p := ⟨b, o + j * 2, none⟩) (Nat.lt_of_lt_of_le h3 hn)).trans (h4 j r hj).1, (hb.cell (p := ⟨b, o + j * 2 + 1, none⟩) (Nat.lt_of_lt_of_le h3 hn)).trans (h4 j r hj).2⟩⟩⟩
theorem RgL.mono {W : World} {B B' : Nat} {v : Value} {l : List Rng} (h : RgL W B v l) (hB : B ≤ B') : RgL W B' v l := by
  obtain ⟨A, cap, e, h1, h2⟩ := h
  exact ⟨A, cap, e, h1, fun h0 => by
    obtain ⟨b, o, e2, h3, h4⟩ := h2 h0
    exact ⟨b, o, e2, by omega, h4⟩⟩

theorem valid_eq {top : Nat} {l : List Rng} (h1 : 0 < top) (h2 : 0 < l.length) : validB top l = !(l.any fun r => decide (top < max r.lo r.hi)) := by
  unfold validB
  rw [decide_eq_true h1, Bool.true_and]
  have : l.isEmpty = false := by cases l; simp at h2; rfl
  rw [this, Bool.not_false, Bool.true_and, Bool.eq_iff_iff, Bool.not_eq_true', List.any_eq_false, List.all_eq_true]
  refine forall₂_congr fun r _ => ?_
  simp only [Bool.and_eq_true, decide_eq_true_eq]
  omega
theorem two_cells (w : World) (o : Obj) (a0 a1 : Value) (t : TypeId) : ((w.alloc o).alloc (.cells #[a0, a1] t)).cell? ⟨w.heap.size + 1, 0, none⟩ = some a0 ∧ ((w.alloc o).alloc (.cells #[a0, a1] t)).cell? ⟨w.heap.size + 1, 1, none⟩ = some a1 := by
  have h := Blk.made (w.alloc o) t #[a0, a1]
  rw [World.size_alloc] at h
  exact ⟨h.cell 0, h.cell 1⟩

end Go.Proofs.YtponmnabbieafaaGreatDoor
