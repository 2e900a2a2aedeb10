/- Places in ascending lists. -/
import Derived.Test.YtponmnabbieafaaGreatDoorIdxW
set_option linter.unusedVariables false
set_option linter.unusedSimpArgs false
namespace Go.Proofs.YtponmnabbieafaaGreatDoor
open Go Go.RowKit Go.Shelf Go.Lib Go.Sort

theorem cnt_at {l : List Int} (h : asc l) {i : Nat} {u : Int} (hu : l[i]? = some u) : cntU l u = i := by
  obtain ⟨hi, e⟩ := List.getElem?_eq_some_iff.1 hu
  have h1 : (l.take i).countP (fun y => decide (y < u)) = i := by
    rw [List.countP_eq_length.2 (fun y hy => ?_), List.length_take]
    · omega
    · rw [List.mem_take_iff_getElem] at hy
      obtain ⟨j, hj, rfl⟩ := hy
      rw [decide_eq_true_eq, ← e]
      exact List.pairwise_iff_getElem.1 h j i (by omega) hi (by omega)
  have h2 : (l.drop i).countP (fun y => decide (y < u)) = 0 := by
    rw [List.countP_eq_zero]
    intro y hy
    rw [List.mem_drop_iff_getElem] at hy
    obtain ⟨j, hj, rfl⟩ := hy
    rw [decide_eq_true_eq, ← e]
    rcases Nat.eq_zero_or_pos j with rfl | hj0
    · simp
    · have := List.pairwise_iff_getElem.1 h i (i + j) hi (by omega) (by omega)
      omega
  unfold cntU
  rw [← List.take_append_drop i l, List.countP_append, h1, h2, Nat.add_zero]
theorem pos_at {l : List Int} (h : asc l) {i : Nat} {u : Int} (hu : l[i]? = some u) : posU l u = i + 1 := by
  unfold posU
  rw [cnt_at h hu, if_pos hu]
theorem pos_none {l : List Int} {u : Int} (hu : ¬ u ∈ l) : posU l u = 0 := by
  unfold posU
  split
  · rename_i h
    exact absurd (List.mem_of_getElem? h) hu
  · rfl
theorem pos_in {l : List Int} {u : Int} (h : 0 < posU l u) : u ∈ l ∧ posU l u ≤ l.length ∧ l[posU l u - 1]? = some u := by
  unfold posU at *
  split at h
  · rename_i e
    rw [if_pos e, Nat.add_sub_cancel]
    exact ⟨List.mem_of_getElem? e, (List.getElem?_eq_some_iff.1 e).1, e⟩
  · omega
theorem pos_pos {l : List Int} (h : asc l) {u : Int} (hu : u ∈ l) : 0 < posU l u := by
  obtain ⟨i, hi, e⟩ := List.mem_iff_getElem.1 hu
  rw [pos_at h (i := i) (by rw [List.getElem?_eq_getElem hi, e])]
  omega
end Go.Proofs.YtponmnabbieafaaGreatDoor
