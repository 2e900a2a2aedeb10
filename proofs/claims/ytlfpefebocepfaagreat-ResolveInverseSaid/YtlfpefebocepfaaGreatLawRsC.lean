/- ResolveJoins: the law's own walk. -/
import Derived.Test.YtlfpefebocepfaaGreatLawRsA
import Derived.Test.YtlfpefebocepfaaGreatConc
set_option linter.unusedVariables false
set_option linter.unusedSimpArgs false
namespace Go.Proofs.YtlfpefebocepfaaGreat
open Go Go.RowKit Go.Shelf Go.Lib Go.Sort

theorem numsOf_asc (top : Nat) (l : List Rng) : (numsOf top l).Pairwise fun a b => a < b := by
  unfold numsOf
  split
  · exact List.Pairwise.filter _ (by unfold nums; exact List.pairwise_lt_range')
  · exact List.Pairwise.nil
theorem uidsOf_mem {vl : List Int} {l : List Rng} {x : Int} : x ∈ uidsOf vl l ↔ ∃ n, n ∈ numsOf vl.length l ∧ vl[n - 1]! = x := by
  unfold uidsOf
  rw [List.mem_map]
theorem uidsOf_in {vl : List Int} {l : List Rng} {x : Int} (h : x ∈ uidsOf vl l) : x ∈ vl := by
  obtain ⟨n, hn, rfl⟩ := uidsOf_mem.1 h
  obtain ⟨h1, h2⟩ := numsOf_mem hn
  rw [getElem!_pos vl (n - 1) (by omega)]
  exact List.getElem_mem _
theorem uidsOf_asc {vl : List Int} (h : asc vl) (l : List Rng) : asc (uidsOf vl l) := by
  unfold uidsOf asc
  rw [List.pairwise_map]
  refine (numsOf_asc vl.length l).imp_of_mem fun {n m} hn hm hlt => ?_
  obtain ⟨h1, h2⟩ := numsOf_mem hn
  obtain ⟨h3, h4⟩ := numsOf_mem hm
  rw [getElem!_pos vl (n - 1) (by omega), getElem!_pos vl (m - 1) (by omega)]
  exact List.pairwise_iff_getElem.1 h (n - 1) (m - 1) (by omega) (by omega) (by omega)
theorem valid_app {top : Nat} {a b : List Rng} (ha : validB top a = true) (hb : validB top b = true) : validB top (a ++ b) = true := by
  unfold validB at *
  simp only [Bool.and_eq_true, decide_eq_true_eq, List.all_eq_true, Bool.not_eq_true'] at *
  obtain ⟨⟨h1, h2⟩, h3⟩ := ha
  refine ⟨⟨h1, ?_⟩, fun r hr => ?_⟩
  · cases a with
    | nil => simp at h2
    | cons x t => rfl
  · rcases List.mem_append.1 hr with hr | hr
    · exact h3 r hr
    · exact hb.2 r hr
theorem numsOf_app {top n : Nat} {a b : List Rng} (ha : validB top a = true) (hb : validB top b = true) : n ∈ numsOf top (a ++ b) ↔ n ∈ numsOf top a ∨ n ∈ numsOf top b := by
  unfold numsOf
  rw [ha, hb, valid_app ha hb, if_pos rfl, if_pos rfl, if_pos rfl, List.mem_filter, List.mem_filter, List.mem_filter, anyR_map, anyR_map, anyR_map, List.any_append, Bool.or_eq_true]
  constructor
  · rintro ⟨h, h1 | h1⟩
    · exact .inl ⟨h, h1⟩
    · exact .inr ⟨h, h1⟩
  · rintro (⟨h, h1⟩ | ⟨h, h1⟩)
    · exact ⟨h, .inl h1⟩
    · exact ⟨h, .inr h1⟩
theorem uids_joins {us : List Int} {a b : List Rng} (ha : validB (srtU us).length a = true) (hb : validB (srtU us).length b = true) : uidsOf (srtU us) (a ++ b) = srtU (uidsOf (srtU us) a ++ uidsOf (srtU us) b) := by
  refine asc_ext (uidsOf_asc (srtU_asc us) _) (srtU_asc _) fun x => ?_
  rw [srtU_mem, List.mem_append]
  constructor
  · intro h
    refine ⟨?_, (srtU_mem.1 (uidsOf_in h)).2⟩
    obtain ⟨n, hn, e⟩ := uidsOf_mem.1 h
    rcases (numsOf_app ha hb).1 hn with hn | hn
    · exact .inl (uidsOf_mem.2 ⟨n, hn, e⟩)
    · exact .inr (uidsOf_mem.2 ⟨n, hn, e⟩)
  · rintro ⟨h | h, _⟩
    · obtain ⟨n, hn, e⟩ := uidsOf_mem.1 h
      exact uidsOf_mem.2 ⟨n, (numsOf_app ha hb).2 (.inl hn), e⟩
    · obtain ⟨n, hn, e⟩ := uidsOf_mem.1 h
      exact uidsOf_mem.2 ⟨n, (numsOf_app ha hb).2 (.inr hn), e⟩
theorem uidsOf_len (vl : List Int) (l : List Rng) : (uidsOf vl l).length ≤ vl.length := by
  unfold uidsOf
  rw [List.length_map]
  exact numsOf_len _ _

end Go.Proofs.YtlfpefebocepfaaGreat
