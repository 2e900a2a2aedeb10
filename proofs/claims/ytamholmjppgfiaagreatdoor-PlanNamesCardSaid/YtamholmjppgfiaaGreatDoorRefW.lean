/- The reference of sets and views: Valid, Has, Numbers, Seqs, UIDs. -/
import Derived.Test.YtamholmjppgfiaaGreatDoorSeqW
set_option linter.unusedVariables false
set_option linter.unusedSimpArgs false
namespace Go.Proofs.YtamholmjppgfiaaGreatDoor
open Go Go.RowKit Go.Shelf Go.Lib Go.Sort

def badR (top : Nat) (r : Rng) : Bool := decide (top < r.lo) || decide (top < r.hi)
theorem valid_bad (top : Nat) (l : List Rng) : validB top l = (decide (0 < top) && decide (0 < l.length) && !l.any (badR top)) := by
  unfold validB
  cases l with
  | nil => simp
  | cons a t =>
    simp only [List.isEmpty_cons, Bool.not_false, Bool.and_true, List.length_cons, Nat.zero_lt_succ, decide_true]
    congr 1
    rw [Bool.eq_iff_iff, Bool.not_eq_true', List.all_eq_true, List.any_eq_false]
    refine forall₂_congr fun r _ => ?_
    unfold badR
    simp only [Bool.and_eq_true, Bool.or_eq_true, decide_eq_true_eq]
    omega
end Go.Proofs.YtamholmjppgfiaaGreatDoor
