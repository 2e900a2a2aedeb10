/- The reference of sets and views: Numbers, Seqs, UIDs. -/
import Derived.Test.YtamholmjppgfiaaGreatDoorRefW
set_option linter.unusedVariables false
set_option linter.unusedSimpArgs false
namespace Go.Proofs.YtamholmjppgfiaaGreatDoor
open Go Go.RowKit Go.Shelf Go.Lib Go.Sort

theorem numsOf_has (top : Nat) (l : List Rng) : (nums 1 top).filter (fun n => hasB top n l) = numsOf top l := by
  unfold numsOf
  cases hv : validB top l with
  | false =>
    rw [if_neg Bool.false_ne_true]
    rw [List.filter_eq_nil_iff]
    intro n _
    unfold hasB
    rw [hv]
    simp
  | true =>
    rw [if_pos rfl]
    apply List.filter_congr
    intro n _
    unfold hasB
    rw [hv, Bool.true_and, anyR_map]
end Go.Proofs.YtamholmjppgfiaaGreatDoor
