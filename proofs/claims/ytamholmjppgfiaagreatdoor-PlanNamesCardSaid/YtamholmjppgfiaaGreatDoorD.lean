/- The walks of the reference of package char: classes, strings in a class. -/
import Derived.Test.YtamholmjppgfiaaGreatDoorC
set_option linter.unusedVariables false
set_option linter.unusedSimpArgs false
namespace Go.Proofs.YtamholmjppgfiaaGreatDoor
open Go.RowKit

theorem atomB_tab : ∀ c : Fin 256, atomB c.val = (!(([40, 41, 123, 37, 42, 34, 92, 93] : List Int).contains c.val) && (decide (32 < (c.val : Int)) && decide ((c.val : Int) < 127))) := by decide +kernel
theorem atomB_ref (c : Int) (hc : 0 ≤ c) (hc2 : c < 256) : atomB c = (!(([40, 41, 123, 37, 42, 34, 92, 93] : List Int).contains c) && (decide (32 < c) && decide (c < 127))) := by
  have := atomB_tab ⟨c.toNat, by omega⟩
  simp only [Int.toNat_of_nonneg hc] at this
  exact this

end Go.Proofs.YtamholmjppgfiaaGreatDoor
