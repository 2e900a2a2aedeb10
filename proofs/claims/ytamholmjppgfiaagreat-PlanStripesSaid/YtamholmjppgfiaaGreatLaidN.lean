/- A world that fits, for the witness; no variables are laid. -/
import Derived.Test.YtamholmjppgfiaaGreatRows
import Derived.WalkKit
import Derived.LaidLaws
import Derived.MakeChecks
set_option linter.unusedVariables false
set_option linter.unusedSimpArgs false
namespace Go.Proofs.YtamholmjppgfiaaGreat
open Go

theorem own : ownKnob Tryz.prog.godebug = none := by kernel_rfl
/-- The settled world. -/
noncomputable def laidWorld (os : Os) : World := World.holding Tryz.prog os ⟨#[], #[], []⟩
end Go.Proofs.YtamholmjppgfiaaGreat
