/- The walk of seqset.Numbers. -/
import Derived.Test.YtponmnabbieafaaGreatDoorRgD
set_option linter.unusedVariables false
set_option linter.unusedSimpArgs false
namespace Go.Proofs.YtponmnabbieafaaGreatDoor
open Go Go.RowKit Go.Shelf Go.Lib Go.Sort
attribute [local go_sem] Oper.semAt_some

end Go.Proofs.YtponmnabbieafaaGreatDoor
