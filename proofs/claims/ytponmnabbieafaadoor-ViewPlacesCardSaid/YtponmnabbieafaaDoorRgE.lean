/- The walk of seqset.Numbers. -/
import Derived.Test.YtponmnabbieafaaDoorRgD
set_option linter.unusedVariables false
set_option linter.unusedSimpArgs false
namespace Go.Proofs.YtponmnabbieafaaDoor
open Go Go.RowKit Go.Shelf Go.Lib Go.Sort
attribute [local go_sem] Oper.semAt_some

end Go.Proofs.YtponmnabbieafaaDoor
