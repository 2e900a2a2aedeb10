/-
  DERIVED: THE SHELF's CONTRACTS AT THIS DUMP, IN PLAIN WORDS (tools/lay-plain.mjs out of 'YtponmnabbieafaaDoorTs.lean', which tools/lay-shelf.mjs wrote): THE SAME DECLARATIONS UNDER THE SAME NAMES: 'import', 'namespace', 'open', 'def', 'theorem' AND NOTHING ELSE: no command of the shelf's: FOR A HAND-IN. Each laying: the table of numbers ('.._ren') and one theorem, a field a fact of the dump's own or the kernel's comparison; each contract: ONE APPLICATION.
-/
import Derived.Shelf.SlicesQ.IndexFunc
import Derived.Shelf.SlSortCmp.WholeK
import Derived.Shelf.SlSorted.Search
import Derived.Ground.SlgfProg
import Derived.Ground.SlsfProg
import Derived.Ground.SlsoProg
import Derived.Test.YtponmnabbieafaaDoorProg
set_option linter.unusedVariables false
set_option linter.unusedSimpArgs false
namespace Go.Proofs
open Go.Shelf
def Tryd.lSearch_ren : Go.Shelf.Ren := ⟨fun | 16 => 42 | n => n, fun | 3 => 3 | 35 => 80 | 4 => 4 | 38 => 84 | n => n, fun | n => n⟩
theorem Tryd.lSearch : Go.Proofs.SlLaysO.n16 Tryd.prog Tryd.lSearch_ren := {
  mixed := by kernel_rfl
  f16 := Tryd.func42.trans (congrArg some (by kernel_rfl))
  t3 := Tryd.underlying3
  a3 := Tryd.isAgg3
  z3 := Tryd.sizeOf3
  v3 := Tryd.zeroValue3
  t4 := Tryd.underlying4
  a4 := Tryd.isAgg4
  z4 := Tryd.sizeOf4
  v4 := Tryd.zeroValue4
  t35 := Tryd.underlying80
  a35 := Tryd.isAgg80
  z35 := Tryd.sizeOf80
  v35 := Tryd.zeroValue80
  t38 := Tryd.underlying84
  a38 := Tryd.isAgg84
  z38 := Tryd.sizeOf84
  v38 := Tryd.zeroValue84 }
end Go.Proofs
