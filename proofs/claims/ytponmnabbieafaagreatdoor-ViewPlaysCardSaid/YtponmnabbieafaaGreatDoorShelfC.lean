/-
  DERIVED: THE SHELF's CONTRACTS AT THIS DUMP, IN PLAIN WORDS (tools/lay-plain.mjs out of 'YtponmnabbieafaaGreatDoorTs.lean', which tools/lay-shelf.mjs wrote): THE SAME DECLARATIONS UNDER THE SAME NAMES: 'import', 'namespace', 'open', 'def', 'theorem' AND NOTHING ELSE: no command of the shelf's: FOR A HAND-IN. Each laying: the table of numbers ('.._ren') and one theorem, a field a fact of the dump's own or the kernel's comparison; each contract: ONE APPLICATION.
-/
import Derived.Shelf.SlicesQ.IndexFunc
import Derived.Shelf.SlSortCmp.WholeK
import Derived.Shelf.SlSorted.Search
import Derived.Ground.SlgfProg
import Derived.Ground.SlsfProg
import Derived.Ground.SlsoProg
import Derived.Test.YtponmnabbieafaaGreatDoorProg
set_option linter.unusedVariables false
set_option linter.unusedSimpArgs false
namespace Go.Proofs
open Go.Shelf
def Tryz.lSearch_ren : Go.Shelf.Ren := ⟨fun | 16 => 47 | n => n, fun | 3 => 3 | 35 => 85 | 4 => 4 | 38 => 89 | n => n, fun | n => n⟩
theorem Tryz.lSearch : Go.Proofs.SlLaysO.n16 Tryz.prog Tryz.lSearch_ren := {
  mixed := by kernel_rfl
  f16 := Tryz.func47.trans (congrArg some (by kernel_rfl))
  t3 := Tryz.underlying3
  a3 := Tryz.isAgg3
  z3 := Tryz.sizeOf3
  v3 := Tryz.zeroValue3
  t4 := Tryz.underlying4
  a4 := Tryz.isAgg4
  z4 := Tryz.sizeOf4
  v4 := Tryz.zeroValue4
  t35 := Tryz.underlying85
  a35 := Tryz.isAgg85
  z35 := Tryz.sizeOf85
  v35 := Tryz.zeroValue85
  t38 := Tryz.underlying89
  a38 := Tryz.isAgg89
  z38 := Tryz.sizeOf89
  v38 := Tryz.zeroValue89 }
end Go.Proofs
