/-
  DERIVED: THE SHELF's CONTRACTS AT THIS DUMP, IN PLAIN WORDS (tools/lay-plain.mjs out of 'YtlfpefebocepfaaTs.lean', which tools/lay-shelf.mjs wrote): THE SAME DECLARATIONS UNDER THE SAME NAMES: 'import', 'namespace', 'open', 'def', 'theorem' AND NOTHING ELSE: no command of the shelf's: FOR A HAND-IN. Each laying: the table of numbers ('.._ren') and one theorem, a field a fact of the dump's own or the kernel's comparison; each contract: ONE APPLICATION.
-/
import Derived.Shelf.SlicesQ.IndexFunc
import Derived.Shelf.SlSortCmp.WholeK
import Derived.Shelf.SlSorted.Search
import Derived.Ground.SlgfProg
import Derived.Ground.SlsfProg
import Derived.Ground.SlsoProg
import Derived.Test.YtlfpefebocepfaaProg
set_option linter.unusedVariables false
set_option linter.unusedSimpArgs false
namespace Go.Proofs
open Go.Shelf
def Try.lContains_ren : Go.Shelf.Ren := ⟨fun | 8 => 44 | 6 => 56 | n => n, fun | 22 => 23 | 23 => 40 | 25 => 83 | 4 => 4 | 3 => 3 | 0 => 0 | n => n, fun | n => n⟩
theorem Try.lContains : Go.Proofs.SlLaysH0.n8 Try.prog Try.lContains_ren := {
  mixed := by kernel_rfl
  f6 := ⟨Try.f56.name, by decide, Try.func56.trans (congrArg some (by kernel_rfl))⟩
  f8 := ⟨Try.f44.name, by decide, Try.func44.trans (congrArg some (by kernel_rfl))⟩
  t0 := Try.underlying0
  a0 := Try.isAgg0
  z0 := Try.sizeOf0
  v0 := Try.zeroValue0
  t3 := Try.underlying3
  a3 := Try.isAgg3
  z3 := Try.sizeOf3
  v3 := Try.zeroValue3
  t4 := Try.underlying4
  a4 := Try.isAgg4
  z4 := Try.sizeOf4
  v4 := Try.zeroValue4
  t22 := Try.underlying23
  a22 := Try.isAgg23
  z22 := Try.sizeOf23
  v22 := Try.zeroValue23
  t25 := Try.underlying83
  a25 := Try.isAgg83
  z25 := Try.sizeOf83
  v25 := Try.zeroValue83 }
def Try.lSortF_ren : Go.Shelf.Ren := ⟨fun | 6 => 59 | 15 => 66 | 14 => 69 | 28 => 80 | 29 => 81 | 20 => 91 | 21 => 92 | 22 => 93 | 23 => 94 | 24 => 95 | 25 => 96 | 26 => 97 | 27 => 98 | 46 => 111 | 47 => 102 | 48 => 103 | 49 => 112 | 50 => 113 | 57 => 116 | n => n, fun | 22 => 23 | 24 => 40 | 25 => 98 | 3 => 3 | 39 => 103 | 0 => 0 | 53 => 38 | 55 => 92 | 4 => 4 | 46 => 109 | 45 => 108 | 50 => 114 | 5 => 5 | 9 => 9 | 66 => 129 | 70 => 133 | 76 => 139 | 77 => 140 | n => n, fun | n => n⟩
theorem Try.lSortF : Go.Proofs.SlLaysF0.n6 Try.prog Try.lSortF_ren := {
  mixed := by kernel_rfl
  f6 := ⟨Try.f59.name, by decide, Try.func59.trans (congrArg some (by kernel_rfl))⟩
  f14 := ⟨Try.f69.name, by decide, Try.func69.trans (congrArg some (by kernel_rfl))⟩
  f15 := Try.func66.trans (congrArg some (by kernel_rfl))
  f20 := ⟨Try.f91.name, by decide, Try.func91.trans (congrArg some (by kernel_rfl))⟩
  f21 := ⟨Try.f92.name, by decide, Try.func92.trans (congrArg some (by kernel_rfl))⟩
  f22 := ⟨Try.f93.name, by decide, Try.func93.trans (congrArg some (by kernel_rfl))⟩
  f23 := ⟨Try.f94.name, by decide, Try.func94.trans (congrArg some (by kernel_rfl))⟩
  f24 := ⟨Try.f95.name, by decide, Try.func95.trans (congrArg some (by kernel_rfl))⟩
  f25 := ⟨Try.f96.name, by decide, Try.func96.trans (congrArg some (by kernel_rfl))⟩
  f26 := ⟨Try.f97.name, by decide, Try.func97.trans (congrArg some (by kernel_rfl))⟩
  f27 := ⟨Try.f98.name, by decide, Try.func98.trans (congrArg some (by kernel_rfl))⟩
  f28 := Try.func80.trans (congrArg some (by kernel_rfl))
  f29 := Try.func81.trans (congrArg some (by kernel_rfl))
  f46 := ⟨Try.f111.name, by decide, Try.func111.trans (congrArg some (by kernel_rfl))⟩
  f47 := Try.func102.trans (congrArg some (by kernel_rfl))
  f48 := Try.func103.trans (congrArg some (by kernel_rfl))
  f49 := ⟨Try.f112.name, by decide, Try.func112.trans (congrArg some (by kernel_rfl))⟩
  f50 := ⟨Try.f113.name, by decide, Try.func113.trans (congrArg some (by kernel_rfl))⟩
  f57 := ⟨Try.f116.name, by decide, Try.func116.trans (congrArg some (by kernel_rfl))⟩
  t0 := Try.underlying0
  a0 := Try.isAgg0
  z0 := Try.sizeOf0
  v0 := Try.zeroValue0
  t3 := Try.underlying3
  a3 := Try.isAgg3
  z3 := Try.sizeOf3
  v3 := Try.zeroValue3
  t4 := Try.underlying4
  a4 := Try.isAgg4
  z4 := Try.sizeOf4
  v4 := Try.zeroValue4
  t5 := Try.underlying5
  a5 := Try.isAgg5
  z5 := Try.sizeOf5
  v5 := Try.zeroValue5
  t9 := Try.underlying9
  a9 := Try.isAgg9
  z9 := Try.sizeOf9
  v9 := Try.zeroValue9
  t22 := Try.underlying23
  a22 := Try.isAgg23
  z22 := Try.sizeOf23
  v22 := Try.zeroValue23
  t25 := Try.underlying98
  a25 := Try.isAgg98
  z25 := Try.sizeOf98
  v25 := Try.zeroValue98
  t39 := Try.underlying103
  a39 := Try.isAgg103
  z39 := Try.sizeOf103
  v39 := Try.zeroValue103
  t45 := Try.underlying108
  a45 := Try.isAgg108
  z45 := Try.sizeOf108
  v45 := Try.zeroValue108
  t46 := Try.underlying109
  a46 := Try.isAgg109
  z46 := Try.sizeOf109
  v46 := Try.zeroValue109
  t50 := Try.underlying114
  a50 := Try.isAgg114
  z50 := Try.sizeOf114
  v50 := Try.zeroValue114
  t53 := Try.underlying38
  a53 := Try.isAgg38
  z53 := Try.sizeOf38
  v53 := Try.zeroValue38
  t55 := Try.underlying92
  a55 := Try.isAgg92
  z55 := Try.sizeOf92
  v55 := Try.zeroValue92
  t66 := Try.underlying129
  a66 := Try.isAgg129
  z66 := Try.sizeOf129
  v66 := Try.zeroValue129
  t70 := Try.underlying133
  a70 := Try.isAgg133
  z70 := Try.sizeOf133
  v70 := Try.zeroValue133
  t76 := Try.underlying139
  a76 := Try.isAgg139
  z76 := Try.sizeOf139
  v76 := Try.zeroValue139
  t77 := Try.underlying140
  a77 := Try.isAgg140
  z77 := Try.sizeOf140
  v77 := Try.zeroValue140 }
def Try.lSearch_ren : Go.Shelf.Ren := ⟨fun | 16 => 99 | n => n, fun | 3 => 3 | 35 => 91 | 4 => 4 | 38 => 103 | n => n, fun | n => n⟩
theorem Try.lSearch : Go.Proofs.SlLaysO.n16 Try.prog Try.lSearch_ren := {
  mixed := by kernel_rfl
  f16 := Try.func99.trans (congrArg some (by kernel_rfl))
  t3 := Try.underlying3
  a3 := Try.isAgg3
  z3 := Try.sizeOf3
  v3 := Try.zeroValue3
  t4 := Try.underlying4
  a4 := Try.isAgg4
  z4 := Try.sizeOf4
  v4 := Try.zeroValue4
  t35 := Try.underlying91
  a35 := Try.isAgg91
  z35 := Try.sizeOf91
  v35 := Try.zeroValue91
  t38 := Try.underlying103
  a38 := Try.isAgg103
  z38 := Try.sizeOf103
  v38 := Try.zeroValue103 }
end Go.Proofs
