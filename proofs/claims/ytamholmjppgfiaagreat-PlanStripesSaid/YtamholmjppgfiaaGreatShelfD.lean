/-
  DERIVED: THE SHELF's CONTRACTS AT THIS DUMP, IN PLAIN WORDS (tools/lay-plain.mjs out of 'YtamholmjppgfiaaGreatTs.lean', which tools/lay-shelf.mjs wrote): THE SAME DECLARATIONS UNDER THE SAME NAMES: 'import', 'namespace', 'open', 'def', 'theorem' AND NOTHING ELSE: no command of the shelf's: FOR A HAND-IN. Each laying: the table of numbers ('.._ren') and one theorem, a field a fact of the dump's own or the kernel's comparison; each contract: ONE APPLICATION.
-/
import Derived.Shelf.SlIterI.Nil
import Derived.Shelf.SlIterI.Sorted
import Derived.Shelf.SortM.Plain
import Derived.Shelf.SortM.SortNone
import Derived.Ground.GgzProg
import Derived.Ground.SlgmProg
import Derived.Test.YtamholmjppgfiaaGreatProg
set_option linter.unusedVariables false
set_option linter.unusedSimpArgs false
namespace Go.Proofs
open Go.Shelf
def Tryz.lKeys_ren : Go.Shelf.Ren := ⟨fun | 7 => 68 | 10 => 89 | n => n, fun | 23 => 108 | 26 => 3 | 3 => 23 | 28 => 106 | 0 => 0 | 27 => 105 | 33 => 83 | 4 => 4 | n => n, fun | n => n⟩
theorem Tryz.lKeys : Go.Proofs.SlLaysZI.n7 Tryz.prog Tryz.lKeys_ren := {
  mixed := by kernel_rfl
  f7 := ⟨Tryz.f68.name, by decide, Tryz.func68.trans (congrArg some (by kernel_rfl))⟩
  f10 := ⟨Tryz.f89.name, by decide, Tryz.func89.trans (congrArg some (by kernel_rfl))⟩
  t0 := Tryz.underlying0
  a0 := Tryz.isAgg0
  z0 := Tryz.sizeOf0
  v0 := Tryz.zeroValue0
  t4 := Tryz.underlying4
  a4 := Tryz.isAgg4
  z4 := Tryz.sizeOf4
  v4 := Tryz.zeroValue4
  t23 := Tryz.underlying108
  a23 := Tryz.isAgg108
  z23 := Tryz.sizeOf108
  v23 := Tryz.zeroValue108
  t26 := Tryz.underlying3
  a26 := Tryz.isAgg3
  z26 := Tryz.sizeOf3
  v26 := Tryz.zeroValue3
  t27 := Tryz.underlying105
  a27 := Tryz.isAgg105
  z27 := Tryz.sizeOf105
  v27 := Tryz.zeroValue105
  t28 := Tryz.underlying106
  a28 := Tryz.isAgg106
  z28 := Tryz.sizeOf106
  v28 := Tryz.zeroValue106
  t33 := Tryz.underlying83
  a33 := Tryz.isAgg83
  z33 := Tryz.sizeOf83
  v33 := Tryz.zeroValue83 }
def Tryz.lSorted_ren : Go.Shelf.Ren := ⟨fun | 6 => 67 | 8 => 87 | 9 => 88 | 11 => 101 | 13 => 60 | 12 => 102 | 23 => 79 | 24 => 80 | 14 => 109 | 15 => 110 | 16 => 111 | 17 => 112 | 18 => 113 | 19 => 114 | 20 => 115 | 21 => 116 | 22 => 117 | 25 => 119 | 26 => 91 | 27 => 92 | 28 => 120 | 29 => 121 | 30 => 122 | 31 => 131 | n => n, fun | 26 => 3 | 28 => 106 | 24 => 37 | 0 => 0 | 3 => 3 | 37 => 95 | 48 => 45 | 50 => 120 | 4 => 4 | 40 => 112 | 39 => 111 | 45 => 50 | 5 => 5 | 9 => 9 | 51 => 127 | 55 => 131 | 57 => 140 | 58 => 141 | 33 => 83 | n => n, fun | n => n⟩
theorem Tryz.lSorted : Go.Proofs.SlLaysZI.n6 Tryz.prog Tryz.lSorted_ren := {
  mixed := by kernel_rfl
  f6 := ⟨Tryz.f67.name, by decide, Tryz.func67.trans (congrArg some (by kernel_rfl))⟩
  f8 := ⟨Tryz.f87.name, by decide, Tryz.func87.trans (congrArg some (by kernel_rfl))⟩
  f11 := ⟨Tryz.f101.name, by decide, Tryz.func101.trans (congrArg some (by kernel_rfl))⟩
  t0 := Tryz.underlying0
  a0 := Tryz.isAgg0
  z0 := Tryz.sizeOf0
  v0 := Tryz.zeroValue0
  t24 := Tryz.underlying37
  a24 := Tryz.isAgg37
  z24 := Tryz.sizeOf37
  v24 := Tryz.zeroValue37
  t26 := Tryz.underlying3
  a26 := Tryz.isAgg3
  z26 := Tryz.sizeOf3
  v26 := Tryz.zeroValue3
  t28 := Tryz.underlying106
  a28 := Tryz.isAgg106
  z28 := Tryz.sizeOf106
  v28 := Tryz.zeroValue106
  i26 := by kernel_rfl }
def Tryz.lSort_ren : Go.Shelf.Ren := ⟨fun | 5 => 88 | 8 => 60 | 7 => 102 | 19 => 79 | 20 => 80 | 10 => 109 | 11 => 110 | 12 => 111 | 13 => 112 | 14 => 113 | 15 => 114 | 16 => 115 | 17 => 116 | 18 => 117 | 30 => 119 | 31 => 91 | 32 => 92 | 33 => 120 | 34 => 121 | 35 => 122 | 40 => 131 | n => n, fun | 23 => 37 | 25 => 3 | 3 => 3 | 32 => 95 | 22 => 37 | 0 => 0 | 44 => 45 | 46 => 120 | 4 => 4 | 36 => 112 | 35 => 111 | 41 => 50 | 5 => 5 | 9 => 9 | 53 => 127 | 57 => 131 | 63 => 140 | 64 => 141 | n => n, fun | n => n⟩
theorem Tryz.lSort : Go.Proofs.SlLaysM.n5 Tryz.prog Tryz.lSort_ren := {
  mixed := by kernel_rfl
  f5 := ⟨Tryz.f88.name, by decide, Tryz.func88.trans (congrArg some (by kernel_rfl))⟩
  f7 := ⟨Tryz.f102.name, by decide, Tryz.func102.trans (congrArg some (by kernel_rfl))⟩
  f8 := Tryz.func60.trans (congrArg some (by kernel_rfl))
  f10 := ⟨Tryz.f109.name, by decide, Tryz.func109.trans (congrArg some (by kernel_rfl))⟩
  f11 := ⟨Tryz.f110.name, by decide, Tryz.func110.trans (congrArg some (by kernel_rfl))⟩
  f12 := ⟨Tryz.f111.name, by decide, Tryz.func111.trans (congrArg some (by kernel_rfl))⟩
  f13 := ⟨Tryz.f112.name, by decide, Tryz.func112.trans (congrArg some (by kernel_rfl))⟩
  f14 := ⟨Tryz.f113.name, by decide, Tryz.func113.trans (congrArg some (by kernel_rfl))⟩
  f15 := ⟨Tryz.f114.name, by decide, Tryz.func114.trans (congrArg some (by kernel_rfl))⟩
  f16 := ⟨Tryz.f115.name, by decide, Tryz.func115.trans (congrArg some (by kernel_rfl))⟩
  f17 := ⟨Tryz.f116.name, by decide, Tryz.func116.trans (congrArg some (by kernel_rfl))⟩
  f18 := ⟨Tryz.f117.name, by decide, Tryz.func117.trans (congrArg some (by kernel_rfl))⟩
  f19 := Tryz.func79.trans (congrArg some (by kernel_rfl))
  f20 := Tryz.func80.trans (congrArg some (by kernel_rfl))
  f30 := ⟨Tryz.f119.name, by decide, Tryz.func119.trans (congrArg some (by kernel_rfl))⟩
  f31 := Tryz.func91.trans (congrArg some (by kernel_rfl))
  f32 := Tryz.func92.trans (congrArg some (by kernel_rfl))
  f33 := ⟨Tryz.f120.name, by decide, Tryz.func120.trans (congrArg some (by kernel_rfl))⟩
  f34 := ⟨Tryz.f121.name, by decide, Tryz.func121.trans (congrArg some (by kernel_rfl))⟩
  f35 := ⟨Tryz.f122.name, by decide, Tryz.func122.trans (congrArg some (by kernel_rfl))⟩
  f40 := ⟨Tryz.f131.name, by decide, Tryz.func131.trans (congrArg some (by kernel_rfl))⟩
  t0 := Tryz.underlying0
  a0 := Tryz.isAgg0
  z0 := Tryz.sizeOf0
  v0 := Tryz.zeroValue0
  t3 := Tryz.underlying3
  a3 := Tryz.isAgg3
  z3 := Tryz.sizeOf3
  v3 := Tryz.zeroValue3
  t4 := Tryz.underlying4
  a4 := Tryz.isAgg4
  z4 := Tryz.sizeOf4
  v4 := Tryz.zeroValue4
  t5 := Tryz.underlying5
  a5 := Tryz.isAgg5
  z5 := Tryz.sizeOf5
  v5 := Tryz.zeroValue5
  t9 := Tryz.underlying9
  a9 := Tryz.isAgg9
  z9 := Tryz.sizeOf9
  v9 := Tryz.zeroValue9
  t22 := Tryz.underlying37
  a22 := Tryz.isAgg37
  z22 := Tryz.sizeOf37
  v22 := Tryz.zeroValue37
  t23 := Tryz.underlying37
  a23 := Tryz.isAgg37
  z23 := Tryz.sizeOf37
  v23 := Tryz.zeroValue37
  t25 := Tryz.underlying3
  a25 := Tryz.isAgg3
  z25 := Tryz.sizeOf3
  v25 := Tryz.zeroValue3
  t32 := Tryz.underlying95
  a32 := Tryz.isAgg95
  z32 := Tryz.sizeOf95
  v32 := Tryz.zeroValue95
  t35 := Tryz.underlying111
  a35 := Tryz.isAgg111
  z35 := Tryz.sizeOf111
  v35 := Tryz.zeroValue111
  t36 := Tryz.underlying112
  a36 := Tryz.isAgg112
  z36 := Tryz.sizeOf112
  v36 := Tryz.zeroValue112
  t41 := Tryz.underlying50
  a41 := Tryz.isAgg50
  z41 := Tryz.sizeOf50
  v41 := Tryz.zeroValue50
  t44 := Tryz.underlying45
  a44 := Tryz.isAgg45
  z44 := Tryz.sizeOf45
  v44 := Tryz.zeroValue45
  t46 := Tryz.underlying120
  a46 := Tryz.isAgg120
  z46 := Tryz.sizeOf120
  v46 := Tryz.zeroValue120
  t53 := Tryz.underlying127
  a53 := Tryz.isAgg127
  z53 := Tryz.sizeOf127
  v53 := Tryz.zeroValue127
  t57 := Tryz.underlying131
  a57 := Tryz.isAgg131
  z57 := Tryz.sizeOf131
  v57 := Tryz.zeroValue131
  t63 := Tryz.underlying140
  a63 := Tryz.isAgg140
  z63 := Tryz.sizeOf140
  v63 := Tryz.zeroValue140
  t64 := Tryz.underlying141
  a64 := Tryz.isAgg141
  z64 := Tryz.sizeOf141
  v64 := Tryz.zeroValue141 }
end Go.Proofs
