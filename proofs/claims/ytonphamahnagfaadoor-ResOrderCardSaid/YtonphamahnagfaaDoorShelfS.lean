/-
  DERIVED: THE SHELF's CONTRACTS AT THIS DUMP, IN PLAIN WORDS (tools/lay-plain.mjs out of 'TrydShelfS.lean', which tools/lay-shelf.mjs wrote): THE SAME DECLARATIONS UNDER THE SAME NAMES: 'import', 'namespace', 'open', 'def', 'theorem' AND NOTHING ELSE: no command of the shelf's: FOR A HAND-IN. Each laying: the table of numbers ('.._ren') and one theorem, a field a fact of the dump's own or the kernel's comparison; each contract: ONE APPLICATION.
-/
import Derived.Shelf.SlSortCmp.WholeK
import Derived.Shelf.SlGeneric
import Derived.Ground.SlsfProg
import Derived.Test.YtonphamahnagfaaDoorProg
namespace Go.Proofs
open Go.Shelf
def Tryd.sortRes_ren : Go.Shelf.Ren := ⟨fun | 6 => 43 | 15 => 51 | 14 => 50 | 28 => 64 | 29 => 65 | 20 => 56 | 21 => 57 | 22 => 58 | 23 => 59 | 24 => 60 | 25 => 61 | 26 => 62 | 27 => 63 | 46 => 70 | 47 => 71 | 48 => 72 | 49 => 73 | 50 => 74 | 57 => 77 | n => n, fun | 22 => 45 | 24 => 24 | 25 => 66 | 3 => 3 | 39 => 106 | 0 => 0 | 53 => 122 | 55 => 108 | 4 => 4 | 46 => 115 | 45 => 114 | 50 => 119 | 5 => 5 | 9 => 9 | 66 => 127 | 70 => 131 | 76 => 133 | 77 => 134 | n => n, fun | n => n⟩
theorem Tryd.sortRes : Go.Proofs.SlLaysF0.n6 Tryd.prog Tryd.sortRes_ren := {
  mixed := by kernel_rfl
  f6 := ⟨Tryd.f43.name, by decide, Tryd.func43.trans (congrArg some (by kernel_rfl))⟩
  f14 := ⟨Tryd.f50.name, by decide, Tryd.func50.trans (congrArg some (by kernel_rfl))⟩
  f15 := Tryd.func51.trans (congrArg some (by kernel_rfl))
  f20 := ⟨Tryd.f56.name, by decide, Tryd.func56.trans (congrArg some (by kernel_rfl))⟩
  f21 := ⟨Tryd.f57.name, by decide, Tryd.func57.trans (congrArg some (by kernel_rfl))⟩
  f22 := ⟨Tryd.f58.name, by decide, Tryd.func58.trans (congrArg some (by kernel_rfl))⟩
  f23 := ⟨Tryd.f59.name, by decide, Tryd.func59.trans (congrArg some (by kernel_rfl))⟩
  f24 := ⟨Tryd.f60.name, by decide, Tryd.func60.trans (congrArg some (by kernel_rfl))⟩
  f25 := ⟨Tryd.f61.name, by decide, Tryd.func61.trans (congrArg some (by kernel_rfl))⟩
  f26 := ⟨Tryd.f62.name, by decide, Tryd.func62.trans (congrArg some (by kernel_rfl))⟩
  f27 := ⟨Tryd.f63.name, by decide, Tryd.func63.trans (congrArg some (by kernel_rfl))⟩
  f28 := Tryd.func64.trans (congrArg some (by kernel_rfl))
  f29 := Tryd.func65.trans (congrArg some (by kernel_rfl))
  f46 := ⟨Tryd.f70.name, by decide, Tryd.func70.trans (congrArg some (by kernel_rfl))⟩
  f47 := Tryd.func71.trans (congrArg some (by kernel_rfl))
  f48 := Tryd.func72.trans (congrArg some (by kernel_rfl))
  f49 := ⟨Tryd.f73.name, by decide, Tryd.func73.trans (congrArg some (by kernel_rfl))⟩
  f50 := ⟨Tryd.f74.name, by decide, Tryd.func74.trans (congrArg some (by kernel_rfl))⟩
  f57 := ⟨Tryd.f77.name, by decide, Tryd.func77.trans (congrArg some (by kernel_rfl))⟩
  t0 := Tryd.underlying0
  a0 := Tryd.isAgg0
  z0 := Tryd.sizeOf0
  v0 := Tryd.zeroValue0
  t3 := Tryd.underlying3
  a3 := Tryd.isAgg3
  z3 := Tryd.sizeOf3
  v3 := Tryd.zeroValue3
  t4 := Tryd.underlying4
  a4 := Tryd.isAgg4
  z4 := Tryd.sizeOf4
  v4 := Tryd.zeroValue4
  t5 := Tryd.underlying5
  a5 := Tryd.isAgg5
  z5 := Tryd.sizeOf5
  v5 := Tryd.zeroValue5
  t9 := Tryd.underlying9
  a9 := Tryd.isAgg9
  z9 := Tryd.sizeOf9
  v9 := Tryd.zeroValue9
  t22 := Tryd.underlying45
  a22 := Tryd.isAgg45
  z22 := Tryd.sizeOf45
  v22 := Tryd.zeroValue45
  t25 := Tryd.underlying66
  a25 := Tryd.isAgg66
  z25 := Tryd.sizeOf66
  v25 := Tryd.zeroValue66
  t39 := Tryd.underlying106
  a39 := Tryd.isAgg106
  z39 := Tryd.sizeOf106
  v39 := Tryd.zeroValue106
  t45 := Tryd.underlying114
  a45 := Tryd.isAgg114
  z45 := Tryd.sizeOf114
  v45 := Tryd.zeroValue114
  t46 := Tryd.underlying115
  a46 := Tryd.isAgg115
  z46 := Tryd.sizeOf115
  v46 := Tryd.zeroValue115
  t50 := Tryd.underlying119
  a50 := Tryd.isAgg119
  z50 := Tryd.sizeOf119
  v50 := Tryd.zeroValue119
  t53 := Tryd.underlying122
  a53 := Tryd.isAgg122
  z53 := Tryd.sizeOf122
  v53 := Tryd.zeroValue122
  t55 := Tryd.underlying108
  a55 := Tryd.isAgg108
  z55 := Tryd.sizeOf108
  v55 := Tryd.zeroValue108
  t66 := Tryd.underlying127
  a66 := Tryd.isAgg127
  z66 := Tryd.sizeOf127
  v66 := Tryd.zeroValue127
  t70 := Tryd.underlying131
  a70 := Tryd.isAgg131
  z70 := Tryd.sizeOf131
  v70 := Tryd.zeroValue131
  t76 := Tryd.underlying133
  a76 := Tryd.isAgg133
  z76 := Tryd.sizeOf133
  v76 := Tryd.zeroValue133
  t77 := Tryd.underlying134
  a77 := Tryd.isAgg134
  z77 := Tryd.sizeOf134
  v77 := Tryd.zeroValue134 }
end Go.Proofs
