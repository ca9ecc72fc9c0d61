/-
  DERIVED: THE SHELF's CONTRACTS AT THIS DUMP, IN PLAIN WORDS (tools/lay-plain.mjs out of 'YtoacfdaobkghfaaDoorShelf.lean', which tools/lay-shelf.mjs wrote): THE SAME DECLARATIONS UNDER THE SAME NAMES: 'import', 'namespace', 'open', 'def', 'theorem' AND NOTHING ELSE: no command of the shelf's: FOR A HAND-IN. Each laying: the table of numbers ('.._ren') and one theorem, a field a fact of the dump's own or the kernel's comparison; each contract: ONE APPLICATION.
-/
import Derived.Shelf.SlSortCmp.NoneTotal
import Derived.Ground.SlsfProg
import Derived.Test.YtoacfdaobkghfaaDoorProg
namespace Go.Proofs
open Go.Shelf
def Tryd.sort47_ren : Go.Shelf.Ren := ⟨fun | 6 => 47 | 15 => 70 | 14 => 69 | 28 => 86 | 29 => 87 | 20 => 78 | 21 => 79 | 22 => 80 | 23 => 81 | 24 => 82 | 25 => 83 | 26 => 84 | 27 => 85 | 46 => 89 | 47 => 90 | 48 => 91 | 49 => 92 | 50 => 93 | 57 => 94 | n => n, fun | 22 => 35 | 24 => 25 | 25 => 74 | 3 => 3 | 39 => 42 | 0 => 0 | 53 => 102 | 55 => 47 | 4 => 4 | 46 => 95 | 45 => 94 | 50 => 99 | 5 => 5 | 9 => 9 | 66 => 103 | 70 => 107 | 76 => 109 | 77 => 110 | n => n, fun | n => n⟩
theorem Tryd.sort47 : Go.Proofs.SlLaysF.n6 Tryd.prog Tryd.sort47_ren := {
  mixed := by kernel_rfl
  f6 := ⟨Tryd.f47.name, by decide, Tryd.func47.trans (congrArg some (by kernel_rfl))⟩
  f14 := ⟨Tryd.f69.name, by decide, Tryd.func69.trans (congrArg some (by kernel_rfl))⟩
  f15 := Tryd.func70.trans (congrArg some (by kernel_rfl))
  f20 := ⟨Tryd.f78.name, by decide, Tryd.func78.trans (congrArg some (by kernel_rfl))⟩
  f21 := ⟨Tryd.f79.name, by decide, Tryd.func79.trans (congrArg some (by kernel_rfl))⟩
  f22 := ⟨Tryd.f80.name, by decide, Tryd.func80.trans (congrArg some (by kernel_rfl))⟩
  f23 := ⟨Tryd.f81.name, by decide, Tryd.func81.trans (congrArg some (by kernel_rfl))⟩
  f24 := ⟨Tryd.f82.name, by decide, Tryd.func82.trans (congrArg some (by kernel_rfl))⟩
  f25 := ⟨Tryd.f83.name, by decide, Tryd.func83.trans (congrArg some (by kernel_rfl))⟩
  f26 := ⟨Tryd.f84.name, by decide, Tryd.func84.trans (congrArg some (by kernel_rfl))⟩
  f27 := ⟨Tryd.f85.name, by decide, Tryd.func85.trans (congrArg some (by kernel_rfl))⟩
  f28 := Tryd.func86.trans (congrArg some (by kernel_rfl))
  f29 := Tryd.func87.trans (congrArg some (by kernel_rfl))
  f46 := ⟨Tryd.f89.name, by decide, Tryd.func89.trans (congrArg some (by kernel_rfl))⟩
  f47 := Tryd.func90.trans (congrArg some (by kernel_rfl))
  f48 := Tryd.func91.trans (congrArg some (by kernel_rfl))
  f49 := ⟨Tryd.f92.name, by decide, Tryd.func92.trans (congrArg some (by kernel_rfl))⟩
  f50 := ⟨Tryd.f93.name, by decide, Tryd.func93.trans (congrArg some (by kernel_rfl))⟩
  f57 := ⟨Tryd.f94.name, by decide, Tryd.func94.trans (congrArg some (by kernel_rfl))⟩
  t0 := Tryd.underlying0
  a0 := Tryd.isAgg0
  z0 := Tryd.sizeOf0
  v0 := Tryd.zeroValue0
  t3 := Tryd.underlying3
  a3 := Tryd.isAgg3
  z3 := Tryd.sizeOf3
  v3 := Tryd.zeroValue3
  t4 := Tryd.underlying4
  a4 := Tryd.isAgg4
  z4 := Tryd.sizeOf4
  v4 := Tryd.zeroValue4
  t5 := Tryd.underlying5
  a5 := Tryd.isAgg5
  z5 := Tryd.sizeOf5
  v5 := Tryd.zeroValue5
  t9 := Tryd.underlying9
  a9 := Tryd.isAgg9
  z9 := Tryd.sizeOf9
  v9 := Tryd.zeroValue9
  t22 := Tryd.underlying35
  a22 := Tryd.isAgg35
  z22 := Tryd.sizeOf35
  v22 := Tryd.zeroValue35
  a24 := Tryd.isAgg25
  z24 := Tryd.sizeOf25
  t25 := Tryd.underlying74
  a25 := Tryd.isAgg74
  z25 := Tryd.sizeOf74
  v25 := Tryd.zeroValue74
  t39 := Tryd.underlying42
  a39 := Tryd.isAgg42
  z39 := Tryd.sizeOf42
  v39 := Tryd.zeroValue42
  t45 := Tryd.underlying94
  a45 := Tryd.isAgg94
  z45 := Tryd.sizeOf94
  v45 := Tryd.zeroValue94
  t46 := Tryd.underlying95
  a46 := Tryd.isAgg95
  z46 := Tryd.sizeOf95
  v46 := Tryd.zeroValue95
  t50 := Tryd.underlying99
  a50 := Tryd.isAgg99
  z50 := Tryd.sizeOf99
  v50 := Tryd.zeroValue99
  t53 := Tryd.underlying102
  a53 := Tryd.isAgg102
  z53 := Tryd.sizeOf102
  v53 := Tryd.zeroValue102
  t55 := Tryd.underlying47
  a55 := Tryd.isAgg47
  z55 := Tryd.sizeOf47
  v55 := Tryd.zeroValue47
  t66 := Tryd.underlying103
  a66 := Tryd.isAgg103
  z66 := Tryd.sizeOf103
  v66 := Tryd.zeroValue103
  t70 := Tryd.underlying107
  a70 := Tryd.isAgg107
  z70 := Tryd.sizeOf107
  v70 := Tryd.zeroValue107
  t76 := Tryd.underlying109
  a76 := Tryd.isAgg109
  z76 := Tryd.sizeOf109
  v76 := Tryd.zeroValue109
  t77 := Tryd.underlying110
  a77 := Tryd.isAgg110
  z77 := Tryd.sizeOf110
  v77 := Tryd.zeroValue110 }
end Go.Proofs
