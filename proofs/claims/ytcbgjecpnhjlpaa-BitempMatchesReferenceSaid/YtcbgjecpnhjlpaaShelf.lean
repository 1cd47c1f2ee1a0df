/-
  DERIVED: THE SHELF's CONTRACTS AT THIS DUMP, IN PLAIN WORDS (tools/lay-plain.mjs out of 'YtcbgjecpnhjlpaaShelf.lean', which tools/lay-shelf.mjs wrote): THE SAME DECLARATIONS UNDER THE SAME NAMES: 'import', 'namespace', 'open', 'def', 'theorem' AND NOTHING ELSE: no command of the shelf's: FOR A HAND-IN. Each laying: the table of numbers ('.._ren') and one theorem, a field a fact of the dump's own or the kernel's comparison; each contract: ONE APPLICATION.
-/
import Derived.Shelf.Small.Bits
import Derived.Shelf.SlSortCmp.WholeK
import Derived.Ground.SlsfProg
import Derived.Test.YtcbgjecpnhjlpaaProg
namespace Go.Proofs
open Go.Shelf
def Try.sortFn_ren : Go.Shelf.Ren := ⟨fun | 6 => 69 | 15 => 75 | 14 => 74 | 28 => 84 | 29 => 85 | 20 => 71 | 21 => 77 | 22 => 78 | 23 => 79 | 24 => 80 | 25 => 81 | 26 => 82 | 27 => 83 | 46 => 87 | 47 => 88 | 48 => 89 | 49 => 90 | 50 => 91 | 57 => 92 | n => n, fun | 22 => 22 | 24 => 24 | 25 => 51 | 3 => 3 | 39 => 80 | 0 => 0 | 53 => 88 | 55 => 90 | 4 => 4 | 46 => 82 | 45 => 81 | 50 => 57 | 5 => 5 | 9 => 9 | 66 => 91 | 70 => 95 | 76 => 97 | 77 => 98 | n => n, fun | n => n⟩
theorem Try.sortFn : Go.Proofs.SlLaysF0.n6 Try.prog Try.sortFn_ren := {
  mixed := by kernel_rfl
  f6 := ⟨Try.f69.name, by decide, Try.func69.trans (congrArg some (by kernel_rfl))⟩
  f14 := ⟨Try.f74.name, by decide, Try.func74.trans (congrArg some (by kernel_rfl))⟩
  f15 := Try.func75.trans (congrArg some (by kernel_rfl))
  f20 := ⟨Try.f71.name, by decide, Try.func71.trans (congrArg some (by kernel_rfl))⟩
  f21 := ⟨Try.f77.name, by decide, Try.func77.trans (congrArg some (by kernel_rfl))⟩
  f22 := ⟨Try.f78.name, by decide, Try.func78.trans (congrArg some (by kernel_rfl))⟩
  f23 := ⟨Try.f79.name, by decide, Try.func79.trans (congrArg some (by kernel_rfl))⟩
  f24 := ⟨Try.f80.name, by decide, Try.func80.trans (congrArg some (by kernel_rfl))⟩
  f25 := ⟨Try.f81.name, by decide, Try.func81.trans (congrArg some (by kernel_rfl))⟩
  f26 := ⟨Try.f82.name, by decide, Try.func82.trans (congrArg some (by kernel_rfl))⟩
  f27 := ⟨Try.f83.name, by decide, Try.func83.trans (congrArg some (by kernel_rfl))⟩
  f28 := Try.func84.trans (congrArg some (by kernel_rfl))
  f29 := Try.func85.trans (congrArg some (by kernel_rfl))
  f46 := ⟨Try.f87.name, by decide, Try.func87.trans (congrArg some (by kernel_rfl))⟩
  f47 := Try.func88.trans (congrArg some (by kernel_rfl))
  f48 := Try.func89.trans (congrArg some (by kernel_rfl))
  f49 := ⟨Try.f90.name, by decide, Try.func90.trans (congrArg some (by kernel_rfl))⟩
  f50 := ⟨Try.f91.name, by decide, Try.func91.trans (congrArg some (by kernel_rfl))⟩
  f57 := ⟨Try.f92.name, by decide, Try.func92.trans (congrArg some (by kernel_rfl))⟩
  t0 := Try.underlying0
  a0 := Try.isAgg0
  z0 := Try.sizeOf0
  v0 := Try.zeroValue0
  t3 := Try.underlying3
  a3 := Try.isAgg3
  z3 := Try.sizeOf3
  v3 := Try.zeroValue3
  t4 := Try.underlying4
  a4 := Try.isAgg4
  z4 := Try.sizeOf4
  v4 := Try.zeroValue4
  t5 := Try.underlying5
  a5 := Try.isAgg5
  z5 := Try.sizeOf5
  v5 := Try.zeroValue5
  t9 := Try.underlying9
  a9 := Try.isAgg9
  z9 := Try.sizeOf9
  v9 := Try.zeroValue9
  t22 := Try.underlying22
  a22 := Try.isAgg22
  z22 := Try.sizeOf22
  v22 := Try.zeroValue22
  t25 := Try.underlying51
  a25 := Try.isAgg51
  z25 := Try.sizeOf51
  v25 := Try.zeroValue51
  t39 := Try.underlying80
  a39 := Try.isAgg80
  z39 := Try.sizeOf80
  v39 := Try.zeroValue80
  t45 := Try.underlying81
  a45 := Try.isAgg81
  z45 := Try.sizeOf81
  v45 := Try.zeroValue81
  t46 := Try.underlying82
  a46 := Try.isAgg82
  z46 := Try.sizeOf82
  v46 := Try.zeroValue82
  t50 := Try.underlying57
  a50 := Try.isAgg57
  z50 := Try.sizeOf57
  v50 := Try.zeroValue57
  t53 := Try.underlying88
  a53 := Try.isAgg88
  z53 := Try.sizeOf88
  v53 := Try.zeroValue88
  t55 := Try.underlying90
  a55 := Try.isAgg90
  z55 := Try.sizeOf90
  v55 := Try.zeroValue90
  t66 := Try.underlying91
  a66 := Try.isAgg91
  z66 := Try.sizeOf91
  v66 := Try.zeroValue91
  t70 := Try.underlying95
  a70 := Try.isAgg95
  z70 := Try.sizeOf95
  v70 := Try.zeroValue95
  t76 := Try.underlying97
  a76 := Try.isAgg97
  z76 := Try.sizeOf97
  v76 := Try.zeroValue97
  t77 := Try.underlying98
  a77 := Try.isAgg98
  z77 := Try.sizeOf98
  v77 := Try.zeroValue98 }
def Try.insFn_ren : Go.Shelf.Ren := ⟨fun | 20 => 71 | n => n, fun | 24 => 24 | 22 => 22 | 3 => 3 | 25 => 51 | 4 => 4 | 0 => 0 | n => n, fun | n => n⟩
theorem Try.insFn : Go.Proofs.SlLaysF0.n20 Try.prog Try.insFn_ren := {
  mixed := by kernel_rfl
  f20 := ⟨Try.f71.name, by decide, Try.func71.trans (congrArg some (by kernel_rfl))⟩
  t0 := Try.underlying0
  a0 := Try.isAgg0
  z0 := Try.sizeOf0
  v0 := Try.zeroValue0
  t3 := Try.underlying3
  a3 := Try.isAgg3
  z3 := Try.sizeOf3
  v3 := Try.zeroValue3
  t4 := Try.underlying4
  a4 := Try.isAgg4
  z4 := Try.sizeOf4
  v4 := Try.zeroValue4
  t22 := Try.underlying22
  a22 := Try.isAgg22
  z22 := Try.sizeOf22
  v22 := Try.zeroValue22
  t25 := Try.underlying51
  a25 := Try.isAgg51
  z25 := Try.sizeOf51
  v25 := Try.zeroValue51 }
end Go.Proofs
