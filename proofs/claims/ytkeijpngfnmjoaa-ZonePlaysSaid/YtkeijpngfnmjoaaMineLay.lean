/-
  DERIVED: THE SHELF's CONTRACTS AT THIS DUMP, IN PLAIN WORDS (tools/lay-plain.mjs out of 'YtkeijpngfnmjoaaLayT.lean', which tools/lay-shelf.mjs wrote): THE SAME DECLARATIONS UNDER THE SAME NAMES: 'import', 'namespace', 'open', 'def', 'theorem' AND NOTHING ELSE: no command of the shelf's: FOR A HAND-IN. Each laying: the table of numbers ('.._ren') and one theorem, a field a fact of the dump's own or the kernel's comparison; each contract: ONE APPLICATION.
-/
import Derived.Shelf.SlSortCmp.QuietGrown
import Derived.Shelf.SlLaysF0
import Derived.Shelf.SlicesG.Cmp
import Derived.Ground.SlsfProg
import Derived.Ground.SlgcProg
import Derived.Test.YtkeijpngfnmjoaaProg
namespace Go.Proofs
open Go.Shelf
def Try.sortZ_ren : Go.Shelf.Ren := ⟨fun | 6 => 81 | 15 => 103 | 14 => 102 | 28 => 126 | 29 => 127 | 20 => 118 | 21 => 119 | 22 => 120 | 23 => 121 | 24 => 122 | 25 => 123 | 26 => 124 | 27 => 125 | 46 => 132 | 47 => 133 | 48 => 134 | 49 => 135 | 50 => 136 | 57 => 137 | n => n, fun | 22 => 90 | 24 => 75 | 25 => 141 | 3 => 3 | 39 => 160 | 0 => 0 | 53 => 23 | 55 => 187 | 4 => 4 | 46 => 180 | 45 => 179 | 50 => 122 | 5 => 5 | 9 => 9 | 66 => 190 | 70 => 194 | 76 => 196 | 77 => 58 | n => n, fun | n => n⟩
theorem Try.sortZ : Go.Proofs.SlLaysF0.n6 Try.prog Try.sortZ_ren := {
  mixed := by kernel_rfl
  f6 := ⟨Try.f81.name, by decide, Try.func81.trans (congrArg some (by kernel_rfl))⟩
  f14 := ⟨Try.f102.name, by decide, Try.func102.trans (congrArg some (by kernel_rfl))⟩
  f15 := Try.func103.trans (congrArg some (by kernel_rfl))
  f20 := ⟨Try.f118.name, by decide, Try.func118.trans (congrArg some (by kernel_rfl))⟩
  f21 := ⟨Try.f119.name, by decide, Try.func119.trans (congrArg some (by kernel_rfl))⟩
  f22 := ⟨Try.f120.name, by decide, Try.func120.trans (congrArg some (by kernel_rfl))⟩
  f23 := ⟨Try.f121.name, by decide, Try.func121.trans (congrArg some (by kernel_rfl))⟩
  f24 := ⟨Try.f122.name, by decide, Try.func122.trans (congrArg some (by kernel_rfl))⟩
  f25 := ⟨Try.f123.name, by decide, Try.func123.trans (congrArg some (by kernel_rfl))⟩
  f26 := ⟨Try.f124.name, by decide, Try.func124.trans (congrArg some (by kernel_rfl))⟩
  f27 := ⟨Try.f125.name, by decide, Try.func125.trans (congrArg some (by kernel_rfl))⟩
  f28 := Try.func126.trans (congrArg some (by kernel_rfl))
  f29 := Try.func127.trans (congrArg some (by kernel_rfl))
  f46 := ⟨Try.f132.name, by decide, Try.func132.trans (congrArg some (by kernel_rfl))⟩
  f47 := Try.func133.trans (congrArg some (by kernel_rfl))
  f48 := Try.func134.trans (congrArg some (by kernel_rfl))
  f49 := ⟨Try.f135.name, by decide, Try.func135.trans (congrArg some (by kernel_rfl))⟩
  f50 := ⟨Try.f136.name, by decide, Try.func136.trans (congrArg some (by kernel_rfl))⟩
  f57 := ⟨Try.f137.name, by decide, Try.func137.trans (congrArg some (by kernel_rfl))⟩
  t0 := Try.underlying0
  a0 := Try.isAgg0
  z0 := Try.sizeOf0
  v0 := Try.zeroValue0
  t3 := Try.underlying3
  a3 := Try.isAgg3
  z3 := Try.sizeOf3
  v3 := Try.zeroValue3
  t4 := Try.underlying4
  a4 := Try.isAgg4
  z4 := Try.sizeOf4
  v4 := Try.zeroValue4
  t5 := Try.underlying5
  a5 := Try.isAgg5
  z5 := Try.sizeOf5
  v5 := Try.zeroValue5
  t9 := Try.underlying9
  a9 := Try.isAgg9
  z9 := Try.sizeOf9
  v9 := Try.zeroValue9
  t22 := Try.underlying90
  a22 := Try.isAgg90
  z22 := Try.sizeOf90
  v22 := Try.zeroValue90
  t25 := Try.underlying141
  a25 := Try.isAgg141
  z25 := Try.sizeOf141
  v25 := Try.zeroValue141
  t39 := Try.underlying160
  a39 := Try.isAgg160
  z39 := Try.sizeOf160
  v39 := Try.zeroValue160
  t45 := Try.underlying179
  a45 := Try.isAgg179
  z45 := Try.sizeOf179
  v45 := Try.zeroValue179
  t46 := Try.underlying180
  a46 := Try.isAgg180
  z46 := Try.sizeOf180
  v46 := Try.zeroValue180
  t50 := Try.underlying122
  a50 := Try.isAgg122
  z50 := Try.sizeOf122
  v50 := Try.zeroValue122
  t53 := Try.underlying23
  a53 := Try.isAgg23
  z53 := Try.sizeOf23
  v53 := Try.zeroValue23
  t55 := Try.underlying187
  a55 := Try.isAgg187
  z55 := Try.sizeOf187
  v55 := Try.zeroValue187
  t66 := Try.underlying190
  a66 := Try.isAgg190
  z66 := Try.sizeOf190
  v66 := Try.zeroValue190
  t70 := Try.underlying194
  a70 := Try.isAgg194
  z70 := Try.sizeOf194
  v70 := Try.zeroValue194
  t76 := Try.underlying196
  a76 := Try.isAgg196
  z76 := Try.sizeOf196
  v76 := Try.zeroValue196
  t77 := Try.underlying58
  a77 := Try.isAgg58
  z77 := Try.sizeOf58
  v77 := Try.zeroValue58 }
def Try.cmpZ_ren : Go.Shelf.Ren := ⟨fun | 5 => 83 | 7 => 104 | n => n, fun | 22 => 3 | 3 => 3 | 4 => 4 | n => n, fun | n => n⟩
theorem Try.cmpZ : Go.Proofs.SlLaysC2.n5 Try.prog Try.cmpZ_ren := {
  mixed := by kernel_rfl
  f5 := ⟨Try.f83.name, by decide, Try.func83.trans (congrArg some (by kernel_rfl))⟩
  f7 := ⟨Try.f104.name, by decide, Try.func104.trans (congrArg some (by kernel_rfl))⟩
  t3 := Try.underlying3
  a3 := Try.isAgg3
  z3 := Try.sizeOf3
  v3 := Try.zeroValue3
  t4 := Try.underlying4
  a4 := Try.isAgg4
  z4 := Try.sizeOf4
  v4 := Try.zeroValue4
  t22 := Try.underlying3
  a22 := Try.isAgg3
  z22 := Try.sizeOf3
  v22 := Try.zeroValue3 }
end Go.Proofs
