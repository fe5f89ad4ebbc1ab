/-
  DERIVED: THE SHELF's CONTRACTS AT THIS DUMP, IN PLAIN WORDS (tools/lay-plain.mjs out of 'YtcmigmldecacpaaShelfSort.lean', which tools/lay-shelf.mjs wrote): THE SAME DECLARATIONS UNDER THE SAME NAMES: 'import', 'namespace', 'open', 'def', 'theorem' AND NOTHING ELSE: no command of the shelf's: FOR A HAND-IN. Each laying: the table of numbers ('.._ren') and one theorem, a field a fact of the dump's own or the kernel's comparison; each contract: ONE APPLICATION.
-/
import Derived.Shelf.SlSortCmp.WholeK
import Derived.Shelf.SlicesG.Cmp
import Derived.Shelf.SlGeneric
import Derived.Ground.SlsfProg
import Derived.Ground.SlgcProg
import Derived.Test.YtcmigmldecacpaaProg
namespace Go.Proofs
open Go.Shelf
def Try.sortCell_ren : Go.Shelf.Ren := ⟨fun | 6 => 103 | 15 => 108 | 14 => 107 | 28 => 118 | 29 => 119 | 20 => 110 | 21 => 111 | 22 => 112 | 23 => 113 | 24 => 114 | 25 => 115 | 26 => 116 | 27 => 117 | 46 => 120 | 47 => 121 | 48 => 122 | 49 => 123 | 50 => 124 | 57 => 125 | n => n, fun | 22 => 67 | 24 => 70 | 25 => 147 | 3 => 3 | 39 => 115 | 0 => 0 | 53 => 77 | 55 => 132 | 4 => 4 | 46 => 158 | 45 => 157 | 50 => 162 | 5 => 5 | 9 => 9 | 66 => 166 | 70 => 170 | 76 => 172 | 77 => 173 | n => n, fun | n => n⟩
theorem Try.sortCell : Go.Proofs.SlLaysF0.n6 Try.prog Try.sortCell_ren := {
  mixed := by kernel_rfl
  f6 := ⟨Try.f103.name, by decide, Try.func103.trans (congrArg some (by kernel_rfl))⟩
  f14 := ⟨Try.f107.name, by decide, Try.func107.trans (congrArg some (by kernel_rfl))⟩
  f15 := Try.func108.trans (congrArg some (by kernel_rfl))
  f20 := ⟨Try.f110.name, by decide, Try.func110.trans (congrArg some (by kernel_rfl))⟩
  f21 := ⟨Try.f111.name, by decide, Try.func111.trans (congrArg some (by kernel_rfl))⟩
  f22 := ⟨Try.f112.name, by decide, Try.func112.trans (congrArg some (by kernel_rfl))⟩
  f23 := ⟨Try.f113.name, by decide, Try.func113.trans (congrArg some (by kernel_rfl))⟩
  f24 := ⟨Try.f114.name, by decide, Try.func114.trans (congrArg some (by kernel_rfl))⟩
  f25 := ⟨Try.f115.name, by decide, Try.func115.trans (congrArg some (by kernel_rfl))⟩
  f26 := ⟨Try.f116.name, by decide, Try.func116.trans (congrArg some (by kernel_rfl))⟩
  f27 := ⟨Try.f117.name, by decide, Try.func117.trans (congrArg some (by kernel_rfl))⟩
  f28 := Try.func118.trans (congrArg some (by kernel_rfl))
  f29 := Try.func119.trans (congrArg some (by kernel_rfl))
  f46 := ⟨Try.f120.name, by decide, Try.func120.trans (congrArg some (by kernel_rfl))⟩
  f47 := Try.func121.trans (congrArg some (by kernel_rfl))
  f48 := Try.func122.trans (congrArg some (by kernel_rfl))
  f49 := ⟨Try.f123.name, by decide, Try.func123.trans (congrArg some (by kernel_rfl))⟩
  f50 := ⟨Try.f124.name, by decide, Try.func124.trans (congrArg some (by kernel_rfl))⟩
  f57 := ⟨Try.f125.name, by decide, Try.func125.trans (congrArg some (by kernel_rfl))⟩
  t0 := Try.underlying0
  a0 := Try.isAgg0
  z0 := Try.sizeOf0
  v0 := Try.zeroValue0
  t3 := Try.underlying3
  a3 := Try.isAgg3
  z3 := Try.sizeOf3
  v3 := Try.zeroValue3
  t4 := Try.underlying4
  a4 := Try.isAgg4
  z4 := Try.sizeOf4
  v4 := Try.zeroValue4
  t5 := Try.underlying5
  a5 := Try.isAgg5
  z5 := Try.sizeOf5
  v5 := Try.zeroValue5
  t9 := Try.underlying9
  a9 := Try.isAgg9
  z9 := Try.sizeOf9
  v9 := Try.zeroValue9
  t22 := Try.underlying67
  a22 := Try.isAgg67
  z22 := Try.sizeOf67
  v22 := Try.zeroValue67
  t25 := Try.underlying147
  a25 := Try.isAgg147
  z25 := Try.sizeOf147
  v25 := Try.zeroValue147
  t39 := Try.underlying115
  a39 := Try.isAgg115
  z39 := Try.sizeOf115
  v39 := Try.zeroValue115
  t45 := Try.underlying157
  a45 := Try.isAgg157
  z45 := Try.sizeOf157
  v45 := Try.zeroValue157
  t46 := Try.underlying158
  a46 := Try.isAgg158
  z46 := Try.sizeOf158
  v46 := Try.zeroValue158
  t50 := Try.underlying162
  a50 := Try.isAgg162
  z50 := Try.sizeOf162
  v50 := Try.zeroValue162
  t53 := Try.underlying77
  a53 := Try.isAgg77
  z53 := Try.sizeOf77
  v53 := Try.zeroValue77
  t55 := Try.underlying132
  a55 := Try.isAgg132
  z55 := Try.sizeOf132
  v55 := Try.zeroValue132
  t66 := Try.underlying166
  a66 := Try.isAgg166
  z66 := Try.sizeOf166
  v66 := Try.zeroValue166
  t70 := Try.underlying170
  a70 := Try.isAgg170
  z70 := Try.sizeOf170
  v70 := Try.zeroValue170
  t76 := Try.underlying172
  a76 := Try.isAgg172
  z76 := Try.sizeOf172
  v76 := Try.zeroValue172
  t77 := Try.underlying173
  a77 := Try.isAgg173
  z77 := Try.sizeOf173
  v77 := Try.zeroValue173 }
def Try.cmpCell_ren : Go.Shelf.Ren := ⟨fun | 5 => 105 | 7 => 109 | n => n, fun | 22 => 3 | 3 => 3 | 4 => 4 | n => n, fun | n => n⟩
theorem Try.cmpCell : Go.Proofs.SlLaysC2.n5 Try.prog Try.cmpCell_ren := {
  mixed := by kernel_rfl
  f5 := ⟨Try.f105.name, by decide, Try.func105.trans (congrArg some (by kernel_rfl))⟩
  f7 := ⟨Try.f109.name, by decide, Try.func109.trans (congrArg some (by kernel_rfl))⟩
  t3 := Try.underlying3
  a3 := Try.isAgg3
  z3 := Try.sizeOf3
  v3 := Try.zeroValue3
  t4 := Try.underlying4
  a4 := Try.isAgg4
  z4 := Try.sizeOf4
  v4 := Try.zeroValue4
  t22 := Try.underlying3
  a22 := Try.isAgg3
  z22 := Try.sizeOf3
  v22 := Try.zeroValue3 }
end Go.Proofs
