/-
  DERIVED: THE SHELF's CONTRACTS AT THIS DUMP, IN PLAIN WORDS (tools/lay-plain.mjs out of 'YtohldionclgljaaUstmp.lean', which tools/lay-shelf.mjs wrote): THE SAME DECLARATIONS UNDER THE SAME NAMES: 'import', 'namespace', 'open', 'def', 'theorem' AND NOTHING ELSE: no command of the shelf's: FOR A HAND-IN. Each laying: the table of numbers ('.._ren') and one theorem, a field a fact of the dump's own or the kernel's comparison; each contract: ONE APPLICATION.
-/
import Derived.Shelf.SlSortCmp.NoneTotal
import Derived.Shelf.SlGeneric

import Derived.Test.YtohldionclgljaaProg
namespace Go.Proofs
open Go.Shelf
def Try.sortI_ren : Go.Shelf.Ren := ⟨fun | 6 => 81 | 15 => 86 | 14 => 85 | 28 => 95 | 29 => 96 | 20 => 87 | 21 => 88 | 22 => 89 | 23 => 90 | 24 => 91 | 25 => 92 | 26 => 93 | 27 => 94 | 46 => 97 | 47 => 98 | 48 => 99 | 49 => 100 | 50 => 101 | 57 => 102 | n => n, fun | 22 => 65 | 24 => 38 | 25 => 133 | 3 => 3 | 39 => 63 | 0 => 0 | 53 => 175 | 55 => 119 | 4 => 4 | 46 => 168 | 45 => 167 | 50 => 172 | 5 => 5 | 9 => 9 | 66 => 177 | 70 => 181 | 76 => 183 | 77 => 184 | n => n, fun | n => n⟩
theorem Try.sortI : Go.Proofs.SlLaysF0.n6 Try.prog Try.sortI_ren := {
  mixed := by kernel_rfl
  f6 := ⟨Try.f81.name, by decide, Try.func81.trans (congrArg some (by kernel_rfl))⟩
  f14 := ⟨Try.f85.name, by decide, Try.func85.trans (congrArg some (by kernel_rfl))⟩
  f15 := Try.func86.trans (congrArg some (by kernel_rfl))
  f20 := ⟨Try.f87.name, by decide, Try.func87.trans (congrArg some (by kernel_rfl))⟩
  f21 := ⟨Try.f88.name, by decide, Try.func88.trans (congrArg some (by kernel_rfl))⟩
  f22 := ⟨Try.f89.name, by decide, Try.func89.trans (congrArg some (by kernel_rfl))⟩
  f23 := ⟨Try.f90.name, by decide, Try.func90.trans (congrArg some (by kernel_rfl))⟩
  f24 := ⟨Try.f91.name, by decide, Try.func91.trans (congrArg some (by kernel_rfl))⟩
  f25 := ⟨Try.f92.name, by decide, Try.func92.trans (congrArg some (by kernel_rfl))⟩
  f26 := ⟨Try.f93.name, by decide, Try.func93.trans (congrArg some (by kernel_rfl))⟩
  f27 := ⟨Try.f94.name, by decide, Try.func94.trans (congrArg some (by kernel_rfl))⟩
  f28 := Try.func95.trans (congrArg some (by kernel_rfl))
  f29 := Try.func96.trans (congrArg some (by kernel_rfl))
  f46 := ⟨Try.f97.name, by decide, Try.func97.trans (congrArg some (by kernel_rfl))⟩
  f47 := Try.func98.trans (congrArg some (by kernel_rfl))
  f48 := Try.func99.trans (congrArg some (by kernel_rfl))
  f49 := ⟨Try.f100.name, by decide, Try.func100.trans (congrArg some (by kernel_rfl))⟩
  f50 := ⟨Try.f101.name, by decide, Try.func101.trans (congrArg some (by kernel_rfl))⟩
  f57 := ⟨Try.f102.name, by decide, Try.func102.trans (congrArg some (by kernel_rfl))⟩
  t0 := Try.underlying0
  a0 := Try.isAgg0
  z0 := Try.sizeOf0
  v0 := Try.zeroValue0
  t3 := Try.underlying3
  a3 := Try.isAgg3
  z3 := Try.sizeOf3
  v3 := Try.zeroValue3
  t4 := Try.underlying4
  a4 := Try.isAgg4
  z4 := Try.sizeOf4
  v4 := Try.zeroValue4
  t5 := Try.underlying5
  a5 := Try.isAgg5
  z5 := Try.sizeOf5
  v5 := Try.zeroValue5
  t9 := Try.underlying9
  a9 := Try.isAgg9
  z9 := Try.sizeOf9
  v9 := Try.zeroValue9
  t22 := Try.underlying65
  a22 := Try.isAgg65
  z22 := Try.sizeOf65
  v22 := Try.zeroValue65
  t25 := Try.underlying133
  a25 := Try.isAgg133
  z25 := Try.sizeOf133
  v25 := Try.zeroValue133
  t39 := Try.underlying63
  a39 := Try.isAgg63
  z39 := Try.sizeOf63
  v39 := Try.zeroValue63
  t45 := Try.underlying167
  a45 := Try.isAgg167
  z45 := Try.sizeOf167
  v45 := Try.zeroValue167
  t46 := Try.underlying168
  a46 := Try.isAgg168
  z46 := Try.sizeOf168
  v46 := Try.zeroValue168
  t50 := Try.underlying172
  a50 := Try.isAgg172
  z50 := Try.sizeOf172
  v50 := Try.zeroValue172
  t53 := Try.underlying175
  a53 := Try.isAgg175
  z53 := Try.sizeOf175
  v53 := Try.zeroValue175
  t55 := Try.underlying119
  a55 := Try.isAgg119
  z55 := Try.sizeOf119
  v55 := Try.zeroValue119
  t66 := Try.underlying177
  a66 := Try.isAgg177
  z66 := Try.sizeOf177
  v66 := Try.zeroValue177
  t70 := Try.underlying181
  a70 := Try.isAgg181
  z70 := Try.sizeOf181
  v70 := Try.zeroValue181
  t76 := Try.underlying183
  a76 := Try.isAgg183
  z76 := Try.sizeOf183
  v76 := Try.zeroValue183
  t77 := Try.underlying184
  a77 := Try.isAgg184
  z77 := Try.sizeOf184
  v77 := Try.zeroValue184 }
end Go.Proofs
