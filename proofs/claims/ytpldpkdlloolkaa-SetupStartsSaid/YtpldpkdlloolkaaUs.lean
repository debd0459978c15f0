/-
  DERIVED: THE SHELF's CONTRACTS AT THIS DUMP, IN PLAIN WORDS (tools/lay-plain.mjs out of 'YtpldpkdlloolkaaUstmp.lean', which tools/lay-shelf.mjs wrote): THE SAME DECLARATIONS UNDER THE SAME NAMES: 'import', 'namespace', 'open', 'def', 'theorem' AND NOTHING ELSE: no command of the shelf's: FOR A HAND-IN. Each laying: the table of numbers ('.._ren') and one theorem, a field a fact of the dump's own or the kernel's comparison; each contract: ONE APPLICATION.
-/
import Derived.Shelf.SlSortCmp.NoneTotal
import Derived.Shelf.SlGeneric

import Derived.Test.YtpldpkdlloolkaaProg
namespace Go.Proofs
open Go.Shelf
def Try.sortI_ren : Go.Shelf.Ren := ⟨fun | 6 => 77 | 15 => 82 | 14 => 81 | 28 => 91 | 29 => 92 | 20 => 83 | 21 => 84 | 22 => 85 | 23 => 86 | 24 => 87 | 25 => 88 | 26 => 89 | 27 => 90 | 46 => 93 | 47 => 94 | 48 => 95 | 49 => 96 | 50 => 97 | 57 => 98 | n => n, fun | 22 => 142 | 24 => 25 | 25 => 147 | 3 => 3 | 39 => 157 | 0 => 0 | 53 => 167 | 55 => 149 | 4 => 4 | 46 => 160 | 45 => 159 | 50 => 164 | 5 => 5 | 9 => 9 | 66 => 169 | 70 => 173 | 76 => 175 | 77 => 176 | n => n, fun | n => n⟩
theorem Try.sortI : Go.Proofs.SlLaysF0.n6 Try.prog Try.sortI_ren := {
  mixed := by kernel_rfl
  f6 := ⟨Try.f77.name, by decide, Try.func77.trans (congrArg some (by kernel_rfl))⟩
  f14 := ⟨Try.f81.name, by decide, Try.func81.trans (congrArg some (by kernel_rfl))⟩
  f15 := Try.func82.trans (congrArg some (by kernel_rfl))
  f20 := ⟨Try.f83.name, by decide, Try.func83.trans (congrArg some (by kernel_rfl))⟩
  f21 := ⟨Try.f84.name, by decide, Try.func84.trans (congrArg some (by kernel_rfl))⟩
  f22 := ⟨Try.f85.name, by decide, Try.func85.trans (congrArg some (by kernel_rfl))⟩
  f23 := ⟨Try.f86.name, by decide, Try.func86.trans (congrArg some (by kernel_rfl))⟩
  f24 := ⟨Try.f87.name, by decide, Try.func87.trans (congrArg some (by kernel_rfl))⟩
  f25 := ⟨Try.f88.name, by decide, Try.func88.trans (congrArg some (by kernel_rfl))⟩
  f26 := ⟨Try.f89.name, by decide, Try.func89.trans (congrArg some (by kernel_rfl))⟩
  f27 := ⟨Try.f90.name, by decide, Try.func90.trans (congrArg some (by kernel_rfl))⟩
  f28 := Try.func91.trans (congrArg some (by kernel_rfl))
  f29 := Try.func92.trans (congrArg some (by kernel_rfl))
  f46 := ⟨Try.f93.name, by decide, Try.func93.trans (congrArg some (by kernel_rfl))⟩
  f47 := Try.func94.trans (congrArg some (by kernel_rfl))
  f48 := Try.func95.trans (congrArg some (by kernel_rfl))
  f49 := ⟨Try.f96.name, by decide, Try.func96.trans (congrArg some (by kernel_rfl))⟩
  f50 := ⟨Try.f97.name, by decide, Try.func97.trans (congrArg some (by kernel_rfl))⟩
  f57 := ⟨Try.f98.name, by decide, Try.func98.trans (congrArg some (by kernel_rfl))⟩
  t0 := Try.underlying0
  a0 := Try.isAgg0
  z0 := Try.sizeOf0
  v0 := Try.zeroValue0
  t3 := Try.underlying3
  a3 := Try.isAgg3
  z3 := Try.sizeOf3
  v3 := Try.zeroValue3
  t4 := Try.underlying4
  a4 := Try.isAgg4
  z4 := Try.sizeOf4
  v4 := Try.zeroValue4
  t5 := Try.underlying5
  a5 := Try.isAgg5
  z5 := Try.sizeOf5
  v5 := Try.zeroValue5
  t9 := Try.underlying9
  a9 := Try.isAgg9
  z9 := Try.sizeOf9
  v9 := Try.zeroValue9
  t22 := Try.underlying142
  a22 := Try.isAgg142
  z22 := Try.sizeOf142
  v22 := Try.zeroValue142
  t25 := Try.underlying147
  a25 := Try.isAgg147
  z25 := Try.sizeOf147
  v25 := Try.zeroValue147
  t39 := Try.underlying157
  a39 := Try.isAgg157
  z39 := Try.sizeOf157
  v39 := Try.zeroValue157
  t45 := Try.underlying159
  a45 := Try.isAgg159
  z45 := Try.sizeOf159
  v45 := Try.zeroValue159
  t46 := Try.underlying160
  a46 := Try.isAgg160
  z46 := Try.sizeOf160
  v46 := Try.zeroValue160
  t50 := Try.underlying164
  a50 := Try.isAgg164
  z50 := Try.sizeOf164
  v50 := Try.zeroValue164
  t53 := Try.underlying167
  a53 := Try.isAgg167
  z53 := Try.sizeOf167
  v53 := Try.zeroValue167
  t55 := Try.underlying149
  a55 := Try.isAgg149
  z55 := Try.sizeOf149
  v55 := Try.zeroValue149
  t66 := Try.underlying169
  a66 := Try.isAgg169
  z66 := Try.sizeOf169
  v66 := Try.zeroValue169
  t70 := Try.underlying173
  a70 := Try.isAgg173
  z70 := Try.sizeOf173
  v70 := Try.zeroValue173
  t76 := Try.underlying175
  a76 := Try.isAgg175
  z76 := Try.sizeOf175
  v76 := Try.zeroValue175
  t77 := Try.underlying176
  a77 := Try.isAgg176
  z77 := Try.sizeOf176
  v77 := Try.zeroValue176 }
end Go.Proofs
