/-
  DERIVED: THE SHELF's CONTRACTS AT THIS DUMP, IN PLAIN WORDS (tools/lay-plain.mjs out of 'TryShelf1.lean', which tools/lay-shelf.mjs wrote): THE SAME DECLARATIONS UNDER THE SAME NAMES: 'import', 'namespace', 'open', 'def', 'theorem' AND NOTHING ELSE: no command of the shelf's: FOR A HAND-IN. Each laying: the table of numbers ('.._ren') and one theorem, a field a fact of the dump's own or the kernel's comparison; each contract: ONE APPLICATION.
-/
import Derived.Shelf.SlSortCmp.WholeK
import Derived.Shelf.SlicesQ.IndexFunc
import Derived.Ground.SlsfProg
import Derived.Ground.SlgfProg
import Derived.Test.YtnmhcaahkaocgaaGreatDoorProg
namespace Go.Proofs
open Go.Shelf
def Tryz.sortL_ren : Go.Shelf.Ren := ⟨fun | 6 => 211 | 15 => 227 | 14 => 226 | 28 => 252 | 29 => 253 | 20 => 244 | 21 => 245 | 22 => 246 | 23 => 247 | 24 => 248 | 25 => 249 | 26 => 250 | 27 => 251 | 46 => 269 | 47 => 270 | 48 => 271 | 49 => 272 | 50 => 273 | 57 => 286 | n => n, fun | 22 => 47 | 24 => 75 | 25 => 272 | 3 => 3 | 39 => 304 | 0 => 0 | 53 => 314 | 55 => 277 | 4 => 4 | 46 => 334 | 45 => 333 | 50 => 338 | 5 => 5 | 9 => 9 | 66 => 364 | 70 => 368 | 76 => 381 | 77 => 382 | n => n, fun | n => n⟩
theorem Tryz.sortL : Go.Proofs.SlLaysF0.n6 Tryz.prog Tryz.sortL_ren := {
  mixed := by kernel_rfl
  f6 := ⟨Tryz.f211.name, by decide, Tryz.func211.trans (congrArg some (by kernel_rfl))⟩
  f14 := ⟨Tryz.f226.name, by decide, Tryz.func226.trans (congrArg some (by kernel_rfl))⟩
  f15 := Tryz.func227.trans (congrArg some (by kernel_rfl))
  f20 := ⟨Tryz.f244.name, by decide, Tryz.func244.trans (congrArg some (by kernel_rfl))⟩
  f21 := ⟨Tryz.f245.name, by decide, Tryz.func245.trans (congrArg some (by kernel_rfl))⟩
  f22 := ⟨Tryz.f246.name, by decide, Tryz.func246.trans (congrArg some (by kernel_rfl))⟩
  f23 := ⟨Tryz.f247.name, by decide, Tryz.func247.trans (congrArg some (by kernel_rfl))⟩
  f24 := ⟨Tryz.f248.name, by decide, Tryz.func248.trans (congrArg some (by kernel_rfl))⟩
  f25 := ⟨Tryz.f249.name, by decide, Tryz.func249.trans (congrArg some (by kernel_rfl))⟩
  f26 := ⟨Tryz.f250.name, by decide, Tryz.func250.trans (congrArg some (by kernel_rfl))⟩
  f27 := ⟨Tryz.f251.name, by decide, Tryz.func251.trans (congrArg some (by kernel_rfl))⟩
  f28 := Tryz.func252.trans (congrArg some (by kernel_rfl))
  f29 := Tryz.func253.trans (congrArg some (by kernel_rfl))
  f46 := ⟨Tryz.f269.name, by decide, Tryz.func269.trans (congrArg some (by kernel_rfl))⟩
  f47 := Tryz.func270.trans (congrArg some (by kernel_rfl))
  f48 := Tryz.func271.trans (congrArg some (by kernel_rfl))
  f49 := ⟨Tryz.f272.name, by decide, Tryz.func272.trans (congrArg some (by kernel_rfl))⟩
  f50 := ⟨Tryz.f273.name, by decide, Tryz.func273.trans (congrArg some (by kernel_rfl))⟩
  f57 := ⟨Tryz.f286.name, by decide, Tryz.func286.trans (congrArg some (by kernel_rfl))⟩
  t0 := Tryz.underlying0
  a0 := Tryz.isAgg0
  z0 := Tryz.sizeOf0
  v0 := Tryz.zeroValue0
  t3 := Tryz.underlying3
  a3 := Tryz.isAgg3
  z3 := Tryz.sizeOf3
  v3 := Tryz.zeroValue3
  t4 := Tryz.underlying4
  a4 := Tryz.isAgg4
  z4 := Tryz.sizeOf4
  v4 := Tryz.zeroValue4
  t5 := Tryz.underlying5
  a5 := Tryz.isAgg5
  z5 := Tryz.sizeOf5
  v5 := Tryz.zeroValue5
  t9 := Tryz.underlying9
  a9 := Tryz.isAgg9
  z9 := Tryz.sizeOf9
  v9 := Tryz.zeroValue9
  t22 := Tryz.underlying47
  a22 := Tryz.isAgg47
  z22 := Tryz.sizeOf47
  v22 := Tryz.zeroValue47
  t25 := Tryz.underlying272
  a25 := Tryz.isAgg272
  z25 := Tryz.sizeOf272
  v25 := Tryz.zeroValue272
  t39 := Tryz.underlying304
  a39 := Tryz.isAgg304
  z39 := Tryz.sizeOf304
  v39 := Tryz.zeroValue304
  t45 := Tryz.underlying333
  a45 := Tryz.isAgg333
  z45 := Tryz.sizeOf333
  v45 := Tryz.zeroValue333
  t46 := Tryz.underlying334
  a46 := Tryz.isAgg334
  z46 := Tryz.sizeOf334
  v46 := Tryz.zeroValue334
  t50 := Tryz.underlying338
  a50 := Tryz.isAgg338
  z50 := Tryz.sizeOf338
  v50 := Tryz.zeroValue338
  t53 := Tryz.underlying314
  a53 := Tryz.isAgg314
  z53 := Tryz.sizeOf314
  v53 := Tryz.zeroValue314
  t55 := Tryz.underlying277
  a55 := Tryz.isAgg277
  z55 := Tryz.sizeOf277
  v55 := Tryz.zeroValue277
  t66 := Tryz.underlying364
  a66 := Tryz.isAgg364
  z66 := Tryz.sizeOf364
  v66 := Tryz.zeroValue364
  t70 := Tryz.underlying368
  a70 := Tryz.isAgg368
  z70 := Tryz.sizeOf368
  v70 := Tryz.zeroValue368
  t76 := Tryz.underlying381
  a76 := Tryz.isAgg381
  z76 := Tryz.sizeOf381
  v76 := Tryz.zeroValue381
  t77 := Tryz.underlying382
  a77 := Tryz.isAgg382
  z77 := Tryz.sizeOf382
  v77 := Tryz.zeroValue382 }
def Tryz.containsL_ren : Go.Shelf.Ren := ⟨fun | 8 => 137 | 6 => 191 | n => n, fun | 22 => 47 | 23 => 75 | 25 => 237 | 4 => 4 | 3 => 3 | 0 => 0 | n => n, fun | n => n⟩
theorem Tryz.containsL : Go.Proofs.SlLaysH0.n8 Tryz.prog Tryz.containsL_ren := {
  mixed := by kernel_rfl
  f6 := ⟨Tryz.f191.name, by decide, Tryz.func191.trans (congrArg some (by kernel_rfl))⟩
  f8 := ⟨Tryz.f137.name, by decide, Tryz.func137.trans (congrArg some (by kernel_rfl))⟩
  t0 := Tryz.underlying0
  a0 := Tryz.isAgg0
  z0 := Tryz.sizeOf0
  v0 := Tryz.zeroValue0
  t3 := Tryz.underlying3
  a3 := Tryz.isAgg3
  z3 := Tryz.sizeOf3
  v3 := Tryz.zeroValue3
  t4 := Tryz.underlying4
  a4 := Tryz.isAgg4
  z4 := Tryz.sizeOf4
  v4 := Tryz.zeroValue4
  t22 := Tryz.underlying47
  a22 := Tryz.isAgg47
  z22 := Tryz.sizeOf47
  v22 := Tryz.zeroValue47
  t25 := Tryz.underlying237
  a25 := Tryz.isAgg237
  z25 := Tryz.sizeOf237
  v25 := Tryz.zeroValue237 }
end Go.Proofs
