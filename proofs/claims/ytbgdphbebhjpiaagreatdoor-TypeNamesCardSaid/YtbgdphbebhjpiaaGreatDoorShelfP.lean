/-
  DERIVED: THE SHELF's CONTRACTS AT THIS DUMP, IN PLAIN WORDS (tools/lay-plain.mjs out of 'TryShelf1.lean', which tools/lay-shelf.mjs wrote): THE SAME DECLARATIONS UNDER THE SAME NAMES: 'import', 'namespace', 'open', 'def', 'theorem' AND NOTHING ELSE: no command of the shelf's: FOR A HAND-IN. Each laying: the table of numbers ('.._ren') and one theorem, a field a fact of the dump's own or the kernel's comparison; each contract: ONE APPLICATION.
-/
import Derived.Shelf.SlSortCmp.WholeK
import Derived.Shelf.SlicesQ.IndexFunc
import Derived.Ground.SlsfProg
import Derived.Ground.SlgfProg
import Derived.Test.YtbgdphbebhjpiaaGreatDoorProg
namespace Go.Proofs
open Go.Shelf
def Tryz.sortL_ren : Go.Shelf.Ren := ⟨fun | 6 => 245 | 15 => 272 | 14 => 271 | 28 => 304 | 29 => 305 | 20 => 296 | 21 => 297 | 22 => 298 | 23 => 299 | 24 => 300 | 25 => 301 | 26 => 302 | 27 => 303 | 46 => 319 | 47 => 320 | 48 => 321 | 49 => 322 | 50 => 323 | 57 => 333 | n => n, fun | 22 => 71 | 24 => 74 | 25 => 127 | 3 => 3 | 39 => 296 | 0 => 0 | 53 => 306 | 55 => 243 | 4 => 4 | 46 => 356 | 45 => 355 | 50 => 360 | 5 => 5 | 9 => 9 | 66 => 375 | 70 => 379 | 76 => 389 | 77 => 390 | n => n, fun | n => n⟩
theorem Tryz.sortL : Go.Proofs.SlLaysF0.n6 Tryz.prog Tryz.sortL_ren := {
  mixed := by kernel_rfl
  f6 := ⟨Tryz.f245.name, by decide, Tryz.func245.trans (congrArg some (by kernel_rfl))⟩
  f14 := ⟨Tryz.f271.name, by decide, Tryz.func271.trans (congrArg some (by kernel_rfl))⟩
  f15 := Tryz.func272.trans (congrArg some (by kernel_rfl))
  f20 := ⟨Tryz.f296.name, by decide, Tryz.func296.trans (congrArg some (by kernel_rfl))⟩
  f21 := ⟨Tryz.f297.name, by decide, Tryz.func297.trans (congrArg some (by kernel_rfl))⟩
  f22 := ⟨Tryz.f298.name, by decide, Tryz.func298.trans (congrArg some (by kernel_rfl))⟩
  f23 := ⟨Tryz.f299.name, by decide, Tryz.func299.trans (congrArg some (by kernel_rfl))⟩
  f24 := ⟨Tryz.f300.name, by decide, Tryz.func300.trans (congrArg some (by kernel_rfl))⟩
  f25 := ⟨Tryz.f301.name, by decide, Tryz.func301.trans (congrArg some (by kernel_rfl))⟩
  f26 := ⟨Tryz.f302.name, by decide, Tryz.func302.trans (congrArg some (by kernel_rfl))⟩
  f27 := ⟨Tryz.f303.name, by decide, Tryz.func303.trans (congrArg some (by kernel_rfl))⟩
  f28 := Tryz.func304.trans (congrArg some (by kernel_rfl))
  f29 := Tryz.func305.trans (congrArg some (by kernel_rfl))
  f46 := ⟨Tryz.f319.name, by decide, Tryz.func319.trans (congrArg some (by kernel_rfl))⟩
  f47 := Tryz.func320.trans (congrArg some (by kernel_rfl))
  f48 := Tryz.func321.trans (congrArg some (by kernel_rfl))
  f49 := ⟨Tryz.f322.name, by decide, Tryz.func322.trans (congrArg some (by kernel_rfl))⟩
  f50 := ⟨Tryz.f323.name, by decide, Tryz.func323.trans (congrArg some (by kernel_rfl))⟩
  f57 := ⟨Tryz.f333.name, by decide, Tryz.func333.trans (congrArg some (by kernel_rfl))⟩
  t0 := Tryz.underlying0
  a0 := Tryz.isAgg0
  z0 := Tryz.sizeOf0
  v0 := Tryz.zeroValue0
  t3 := Tryz.underlying3
  a3 := Tryz.isAgg3
  z3 := Tryz.sizeOf3
  v3 := Tryz.zeroValue3
  t4 := Tryz.underlying4
  a4 := Tryz.isAgg4
  z4 := Tryz.sizeOf4
  v4 := Tryz.zeroValue4
  t5 := Tryz.underlying5
  a5 := Tryz.isAgg5
  z5 := Tryz.sizeOf5
  v5 := Tryz.zeroValue5
  t9 := Tryz.underlying9
  a9 := Tryz.isAgg9
  z9 := Tryz.sizeOf9
  v9 := Tryz.zeroValue9
  t22 := Tryz.underlying71
  a22 := Tryz.isAgg71
  z22 := Tryz.sizeOf71
  v22 := Tryz.zeroValue71
  t25 := Tryz.underlying127
  a25 := Tryz.isAgg127
  z25 := Tryz.sizeOf127
  v25 := Tryz.zeroValue127
  t39 := Tryz.underlying296
  a39 := Tryz.isAgg296
  z39 := Tryz.sizeOf296
  v39 := Tryz.zeroValue296
  t45 := Tryz.underlying355
  a45 := Tryz.isAgg355
  z45 := Tryz.sizeOf355
  v45 := Tryz.zeroValue355
  t46 := Tryz.underlying356
  a46 := Tryz.isAgg356
  z46 := Tryz.sizeOf356
  v46 := Tryz.zeroValue356
  t50 := Tryz.underlying360
  a50 := Tryz.isAgg360
  z50 := Tryz.sizeOf360
  v50 := Tryz.zeroValue360
  t53 := Tryz.underlying306
  a53 := Tryz.isAgg306
  z53 := Tryz.sizeOf306
  v53 := Tryz.zeroValue306
  t55 := Tryz.underlying243
  a55 := Tryz.isAgg243
  z55 := Tryz.sizeOf243
  v55 := Tryz.zeroValue243
  t66 := Tryz.underlying375
  a66 := Tryz.isAgg375
  z66 := Tryz.sizeOf375
  v66 := Tryz.zeroValue375
  t70 := Tryz.underlying379
  a70 := Tryz.isAgg379
  z70 := Tryz.sizeOf379
  v70 := Tryz.zeroValue379
  t76 := Tryz.underlying389
  a76 := Tryz.isAgg389
  z76 := Tryz.sizeOf389
  v76 := Tryz.zeroValue389
  t77 := Tryz.underlying390
  a77 := Tryz.isAgg390
  z77 := Tryz.sizeOf390
  v77 := Tryz.zeroValue390 }
def Tryz.containsL_ren : Go.Shelf.Ren := ⟨fun | 8 => 50 | 6 => 95 | n => n, fun | 22 => 71 | 23 => 74 | 25 => 126 | 4 => 4 | 3 => 3 | 0 => 0 | n => n, fun | n => n⟩
theorem Tryz.containsL : Go.Proofs.SlLaysH0.n8 Tryz.prog Tryz.containsL_ren := {
  mixed := by kernel_rfl
  f6 := ⟨Tryz.f95.name, by decide, Tryz.func95.trans (congrArg some (by kernel_rfl))⟩
  f8 := ⟨Tryz.f50.name, by decide, Tryz.func50.trans (congrArg some (by kernel_rfl))⟩
  t0 := Tryz.underlying0
  a0 := Tryz.isAgg0
  z0 := Tryz.sizeOf0
  v0 := Tryz.zeroValue0
  t3 := Tryz.underlying3
  a3 := Tryz.isAgg3
  z3 := Tryz.sizeOf3
  v3 := Tryz.zeroValue3
  t4 := Tryz.underlying4
  a4 := Tryz.isAgg4
  z4 := Tryz.sizeOf4
  v4 := Tryz.zeroValue4
  t22 := Tryz.underlying71
  a22 := Tryz.isAgg71
  z22 := Tryz.sizeOf71
  v22 := Tryz.zeroValue71
  t25 := Tryz.underlying126
  a25 := Tryz.isAgg126
  z25 := Tryz.sizeOf126
  v25 := Tryz.zeroValue126 }
end Go.Proofs
