/-
  DERIVED: THE SHELF's CONTRACTS AT THIS DUMP, IN PLAIN WORDS (tools/lay-plain.mjs out of 'TryShelf1.lean', which tools/lay-shelf.mjs wrote): THE SAME DECLARATIONS UNDER THE SAME NAMES: 'import', 'namespace', 'open', 'def', 'theorem' AND NOTHING ELSE: no command of the shelf's: FOR A HAND-IN. Each laying: the table of numbers ('.._ren') and one theorem, a field a fact of the dump's own or the kernel's comparison; each contract: ONE APPLICATION.
-/
import Derived.Shelf.SlSortCmp.WholeK
import Derived.Shelf.SlicesQ.IndexFunc
import Derived.Ground.SlsfProg
import Derived.Ground.SlgfProg
import Derived.Test.YtnfiadlonjediaaGreatDoorProg
namespace Go.Proofs
open Go.Shelf
def Tryz.sortL_ren : Go.Shelf.Ren := ⟨fun | 6 => 218 | 15 => 217 | 14 => 259 | 28 => 257 | 29 => 258 | 20 => 283 | 21 => 284 | 22 => 285 | 23 => 286 | 24 => 287 | 25 => 288 | 26 => 289 | 27 => 290 | 46 => 305 | 47 => 278 | 48 => 279 | 49 => 306 | 50 => 307 | 57 => 320 | n => n, fun | 22 => 43 | 24 => 111 | 25 => 219 | 3 => 3 | 39 => 224 | 0 => 0 | 53 => 225 | 55 => 261 | 4 => 4 | 46 => 372 | 45 => 371 | 50 => 187 | 5 => 5 | 9 => 9 | 66 => 391 | 70 => 395 | 76 => 422 | 77 => 423 | n => n, fun | n => n⟩
theorem Tryz.sortL : Go.Proofs.SlLaysF0.n6 Tryz.prog Tryz.sortL_ren := {
  mixed := by kernel_rfl
  f6 := ⟨Tryz.f218.name, by decide, Tryz.func218.trans (congrArg some (by kernel_rfl))⟩
  f14 := ⟨Tryz.f259.name, by decide, Tryz.func259.trans (congrArg some (by kernel_rfl))⟩
  f15 := Tryz.func217.trans (congrArg some (by kernel_rfl))
  f20 := ⟨Tryz.f283.name, by decide, Tryz.func283.trans (congrArg some (by kernel_rfl))⟩
  f21 := ⟨Tryz.f284.name, by decide, Tryz.func284.trans (congrArg some (by kernel_rfl))⟩
  f22 := ⟨Tryz.f285.name, by decide, Tryz.func285.trans (congrArg some (by kernel_rfl))⟩
  f23 := ⟨Tryz.f286.name, by decide, Tryz.func286.trans (congrArg some (by kernel_rfl))⟩
  f24 := ⟨Tryz.f287.name, by decide, Tryz.func287.trans (congrArg some (by kernel_rfl))⟩
  f25 := ⟨Tryz.f288.name, by decide, Tryz.func288.trans (congrArg some (by kernel_rfl))⟩
  f26 := ⟨Tryz.f289.name, by decide, Tryz.func289.trans (congrArg some (by kernel_rfl))⟩
  f27 := ⟨Tryz.f290.name, by decide, Tryz.func290.trans (congrArg some (by kernel_rfl))⟩
  f28 := Tryz.func257.trans (congrArg some (by kernel_rfl))
  f29 := Tryz.func258.trans (congrArg some (by kernel_rfl))
  f46 := ⟨Tryz.f305.name, by decide, Tryz.func305.trans (congrArg some (by kernel_rfl))⟩
  f47 := Tryz.func278.trans (congrArg some (by kernel_rfl))
  f48 := Tryz.func279.trans (congrArg some (by kernel_rfl))
  f49 := ⟨Tryz.f306.name, by decide, Tryz.func306.trans (congrArg some (by kernel_rfl))⟩
  f50 := ⟨Tryz.f307.name, by decide, Tryz.func307.trans (congrArg some (by kernel_rfl))⟩
  f57 := ⟨Tryz.f320.name, by decide, Tryz.func320.trans (congrArg some (by kernel_rfl))⟩
  t0 := Tryz.underlying0
  a0 := Tryz.isAgg0
  z0 := Tryz.sizeOf0
  v0 := Tryz.zeroValue0
  t3 := Tryz.underlying3
  a3 := Tryz.isAgg3
  z3 := Tryz.sizeOf3
  v3 := Tryz.zeroValue3
  t4 := Tryz.underlying4
  a4 := Tryz.isAgg4
  z4 := Tryz.sizeOf4
  v4 := Tryz.zeroValue4
  t5 := Tryz.underlying5
  a5 := Tryz.isAgg5
  z5 := Tryz.sizeOf5
  v5 := Tryz.zeroValue5
  t9 := Tryz.underlying9
  a9 := Tryz.isAgg9
  z9 := Tryz.sizeOf9
  v9 := Tryz.zeroValue9
  t22 := Tryz.underlying43
  a22 := Tryz.isAgg43
  z22 := Tryz.sizeOf43
  v22 := Tryz.zeroValue43
  t25 := Tryz.underlying219
  a25 := Tryz.isAgg219
  z25 := Tryz.sizeOf219
  v25 := Tryz.zeroValue219
  t39 := Tryz.underlying224
  a39 := Tryz.isAgg224
  z39 := Tryz.sizeOf224
  v39 := Tryz.zeroValue224
  t45 := Tryz.underlying371
  a45 := Tryz.isAgg371
  z45 := Tryz.sizeOf371
  v45 := Tryz.zeroValue371
  t46 := Tryz.underlying372
  a46 := Tryz.isAgg372
  z46 := Tryz.sizeOf372
  v46 := Tryz.zeroValue372
  t50 := Tryz.underlying187
  a50 := Tryz.isAgg187
  z50 := Tryz.sizeOf187
  v50 := Tryz.zeroValue187
  t53 := Tryz.underlying225
  a53 := Tryz.isAgg225
  z53 := Tryz.sizeOf225
  v53 := Tryz.zeroValue225
  t55 := Tryz.underlying261
  a55 := Tryz.isAgg261
  z55 := Tryz.sizeOf261
  v55 := Tryz.zeroValue261
  t66 := Tryz.underlying391
  a66 := Tryz.isAgg391
  z66 := Tryz.sizeOf391
  v66 := Tryz.zeroValue391
  t70 := Tryz.underlying395
  a70 := Tryz.isAgg395
  z70 := Tryz.sizeOf395
  v70 := Tryz.zeroValue395
  t76 := Tryz.underlying422
  a76 := Tryz.isAgg422
  z76 := Tryz.sizeOf422
  v76 := Tryz.zeroValue422
  t77 := Tryz.underlying423
  a77 := Tryz.isAgg423
  z77 := Tryz.sizeOf423
  v77 := Tryz.zeroValue423 }
def Tryz.containsL_ren : Go.Shelf.Ren := ⟨fun | 8 => 210 | 6 => 247 | n => n, fun | 22 => 43 | 23 => 111 | 25 => 218 | 4 => 4 | 3 => 3 | 0 => 0 | n => n, fun | n => n⟩
theorem Tryz.containsL : Go.Proofs.SlLaysH0.n8 Tryz.prog Tryz.containsL_ren := {
  mixed := by kernel_rfl
  f6 := ⟨Tryz.f247.name, by decide, Tryz.func247.trans (congrArg some (by kernel_rfl))⟩
  f8 := ⟨Tryz.f210.name, by decide, Tryz.func210.trans (congrArg some (by kernel_rfl))⟩
  t0 := Tryz.underlying0
  a0 := Tryz.isAgg0
  z0 := Tryz.sizeOf0
  v0 := Tryz.zeroValue0
  t3 := Tryz.underlying3
  a3 := Tryz.isAgg3
  z3 := Tryz.sizeOf3
  v3 := Tryz.zeroValue3
  t4 := Tryz.underlying4
  a4 := Tryz.isAgg4
  z4 := Tryz.sizeOf4
  v4 := Tryz.zeroValue4
  t22 := Tryz.underlying43
  a22 := Tryz.isAgg43
  z22 := Tryz.sizeOf43
  v22 := Tryz.zeroValue43
  t25 := Tryz.underlying218
  a25 := Tryz.isAgg218
  z25 := Tryz.sizeOf218
  v25 := Tryz.zeroValue218 }
end Go.Proofs
