/-
  DERIVED: THE SHELF's CONTRACTS AT THIS DUMP, IN PLAIN WORDS (tools/lay-plain.mjs out of 'TryShelf1.lean', which tools/lay-shelf.mjs wrote): THE SAME DECLARATIONS UNDER THE SAME NAMES: 'import', 'namespace', 'open', 'def', 'theorem' AND NOTHING ELSE: no command of the shelf's: FOR A HAND-IN. Each laying: the table of numbers ('.._ren') and one theorem, a field a fact of the dump's own or the kernel's comparison; each contract: ONE APPLICATION.
-/
import Derived.Shelf.SlSortCmp.WholeK
import Derived.Shelf.SlicesQ.IndexFunc
import Derived.Ground.SlsfProg
import Derived.Ground.SlgfProg
import Derived.Test.YtakphiannlpnfaaGreatDoorProg
namespace Go.Proofs
open Go.Shelf
def Tryz.sortL_ren : Go.Shelf.Ren := ⟨fun | 6 => 138 | 15 => 153 | 14 => 152 | 28 => 181 | 29 => 182 | 20 => 173 | 21 => 174 | 22 => 175 | 23 => 176 | 24 => 177 | 25 => 178 | 26 => 179 | 27 => 180 | 46 => 199 | 47 => 200 | 48 => 201 | 49 => 202 | 50 => 203 | 57 => 214 | n => n, fun | 22 => 47 | 24 => 100 | 25 => 231 | 3 => 3 | 39 => 235 | 0 => 0 | 53 => 241 | 55 => 255 | 4 => 4 | 46 => 283 | 45 => 282 | 50 => 287 | 5 => 5 | 9 => 9 | 66 => 304 | 70 => 308 | 76 => 320 | 77 => 321 | n => n, fun | n => n⟩
theorem Tryz.sortL : Go.Proofs.SlLaysF0.n6 Tryz.prog Tryz.sortL_ren := {
  mixed := by kernel_rfl
  f6 := ⟨Tryz.f138.name, by decide, Tryz.func138.trans (congrArg some (by kernel_rfl))⟩
  f14 := ⟨Tryz.f152.name, by decide, Tryz.func152.trans (congrArg some (by kernel_rfl))⟩
  f15 := Tryz.func153.trans (congrArg some (by kernel_rfl))
  f20 := ⟨Tryz.f173.name, by decide, Tryz.func173.trans (congrArg some (by kernel_rfl))⟩
  f21 := ⟨Tryz.f174.name, by decide, Tryz.func174.trans (congrArg some (by kernel_rfl))⟩
  f22 := ⟨Tryz.f175.name, by decide, Tryz.func175.trans (congrArg some (by kernel_rfl))⟩
  f23 := ⟨Tryz.f176.name, by decide, Tryz.func176.trans (congrArg some (by kernel_rfl))⟩
  f24 := ⟨Tryz.f177.name, by decide, Tryz.func177.trans (congrArg some (by kernel_rfl))⟩
  f25 := ⟨Tryz.f178.name, by decide, Tryz.func178.trans (congrArg some (by kernel_rfl))⟩
  f26 := ⟨Tryz.f179.name, by decide, Tryz.func179.trans (congrArg some (by kernel_rfl))⟩
  f27 := ⟨Tryz.f180.name, by decide, Tryz.func180.trans (congrArg some (by kernel_rfl))⟩
  f28 := Tryz.func181.trans (congrArg some (by kernel_rfl))
  f29 := Tryz.func182.trans (congrArg some (by kernel_rfl))
  f46 := ⟨Tryz.f199.name, by decide, Tryz.func199.trans (congrArg some (by kernel_rfl))⟩
  f47 := Tryz.func200.trans (congrArg some (by kernel_rfl))
  f48 := Tryz.func201.trans (congrArg some (by kernel_rfl))
  f49 := ⟨Tryz.f202.name, by decide, Tryz.func202.trans (congrArg some (by kernel_rfl))⟩
  f50 := ⟨Tryz.f203.name, by decide, Tryz.func203.trans (congrArg some (by kernel_rfl))⟩
  f57 := ⟨Tryz.f214.name, by decide, Tryz.func214.trans (congrArg some (by kernel_rfl))⟩
  t0 := Tryz.underlying0
  a0 := Tryz.isAgg0
  z0 := Tryz.sizeOf0
  v0 := Tryz.zeroValue0
  t3 := Tryz.underlying3
  a3 := Tryz.isAgg3
  z3 := Tryz.sizeOf3
  v3 := Tryz.zeroValue3
  t4 := Tryz.underlying4
  a4 := Tryz.isAgg4
  z4 := Tryz.sizeOf4
  v4 := Tryz.zeroValue4
  t5 := Tryz.underlying5
  a5 := Tryz.isAgg5
  z5 := Tryz.sizeOf5
  v5 := Tryz.zeroValue5
  t9 := Tryz.underlying9
  a9 := Tryz.isAgg9
  z9 := Tryz.sizeOf9
  v9 := Tryz.zeroValue9
  t22 := Tryz.underlying47
  a22 := Tryz.isAgg47
  z22 := Tryz.sizeOf47
  v22 := Tryz.zeroValue47
  t25 := Tryz.underlying231
  a25 := Tryz.isAgg231
  z25 := Tryz.sizeOf231
  v25 := Tryz.zeroValue231
  t39 := Tryz.underlying235
  a39 := Tryz.isAgg235
  z39 := Tryz.sizeOf235
  v39 := Tryz.zeroValue235
  t45 := Tryz.underlying282
  a45 := Tryz.isAgg282
  z45 := Tryz.sizeOf282
  v45 := Tryz.zeroValue282
  t46 := Tryz.underlying283
  a46 := Tryz.isAgg283
  z46 := Tryz.sizeOf283
  v46 := Tryz.zeroValue283
  t50 := Tryz.underlying287
  a50 := Tryz.isAgg287
  z50 := Tryz.sizeOf287
  v50 := Tryz.zeroValue287
  t53 := Tryz.underlying241
  a53 := Tryz.isAgg241
  z53 := Tryz.sizeOf241
  v53 := Tryz.zeroValue241
  t55 := Tryz.underlying255
  a55 := Tryz.isAgg255
  z55 := Tryz.sizeOf255
  v55 := Tryz.zeroValue255
  t66 := Tryz.underlying304
  a66 := Tryz.isAgg304
  z66 := Tryz.sizeOf304
  v66 := Tryz.zeroValue304
  t70 := Tryz.underlying308
  a70 := Tryz.isAgg308
  z70 := Tryz.sizeOf308
  v70 := Tryz.zeroValue308
  t76 := Tryz.underlying320
  a76 := Tryz.isAgg320
  z76 := Tryz.sizeOf320
  v76 := Tryz.zeroValue320
  t77 := Tryz.underlying321
  a77 := Tryz.isAgg321
  z77 := Tryz.sizeOf321
  v77 := Tryz.zeroValue321 }
def Tryz.containsL_ren : Go.Shelf.Ren := ⟨fun | 8 => 108 | 6 => 136 | n => n, fun | 22 => 47 | 23 => 100 | 25 => 201 | 4 => 4 | 3 => 3 | 0 => 0 | n => n, fun | n => n⟩
theorem Tryz.containsL : Go.Proofs.SlLaysH0.n8 Tryz.prog Tryz.containsL_ren := {
  mixed := by kernel_rfl
  f6 := ⟨Tryz.f136.name, by decide, Tryz.func136.trans (congrArg some (by kernel_rfl))⟩
  f8 := ⟨Tryz.f108.name, by decide, Tryz.func108.trans (congrArg some (by kernel_rfl))⟩
  t0 := Tryz.underlying0
  a0 := Tryz.isAgg0
  z0 := Tryz.sizeOf0
  v0 := Tryz.zeroValue0
  t3 := Tryz.underlying3
  a3 := Tryz.isAgg3
  z3 := Tryz.sizeOf3
  v3 := Tryz.zeroValue3
  t4 := Tryz.underlying4
  a4 := Tryz.isAgg4
  z4 := Tryz.sizeOf4
  v4 := Tryz.zeroValue4
  t22 := Tryz.underlying47
  a22 := Tryz.isAgg47
  z22 := Tryz.sizeOf47
  v22 := Tryz.zeroValue47
  t25 := Tryz.underlying201
  a25 := Tryz.isAgg201
  z25 := Tryz.sizeOf201
  v25 := Tryz.zeroValue201 }
end Go.Proofs
