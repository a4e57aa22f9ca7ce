/-
  DERIVED: THE SHELF's CONTRACTS AT THIS DUMP, IN PLAIN WORDS (tools/lay-plain.mjs out of 'TryShelf0.lean', which tools/lay-shelf.mjs wrote): THE SAME DECLARATIONS UNDER THE SAME NAMES: 'import', 'namespace', 'open', 'def', 'theorem' AND NOTHING ELSE: no command of the shelf's: FOR A HAND-IN. Each laying: the table of numbers ('.._ren') and one theorem, a field a fact of the dump's own or the kernel's comparison; each contract: ONE APPLICATION.
-/
import Derived.Shelf.LaysM
import Derived.Shelf.LaysC
import Derived.Test.YtbgdphbebhjpiaaGreatDoorProg
import Derived.Shelf.Bits.Mul64
namespace Go.Proofs
open Go.Shelf
def Tryz.lays212_ren : Go.Shelf.Ren := ⟨fun | 212 => 246 | 263 => 273 | 264 => 274 | n => n, fun | 46 => 296 | 51 => 306 | 146 => 323 | 53 => 243 | 148 => 325 | n => n, fun | n => n⟩
theorem Tryz.lays212 : Go.Proofs.Lays.n212 Tryz.prog Tryz.lays212_ren := {
  mixed := by kernel_rfl
  f212 := Tryz.func246.trans (congrArg some (by kernel_rfl))
  f263 := Tryz.func273.trans (congrArg some (by kernel_rfl))
  f264 := Tryz.func274.trans (congrArg some (by kernel_rfl))
  t46 := Tryz.underlying296
  a46 := Tryz.isAgg296
  z46 := Tryz.sizeOf296
  v46 := Tryz.zeroValue296
  t51 := Tryz.underlying306
  a51 := Tryz.isAgg306
  z51 := Tryz.sizeOf306
  v51 := Tryz.zeroValue306
  t53 := Tryz.underlying243
  a53 := Tryz.isAgg243
  z53 := Tryz.sizeOf243
  v53 := Tryz.zeroValue243
  t146 := Tryz.underlying323
  a146 := Tryz.isAgg323
  z146 := Tryz.sizeOf323
  v146 := Tryz.zeroValue323
  t148 := Tryz.underlying325
  a148 := Tryz.isAgg325
  z148 := Tryz.sizeOf325
  v148 := Tryz.zeroValue325 }
open Go.RowKit Go.Lib in
/-- math/bits.Mul: "Mul returns the full-width product of x and y": on a machine of 64 bits: Mul64's. (LAID: no walk: one application.) -/
theorem Tryz.bits_Mul (x y : Nat) (hx : x < 18446744073709551616) (hy : y < 18446744073709551616) (w : World) :
    Calls Tryz.prog 246 #[.int .u64 x, .int .u64 y] w fun e w' => e = .returned (.tuple #[.int .u64 ((x * y / 18446744073709551616 : Nat) : Int), .int .u64 ((x * y % 18446744073709551616 : Nat) : Int)]) ∧ w' = w := Any.bits_Mul Tryz.lays212 x y hx hy w
end Go.Proofs
