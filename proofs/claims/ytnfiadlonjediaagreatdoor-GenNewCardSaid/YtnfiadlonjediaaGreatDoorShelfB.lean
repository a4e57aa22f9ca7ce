/-
  DERIVED: THE SHELF's CONTRACTS AT THIS DUMP, IN PLAIN WORDS (tools/lay-plain.mjs out of 'TryShelf0.lean', which tools/lay-shelf.mjs wrote): THE SAME DECLARATIONS UNDER THE SAME NAMES: 'import', 'namespace', 'open', 'def', 'theorem' AND NOTHING ELSE: no command of the shelf's: FOR A HAND-IN. Each laying: the table of numbers ('.._ren') and one theorem, a field a fact of the dump's own or the kernel's comparison; each contract: ONE APPLICATION.
-/
import Derived.Shelf.LaysM
import Derived.Shelf.LaysC
import Derived.Ground.Names2Prog
import Derived.Ground.SlgnProg
import Derived.Test.YtnfiadlonjediaaGreatDoorProg
import Derived.Shelf.Bits.Mul64
namespace Go.Proofs
open Go.Shelf
def Tryz.lays212_ren : Go.Shelf.Ren := ⟨fun | 212 => 159 | 263 => 214 | 264 => 215 | n => n, fun | 46 => 224 | 51 => 225 | 146 => 321 | 53 => 261 | 148 => 323 | n => n, fun | n => n⟩
theorem Tryz.lays212 : Go.Proofs.Lays.n212 Tryz.prog Tryz.lays212_ren := {
  mixed := by kernel_rfl
  f212 := Tryz.func159.trans (congrArg some (by kernel_rfl))
  f263 := Tryz.func214.trans (congrArg some (by kernel_rfl))
  f264 := Tryz.func215.trans (congrArg some (by kernel_rfl))
  t46 := Tryz.underlying224
  a46 := Tryz.isAgg224
  z46 := Tryz.sizeOf224
  v46 := Tryz.zeroValue224
  t51 := Tryz.underlying225
  a51 := Tryz.isAgg225
  z51 := Tryz.sizeOf225
  v51 := Tryz.zeroValue225
  t53 := Tryz.underlying261
  a53 := Tryz.isAgg261
  z53 := Tryz.sizeOf261
  v53 := Tryz.zeroValue261
  t146 := Tryz.underlying321
  a146 := Tryz.isAgg321
  z146 := Tryz.sizeOf321
  v146 := Tryz.zeroValue321
  t148 := Tryz.underlying323
  a148 := Tryz.isAgg323
  z148 := Tryz.sizeOf323
  v148 := Tryz.zeroValue323 }
open Go.RowKit Go.Lib in
/-- math/bits.Mul: "Mul returns the full-width product of x and y": on a machine of 64 bits: Mul64's. (LAID: no walk: one application.) -/
theorem Tryz.bits_Mul (x y : Nat) (hx : x < 18446744073709551616) (hy : y < 18446744073709551616) (w : World) :
    Calls Tryz.prog 159 #[.int .u64 x, .int .u64 y] w fun e w' => e = .returned (.tuple #[.int .u64 ((x * y / 18446744073709551616 : Nat) : Int), .int .u64 ((x * y % 18446744073709551616 : Nat) : Int)]) ∧ w' = w := Any.bits_Mul Tryz.lays212 x y hx hy w
end Go.Proofs
