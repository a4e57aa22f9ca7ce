/-
  DERIVED: THE SHELF's CONTRACTS AT THIS DUMP, IN PLAIN WORDS (tools/lay-plain.mjs out of 'TryShelf0.lean', which tools/lay-shelf.mjs wrote): THE SAME DECLARATIONS UNDER THE SAME NAMES: 'import', 'namespace', 'open', 'def', 'theorem' AND NOTHING ELSE: no command of the shelf's: FOR A HAND-IN. Each laying: the table of numbers ('.._ren') and one theorem, a field a fact of the dump's own or the kernel's comparison; each contract: ONE APPLICATION.
-/
import Derived.Shelf.LaysM
import Derived.Shelf.LaysC
import Derived.Test.YtakphiannlpnfaaGreatDoorProg
import Derived.Shelf.Bits.Mul64
namespace Go.Proofs
open Go.Shelf
def Tryz.lays212_ren : Go.Shelf.Ren := ⟨fun | 212 => 139 | 263 => 154 | 264 => 155 | n => n, fun | 46 => 235 | 51 => 241 | 146 => 253 | 53 => 255 | 148 => 256 | n => n, fun | n => n⟩
theorem Tryz.lays212 : Go.Proofs.Lays.n212 Tryz.prog Tryz.lays212_ren := {
  mixed := by kernel_rfl
  f212 := Tryz.func139.trans (congrArg some (by kernel_rfl))
  f263 := Tryz.func154.trans (congrArg some (by kernel_rfl))
  f264 := Tryz.func155.trans (congrArg some (by kernel_rfl))
  t46 := Tryz.underlying235
  a46 := Tryz.isAgg235
  z46 := Tryz.sizeOf235
  v46 := Tryz.zeroValue235
  t51 := Tryz.underlying241
  a51 := Tryz.isAgg241
  z51 := Tryz.sizeOf241
  v51 := Tryz.zeroValue241
  t53 := Tryz.underlying255
  a53 := Tryz.isAgg255
  z53 := Tryz.sizeOf255
  v53 := Tryz.zeroValue255
  t146 := Tryz.underlying253
  a146 := Tryz.isAgg253
  z146 := Tryz.sizeOf253
  v146 := Tryz.zeroValue253
  t148 := Tryz.underlying256
  a148 := Tryz.isAgg256
  z148 := Tryz.sizeOf256
  v148 := Tryz.zeroValue256 }
open Go.RowKit Go.Lib in
/-- math/bits.Mul: "Mul returns the full-width product of x and y": on a machine of 64 bits: Mul64's. (LAID: no walk: one application.) -/
theorem Tryz.bits_Mul (x y : Nat) (hx : x < 18446744073709551616) (hy : y < 18446744073709551616) (w : World) :
    Calls Tryz.prog 139 #[.int .u64 x, .int .u64 y] w fun e w' => e = .returned (.tuple #[.int .u64 ((x * y / 18446744073709551616 : Nat) : Int), .int .u64 ((x * y % 18446744073709551616 : Nat) : Int)]) ∧ w' = w := Any.bits_Mul Tryz.lays212 x y hx hy w
end Go.Proofs
