/- The shelf's contracts at this dump. -/
import Derived.Shelf.LaysM
import Derived.Shelf.LaysC
import Derived.Test.YtnfiadlonjediaaGreatDoorProg
import Derived.Shelf.Bits.Mul64
set_option maxRecDepth 100000
namespace Go.Proofs
open Go.Shelf Tryz
theorem Tryz.skaB{p:Prop}(h:p:=by kernel_rfl):p:=h
theorem Tryz.sqaB{α:Type}{a:Option α}{b c:α}(h:a=some b)(e:b=c:=by kernel_rfl):a=some c:=h.trans (congrArg some e)
def Tryz.lays212_ren:Go.Shelf.Ren:=⟨λ|212=>159|263=>214|264=>215|n=>n,λ|46=>224|51=>225|146=>321|53=>261|148=>323|n=>n,λ|n=>n⟩
theorem Tryz.lays212:Go.Proofs.Lays.n212 prog lays212_ren:=⟨skaB,sqaB func159,sqaB func214,sqaB func215,underlying224,isAgg224,sizeOf224,zeroValue224,underlying225,isAgg225,sizeOf225,zeroValue225,underlying261,isAgg261,sizeOf261,zeroValue261,underlying321,isAgg321,sizeOf321,zeroValue321,underlying323,isAgg323,sizeOf323,zeroValue323⟩
open Go.RowKit Go.Lib in
theorem Tryz.bits_Mul(x y:Nat) (hx:x < 18446744073709551616) (hy:y < 18446744073709551616) (w:World):Calls prog 159 #[.int .u64 x, .int .u64 y] w λe w' => e = .returned (.tuple #[.int .u64 ((x * y / 18446744073709551616:Nat):Int), .int .u64 ((x * y % 18446744073709551616:Nat):Int)]) /\ w' = w:=Any.bits_Mul lays212 x y hx hy w
end Go.Proofs
