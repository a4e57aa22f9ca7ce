/- The shelf's contracts at this dump. -/
import Derived.Shelf.LaysM
import Derived.Shelf.LaysC
import Derived.Test.YtioekpienlhcgaaGreatDoorProg
import Derived.Shelf.Bits.Mul64
set_option maxRecDepth 100000
namespace Go.Proofs
open Go.Shelf Tryz
theorem Tryz.skaB{p:Prop}(h:p:=by kernel_rfl):p:=h
theorem Tryz.sqaB{α:Type}{a:Option α}{b c:α}(h:a=some b)(e:b=c:=by kernel_rfl):a=some c:=h.trans (congrArg some e)
def Tryz.lays212_ren:Go.Shelf.Ren:=⟨λ|212=>134|263=>157|264=>158|n=>n,λ|46=>193|51=>209|146=>219|53=>221|148=>222|n=>n,λ|n=>n⟩
theorem Tryz.lays212:Go.Proofs.Lays.n212 prog lays212_ren:=⟨skaB,sqaB func134,sqaB func157,sqaB func158,underlying193,isAgg193,sizeOf193,zeroValue193,underlying209,isAgg209,sizeOf209,zeroValue209,underlying221,isAgg221,sizeOf221,zeroValue221,underlying219,isAgg219,sizeOf219,zeroValue219,underlying222,isAgg222,sizeOf222,zeroValue222⟩
open Go.RowKit Go.Lib in
theorem Tryz.bits_Mul(x y:Nat) (hx:x < 18446744073709551616) (hy:y < 18446744073709551616) (w:World):Calls prog 134 #[.int .u64 x, .int .u64 y] w λe w' => e = .returned (.tuple #[.int .u64 ((x * y / 18446744073709551616:Nat):Int), .int .u64 ((x * y % 18446744073709551616:Nat):Int)]) /\ w' = w:=Any.bits_Mul lays212 x y hx hy w
end Go.Proofs
