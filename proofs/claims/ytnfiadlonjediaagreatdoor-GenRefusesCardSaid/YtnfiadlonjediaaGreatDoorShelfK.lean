/- The shelf's contracts at this dump. -/
import Derived.Shelf.LaysM
import Derived.Shelf.LaysC
import Derived.Ground.Names2Prog
import Derived.Test.YtnfiadlonjediaaGreatDoorProg
import Derived.Shelf.Slices.CompactI
import Derived.Shelf.Slices.In.SortNone
import Derived.Shelf.Sort.Plain
set_option maxRecDepth 100000
namespace Go.Proofs
open Go.Shelf Tryz
theorem Tryz.skaK{p:Prop}(h:p:=by kernel_rfl):p:=h
theorem Tryz.sqaK{α:Type}{a:Option α}{b c:α}(h:a=some b)(e:b=c:=by kernel_rfl):a=some c:=h.trans (congrArg some e)
def Tryz.lays189_ren:Go.Shelf.Ren:=⟨λ|189=>161|125=>217|257=>216|128=>257|129=>258|294=>248|295=>249|296=>250|297=>251|298=>252|299=>253|216=>254|300=>255|301=>256|328=>277|329=>278|330=>279|331=>280|332=>281|215=>282|343=>304|n=>n,λ|28=>24|3=>3|46=>224|0=>0|51=>225|53=>261|4=>4|183=>372|182=>371|131=>187|5=>5|9=>9|218=>391|222=>395|228=>422|229=>423|n=>n,λ|n=>n⟩
theorem Tryz.lays189:Go.Proofs.Lays.n189 prog lays189_ren:=⟨skaK,sqaK func217,sqaK func257,sqaK func258,sqaK func161,sqaK func282,sqaK func254,sqaK func216,sqaK func248,sqaK func249,sqaK func250,sqaK func251,sqaK func252,sqaK func253,sqaK func255,sqaK func256,sqaK func277,sqaK func278,sqaK func279,sqaK func280,sqaK func281,sqaK func304,underlying0,isAgg0,sizeOf0,zeroValue0,underlying3,isAgg3,sizeOf3,zeroValue3,underlying4,isAgg4,sizeOf4,zeroValue4,underlying5,isAgg5,sizeOf5,zeroValue5,underlying9,isAgg9,sizeOf9,zeroValue9,underlying24,isAgg24,sizeOf24,zeroValue24,underlying224,isAgg224,sizeOf224,zeroValue224,underlying225,isAgg225,sizeOf225,zeroValue225,underlying261,isAgg261,sizeOf261,zeroValue261,underlying187,isAgg187,sizeOf187,zeroValue187,underlying371,isAgg371,sizeOf371,zeroValue371,underlying372,isAgg372,sizeOf372,zeroValue372,underlying391,isAgg391,sizeOf391,zeroValue391,underlying395,isAgg395,sizeOf395,zeroValue395,underlying422,isAgg422,sizeOf422,zeroValue422,underlying423,isAgg423,sizeOf423,zeroValue423⟩
open Go.Sort Go.RowKit in
theorem Tryz.slices_Sort_int(blk off cap:Nat) (zs:List Int) (w:World) (hH:Holds (Value.int .i64) w blk off zs.toArray) (hblk:blk < w.heap.size) (hsz:zs.length < 4611686018427387904):Calls prog 161 #[.slice (some ⟨blk, off, none⟩) zs.length cap] w λe w' => e = .returned (.tuple #[]) /\ ∃ n os, w' = grow (putRow (Value.int .i64) (Sort.ahead w n) blk off (zs.mergeSort λx y => decide (x <= y)).toArray) os:=Any.slices_Sort_int lays189 blk off cap zs w hH hblk hsz
def Tryz.laysNm220_ren:Go.Shelf.Ren:=⟨λ|20=>162|n=>n,λ|22=>24|3=>3|4=>4|0=>0|n=>n,λ|n=>n⟩
theorem Tryz.laysNm220:Go.Proofs.Lays2.n20 prog laysNm220_ren:=⟨skaK,sqaK func162,underlying0,isAgg0,sizeOf0,zeroValue0,underlying3,isAgg3,sizeOf3,zeroValue3,underlying4,isAgg4,sizeOf4,zeroValue4,underlying24,isAgg24,sizeOf24,zeroValue24,skaK⟩
open Go.RowKit Go.Lib Go.Sort in
theorem Tryz.slices_Compact_int(blk off cap:Nat) (zs:List Int) (w:World) (hH:Holds (Value.int .i64) w blk off zs.toArray) (hsz:zs.length <= 9223372036854775807) (hcap:zs.length <= cap):Calls prog 162 #[.slice (some ⟨blk, off, none⟩) zs.length cap] w λe w' => e = .returned (.slice (some ⟨blk, off, none⟩) (Lib.compact zs).length cap) /\ ∃ q, w' = putRow (Value.int .i64) (Sort.ahead w q) blk off (Lib.compact zs ++ List.replicate (zs.length - (Lib.compact zs).length) 0).toArray:=Any.slices_Compact_int laysNm220 blk off cap zs w hH hsz hcap
open Go.RowKit Go.Lib Go.Sort in
theorem Tryz.slices_Compact_int_empty(a:Option Addr) (cap:Nat) (w:World):Calls prog 162 #[.slice a 0 cap] w λe w' => e = .returned (.slice a 0 cap) /\ w' = w:=Any.slices_Compact_int_empty laysNm220 a cap w
open Go.RowKit Go.Sort in
theorem Tryz.slices_Sort_int_none(p:Option Addr) (cap:Nat) (w:World):Calls prog 161 #[.slice p 0 cap] w λe w' => e = .returned (.tuple #[]) /\ w' = w:=Any.slices_Sort_int_none lays189 p cap w
end Go.Proofs
