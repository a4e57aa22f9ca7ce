/- Texts of one proof, one behind the other: Mono, Order, Plain, Sort, Same, Map, Own, Small, Right, Listed, Both, Mul, RunI, RunN. -/
import Derived.Test.YtofjmphlpdhohaaGreatDoorM1
import Derived.Test.YtofjmphlpdhohaaGreatDoorRows
import Derived.WalkKit
import Derived.WalkSpells
import Derived.WalkLawsBesides
import Derived.Handy
import Derived.Deep.QuietTactic
import Derived.Deep.Light
import Derived.BigQuiet
import Derived.Test.YtofjmphlpdhohaaGreatDoorShelfP
import Derived.Shelf.SlSortCmp.NoneTotal
import Derived.ChangeKeysEq
import Derived.MapKept
import Derived.ChangeMaps5
import Derived.WideKeyEntry
import Derived.Maps.RangeRun
import Derived.Maps.AppendAt
import Derived.Maps.Range
import Derived.Laws.OwnMore
import Derived.Laws.Tables
import Derived.RegionTactic
import Derived.BigRegion
import Derived.Test.YtofjmphlpdhohaaGreatDoorM5
namespace Go.Proofs.YtofjmphlpdhohaaGreatDoor
open Go.RowKit
structure Mono where
 n:Int
 e0:UInt8
 e1:UInt8
 e2:UInt8
 e3:UInt8
 e4:UInt8
 e5:UInt8
instance : Inhabited Mono := ⟨⟨0, 0, 0, 0, 0, 0, 0⟩⟩
def Mono.E(m:Mono):List UInt8:=[m.e0,m.e1,m.e2,m.e3,m.e4,m.e5]
def Mono.cells(m:Mono):List Value:=
 [.int .i64 m.n,.int .u8 m.e0.toNat,.int .u8 m.e1.toNat,.int .u8 m.e2.toNat,.int .u8 m.e3.toNat,.int .u8 m.e4.toNat,.int .u8 m.e5.toNat]
def Mono.val(m:Mono):Value:=
 .agg #[.int .i64 m.n,.int .u8 m.e0.toNat,.int .u8 m.e1.toNat,.int .u8 m.e2.toNat,.int .u8 m.e3.toNat,.int .u8 m.e4.toNat,.int .u8 m.e5.toNat]
theorem Mono.cells_length(m:Mono):m.cells.length=7:=rfl
def Mono.deg(m:Mono):Nat:=m.e0.toNat+m.e1.toNat+m.e2.toNat+m.e3.toNat+m.e4.toNat+m.e5.toNat
def ord (a b:Mono):Int:=Lib.compareBytes b.E a.E
def rS (m:Mono):Bool:=decide (m.n≠0∧m.n≤16777216∧ -16777216≤m.n∧m.deg≤8)
theorem sH(e:UInt8):(e.toNat:Int)<256:=by have:=e.toNat_lt;omega
def bEh (a b:Mono):Int:=Lib.compareBytes a.E b.E
theorem wU(a b:UInt8)(l m:List UInt8):Lib.compareBytes (a::l) (b::m)=if b.toNat<a.toNat then 1 else if a.toNat<b.toNat then-1 else Lib.compareBytes l m:=by
 rw [Lib.compareBytes];simp only [UInt8.lt_iff_toNat_lt]
 by_cases h:a.toNat<b.toNat
 ·rw [if_pos h,if_neg (by omega),if_pos h]
 ·rw [if_neg h]
  by_cases h':b.toNat<a.toNat
  ·rw [if_pos h',if_pos h']
  ·rw [if_neg h',if_neg h',if_neg h]
def kI (w:World)(b o:Nat)(m:Mono):Prop:=
 w.cell? ⟨b,o,none⟩=some (.int .i64 m.n)∧w.cell? ⟨b,o+1,none⟩=some (.int .u8 m.e0.toNat)∧w.cell? ⟨b,o+2,none⟩=some (.int .u8 m.e1.toNat)∧
 w.cell? ⟨b,o+3,none⟩=some (.int .u8 m.e2.toNat)∧w.cell? ⟨b,o+4,none⟩=some (.int .u8 m.e3.toNat)∧w.cell? ⟨b,o+5,none⟩=some (.int .u8 m.e4.toNat)∧
 w.cell? ⟨b,o+6,none⟩=some (.int .u8 m.e5.toNat)
def nP (w:World)(A:Option Addr)(l:List Mono):Prop:=
 ∀k m,l[k]?=some m→ ∃b o,A=some ⟨b,o,none⟩∧b<w.heap.size∧kI w b (o+k*7) m
theorem kI.below{w w':World}{B b o:Nat}{m:Mono}(h:kI w b o m)(hb:Below B w w')(hB:b<B):kI w' b o m:=by
 obtain⟨h0,h1,h2,h3,h4,h5,h6⟩:=h
 exact⟨(hb.cell (p:=⟨b,o,none⟩) hB).trans h0,(hb.cell (p:=⟨b,o+1,none⟩) hB).trans h1,(hb.cell (p:=⟨b,o+2,none⟩) hB).trans h2,(hb.cell (p:=⟨b,o+3,none⟩) hB).trans h3,
  (hb.cell (p:=⟨b,o+4,none⟩) hB).trans h4,(hb.cell (p:=⟨b,o+5,none⟩) hB).trans h5,(hb.cell (p:=⟨b,o+6,none⟩) hB).trans h6⟩
theorem nP.below{w w':World}{A:Option Addr}{l:List Mono}(h:nP w A l)(hb:Below w.heap.size w w'):nP w' A l:=fun k m hk=>by
 obtain⟨b,o,e,hB,hm⟩:=h k m hk;exact⟨b,o,e,Nat.lt_of_lt_of_le hB hb.size,hm.below hb hB⟩
theorem nP.nil{w:World}{A:Option Addr}:nP w A []:=fun k m h=>by simp at h
def Mono.eqB(a b:Mono):Bool:=a.n==b.n&&(a.e0==b.e0&&(a.e1==b.e1&&(a.e2==b.e2&&(a.e3==b.e3&&(a.e4==b.e4&&a.e5==b.e5)))))
theorem Mono.eqB_iff(a b:Mono):a.eqB b=true↔a=b:=by
 obtain⟨n,a0,a1,a2,a3,a4,a5⟩:=a;obtain⟨n',b0,b1,b2,b3,b4,b5⟩:=b;simp [Mono.eqB]
def gH:Option Mono→List Mono→Bool
 | _,[]=>true
 | none,m::l=>rS m&&gH (some m) l
 | some a,m::l=>rS m&&(decide (ord a m<0)&&gH (some m) l)
def iX (p:List Mono):Bool:=decide (p.length≤48)&&gH none p
theorem tW{l:List Mono}{k:Nat}(h:k<l.length): ∃m,l[k]?=some m∧l.drop k=m::l.drop (k+1):=
 ⟨l[k],List.getElem?_eq_getElem h,List.drop_eq_getElem_cons h⟩
theorem kI.later{W:World}{b o:Nat}{m:Mono}(h:kI W b o m):(∀x:fY W,x.w.cell? ⟨b,o,none⟩=some (.int .i64 m.n))∧(∀x:fY W,x.w.cell? ⟨b,o+1,none⟩=some (.int .u8 m.e0.toNat))∧(∀x:fY W,x.w.cell? ⟨b,o+2,none⟩=some (.int .u8 m.e1.toNat))∧(∀x:fY W,x.w.cell? ⟨b,o+3,none⟩=some (.int .u8 m.e2.toNat))∧(∀x:fY W,x.w.cell? ⟨b,o+4,none⟩=some (.int .u8 m.e3.toNat))∧(∀x:fY W,x.w.cell? ⟨b,o+5,none⟩=some (.int .u8 m.e4.toNat))∧(∀x:fY W,x.w.cell? ⟨b,o+6,none⟩=some (.int .u8 m.e5.toNat)):=by
 obtain⟨h0,h1,h2,h3,h4,h5,h6⟩:=h;exact⟨fY.cell h0,fY.cell h1,fY.cell h2,fY.cell h3,fY.cell h4,fY.cell h5,fY.cell h6⟩
theorem kI.zero{W:World}{b:Nat}{m:Mono}(h:kI W b 0 m):W.cell? ⟨b,0,none⟩=some (.int .i64 m.n)∧W.cell? ⟨b,1,none⟩=some (.int .u8 m.e0.toNat)∧W.cell? ⟨b,2,none⟩=some (.int .u8 m.e1.toNat)∧W.cell? ⟨b,3,none⟩=some (.int .u8 m.e2.toNat)∧W.cell? ⟨b,4,none⟩=some (.int .u8 m.e3.toNat)∧W.cell? ⟨b,5,none⟩=some (.int .u8 m.e4.toNat)∧W.cell? ⟨b,6,none⟩=some (.int .u8 m.e5.toNat):=by simpa [kI] using h
theorem kI.later0{W:World}{b:Nat}{m:Mono}(h:kI W b 0 m):(∀x:fY W,x.w.cell? ⟨b,0,none⟩=some (.int .i64 m.n))∧(∀x:fY W,x.w.cell? ⟨b,1,none⟩=some (.int .u8 m.e0.toNat))∧(∀x:fY W,x.w.cell? ⟨b,2,none⟩=some (.int .u8 m.e1.toNat))∧(∀x:fY W,x.w.cell? ⟨b,3,none⟩=some (.int .u8 m.e2.toNat))∧(∀x:fY W,x.w.cell? ⟨b,4,none⟩=some (.int .u8 m.e3.toNat))∧(∀x:fY W,x.w.cell? ⟨b,5,none⟩=some (.int .u8 m.e4.toNat))∧(∀x:fY W,x.w.cell? ⟨b,6,none⟩=some (.int .u8 m.e5.toNat)):=by
 obtain⟨h0,h1,h2,h3,h4,h5,h6⟩:=h.zero;exact⟨fY.cell h0,fY.cell h1,fY.cell h2,fY.cell h3,fY.cell h4,fY.cell h5,fY.cell h6⟩
def pT (w:World)(b o:Nat):List UInt8→Prop
 | []=>True
 | x::l=>w.cell? ⟨b,o,none⟩=some (.int .u8 x.toNat)∧pT w b (o+1) l
theorem push_append(acc:ByteArray)(x:UInt8)(l:List UInt8):((acc.push x).data++l.toArray)=acc.data++(x::l).toArray:=by
 apply Array.ext';simp [ByteArray.push]
theorem qF{P:Program}(w:World)(b:Nat): ∀(l:List UInt8) (o:Nat) (acc:ByteArray),pT w b o l→
  (Extern.Bytes.loadBytes ⟨b,o,none⟩ l.length acc).run P w= .ok ⟨acc.data++l.toArray⟩ w
 | [],o,acc,_=>by simp [Extern.Bytes.loadBytes]
 | x::l,o,acc,⟨h,t⟩=>by
  have ih:=qF (P:=P) w b l (o+1) (acc.push x) t;rw [push_append] at ih;simp only [Extern.Bytes.loadBytes,List.length_cons,Sem.run_bind];have hl:(load ⟨b,o,none⟩).run P w= .ok (.int .u8 x.toNat) w:=by simp [go_sem,h]
  rw [hl];simp only [Result.andThen_ok];have e:((x.toNat:Int)).toNat.toUInt8=x:=by simp
  rw [e];exact ih
theorem run_compare{P:Program}(w:World)(b c o p k k':Nat)(x y:List UInt8)(hx:pT w b o x)(hy:pT w c p y):
  (Extern.BytealgCompare.compare #[.slice (some ⟨b,o,none⟩) x.length k,.slice (some ⟨c,p,none⟩) y.length k']).run P w= .ok (.int .i64 (Lib.compareBytes x y)) w:=by
 change Sem.run P (do pure (goInt (Extern.BytealgCompare.cmp (←Extern.Bytes.bytesOf (.slice (some ⟨b,o,none⟩) x.length k)) (←Extern.Bytes.bytesOf (.slice (some ⟨c,p,none⟩) y.length k'))))) w=_;simp only [Extern.Bytes.bytesOf,Sem.run_bind,qF w b x o _ hx,qF w c y p _ hy,Result.andThen_ok,Sem.run_pure,Lib.cmp_eq];simp [goInt]
set_option maxRecDepth 100000 in
set_option maxHeartbeats 400000 in
theorem compare_any(b c o p:Nat)(k k':Nat)(x y:List UInt8)(w:World)(hx:pT w b o x)(hy:pT w c p y):
  Calls Tryz.prog 181 #[.slice (some ⟨b,o,none⟩) x.length k,.slice (some ⟨c,p,none⟩) y.length k'] w fun e w'=>e= .returned (.int .i64 (Lib.compareBytes x y))∧w=w':=by
 go_enter Tryz.func181,Tryz.ntmps181
 go_wp2
 rw [run_callFunc_extern Tryz.func231 (by kernel_rfl) (by kernel_rfl) (by kernel_rfl) (e:=Extern.BytealgCompare.compare) (by kernel_rfl),run_compare w b c o p k k' x y hx hy];simp only [Result.andThen];rw [Oper.upon_value]
 go_wp2
 go_ret
 exact⟨rfl,rfl⟩
set_option maxRecDepth 100000 in
set_option maxHeartbeats 400000 in
theorem order_any(a b:Mono)(w:World):
  Calls Tryz.prog 120 #[.agg #[.int .i64 a.n,.int .u8 a.e0.toNat,.int .u8 a.e1.toNat,.int .u8 a.e2.toNat,.int .u8 a.e3.toNat,.int .u8 a.e4.toNat,.int .u8 a.e5.toNat],.agg #[.int .i64 b.n,.int .u8 b.e0.toNat,.int .u8 b.e1.toNat,.int .u8 b.e2.toNat,.int .u8 b.e3.toNat,.int .u8 b.e4.toNat,.int .u8 b.e5.toNat]] w fun e w'=>e= .returned (.int .i64 (ord a b))∧ ∃q o1 o2,w'=((w.alloc o1).alloc o2).drewN q:=by
 have hc:=fun n=>compare_any (w.heap.size+1) w.heap.size 1 1 6 6 b.E a.E (((w.alloc (.cells #[.int .i64 a.n,.int .u8 a.e0.toNat,.int .u8 a.e1.toNat,.int .u8 a.e2.toNat,.int .u8 a.e3.toNat,.int .u8 a.e4.toNat,.int .u8 a.e5.toNat] 45)).alloc (.cells #[.int .i64 b.n,.int .u8 b.e0.toNat,.int .u8 b.e1.toNat,.int .u8 b.e2.toNat,.int .u8 b.e3.toNat,.int .u8 b.e4.toNat,.int .u8 b.e5.toNat] 45)).drewN n) (by simp [pT,Mono.E,go_sem]) (by simp [pT,Mono.E,go_sem]);have HC:=Lib.hid hc;clear hc
 go_enter Tryz.func120,Tryz.ntmps120
 go_wp2
 go_quiet ((go_at_call 181;exact Calls.quiet_of_same ((HC.out _).mono fun _ _ h=>⟨h.1,h.2.symm⟩)))
 go_wp2
 go_ret
 exact⟨rfl,_,_,_,rfl⟩
end Go.Proofs.YtofjmphlpdhohaaGreatDoor
namespace Go.Proofs.YtofjmphlpdhohaaGreatDoor
def num:List UInt8→Nat
 | []=>0
 | a::l=>a.toNat*256^l.length+num l
def Mono.key(m:Mono):Nat:=num m.E
def bEu (l:List Mono):Prop:=l.Pairwise (fun a b=>b.key<a.key)
def bAv (l:List Mono):Prop:=l.Pairwise (fun a b=>a.key≠b.key)
theorem bEu.apart{l:List Mono}(h:bEu l):bAv l:=List.Pairwise.imp (fun h=>by omega) h
theorem bEu.ext: ∀{l m:List Mono},bEu l→bEu m→(∀x,x∈l↔x∈m)→l=m
 | [],[],_,_,_=>rfl
 | [],b::m,_,_,h=>absurd ((h b).2 (by simp)) (by simp)
 | a::l,[],_,_,h=>absurd ((h a).1 (by simp)) (by simp)
 | a::l,b::m,h1,h2,h=>by
  obtain⟨ha,hl⟩:=List.pairwise_cons.1 h1;obtain⟨hb,hm⟩:=List.pairwise_cons.1 h2
  have e:a=b:=by
   have i1:a∈b::m:=(h a).1 (by simp);have i2:b∈a::l:=(h b).2 (by simp)
   rcases List.mem_cons.1 i1 with e | i1
   ·exact e
   ·rcases List.mem_cons.1 i2 with e | i2
    ·exact e.symm
    ·have:=hb a i1;have:=ha b i2;omega
  subst e;rw [bEu.ext hl hm fun x=>?_];constructor
  ·intro hx;have:=(h x).1 (by simp [hx])
   rcases List.mem_cons.1 this with rfl | h'
   ·have:=ha x hx;omega
   ·exact h'
  ·intro hx;have:=(h x).2 (by simp [hx])
   rcases List.mem_cons.1 this with rfl | h'
   ·have:=hb x hx;omega
   ·exact h'
theorem bAv.perm{l m:List Mono}(h:bAv l)(hp:l.Perm m):bAv m:=hp.pairwise h (fun h=>Ne.symm h)
theorem bAv.filter{l:List Mono}(p:Mono→Bool)(h:bAv l):bAv (l.filter p):=List.Pairwise.filter _ h
end Go.Proofs.YtofjmphlpdhohaaGreatDoor
namespace Go.Proofs.YtofjmphlpdhohaaGreatDoor
open Go.RowKit Go.Sort
set_option maxRecDepth 100000
def Row (w:World)(g:Nat)(l:List Mono):Prop:=HoldsK Mono.cells 7 w g 0 l.toArray
end Go.Proofs.YtofjmphlpdhohaaGreatDoor
namespace Go.Proofs.YtofjmphlpdhohaaGreatDoor
open Go.RowKit
set_option maxRecDepth 100000
theorem u8_eq(a b:UInt8):((a.toNat:Int)==(b.toNat:Int))=(a==b):=by
 rw [Bool.eq_iff_iff];simp only [beq_iff_eq];constructor
 ·intro h;exact UInt8.toNat_inj.1 (by omega)
 ·rintro rfl;rfl
def Mono.sameE(a b:Mono):Bool:=a.e0==b.e0&&(a.e1==b.e1&&(a.e2==b.e2&&(a.e3==b.e3&&(a.e4==b.e4&&a.e5==b.e5))))
theorem zV(a:Mono)(w:World):(part 5 #[.int .u8 a.e0.toNat,.int .u8 a.e1.toNat,.int .u8 a.e2.toNat,.int .u8 a.e3.toNat,.int .u8 a.e4.toNat,.int .u8 a.e5.toNat] (0*1)).run Tryz.prog w= .ok (.int .u8 a.e0.toNat) w∧(part 5 #[.int .u8 a.e0.toNat,.int .u8 a.e1.toNat,.int .u8 a.e2.toNat,.int .u8 a.e3.toNat,.int .u8 a.e4.toNat,.int .u8 a.e5.toNat] (1*1)).run Tryz.prog w= .ok (.int .u8 a.e1.toNat) w∧
  (part 5 #[.int .u8 a.e0.toNat,.int .u8 a.e1.toNat,.int .u8 a.e2.toNat,.int .u8 a.e3.toNat,.int .u8 a.e4.toNat,.int .u8 a.e5.toNat] (2*1)).run Tryz.prog w= .ok (.int .u8 a.e2.toNat) w∧(part 5 #[.int .u8 a.e0.toNat,.int .u8 a.e1.toNat,.int .u8 a.e2.toNat,.int .u8 a.e3.toNat,.int .u8 a.e4.toNat,.int .u8 a.e5.toNat] (3*1)).run Tryz.prog w= .ok (.int .u8 a.e3.toNat) w∧
  (part 5 #[.int .u8 a.e0.toNat,.int .u8 a.e1.toNat,.int .u8 a.e2.toNat,.int .u8 a.e3.toNat,.int .u8 a.e4.toNat,.int .u8 a.e5.toNat] (4*1)).run Tryz.prog w= .ok (.int .u8 a.e4.toNat) w∧(part 5 #[.int .u8 a.e0.toNat,.int .u8 a.e1.toNat,.int .u8 a.e2.toNat,.int .u8 a.e3.toNat,.int .u8 a.e4.toNat,.int .u8 a.e5.toNat] (5*1)).run Tryz.prog w= .ok (.int .u8 a.e5.toNat) w:=
 ⟨by kernel_rfl,by kernel_rfl,by kernel_rfl,by kernel_rfl,by kernel_rfl,by kernel_rfl⟩
theorem bCw(d:Nat)(a b:Mono)(w:World):(Op.equalIn (d+2) 43 (.agg #[.int .u8 a.e0.toNat,.int .u8 a.e1.toNat,.int .u8 a.e2.toNat,.int .u8 a.e3.toNat,.int .u8 a.e4.toNat,.int .u8 a.e5.toNat]) (.agg #[.int .u8 b.e0.toNat,.int .u8 b.e1.toNat,.int .u8 b.e2.toNat,.int .u8 b.e3.toNat,.int .u8 b.e4.toNat,.int .u8 b.e5.toNat])).run Tryz.prog w= .ok (a.sameE b) w:=by
 obtain⟨i5,hi5⟩: ∃i,Tryz.prog.info? 5=some i:=⟨_,rfl⟩
 have hc:Tryz.prog.cellsOf 5=1:=by kernel_rfl
 obtain⟨p0,p1,p2,p3,p4,p5⟩:=zV a w;obtain⟨q0,q1,q2,q3,q4,q5⟩:=zV b w;rw [run_equalIn_array w (d+1) _ _ Tryz.underlying43 hi5,hc];have hr:List.range 6=[0,1,2,3,4,5]:=rfl;rw [hr];simp only [Op.eqItems,Sem.run_bind,Sem.run_ite,Sem.run_pure,p0,p1,p2,p3,p4,p5,q0,q1,q2,q3,q4,q5,Result.andThen_ok,run_equalIn_int w d 5 .u8 .u8 _ _ Tryz.underlying5,u8_eq];unfold Mono.sameE;cases a.e0==b.e0<;>cases a.e1==b.e1<;>cases a.e2==b.e2<;>cases a.e3==b.e3<;>cases a.e4==b.e4<;>cases a.e5==b.e5<;>rfl
theorem xM(d:Nat)(a b:Mono)(w:World):(Op.equalIn (d+3) 45 (.agg #[.int .i64 a.n,.int .u8 a.e0.toNat,.int .u8 a.e1.toNat,.int .u8 a.e2.toNat,.int .u8 a.e3.toNat,.int .u8 a.e4.toNat,.int .u8 a.e5.toNat]) (.agg #[.int .i64 b.n,.int .u8 b.e0.toNat,.int .u8 b.e1.toNat,.int .u8 b.e2.toNat,.int .u8 b.e3.toNat,.int .u8 b.e4.toNat,.int .u8 b.e5.toNat])).run Tryz.prog w= .ok (a.eqB b) w:=by
 have hS:Tryz.prog.underlying 45=some (.struct (Tryz.prog.fieldsOf 45)):=by kernel_rfl
 have hp:Tryz.prog.stoodInHeld 45=false:=by kernel_rfl
 have hF:(Tryz.prog.fieldsOf 45).toList=[⟨ "N",2,0,false, "", "",0⟩,⟨ "E",43,1,false, "", "",8⟩]:=by kernel_rfl
 have p0: ∀m:Mono,(part 2 #[.int .i64 m.n,.int .u8 m.e0.toNat,.int .u8 m.e1.toNat,.int .u8 m.e2.toNat,.int .u8 m.e3.toNat,.int .u8 m.e4.toNat,.int .u8 m.e5.toNat] 0).run Tryz.prog w= .ok (.int .i64 m.n) w:=fun m=>by kernel_rfl
 have p1: ∀m:Mono,(part 43 #[.int .i64 m.n,.int .u8 m.e0.toNat,.int .u8 m.e1.toNat,.int .u8 m.e2.toNat,.int .u8 m.e3.toNat,.int .u8 m.e4.toNat,.int .u8 m.e5.toNat] 1).run Tryz.prog w= .ok (.agg #[.int .u8 m.e0.toNat,.int .u8 m.e1.toNat,.int .u8 m.e2.toNat,.int .u8 m.e3.toNat,.int .u8 m.e4.toNat,.int .u8 m.e5.toNat]) w:=fun m=>by kernel_rfl
 rw [run_equalIn_agg w (d+2) 45 _ _ hS hp,hF];simp only [Op.eqFields,Sem.run_bind,Sem.run_ite,Sem.run_pure,p0,p1,Result.andThen_ok,run_equalIn_int w (d+1) 2 .i64 .i64 _ _ Tryz.underlying2,bCw d a b w];have e:a.eqB b=(a.n==b.n&&a.sameE b):=rfl;rw [e];cases a.n==b.n<;>cases a.sameE b<;>simp
theorem run_neq_mono(a b:Mono)(w:World):(binOp .neq 45 (.agg #[.int .i64 a.n,.int .u8 a.e0.toNat,.int .u8 a.e1.toNat,.int .u8 a.e2.toNat,.int .u8 a.e3.toNat,.int .u8 a.e4.toNat,.int .u8 a.e5.toNat]) (.agg #[.int .i64 b.n,.int .u8 b.e0.toNat,.int .u8 b.e1.toNat,.int .u8 b.e2.toNat,.int .u8 b.e3.toNat,.int .u8 b.e4.toNat,.int .u8 b.e5.toNat])).run Tryz.prog w= .ok (.bool (!a.eqB b)) w:=by
 rw [run_neq_struct,xM 9997 a b w];rfl
end Go.Proofs.YtofjmphlpdhohaaGreatDoor
namespace Go.Proofs.YtofjmphlpdhohaaGreatDoor
open Go.RowKit
set_option maxRecDepth 100000
open Go.ChangeMaps (setBlock)
def kvM (m:Mono):Value×Value:=(.agg #[.int .u8 m.e0.toNat,.int .u8 m.e1.toNat,.int .u8 m.e2.toNat,.int .u8 m.e3.toNat,.int .u8 m.e4.toNat,.int .u8 m.e5.toNat],.int .i64 m.n)
def kvE (e:MapEntry):Value×Value:=(e.key,e.val)
def yQ (w:World)(r:Nat)(L:List Mono):Prop:=
 ∃es clock,w.heap[r]?=some (.map es clock)∧es.toList.map kvE=L.map kvM∧(∀x∈es.toList,x.born<clock)∧(es.toList.map (·.born)).Nodup
end Go.Proofs.YtofjmphlpdhohaaGreatDoor
namespace Go.Proofs.YtofjmphlpdhohaaGreatDoor
open Go.RowKit Go.Sort
set_option maxRecDepth 100000
def flat (l:List Mono):List Value:=l.flatMap Mono.cells
theorem flat_get: ∀(l:List Mono) (k j:Nat) (m:Mono),l[k]?=some m→j<7→(flat l)[k*7+j]?=m.cells[j]?
 | [],k,j,m,h,_=>by simp at h
 | a::l,0,j,m,h,hj=>by
  simp at h;subst h;simp only [flat,List.flatMap_cons,Nat.zero_mul,Nat.zero_add];exact List.getElem?_append_left (by rw [Mono.cells_length];exact hj)
 | a::l,k+1,j,m,h,hj=>by
  have ih:=flat_get l k j m (by simpa using h) hj;have e:flat (a::l)=a.cells++flat l:=by simp [flat]
  rw [e,List.getElem?_append_right (by rw [Mono.cells_length];omega),Mono.cells_length];rw [←ih]
  congr 1
  omega
def Owns (w:World)(B:Nat)(v:Value)(l:List Mono):Prop:=w.ownsRow B 45 7 v l.length (flat l)
theorem Owns.row{w:World}{B g cap:Nat}{l:List Mono}(h:Owns w B (.slice (some ⟨g,0,none⟩) l.length cap) l):Row w g l:=fun t ht=>by
 have ht':t<l.length*7:=by simpa using ht
 have hc:=World.ownsRow.cellAt h t ht';refine⟨?_,by simpa using World.ownsRow.frozenAt h t⟩;rw [get_flatK _ _ _ _ (by simpa using ht')];have hk:t/7<l.length:=by omega
 have hg:=flat_get l (t/7) (t%7) l[t/7] (List.getElem?_eq_getElem hk) (Nat.mod_lt _ (by omega));have e:t/7*7+t%7=t:=by omega
 rw [e] at hg;rw [Nat.zero_add,hc,hg];have e2:l.toArray[t/7]! =l[t/7]:=by simp [hk]
 rw [e2];have hj:t%7<(l[t/7]).cells.length:=by rw [Mono.cells_length];exact Nat.mod_lt _ (by omega)
 rw [List.getElem?_eq_getElem hj,getElem!_pos (l[t/7]).cells (t%7) hj];rfl
theorem Row.monos{w:World}{g:Nat}{l:List Mono}(h:Row w g l):nP w (some ⟨g,0,none⟩) l:=fun k m hk=>by
 have hkl:k<l.toArray.size:=by simpa using (List.getElem?_eq_some_iff.1 hk).1
 have hm:l.toArray[k]! =m:=by
  rw [getElem!_pos l.toArray k hkl];have:=(List.getElem?_eq_some_iff.1 hk).2
  simpa using this
 have c:=fun j (hj:j<7)=>(HoldsK.cell h hkl hj).1;rw [hm] at c
 have hlt:g<w.heap.size:=by
  rcases Nat.lt_or_ge g w.heap.size with h' | h'
  ·exact h'
  ·have:=c 0 (by omega);simp [World.cell?,Array.getElem?_eq_none h'] at this
 refine⟨g,0,rfl,hlt,?_⟩;exact⟨c 0 (by omega),c 1 (by omega),c 2 (by omega),c 3 (by omega),c 4 (by omega),c 5 (by omega),c 6 (by omega)⟩
theorem Row.below{w w':World}{B g:Nat}{l:List Mono}(h:Row w g l)(hb:Below B w w')(hg:g<B):Row w' g l:=fun t ht=>by
 obtain⟨h1,h2⟩:=h t ht;exact⟨(hb.cell (p:=⟨g,0+t,none⟩) hg).trans h1,(hb.frozen (p:=⟨g,0+t,none⟩) hg).trans h2⟩
theorem Row.lt{w:World}{g:Nat}{l:List Mono}(h:Row w g l)(hl:l≠[]):g<w.heap.size:=by
 cases l with
 | nil=>exact absurd rfl hl
 | cons m l=>
  obtain⟨b,o,e,hb,_⟩:=h.monos 0 m rfl;injection e with e
  injection e with e
  omega
def Res (B:Nat)(w:World)(v:Value)(l:List Mono):Prop:=
 ∃A c,v= .slice A l.length c∧(l=[]∨ ∃g,A=some ⟨g,0,none⟩∧B≤g∧Row w g l)
theorem Res.monos{B:Nat}{w:World}{A:Option Addr}{n c:Nat}{l:List Mono}(h:Res B w (.slice A n c) l):nP w A l∧n=l.length:=by
 obtain⟨A',c',e,h⟩:=h;injection e with e1 e2 e3
 subst e1 e2
 rcases h with rfl | ⟨g,rfl,_,hr⟩
 ·exact⟨nP.nil,rfl⟩
 ·exact⟨hr.monos,rfl⟩
theorem Res.below{B:Nat}{w w':World}{v:Value}{l:List Mono}(h:Res B w v l)(hb:Below w.heap.size w w'):Res B w' v l:=by
 obtain⟨A,c,e,h⟩:=h;refine⟨A,c,e,?_⟩
 by_cases hl:l=[]
 ·exact .inl hl
 ·rcases h with h | ⟨g,e1,e2,hr⟩
  ·exact .inl h
  ·exact .inr ⟨g,e1,e2,hr.below hb (hr.lt hl)⟩
theorem Res.mono{B B':Nat}{w:World}{v:Value}{l:List Mono}(h:Res B w v l)(hB:B'≤B):Res B' w v l:=by
 obtain⟨A,c,e,h⟩:=h;refine⟨A,c,e,?_⟩
 rcases h with h | ⟨g,e1,e2,hr⟩
 ·exact .inl h
 ·exact .inr ⟨g,e1,Nat.le_trans hB e2,hr⟩
theorem Res.nil(B:Nat)(w:World)(c:Nat)(A:Option Addr):Res B w (.slice A 0 c) []:=⟨A,c,rfl,.inl rfl⟩
end Go.Proofs.YtofjmphlpdhohaaGreatDoor
namespace Go.Proofs.YtofjmphlpdhohaaGreatDoor
open Go.RowKit
set_option maxRecDepth 100000
set_option maxHeartbeats 400000 in
theorem bAy(m:Mono)(w:World):
  Calls Tryz.prog 184 #[.agg #[.int .i64 m.n,.int .u8 m.e0.toNat,.int .u8 m.e1.toNat,.int .u8 m.e2.toNat,.int .u8 m.e3.toNat,.int .u8 m.e4.toNat,.int .u8 m.e5.toNat]] w fun e w'=>e= .returned (.int .i64 m.deg)∧Below w.heap.size w w':=by
 have h0:=sH m.e0;have h1:=sH m.e1;have h2:=sH m.e2;have h3:=sH m.e3;have h4:=sH m.e4;have h5:=sH m.e5
 go_enter Tryz.func184,Tryz.ntmps184
 go_wp2
 go_rounds 7
 go_ret
 refine⟨?_,by go_grown⟩;simp [Mono.deg]
set_option maxRecDepth 100000 in
set_option maxHeartbeats 400000 in
theorem xO(m:Mono)(w:World):
  Calls Tryz.prog 119 #[.agg #[.int .i64 m.n,.int .u8 m.e0.toNat,.int .u8 m.e1.toNat,.int .u8 m.e2.toNat,.int .u8 m.e3.toNat,.int .u8 m.e4.toNat,.int .u8 m.e5.toNat]] w fun e w'=>e= .returned (.bool (rS m))∧Below w.heap.size w w':=by
 have h0:=sH m.e0;have h1:=sH m.e1;have h2:=sH m.e2;have h3:=sH m.e3;have h4:=sH m.e4;have h5:=sH m.e5;have i0: ∀w,(Instr.index 43 (.agg #[.int .u8 m.e0.toNat,.int .u8 m.e1.toNat,.int .u8 m.e2.toNat,.int .u8 m.e3.toNat,.int .u8 m.e4.toNat,.int .u8 m.e5.toNat]) (.int .i64 0)).run Tryz.prog w= .ok (.int .u8 m.e0.toNat) w:=fun _=>by kernel_rfl
 have i1: ∀w,(Instr.index 43 (.agg #[.int .u8 m.e0.toNat,.int .u8 m.e1.toNat,.int .u8 m.e2.toNat,.int .u8 m.e3.toNat,.int .u8 m.e4.toNat,.int .u8 m.e5.toNat]) (.int .i64 1)).run Tryz.prog w= .ok (.int .u8 m.e1.toNat) w:=fun _=>by kernel_rfl
 have i2: ∀w,(Instr.index 43 (.agg #[.int .u8 m.e0.toNat,.int .u8 m.e1.toNat,.int .u8 m.e2.toNat,.int .u8 m.e3.toNat,.int .u8 m.e4.toNat,.int .u8 m.e5.toNat]) (.int .i64 2)).run Tryz.prog w= .ok (.int .u8 m.e2.toNat) w:=fun _=>by kernel_rfl
 have i3: ∀w,(Instr.index 43 (.agg #[.int .u8 m.e0.toNat,.int .u8 m.e1.toNat,.int .u8 m.e2.toNat,.int .u8 m.e3.toNat,.int .u8 m.e4.toNat,.int .u8 m.e5.toNat]) (.int .i64 3)).run Tryz.prog w= .ok (.int .u8 m.e3.toNat) w:=fun _=>by kernel_rfl
 have i4: ∀w,(Instr.index 43 (.agg #[.int .u8 m.e0.toNat,.int .u8 m.e1.toNat,.int .u8 m.e2.toNat,.int .u8 m.e3.toNat,.int .u8 m.e4.toNat,.int .u8 m.e5.toNat]) (.int .i64 4)).run Tryz.prog w= .ok (.int .u8 m.e4.toNat) w:=fun _=>by kernel_rfl
 have i5: ∀w,(Instr.index 43 (.agg #[.int .u8 m.e0.toNat,.int .u8 m.e1.toNat,.int .u8 m.e2.toNat,.int .u8 m.e3.toNat,.int .u8 m.e4.toNat,.int .u8 m.e5.toNat]) (.int .i64 5)).run Tryz.prog w= .ok (.int .u8 m.e5.toNat) w:=fun _=>by kernel_rfl
 go_enter Tryz.func119,Tryz.ntmps119
 go_wp2
 go_rounds 7
 all_goals go_ret
 all_goals refine⟨jA ?_,by go_grown⟩
 all_goals clear i0 i1 i2 i3 i4 i5
 all_goals go_light
 all_goals unfold rS Mono.deg
 all_goals try exact(decide_eq_false (by omega)).symm
 have hn:(m.n !=0)=true:=by simpa using ‹¬m.n=0›
 rw [hn,Bool.true_and];exact decide_eq_decide.2 (by omega)
end Go.Proofs.YtofjmphlpdhohaaGreatDoor
namespace Go.Proofs.YtofjmphlpdhohaaGreatDoor
open Go.RowKit
set_option maxRecDepth 100000
theorem order_below(a b:Mono)(w:World):
  Calls Tryz.prog 120 #[.agg #[.int .i64 a.n,.int .u8 a.e0.toNat,.int .u8 a.e1.toNat,.int .u8 a.e2.toNat,.int .u8 a.e3.toNat,.int .u8 a.e4.toNat,.int .u8 a.e5.toNat],.agg #[.int .i64 b.n,.int .u8 b.e0.toNat,.int .u8 b.e1.toNat,.int .u8 b.e2.toNat,.int .u8 b.e3.toNat,.int .u8 b.e4.toNat,.int .u8 b.e5.toNat]] w fun e w'=>e= .returned (.int .i64 (ord a b))∧Below w.heap.size w w':=
 (order_any a b w).mono fun e w' ⟨he,q,o1,o2,hw⟩=>⟨he,by rw [hw];exact yM (((Below.refl _ _).alloc (Nat.le_refl _) _).alloc (by simp) _) _⟩
set_option maxRecDepth 100000 in
set_option maxHeartbeats 1000000 in
theorem xW(A:Option Addr)(c:Nat)(xs:List Mono)(w:World)(ha:nP w A xs)(hx:xs.length≤140737488355328):
  Calls Tryz.prog 61 #[.slice A xs.length c] w fun e w'=>e= .returned (.bool (iX xs))∧Below w.heap.size w w':=by
 by_cases hl:xs.length≤48
 ·have hl1:decide ((48:Int)<(xs.length:Int))=false:=by simp;omega
  have Ha:=Lib.hid ha;clear ha
  go_enter Tryz.func61,Tryz.ntmps61
  go_wp2
  go_loopw [10] (fun i wr=> ∃k:Nat,k≤xs.length∧i= .int .i64 k∧Hid (iX xs=gH (if k=0 then none else xs[k-1]?) (xs.drop k))∧Below w.heap.size w wr) (fun i _=>xs.length-(intOf i).toNat)
  case atStart=>exact⟨0,Nat.zero_le _,rfl,by show _=_;simp [iX,hl],Below.refl _ _⟩
  case round=>
   obtain⟨k,hk,rfl,hs,hbl⟩:=hrel
   by_cases hlt:k<xs.length
   ·obtain⟨m,hm,dm⟩:=tW hlt;obtain⟨b,o,rfl,hB,c0,c1,c2,c3,c4,c5,c6⟩:=Ha.out.below hbl k m hm;have q0:kI (wr.alloc (.cells #[.int .i64 m.n,.int .u8 m.e0.toNat,.int .u8 m.e1.toNat,.int .u8 m.e2.toNat,.int .u8 m.e3.toNat,.int .u8 m.e4.toNat,.int .u8 m.e5.toNat] 45)) wr.heap.size 0 m:=by simp [kI,go_sem]
    have hb0:Below w.heap.size w (wr.alloc (.cells #[.int .i64 m.n,.int .u8 m.e0.toNat,.int .u8 m.e1.toNat,.int .u8 m.e2.toNat,.int .u8 m.e3.toNat,.int .u8 m.e4.toNat,.int .u8 m.e5.toNat] 45)):=hbl.alloc hbl.size _;have hz:wr.heap.size<(wr.alloc (.cells #[.int .i64 m.n,.int .u8 m.e0.toNat,.int .u8 m.e1.toNat,.int .u8 m.e2.toNat,.int .u8 m.e3.toNat,.int .u8 m.e4.toNat,.int .u8 m.e5.toNat] 45)).heap.size:=by simp
    have HB0:=Lib.hid hb0;have Q0:=Lib.hid q0;have Hz:=Lib.hid hz;have hm':=hm;clear q0 hb0 hz hm hB;cases hsb:rS m
    ·have HS:=Lib.hid (show iX xs=false by rw [hs.out,dm];split<;>(try cases xs[k-1]?)<;>simp [gH,hsb]);clear dm hs
     go_wp2
     clear c0 c1 c2 c3 c4 c5 c6;generalize hb:wr.heap.size=B at Q0 Hz⊢;generalize wr.alloc (.cells #[.int .i64 m.n,.int .u8 m.e0.toNat,.int .u8 m.e1.toNat,.int .u8 m.e2.toNat,.int .u8 m.e3.toNat,.int .u8 m.e4.toNat,.int .u8 m.e5.toNat] 45)=W0 at Q0 HB0 Hz⊢;clear hb hbl;have Hsm:=Lib.hid (fY.calls (W0:=W0) fun W _=>xO m W);rw [hsb] at Hsm;obtain⟨r0,r1,r2,r3,r4,r5,r6⟩:=Q0.out.later0;clear Q0 Hz;refine kC (by kernel_rfl) (by kernel_rfl) ?_
     repeat (go_big_quiet_step ((go_at_call 119;exact Hsm.out _)))
     refine wpQuiet_nil ?_;rintro _ ⟨x,rfl⟩
     go_wp2
     go_ret
     exact⟨jA HS.out.symm,HB0.out.trans (x.h.mono HB0.out.size)⟩
    ·rcases Nat.eq_zero_or_pos k with hk0 | hk0
     ·have hk1:decide (0<k)=false:=by simp;omega
      have HS:=Lib.hid (show iX xs=gH (if k+1=0 then none else xs[k+1-1]?) (xs.drop (k+1)) by rw [hs.out,dm,if_pos hk0,if_neg (by omega),show k+1-1=k from rfl,hm'];simp [gH,hsb]);clear dm hs hk0 hm'
      go_wp2
      clear c0 c1 c2 c3 c4 c5 c6;generalize hb:wr.heap.size=B at Q0 Hz⊢;generalize wr.alloc (.cells #[.int .i64 m.n,.int .u8 m.e0.toNat,.int .u8 m.e1.toNat,.int .u8 m.e2.toNat,.int .u8 m.e3.toNat,.int .u8 m.e4.toNat,.int .u8 m.e5.toNat] 45)=W0 at Q0 HB0 Hz⊢;clear hb hbl;have Hsm:=Lib.hid (fY.calls (W0:=W0) fun W _=>xO m W);rw [hsb] at Hsm;obtain⟨r0,r1,r2,r3,r4,r5,r6⟩:=Q0.out.later0;clear Q0 Hz;refine kC (by kernel_rfl) (by kernel_rfl) ?_
      repeat (go_big_quiet_step ((go_at_call 119;exact Hsm.out _)))
      refine wpQuiet_nil ?_;rintro _ ⟨x,rfl⟩
      go_wp2
      go_roundw
      case rel=>exact⟨k+1,by omega,by go_num,HS,HB0.out.trans (x.h.mono HB0.out.size)⟩
      case measure=>simp [intOf];omega
     ·have hk1:decide (0<k)=true:=by simp;omega
      obtain⟨j,rfl⟩: ∃j,k=j+1:=⟨k-1,by omega⟩
      obtain⟨q,hq⟩: ∃q,xs[j]?=some q:=⟨xs[j]'(by omega),List.getElem?_eq_getElem _⟩
      have HS:=Lib.hid (show iX xs=(decide (ord q m<0)&&gH (some m) (xs.drop (j+1+1))) by rw [hs.out,dm,if_neg (by omega),show j+1-1=j from rfl,hq];simp [gH,hsb]);have HM:=Lib.hid hm'
      have p0:kI (wr.alloc (.cells #[.int .i64 m.n,.int .u8 m.e0.toNat,.int .u8 m.e1.toNat,.int .u8 m.e2.toNat,.int .u8 m.e3.toNat,.int .u8 m.e4.toNat,.int .u8 m.e5.toNat] 45)) b (o+j*7) q:=by
       obtain⟨b1,o1,e1,hB1,hm1⟩:=Ha.out.below hbl j q hq;injection e1 with e1
       injection e1 with e1 e2
       subst e1 e2;exact hm1.below ((Below.refl _ _).alloc (Nat.le_refl _) _) hB1
      have P0:=Lib.hid p0;clear dm hs hk0 hm' hq p0
      go_wp2
      clear c0 c1 c2 c3 c4 c5 c6;generalize hb:wr.heap.size=B at Q0 Hz⊢;generalize wr.alloc (.cells #[.int .i64 m.n,.int .u8 m.e0.toNat,.int .u8 m.e1.toNat,.int .u8 m.e2.toNat,.int .u8 m.e3.toNat,.int .u8 m.e4.toNat,.int .u8 m.e5.toNat] 45)=W0 at Q0 HB0 Hz P0⊢;clear hb hbl;have Hsm:=Lib.hid (fY.calls (W0:=W0) fun W _=>xO m W);rw [hsb] at Hsm;have Hor:=Lib.hid (fY.calls (W0:=W0) fun W _=>order_below q m W);obtain⟨r0,r1,r2,r3,r4,r5,r6⟩:=Q0.out.later0;obtain⟨s0,s1,s2,s3,s4,s5,s6⟩:=P0.out.later;clear Q0 Hz P0;refine kC (by kernel_rfl) (by kernel_rfl) ?_
      repeat (go_big_quiet_step ((first | (go_at_call 119;exact Hsm.out _) | (go_at_call 120;exact Hor.out _))))
      refine wpQuiet_nil ?_;rintro _ ⟨x,rfl⟩;clear r0 r1 r2 r3 r4 r5 r6 s0 s1 s2 s3 s4 s5 s6 Hsm Hor;have HBX:=Lib.hid (show Below w.heap.size w x.w from HB0.out.trans (x.h.mono HB0.out.size));clear HB0
      by_cases ho:ord q m<0
      ·have ho1:decide ((0:Int)≤ord q m)=false:=by simp;omega
       go_wp2
       go_roundw
       case rel=>exact⟨j+1+1,by omega,by go_num,(by show _=_;rw [HS.out,if_neg (by omega),show j+1+1-1=j+1 from rfl,HM.out];simp [ho]),HBX.out⟩
       case measure=>simp [intOf];omega
      ·have ho1:decide ((0:Int)≤ord q m)=true:=by simp;omega
       go_wp2
       go_ret
       exact⟨jA (by rw [HS.out,decide_eq_false (by omega),Bool.false_and]),HBX.out⟩
   ·have hk':k=xs.length:=by omega
    go_wp2
    go_ret
    refine⟨jA ?_,hbl⟩;rw [hs.out,List.drop_of_length_le (by omega)];split<;>(try cases xs[k-1]?)<;>simp [gH]
 ·have hl1:decide ((48:Int)<(xs.length:Int))=true:=by simp;omega
  go_enter Tryz.func61,Tryz.ntmps61
  go_wp2
  go_ret
  exact⟨jA (by simp [iX,hl]),Below.refl _ _⟩
end Go.Proofs.YtofjmphlpdhohaaGreatDoor
namespace Go.Proofs.YtofjmphlpdhohaaGreatDoor
open Go.RowKit Go.Sort
set_option maxRecDepth 100000
open Go.ChangeMaps (setBlock)
def Gives (w:World)(r:List Mono×Int)(e:Ending)(w':World):Prop:=
 ∃v,e= .returned (.tuple #[v,.int .i64 r.2])∧Below w.heap.size w w'∧Res w.heap.size w' v r.1
theorem Gives.list{w w':World}{r:List Mono×Int}{e:Ending}(h:Gives w r e w'): ∃A c,e= .returned (.tuple #[.slice A r.1.length c,.int .i64 r.2])∧Below w.heap.size w w'∧nP w' A r.1:=by
 obtain⟨v,rfl,hb,A,c,rfl,hr⟩:=h;exact⟨A,c,rfl,hb,(Res.monos (B:=w.heap.size) ⟨A,c,rfl,hr⟩).1⟩
end Go.Proofs.YtofjmphlpdhohaaGreatDoor
namespace Go.Proofs.YtofjmphlpdhohaaGreatDoor
open Go.RowKit Go.Sort
set_option maxRecDepth 100000
open Go.ChangeMaps (setBlock)
theorem yQ.alloc{w:World}{r:Nat}{L:List Mono}(h:yQ w r L)(o:Obj):yQ (w.alloc o) r L:=by
 obtain⟨es,clock,hb,h1,h2,h3⟩:=h;exact⟨es,clock,(Below.heap_alloc _ _ _ (Array.getElem?_eq_some_iff.1 hb).1).trans hb,h1,h2,h3⟩
theorem yQ.drew{w:World}{r:Nat}{L:List Mono}(h:yQ w r L):yQ w.drew r L:=h
theorem yQ.new(w:World):yQ (w.alloc (.map #[] 0)) w.heap.size []:=⟨#[],0,heap_alloc_new _ _,rfl,by simp,by simp⟩
end Go.Proofs.YtofjmphlpdhohaaGreatDoor
namespace Go.Proofs.YtofjmphlpdhohaaGreatDoor
open Go.RowKit Go.Sort
set_option maxRecDepth 100000
open Go.ChangeMaps (setBlock)
theorem kI.lt{w:World}{b o:Nat}{m:Mono}(h:kI w b o m):b<w.heap.size:=by
 rcases Nat.lt_or_ge b w.heap.size with hlt | hge
 ·exact hlt
 ·have:=h.1;simp [World.cell?,Array.getElem?_eq_none hge] at this
end Go.Proofs.YtofjmphlpdhohaaGreatDoor
namespace Go.Proofs.YtofjmphlpdhohaaGreatDoor
namespace X
open Go.RowKit
noncomputable section
end
end X
end Go.Proofs.YtofjmphlpdhohaaGreatDoor
namespace Go.Proofs.YtofjmphlpdhohaaGreatDoor
namespace X
open Go.RowKit
noncomputable section
def upN (n0 d k:Nat):Nat:=sel (Nat.blt k n0) k (k+d)
def Cap.up(dc:Nat):Cap→Cap
 | .n c=> .n c
 | .s k d=> .s (k+dc) d
def upD (n0 d dc f:Nat):V→V:=Nat.rec (motive:=fun _=>V→V) (fun v=>v) (fun _ ih v=>match v with
 | .p k o=> .p (upN n0 d k) o
 | .l k o n c=> .l (upN n0 d k) o n (c.up dc)
 | .z k o o' c=> .z (upN n0 d k) o o' (c+dc)
 | .y c=> .y (c+dc)
 | .m k=> .m (upN n0 d k)
 | .f fn a c=> .f fn (a.map ih) (c.map ih)
 | .e t v=> .e t (ih v)
 | .g cs=> .g (cs.map ih)
 | .t vs=> .t (vs.map ih)
 | v=>v) f
def V.up (n0 d dc:Nat)(v:V):V:=upD n0 d dc 5 v
def Blk.up(n0 d dc:Nat):Blk→Blk
 | .cells cs t ext ro=> .cells (cs.map (V.up n0 d dc)) t (ext.map fun k=>k+dc) ro
 | .map es c=> .map (es.map fun x=>(x.1.up n0 d dc,x.2.1.up n0 d dc,x.2.2)) c
 | .win cs=> .win (cs.map (V.up n0 d dc))
 | b=>b
def Blk.okB(n c:Nat):Blk→Bool
 | .cells cs _ ext _=>allL (fun v=>v.ok n c&&v.one) cs&&oc ext true (fun k=>Nat.blt k c)
 | .map es _=>allL (fun x:Ent=>x.1.ok n c&&x.2.1.ok n c) es
 | .win cs=>allL (fun v=>v.ok n c&&v.one) cs
 | _=>false
def baseH (K:List (Nat×Nat)):T Blk:=List.rec .lf (fun x _ ih=>ih.set (some (.know x.2)) fuelT x.1) K
def pickB (D:List Nat)(s:St):Option (List (Nat×Blk)):=zB (fun k=>ob (s.h.get k) fun x=>some (k,x)) D
def addB (n0 d dc:Nat)(B:List (Nat×Blk))(t:T Blk):T Blk:=List.rec t (fun x _ ih=>ih.set (some (x.2.up n0 d dc)) fuelT (x.1+d)) B
abbrev vD:=V×List (Nat×Blk)×Nat×Nat
section
variable [Ctx]
def bEp (K:List (Nat×Nat)):St:={h:=baseH K,n:=Ctx.n0,c:=0}
def memoB (K:List (Nat×Nat))(v:V)(s:St)(B:List (Nat×Blk)):Bool:=v.ok s.n s.c&&(allL (fun x:Nat×Blk=>x.2.okB s.n s.c&&Nat.ble Ctx.n0 x.1) B&&allL (fun x:Nat×Nat=>Nat.blt x.1 Ctx.n0&&isKnow x.2 (s.h.get x.1)) K)
def sD (f:FuncId)(n:Nat)(args:List V)(K:List (Nat×Nat))(D:List Nat):Option vD:=gd (allL (V.ok 0 0) args) (ob (bEn f (uK n) args (bEp K)) fun q=>ob (pickB D q.2) fun B=>gd (memoB K q.1 q.2 B) (some (q.1,B,q.2.n,q.2.c)))
def memoO (K:List (Nat×Nat))(m:vD)(s:St):Option (V×St):=gd (Nat.ble Ctx.n0 s.n&&allL (fun x:Nat×Nat=>isKnow x.2 (s.h.get x.1)) K)
 (some (m.1.up Ctx.n0 (s.n-Ctx.n0) s.c,{h:=addB Ctx.n0 (s.n-Ctx.n0) s.c m.2.1 s.h,n:=m.2.2.1+(s.n-Ctx.n0),c:=m.2.2.2+s.c}))
def bDq (K:List (Nat×Nat))(l:List (List V×vD)):Orc:=fun args s=>List.rec none (fun x _ ih=>sel (pN (beqD 5) args x.1) (memoO K x.2 s) ih) l
end
end
theorem upD_succ(n0 d dc f:Nat)(v:V):upD n0 d dc (f+1) v=(match v with
 | .p k o=> .p (upN n0 d k) o
 | .l k o n c=> .l (upN n0 d k) o n (c.up dc)
 | .z k o o' c=> .z (upN n0 d k) o o' (c+dc)
 | .y c=> .y (c+dc)
 | .m k=> .m (upN n0 d k)
 | .f fn a c=> .f fn (a.map (upD n0 d dc f)) (c.map (upD n0 d dc f))
 | .e t v=> .e t (upD n0 d dc f v)
 | .g cs=> .g (cs.map (upD n0 d dc f))
 | .t vs=> .t (vs.map (upD n0 d dc f))
 | v=>v):=rfl
def As.up (α β:As)(n c d:Nat):As:={blk:=fun k=>if k<n then α.blk k else β.blk (k-d),room:=fun k=>if k<c then α.room k else β.room (k-c),place:=fun k=>if k<c then α.place k else β.place (k-c)}
theorem same_up(α β:As)(n c d:Nat):lL n c α (α.up β n c d):=⟨fun k hk=>by simp [As.up,hk],fun k hk=>by simp [As.up,hk],fun k hk=>by simp [As.up,hk]⟩
section
variable {α β : As} {n0 n c d n1 c1 : Nat}
theorem up_blk(hs: ∀k,k<n0→β.blk k=α.blk k)(hn:n0+d=n)(k:Nat):(α.up β n c d).blk (upN n0 d k)=β.blk k:=by
 unfold upN;rw [dE]
 by_cases hk:k<n0
 ·rw [if_pos (by rw [Nat.blt_eq];exact hk)];have:k<n:=by omega
  simp [As.up,this,hs k hk]
 ·rw [if_neg (by rw [Nat.blt_eq];exact hk)];have: ¬k+d<n:=by omega
  simp [As.up,this]
theorem zS(k:Nat):(α.up β n c d).room (k+c)=β.room k:=by
 have: ¬k+c<c:=by omega
 simp [As.up,this]
theorem up_place(k:Nat):(α.up β n c d).place (k+c)=β.place k:=by
 have: ¬k+c<c:=by omega
 simp [As.up,this]
theorem cap_up(x:Cap):(x.up c).inst (α.up β n c d)=x.inst β:=by
 cases x with
 | n k=>rfl
 | s k e=>simp [Cap.up,Cap.inst,zS]
theorem sX(hs: ∀k,k<n0→β.blk k=α.blk k)(hn:n0+d=n): ∀(f:Nat) (v:V),okD n1 c1 f v=true→(upD n0 d c f v).inst (α.up β n c d)=v.inst β:=by
 intro f
 induction f with
 | zero=>intro v h;cases h
 | succ f ih=>
  intro v h
  have hl: ∀l:List V,allL (okD n1 c1 f) l=true→(l.map (upD n0 d c f)).map (V.inst (α.up β n c d))=l.map (V.inst β):=fun l hl=>by
   rw [hX,List.all_eq_true] at hl;rw [List.map_map];exact List.map_congr_left fun x hx=>ih x (hl x hx)
  rw [kD] at h;rw [upD_succ];cases v<;>simp only [Bool.and_eq_true] at h<;>try rfl
  case p k o=>simp [V.inst,up_blk hs hn]
  case l k o m cp=>simp [V.inst,up_blk hs hn,cap_up]
  case z k o o' cp=>simp [V.inst,up_blk hs hn,zS]
  case y cp=>simp [V.inst,zS,up_place]
  case m k=>simp [V.inst,up_blk hs hn]
  case f fn x y=>simp only [xF,hl x h.1,hl y h.2]
  case e t v=>simp [V.inst,ih v h]
  case g cs=>simp only [mR,hl cs h]
  case t cs=>simp only [inst_t,hl cs h]
theorem upN_lt{k:Nat}(h:k<n1):upN n0 d k<n1+d:=by
 unfold upN;rw [dE];split<;>omega
theorem upD_ok: ∀(f:Nat) (v:V),okD n1 c1 f v=true→okD (n1+d) (c1+c) f (upD n0 d c f v)=true:=by
 intro f
 induction f with
 | zero=>intro v h;cases h
 | succ f ih=>
  intro v h
  have hl: ∀l:List V,allL (okD n1 c1 f) l=true→allL (okD (n1+d) (c1+c) f) (l.map (upD n0 d c f))=true:=fun l hl=>by
   rw [hX,List.all_eq_true] at*;intro x hx;obtain⟨y,hy,rfl⟩:=List.mem_map.1 hx;exact ih y (hl y hy)
  rw [kD] at h;rw [upD_succ,kD];cases v<;>simp only [Bool.and_eq_true,Nat.blt_eq] at h⊢
  case p k o=>exact upN_lt h
  case l k o m cp=>
   refine⟨upN_lt h.1,?_⟩
   cases cp with
   | n _=>rfl
   | s j e=>
    have:=h.2;simp only [Cap.ok,Cap.up,Nat.blt_eq] at this⊢;omega
  case z k o o' cp=>exact⟨upN_lt h.1,by omega⟩
  case y cp=>omega
  case m k=>exact upN_lt h
  case f fn x y=>exact⟨hl x h.1,hl y h.2⟩
  case e t v=>exact ih v h
  case g cs=>exact hl cs h
  case t cs=>exact hl cs h
theorem up_one{v:V}(h:v.one=true):(v.up n0 d c).one=true:=by cases v<;>first | rfl | cases h
theorem wR: ∀{B:List (Nat×Blk)} {t:T Blk} {k:Nat} {x:Blk},(addB n0 d c B t).get k=some x→(∃y∈B,k=y.1+d∧x=y.2.up n0 d c)∨t.get k=some x
 | [],_,_,_,h=> .inr h
 | y::B,t,k,x,h=>by
  have h:((addB n0 d c B t).set (some (y.2.up n0 d c)) fuelT (y.1+d)).get k=some x:=h
  rcases T.get_set_fuel _ _ _ _ _ _ h with ⟨rfl,e⟩ | ⟨_,h⟩
  ·cases e;exact .inl ⟨y,List.mem_cons_self ..,rfl,rfl⟩
  ·rcases wR h with ⟨z,hz,h1⟩ | h
   ·exact .inl ⟨z,List.mem_cons_of_mem _ hz,h1⟩
   ·exact .inr h
theorem kG: ∀{K:List (Nat×Nat)} {k:Nat} {x:Blk},(baseH K).get k=some x→ ∃m,(k,m)∈K∧x= .know m
 | [],_,_,h=>by cases h
 | y::K,k,x,h=>by
  have h:((baseH K).set (some (.know y.2)) fuelT y.1).get k=some x:=h
  rcases T.get_set_fuel _ _ _ _ _ _ h with ⟨rfl,e⟩ | ⟨_,h⟩
  ·cases e;exact⟨y.2,List.mem_cons_self ..,rfl⟩
  ·obtain⟨m,hm,h1⟩:=kG h;exact⟨m,List.mem_cons_of_mem _ hm,h1⟩
theorem know_eq{n:Nat}{o:Option Blk}(h:isKnow n o=true):o=some (.know n):=by
 cases o with
 | none=>cases h
 | some y=>
  cases y with
  | know m=>
   have:Nat.beq n m=true:=h;rw [iW this]
  | _=>cases h
end
section
variable [Ctx] {α β : As} {s : St} {w w' : World} {n0 n c d n1 c1 : Nat}
theorem blk_up(hs: ∀k,k<n0→β.blk k=α.blk k)(hn:n0+d=n){x:Blk}{r:Nat}(hx:x.okB n1 c1=true)(h:x.Is β w r):(x.up n0 d c).Is (α.up β n c d) w r:=by
 have hl: ∀l:List V,(∀v∈l,v.ok n1 c1=true)→(l.map (V.up n0 d c)).map (V.inst (α.up β n c d))=l.map (V.inst β):=fun l hl=>by
  rw [List.map_map];exact List.map_congr_left fun v hv=>sX hs hn 5 v (hl v hv)
 cases x with
 | cells cs t ext ro=>
  simp only [Blk.okB,Bool.and_eq_true,hX,List.all_eq_true] at hx;have hm:=hl cs fun v hv=>(hx.1 v hv).1
  cases ext with
  | none=>
   show w.heap[r]?=_;rw [hm];exact h
  | some k=>
   obtain⟨rest,h1,h2⟩:=h;refine⟨rest,?_,?_⟩
   ·rw [h1,zS]
   ·rw [hm];exact h2
 | map es clock=>
  simp only [Blk.okB,Bool.and_eq_true,hX,List.all_eq_true] at hx
  have hm:(es.map fun x=>(x.1.up n0 d c,x.2.1.up n0 d c,x.2.2)).map (entI (α.up β n c d))=es.map (entI β):=by
   rw [List.map_map];refine List.map_congr_left fun y hy=>?_;have h1:=sX (α:=α) (c:=c) hs hn 5 y.1 (hx y hy).1;have h2:=sX (α:=α) (c:=c) hs hn 5 y.2.1 (hx y hy).2;simp only [Function.comp_apply,entI,V.up,h1,h2]
  show w.heap[r]?=_;rw [hm];exact h
 | win cs=>
  simp only [Blk.okB,Bool.and_eq_true,hX,List.all_eq_true] at hx;refine⟨h.1,fun i v hi=>?_⟩;rw [List.getElem?_map] at hi
  cases hu:cs[i]? with
  | none=>rw [hu] at hi;cases hi
  | some u=>
   rw [hu] at hi;cases hi;rw [h.2 i u hu];exact congrArg some (sX hs hn 5 u (hx u (List.mem_of_getElem? hu)).1).symm
 | _=>cases hx
omit [Ctx] in
theorem blk_sc{x:Blk}(hx:x.okB n1 c1=true):(x.up n0 d c).Sc (n1+d) (c1+c):=by
 have hl: ∀l:List V,(∀v∈l,v.ok n1 c1=true∧v.one=true)→ ∀v∈l.map (V.up n0 d c),v.Sc (n1+d) (c1+c)∧v.one=true:=fun l hl v hv=>by
  obtain⟨u,hu,rfl⟩:=List.mem_map.1 hv;exact⟨⟨5,upD_ok 5 u (hl u hu).1⟩,up_one (hl u hu).2⟩
 cases x with
 | cells cs t ext ro=>
  simp only [Blk.okB,Bool.and_eq_true,hX,List.all_eq_true] at hx;refine⟨hl cs hx.1,fun k hk=>?_⟩
  cases ext with
  | none=>cases hk
  | some j=>
   cases hk;have:Nat.blt j c1=true:=hx.2;rw [Nat.blt_eq] at this;show j+c<c1+c;omega
 | map es clock=>
  simp only [Blk.okB,Bool.and_eq_true,hX,List.all_eq_true] at hx;intro y hy;obtain⟨u,hu,rfl⟩:=List.mem_map.1 hy;exact⟨⟨5,upD_ok 5 _ (hx u hu).1⟩,⟨5,upD_ok 5 _ (hx u hu).2⟩⟩
 | win cs=>
  simp only [Blk.okB,Bool.and_eq_true,hX,List.all_eq_true] at hx;exact hl cs hx
 | _=>cases hx
variable [Good]
theorem base_sim(hs:Sim α s w){K:List (Nat×Nat)}(hK: ∀x∈K,x.1<Ctx.n0∧s.h.get x.1=some (.know x.2)):Sim α (bEp K) w where
 gl:=fun g k hk=>⟨Good.gl g k hk,(hs.gl g k hk).2⟩
 lt:=fun k x hk=>by
  obtain⟨m,hm,rfl⟩:=kG hk;exact(hK _ hm).1
 sc:=fun k x hk=>by
  obtain⟨m,hm,rfl⟩:=kG hk;trivial
 is:=fun k x hk=>by
  obtain⟨m,hm,rfl⟩:=kG hk;exact hs.is k _ (hK _ hm).2
 ne:=fun k k' x x' hk hk'=>by
  obtain⟨m,hm,rfl⟩:=kG hk;obtain⟨m',hm',rfl⟩:=kG hk';exact hs.ne k k' _ _ (hK _ hm).2 (hK _ hm').2
omit [Ctx] [Good] in
theorem pickB_mem{D:List Nat}{B:List (Nat×Blk)}(h:pickB D s=some B): ∀y∈B,s.h.get y.1=some y.2:=by
 have hm:=tU _ _ _ h;intro y hy;have h1:some y∈B.map some:=List.mem_map_of_mem hy;rw [←hm] at h1;obtain⟨k,_,h2⟩:=List.mem_map.1 h1;obtain⟨x,hx,h3⟩:=bG h2;cases h3;exact hx
theorem memo_run{f:FuncId}{N:Nat}{args:List V}{K:List (Nat×Nat)}{D:List Nat}{m:vD}(h:sD f N args K D=some m){v:V}{s':St}(ho:memoO K m s=some (v,s'))(hs:Sim α s w):
  CallR Ctx.P f (args.map (V.inst α)).toArray w fun u w'=> ∃α',u=v.inst α'∧Stp α s w α' s' w':=by
 obtain⟨ha,h1⟩:=cD h;obtain⟨⟨v1,s1⟩,h2,h3⟩:=bG h1;obtain⟨B,h4,h5⟩:=bG h3;obtain⟨h6,h7⟩:=cD h5;cases h7;obtain⟨h8,h9⟩:=cD ho;cases h9;simp only [Bool.and_eq_true,hX,List.all_eq_true] at ha h8;simp only [memoB,Bool.and_eq_true,hX,List.all_eq_true,Nat.blt_eq] at h6;obtain⟨hv,hB,hK⟩:=h6;have hn0:=fV h8.1;have hd:Ctx.n0+(s.n-Ctx.n0)=s.n:=by omega
 have hbase:=base_sim hs (K:=K) fun x hx=>⟨(hK x hx).1,know_eq (h8.2 x hx)⟩
 obtain⟨h10,h11⟩:=vL (run_ok N) hbase h2 fun x hx=>(V.Sc.of (ha x hx)).mono (Nat.zero_le _) (Nat.zero_le _);refine .inr ⟨h10,h11.mono ?_⟩;rintro e w' ⟨u,rfl,β,rfl,hst⟩;have hsame: ∀k,k<Ctx.n0→β.blk k=α.blk k:=fun k hk=>(hst.same.blk k hk).symm;have hn1:Ctx.n0≤s1.n:=hst.n;have hpick:=pickB_mem h4
 have hnew: ∀y∈B,w.heap.size≤β.blk y.1:=fun y hy=>by
  rcases hst.new y.1 y.2 (hpick y hy) with ⟨k0,x0,h12,_,h13⟩ | h12
  ·obtain⟨m,hm,rfl⟩:=kG h12;have hk0:=hK _ hm;have e1:β.blk k0=β.blk y.1:=by rw [hsame k0 hk0.1];exact h13
   have:=hst.sim.ne k0 y.1 _ _ (know_eq hk0.2) (hpick y hy) e1;have:=fV (hB y hy).2;omega
  ·exact h12
 refine⟨_,rfl,α.up β s.n s.c (s.n-Ctx.n0),(sX hsame hd 5 v1 hv).symm,?_⟩
 have hup: ∀y∈B,(α.up β s.n s.c (s.n-Ctx.n0)).blk (y.1+(s.n-Ctx.n0))=β.blk y.1:=fun y hy=>by
  have:=fV (hB y hy).2;have h1: ¬y.1+(s.n-Ctx.n0)<s.n:=by omega
  simp [As.up,h1]
 have hold: ∀k x,s.h.get k=some x→(α.up β s.n s.c (s.n-Ctx.n0)).blk k=α.blk k:=fun k x hk=>by
  have:=hs.lt k x hk;simp [As.up,this]
 refine Stp.make hs (fun _=>False) (same_up _ _ _ _ _) (by show s.n≤s1.n+_;omega) (Nat.le_add_left _ _) hst.fr.os hst.fr.tape hst.fr.output hst.fr.size (fun b hb _=>hst.fr.block b hb fun k x hk hr=>?_) (fun _ h=>h.elim) (fun k x hk=>?_) (fun k k' x x' hk hk' e=>?_)
 ·obtain⟨m,_,rfl⟩:=kG hk;cases hr
 ·rcases wR hk with ⟨y,hy,rfl,rfl⟩ | h12
  ·refine .inr ⟨?_,blk_sc (hB y hy).1,?_,.inl ?_⟩
   ·have:=hst.sim.lt _ _ (hpick y hy);show _<s1.n+_;omega
   ·rw [hup y hy];exact blk_up hsame hd (hB y hy).1 (hst.sim.is _ _ (hpick y hy))
   ·rw [hup y hy];exact hnew y hy
  ·exact .inl ⟨h12,fun h=>h⟩
 ·rcases wR hk with ⟨y,hy,rfl,rfl⟩ | h12<;>rcases wR hk' with ⟨y',hy',rfl,rfl⟩ | h12'
  ·rw [hup y hy,hup y' hy'] at e;rw [hst.sim.ne _ _ _ _ (hpick y hy) (hpick y' hy') e]
  ·rw [hup y hy,hold _ _ h12'] at e;have:=hnew y hy;have:=(hs.is _ _ h12').lt;omega
  ·rw [hold _ _ h12,hup y' hy'] at e;have:=hnew y' hy';have:=(hs.is _ _ h12).lt;omega
  ·rw [hold _ _ h12,hold _ _ h12'] at e;exact hs.ne _ _ _ _ h12 h12' e
theorem memo_ok{f:FuncId}{K:List (Nat×Nat)}: ∀{l:List (List V×vD)},(∀x∈l,∃N D,sD f N x.1 K D=some x.2)→oE f (bDq K l)
 | [],_=>fun _ _ _ _ h=>by cases h
 | x::l,hl=>fun args s v s' h α w hs hargs=>by
  have h:sel (pN (beqD 5) args x.1) (memoO K x.2 s) (bDq K l args s)=some (v,s'):=h;rw [dE] at h;split at h
  ·rename_i he;rw [mM (nA 5) he];obtain⟨N,D,hx⟩:=hl x (List.mem_cons_self ..);exact memo_run hx h hs
  ·exact memo_ok (fun y hy=>hl y (List.mem_cons_of_mem _ hy)) args s v s' h α w hs hargs
theorem ran_true{f:FuncId}{N:Nat}{K:List (Nat×Nat)}{s':St}(h:bEn f (uK N) [] (bEp K)=some (.b true,s'))(hs:Sim α (bEp K) w):
  (callFunc f #[]).run Ctx.P w= .ok (.enter f #[]) w∧Calls Ctx.P f #[] w fun e w'=>e= .returned (.bool true)∧Below w.heap.size w w':=by
 obtain⟨h1,h2⟩:=vL (run_ok N) hs h fun x hx=>by cases hx
 refine⟨h1,h2.mono ?_⟩;rintro e w' ⟨u,rfl,β,rfl,hst⟩
 exact⟨rfl,hst.fr.os,hst.fr.tape,hst.fr.output,hst.fr.size,fun b hb=>hst.fr.block b hb fun k x hk hr=>by
  obtain⟨m,_,rfl⟩:=kG hk
  cases hr⟩
end
end X
end Go.Proofs.YtofjmphlpdhohaaGreatDoor
