/- Texts of one proof, one behind the other: Mono, Order, Plain, Sort, Same, Map, Own, Small, Right, Listed, Both, Mul, RunI, RunN. -/
import Derived.Test.YtnmhcaahkaocgaaGreatDoorM1
import Derived.Test.YtnmhcaahkaocgaaGreatDoorRows
import Derived.WalkKit
import Derived.WalkSpells
import Derived.WalkLawsBesides
import Derived.Handy
import Derived.Deep.QuietTactic
import Derived.Deep.Light
import Derived.BigQuiet
import Derived.Test.YtnmhcaahkaocgaaGreatDoorShelfP
import Derived.Shelf.SlSortCmp.NoneTotal
import Derived.ChangeKeysEq
import Derived.MapKept
import Derived.ChangeMaps5
import Derived.WideKeyEntry
import Derived.Maps.RangeRun
import Derived.Maps.AppendAt
import Derived.Maps.Range
import Derived.Laws.OwnMore
import Derived.Laws.Tables
import Derived.RegionTactic
import Derived.BigRegion
import Derived.Test.YtnmhcaahkaocgaaGreatDoorM5
namespace Go.Proofs.YtnmhcaahkaocgaaGreatDoor
open Go.RowKit
structure Mono where
 n:Int
 e0:UInt8
 e1:UInt8
 e2:UInt8
 e3:UInt8
 e4:UInt8
 e5:UInt8
instance : Inhabited Mono := ⟨⟨0, 0, 0, 0, 0, 0, 0⟩⟩
def Mono.E(m:Mono):List UInt8:=[m.e0,m.e1,m.e2,m.e3,m.e4,m.e5]
def Mono.cells(m:Mono):List Value:=
 [.int .i64 m.n,.int .u8 m.e0.toNat,.int .u8 m.e1.toNat,.int .u8 m.e2.toNat,.int .u8 m.e3.toNat,.int .u8 m.e4.toNat,.int .u8 m.e5.toNat]
def Mono.val(m:Mono):Value:=
 .agg #[.int .i64 m.n,.int .u8 m.e0.toNat,.int .u8 m.e1.toNat,.int .u8 m.e2.toNat,.int .u8 m.e3.toNat,.int .u8 m.e4.toNat,.int .u8 m.e5.toNat]
theorem Mono.cells_length(m:Mono):m.cells.length=7:=rfl
def Mono.deg(m:Mono):Nat:=m.e0.toNat+m.e1.toNat+m.e2.toNat+m.e3.toNat+m.e4.toNat+m.e5.toNat
def ord (a b:Mono):Int:=Lib.compareBytes b.E a.E
def mN (m:Mono):Bool:=decide (m.n≠0∧m.n≤16777216∧ -16777216≤m.n∧m.deg≤8)
theorem tC(e:UInt8):(e.toNat:Int)<256:=by have:=e.toNat_lt;omega
def bIr (a b:Mono):Int:=Lib.compareBytes a.E b.E
theorem xF(a b:UInt8)(l m:List UInt8):Lib.compareBytes (a::l) (b::m)=if b.toNat<a.toNat then 1 else if a.toNat<b.toNat then-1 else Lib.compareBytes l m:=by
 rw [Lib.compareBytes];simp only [UInt8.lt_iff_toNat_lt]
 by_cases h:a.toNat<b.toNat
 ·rw [if_pos h,if_neg (by omega),if_pos h]
 ·rw [if_neg h]
  by_cases h':b.toNat<a.toNat
  ·rw [if_pos h',if_pos h']
  ·rw [if_neg h',if_neg h',if_neg h]
def hJ (w:World)(b o:Nat)(m:Mono):Prop:=
 w.cell? ⟨b,o,none⟩=some (.int .i64 m.n)∧w.cell? ⟨b,o+1,none⟩=some (.int .u8 m.e0.toNat)∧w.cell? ⟨b,o+2,none⟩=some (.int .u8 m.e1.toNat)∧
 w.cell? ⟨b,o+3,none⟩=some (.int .u8 m.e2.toNat)∧w.cell? ⟨b,o+4,none⟩=some (.int .u8 m.e3.toNat)∧w.cell? ⟨b,o+5,none⟩=some (.int .u8 m.e4.toNat)∧
 w.cell? ⟨b,o+6,none⟩=some (.int .u8 m.e5.toNat)
def mK (w:World)(A:Option Addr)(l:List Mono):Prop:=
 ∀k m,l[k]?=some m→ ∃b o,A=some ⟨b,o,none⟩∧b<w.heap.size∧hJ w b (o+k*7) m
theorem hJ.below{w w':World}{B b o:Nat}{m:Mono}(h:hJ w b o m)(hb:Below B w w')(hB:b<B):hJ w' b o m:=by
 obtain⟨h0,h1,h2,h3,h4,h5,h6⟩:=h
 exact⟨(hb.cell (p:=⟨b,o,none⟩) hB).trans h0,(hb.cell (p:=⟨b,o+1,none⟩) hB).trans h1,(hb.cell (p:=⟨b,o+2,none⟩) hB).trans h2,(hb.cell (p:=⟨b,o+3,none⟩) hB).trans h3,
  (hb.cell (p:=⟨b,o+4,none⟩) hB).trans h4,(hb.cell (p:=⟨b,o+5,none⟩) hB).trans h5,(hb.cell (p:=⟨b,o+6,none⟩) hB).trans h6⟩
theorem mK.below{w w':World}{A:Option Addr}{l:List Mono}(h:mK w A l)(hb:Below w.heap.size w w'):mK w' A l:=fun k m hk=>by
 obtain⟨b,o,e,hB,hm⟩:=h k m hk;exact⟨b,o,e,Nat.lt_of_lt_of_le hB hb.size,hm.below hb hB⟩
theorem mK.nil{w:World}{A:Option Addr}:mK w A []:=fun k m h=>by simp at h
def Mono.eqB(a b:Mono):Bool:=a.n==b.n&&(a.e0==b.e0&&(a.e1==b.e1&&(a.e2==b.e2&&(a.e3==b.e3&&(a.e4==b.e4&&a.e5==b.e5)))))
theorem Mono.eqB_iff(a b:Mono):a.eqB b=true↔a=b:=by
 obtain⟨n,a0,a1,a2,a3,a4,a5⟩:=a;obtain⟨n',b0,b1,b2,b3,b4,b5⟩:=b;simp [Mono.eqB]
def fT:Option Mono→List Mono→Bool
 | _,[]=>true
 | none,m::l=>mN m&&fT (some m) l
 | some a,m::l=>mN m&&(decide (ord a m<0)&&fT (some m) l)
def fX (p:List Mono):Bool:=decide (p.length≤48)&&fT none p
theorem pA{l:List Mono}{k:Nat}(h:k<l.length): ∃m,l[k]?=some m∧l.drop k=m::l.drop (k+1):=
 ⟨l[k],List.getElem?_eq_getElem h,List.drop_eq_getElem_cons h⟩
theorem hJ.later{W:World}{b o:Nat}{m:Mono}(h:hJ W b o m):(∀x:gA W,x.w.cell? ⟨b,o,none⟩=some (.int .i64 m.n))∧(∀x:gA W,x.w.cell? ⟨b,o+1,none⟩=some (.int .u8 m.e0.toNat))∧(∀x:gA W,x.w.cell? ⟨b,o+2,none⟩=some (.int .u8 m.e1.toNat))∧(∀x:gA W,x.w.cell? ⟨b,o+3,none⟩=some (.int .u8 m.e2.toNat))∧(∀x:gA W,x.w.cell? ⟨b,o+4,none⟩=some (.int .u8 m.e3.toNat))∧(∀x:gA W,x.w.cell? ⟨b,o+5,none⟩=some (.int .u8 m.e4.toNat))∧(∀x:gA W,x.w.cell? ⟨b,o+6,none⟩=some (.int .u8 m.e5.toNat)):=by
 obtain⟨h0,h1,h2,h3,h4,h5,h6⟩:=h;exact⟨gA.cell h0,gA.cell h1,gA.cell h2,gA.cell h3,gA.cell h4,gA.cell h5,gA.cell h6⟩
theorem hJ.zero{W:World}{b:Nat}{m:Mono}(h:hJ W b 0 m):W.cell? ⟨b,0,none⟩=some (.int .i64 m.n)∧W.cell? ⟨b,1,none⟩=some (.int .u8 m.e0.toNat)∧W.cell? ⟨b,2,none⟩=some (.int .u8 m.e1.toNat)∧W.cell? ⟨b,3,none⟩=some (.int .u8 m.e2.toNat)∧W.cell? ⟨b,4,none⟩=some (.int .u8 m.e3.toNat)∧W.cell? ⟨b,5,none⟩=some (.int .u8 m.e4.toNat)∧W.cell? ⟨b,6,none⟩=some (.int .u8 m.e5.toNat):=by simpa [hJ] using h
theorem hJ.later0{W:World}{b:Nat}{m:Mono}(h:hJ W b 0 m):(∀x:gA W,x.w.cell? ⟨b,0,none⟩=some (.int .i64 m.n))∧(∀x:gA W,x.w.cell? ⟨b,1,none⟩=some (.int .u8 m.e0.toNat))∧(∀x:gA W,x.w.cell? ⟨b,2,none⟩=some (.int .u8 m.e1.toNat))∧(∀x:gA W,x.w.cell? ⟨b,3,none⟩=some (.int .u8 m.e2.toNat))∧(∀x:gA W,x.w.cell? ⟨b,4,none⟩=some (.int .u8 m.e3.toNat))∧(∀x:gA W,x.w.cell? ⟨b,5,none⟩=some (.int .u8 m.e4.toNat))∧(∀x:gA W,x.w.cell? ⟨b,6,none⟩=some (.int .u8 m.e5.toNat)):=by
 obtain⟨h0,h1,h2,h3,h4,h5,h6⟩:=h.zero;exact⟨gA.cell h0,gA.cell h1,gA.cell h2,gA.cell h3,gA.cell h4,gA.cell h5,gA.cell h6⟩
def pZ (w:World)(b o:Nat):List UInt8→Prop
 | []=>True
 | x::l=>w.cell? ⟨b,o,none⟩=some (.int .u8 x.toNat)∧pZ w b (o+1) l
theorem push_append(acc:ByteArray)(x:UInt8)(l:List UInt8):((acc.push x).data++l.toArray)=acc.data++(x::l).toArray:=by
 apply Array.ext';simp [ByteArray.push]
theorem qT{P:Program}(w:World)(b:Nat): ∀(l:List UInt8) (o:Nat) (acc:ByteArray),pZ w b o l→
  (Extern.Bytes.loadBytes ⟨b,o,none⟩ l.length acc).run P w= .ok ⟨acc.data++l.toArray⟩ w
 | [],o,acc,_=>by simp [Extern.Bytes.loadBytes]
 | x::l,o,acc,⟨h,t⟩=>by
  have ih:=qT (P:=P) w b l (o+1) (acc.push x) t;rw [push_append] at ih;simp only [Extern.Bytes.loadBytes,List.length_cons,Sem.run_bind];have hl:(load ⟨b,o,none⟩).run P w= .ok (.int .u8 x.toNat) w:=by simp [go_sem,h]
  rw [hl];simp only [Result.andThen_ok];have e:((x.toNat:Int)).toNat.toUInt8=x:=by simp
  rw [e];exact ih
theorem run_compare{P:Program}(w:World)(b c o p k k':Nat)(x y:List UInt8)(hx:pZ w b o x)(hy:pZ w c p y):
  (Extern.BytealgCompare.compare #[.slice (some ⟨b,o,none⟩) x.length k,.slice (some ⟨c,p,none⟩) y.length k']).run P w= .ok (.int .i64 (Lib.compareBytes x y)) w:=by
 change Sem.run P (do pure (goInt (Extern.BytealgCompare.cmp (←Extern.Bytes.bytesOf (.slice (some ⟨b,o,none⟩) x.length k)) (←Extern.Bytes.bytesOf (.slice (some ⟨c,p,none⟩) y.length k'))))) w=_;simp only [Extern.Bytes.bytesOf,Sem.run_bind,qT w b x o _ hx,qT w c y p _ hy,Result.andThen_ok,Sem.run_pure,Lib.cmp_eq];simp [goInt]
set_option maxRecDepth 100000 in
set_option maxHeartbeats 400000 in
theorem compare_any(b c o p:Nat)(k k':Nat)(x y:List UInt8)(w:World)(hx:pZ w b o x)(hy:pZ w c p y):
  Calls Tryz.prog 220 #[.slice (some ⟨b,o,none⟩) x.length k,.slice (some ⟨c,p,none⟩) y.length k'] w fun e w'=>e= .returned (.int .i64 (Lib.compareBytes x y))∧w=w':=by
 go_enter Tryz.func220,Tryz.ntmps220
 go_wp2
 rw [run_callFunc_extern Tryz.func237 (by kernel_rfl) (by kernel_rfl) (by kernel_rfl) (e:=Extern.BytealgCompare.compare) (by kernel_rfl),run_compare w b c o p k k' x y hx hy];simp only [Result.andThen];rw [Oper.upon_value]
 go_wp2
 go_ret
 exact⟨rfl,rfl⟩
set_option maxRecDepth 100000 in
set_option maxHeartbeats 400000 in
theorem order_any(a b:Mono)(w:World):
  Calls Tryz.prog 190 #[.agg #[.int .i64 a.n,.int .u8 a.e0.toNat,.int .u8 a.e1.toNat,.int .u8 a.e2.toNat,.int .u8 a.e3.toNat,.int .u8 a.e4.toNat,.int .u8 a.e5.toNat],.agg #[.int .i64 b.n,.int .u8 b.e0.toNat,.int .u8 b.e1.toNat,.int .u8 b.e2.toNat,.int .u8 b.e3.toNat,.int .u8 b.e4.toNat,.int .u8 b.e5.toNat]] w fun e w'=>e= .returned (.int .i64 (ord a b))∧ ∃q o1 o2,w'=((w.alloc o1).alloc o2).drewN q:=by
 have hc:=fun n=>compare_any (w.heap.size+1) w.heap.size 1 1 6 6 b.E a.E (((w.alloc (.cells #[.int .i64 a.n,.int .u8 a.e0.toNat,.int .u8 a.e1.toNat,.int .u8 a.e2.toNat,.int .u8 a.e3.toNat,.int .u8 a.e4.toNat,.int .u8 a.e5.toNat] 75)).alloc (.cells #[.int .i64 b.n,.int .u8 b.e0.toNat,.int .u8 b.e1.toNat,.int .u8 b.e2.toNat,.int .u8 b.e3.toNat,.int .u8 b.e4.toNat,.int .u8 b.e5.toNat] 75)).drewN n) (by simp [pZ,Mono.E,go_sem]) (by simp [pZ,Mono.E,go_sem]);have HC:=Lib.hid hc;clear hc
 go_enter Tryz.func190,Tryz.ntmps190
 go_wp2
 go_quiet ((go_at_call 220;exact Calls.quiet_of_same ((HC.out _).mono fun _ _ h=>⟨h.1,h.2.symm⟩)))
 go_wp2
 go_ret
 exact⟨rfl,_,_,_,rfl⟩
end Go.Proofs.YtnmhcaahkaocgaaGreatDoor
namespace Go.Proofs.YtnmhcaahkaocgaaGreatDoor
def num:List UInt8→Nat
 | []=>0
 | a::l=>a.toNat*256^l.length+num l
theorem num_lt: ∀l:List UInt8,num l<256^l.length
 | []=>by simp [num]
 | a::l=>by
  have ih:=num_lt l;have ha:=a.toNat_lt;have h:(a.toNat+1)*256^l.length≤256*256^l.length:=Nat.mul_le_mul_right _ (by omega);rw [Nat.add_mul,Nat.one_mul] at h;rw [num,List.length_cons,Nat.pow_succ,Nat.mul_comm (256^l.length) 256];omega
def Mono.key(m:Mono):Nat:=num m.E
theorem num_inj: ∀l m:List UInt8,l.length=m.length→num l=num m→l=m
 | [],[],_,_=>rfl
 | [],_::_,h,_=>by simp at h
 | _::_,[],h,_=>by simp at h
 | a::l,b::m,h,hn=>by
  have hl:l.length=m.length:=by simpa using h
  have nl:=num_lt l;have nm:=num_lt m;rw [num,num,←hl] at hn;rw [←hl] at nm
  have e:a.toNat=b.toNat:=by
   rcases Nat.lt_trichotomy a.toNat b.toNat with h1 | h1 | h1
   ·have:(a.toNat+1)*256^l.length≤b.toNat*256^l.length:=Nat.mul_le_mul_right _ h1;rw [Nat.add_mul,Nat.one_mul] at this;omega
   ·exact h1
   ·have:(b.toNat+1)*256^l.length≤a.toNat*256^l.length:=Nat.mul_le_mul_right _ h1;rw [Nat.add_mul,Nat.one_mul] at this;omega
  rw [e] at hn;rw [UInt8.toNat_inj.1 e,num_inj l m hl (by omega)]
theorem key_E{a b:Mono}:a.key=b.key↔a.E=b.E:=⟨fun h=>num_inj _ _ rfl h,fun h=>by unfold Mono.key;rw [h]⟩
theorem eq_of_key{a b:Mono}(h:a.key=b.key)(hn:a.n=b.n):a=b:=by
 have:=key_E.1 h;obtain⟨n,a0,a1,a2,a3,a4,a5⟩:=a;obtain⟨n',b0,b1,b2,b3,b4,b5⟩:=b;simp only [Mono.E,List.cons.injEq,and_true] at this;obtain⟨rfl,rfl,rfl,rfl,rfl,rfl⟩:=this;simp at hn;rw [hn]
def xV (l:List Mono):Prop:=l.Pairwise (fun a b=>b.key<a.key)
def jL (l:List Mono):Prop:=l.Pairwise (fun a b=>a.key≠b.key)
theorem xV.apart{l:List Mono}(h:xV l):jL l:=List.Pairwise.imp (fun h=>by omega) h
theorem xV.ext: ∀{l m:List Mono},xV l→xV m→(∀x,x∈l↔x∈m)→l=m
 | [],[],_,_,_=>rfl
 | [],b::m,_,_,h=>absurd ((h b).2 (by simp)) (by simp)
 | a::l,[],_,_,h=>absurd ((h a).1 (by simp)) (by simp)
 | a::l,b::m,h1,h2,h=>by
  obtain⟨ha,hl⟩:=List.pairwise_cons.1 h1;obtain⟨hb,hm⟩:=List.pairwise_cons.1 h2
  have e:a=b:=by
   have i1:a∈b::m:=(h a).1 (by simp);have i2:b∈a::l:=(h b).2 (by simp)
   rcases List.mem_cons.1 i1 with e | i1
   ·exact e
   ·rcases List.mem_cons.1 i2 with e | i2
    ·exact e.symm
    ·have:=hb a i1;have:=ha b i2;omega
  subst e;rw [xV.ext hl hm fun x=>?_];constructor
  ·intro hx;have:=(h x).1 (by simp [hx])
   rcases List.mem_cons.1 this with rfl | h'
   ·have:=ha x hx;omega
   ·exact h'
  ·intro hx;have:=(h x).2 (by simp [hx])
   rcases List.mem_cons.1 this with rfl | h'
   ·have:=hb x hx;omega
   ·exact h'
def rD (L:List Mono):List Mono:=(L.filter (fun m=>m.n !=0)).mergeSort (fun a b=>decide (b.key≤a.key))
theorem bHz{L:List Mono}{x:Mono}:x∈rD L↔x∈L∧x.n≠0:=by
 unfold rD;rw [(List.mergeSort_perm _ _).mem_iff];simp
theorem falls_of{l:List Mono}(h1:l.Pairwise (fun a b=>b.key≤a.key))(h2:jL l):xV l:=
 List.Pairwise.imp (fun⟨a,b⟩=>by omega) (List.Pairwise.and h1 h2)
theorem jL.perm{l m:List Mono}(h:jL l)(hp:l.Perm m):jL m:=hp.pairwise h (fun h=>Ne.symm h)
theorem jL.filter{l:List Mono}(p:Mono→Bool)(h:jL l):jL (l.filter p):=List.Pairwise.filter _ h
theorem bAw{L:List Mono}(h:jL L):xV (rD L):=by
 refine falls_of ?_ ((h.filter _).perm (List.mergeSort_perm _ _).symm);have:=List.pairwise_mergeSort (le:=fun a b:Mono=>decide (b.key≤a.key)) (by simp;omega) (by simp;omega) (L.filter (fun m=>m.n !=0));exact List.Pairwise.imp (fun h=>by simpa using h) this
end Go.Proofs.YtnmhcaahkaocgaaGreatDoor
namespace Go.Proofs.YtnmhcaahkaocgaaGreatDoor
open Go.RowKit Go.Sort
set_option maxRecDepth 100000
def Row (w:World)(g:Nat)(l:List Mono):Prop:=HoldsK Mono.cells 7 w g 0 l.toArray
end Go.Proofs.YtnmhcaahkaocgaaGreatDoor
namespace Go.Proofs.YtnmhcaahkaocgaaGreatDoor
open Go.RowKit
set_option maxRecDepth 100000
def Mono.sameE(a b:Mono):Bool:=a.e0==b.e0&&(a.e1==b.e1&&(a.e2==b.e2&&(a.e3==b.e3&&(a.e4==b.e4&&a.e5==b.e5))))
end Go.Proofs.YtnmhcaahkaocgaaGreatDoor
namespace Go.Proofs.YtnmhcaahkaocgaaGreatDoor
open Go.RowKit
set_option maxRecDepth 100000
open Go.ChangeMaps (setBlock)
def kvM (m:Mono):Value×Value:=(.agg #[.int .u8 m.e0.toNat,.int .u8 m.e1.toNat,.int .u8 m.e2.toNat,.int .u8 m.e3.toNat,.int .u8 m.e4.toNat,.int .u8 m.e5.toNat],.int .i64 m.n)
def kvE (e:MapEntry):Value×Value:=(e.key,e.val)
def zX (w:World)(r:Nat)(L:List Mono):Prop:=
 ∃es clock,w.heap[r]?=some (.map es clock)∧es.toList.map kvE=L.map kvM∧(∀x∈es.toList,x.born<clock)∧(es.toList.map (·.born)).Nodup
def coef (k:Mono):List Mono→Int
 | []=>0
 | m::l=>if k.sameE m then m.n else coef k l
def setTo (k:Mono)(x:Int):List Mono→List Mono
 | []=>[{k with n:=x}]
 | m::l=>if k.sameE m then {k with n:=x}::l else m::setTo k x l
end Go.Proofs.YtnmhcaahkaocgaaGreatDoor
namespace Go.Proofs.YtnmhcaahkaocgaaGreatDoor
open Go.RowKit Go.Sort
set_option maxRecDepth 100000
def flat (l:List Mono):List Value:=l.flatMap Mono.cells
theorem flat_get: ∀(l:List Mono) (k j:Nat) (m:Mono),l[k]?=some m→j<7→(flat l)[k*7+j]?=m.cells[j]?
 | [],k,j,m,h,_=>by simp at h
 | a::l,0,j,m,h,hj=>by
  simp at h;subst h;simp only [flat,List.flatMap_cons,Nat.zero_mul,Nat.zero_add];exact List.getElem?_append_left (by rw [Mono.cells_length];exact hj)
 | a::l,k+1,j,m,h,hj=>by
  have ih:=flat_get l k j m (by simpa using h) hj;have e:flat (a::l)=a.cells++flat l:=by simp [flat]
  rw [e,List.getElem?_append_right (by rw [Mono.cells_length];omega),Mono.cells_length];rw [←ih]
  congr 1
  omega
def Owns (w:World)(B:Nat)(v:Value)(l:List Mono):Prop:=w.ownsRow B 75 7 v l.length (flat l)
theorem Owns.row{w:World}{B g cap:Nat}{l:List Mono}(h:Owns w B (.slice (some ⟨g,0,none⟩) l.length cap) l):Row w g l:=fun t ht=>by
 have ht':t<l.length*7:=by simpa using ht
 have hc:=World.ownsRow.cellAt h t ht';refine⟨?_,by simpa using World.ownsRow.frozenAt h t⟩;rw [get_flatK _ _ _ _ (by simpa using ht')];have hk:t/7<l.length:=by omega
 have hg:=flat_get l (t/7) (t%7) l[t/7] (List.getElem?_eq_getElem hk) (Nat.mod_lt _ (by omega));have e:t/7*7+t%7=t:=by omega
 rw [e] at hg;rw [Nat.zero_add,hc,hg];have e2:l.toArray[t/7]! =l[t/7]:=by simp [hk]
 rw [e2];have hj:t%7<(l[t/7]).cells.length:=by rw [Mono.cells_length];exact Nat.mod_lt _ (by omega)
 rw [List.getElem?_eq_getElem hj,getElem!_pos (l[t/7]).cells (t%7) hj];rfl
theorem Row.monos{w:World}{g:Nat}{l:List Mono}(h:Row w g l):mK w (some ⟨g,0,none⟩) l:=fun k m hk=>by
 have hkl:k<l.toArray.size:=by simpa using (List.getElem?_eq_some_iff.1 hk).1
 have hm:l.toArray[k]! =m:=by
  rw [getElem!_pos l.toArray k hkl];have:=(List.getElem?_eq_some_iff.1 hk).2
  simpa using this
 have c:=fun j (hj:j<7)=>(HoldsK.cell h hkl hj).1;rw [hm] at c
 have hlt:g<w.heap.size:=by
  rcases Nat.lt_or_ge g w.heap.size with h' | h'
  ·exact h'
  ·have:=c 0 (by omega);simp [World.cell?,Array.getElem?_eq_none h'] at this
 refine⟨g,0,rfl,hlt,?_⟩;exact⟨c 0 (by omega),c 1 (by omega),c 2 (by omega),c 3 (by omega),c 4 (by omega),c 5 (by omega),c 6 (by omega)⟩
theorem Row.below{w w':World}{B g:Nat}{l:List Mono}(h:Row w g l)(hb:Below B w w')(hg:g<B):Row w' g l:=fun t ht=>by
 obtain⟨h1,h2⟩:=h t ht;exact⟨(hb.cell (p:=⟨g,0+t,none⟩) hg).trans h1,(hb.frozen (p:=⟨g,0+t,none⟩) hg).trans h2⟩
theorem Row.lt{w:World}{g:Nat}{l:List Mono}(h:Row w g l)(hl:l≠[]):g<w.heap.size:=by
 cases l with
 | nil=>exact absurd rfl hl
 | cons m l=>
  obtain⟨b,o,e,hb,_⟩:=h.monos 0 m rfl;injection e with e
  injection e with e
  omega
def Res (B:Nat)(w:World)(v:Value)(l:List Mono):Prop:=
 ∃A c,v= .slice A l.length c∧(l=[]∨ ∃g,A=some ⟨g,0,none⟩∧B≤g∧Row w g l)
theorem Res.monos{B:Nat}{w:World}{A:Option Addr}{n c:Nat}{l:List Mono}(h:Res B w (.slice A n c) l):mK w A l∧n=l.length:=by
 obtain⟨A',c',e,h⟩:=h;injection e with e1 e2 e3
 subst e1 e2
 rcases h with rfl | ⟨g,rfl,_,hr⟩
 ·exact⟨mK.nil,rfl⟩
 ·exact⟨hr.monos,rfl⟩
theorem Res.below{B:Nat}{w w':World}{v:Value}{l:List Mono}(h:Res B w v l)(hb:Below w.heap.size w w'):Res B w' v l:=by
 obtain⟨A,c,e,h⟩:=h;refine⟨A,c,e,?_⟩
 by_cases hl:l=[]
 ·exact .inl hl
 ·rcases h with h | ⟨g,e1,e2,hr⟩
  ·exact .inl h
  ·exact .inr ⟨g,e1,e2,hr.below hb (hr.lt hl)⟩
theorem Res.mono{B B':Nat}{w:World}{v:Value}{l:List Mono}(h:Res B w v l)(hB:B'≤B):Res B' w v l:=by
 obtain⟨A,c,e,h⟩:=h;refine⟨A,c,e,?_⟩
 rcases h with h | ⟨g,e1,e2,hr⟩
 ·exact .inl h
 ·exact .inr ⟨g,e1,Nat.le_trans hB e2,hr⟩
theorem Res.nil(B:Nat)(w:World)(c:Nat)(A:Option Addr):Res B w (.slice A 0 c) []:=⟨A,c,rfl,.inl rfl⟩
end Go.Proofs.YtnmhcaahkaocgaaGreatDoor
namespace Go.Proofs.YtnmhcaahkaocgaaGreatDoor
open Go.RowKit
set_option maxRecDepth 100000
set_option maxHeartbeats 400000 in
theorem bGc(m:Mono)(w:World):
  Calls Tryz.prog 202 #[.agg #[.int .i64 m.n,.int .u8 m.e0.toNat,.int .u8 m.e1.toNat,.int .u8 m.e2.toNat,.int .u8 m.e3.toNat,.int .u8 m.e4.toNat,.int .u8 m.e5.toNat]] w fun e w'=>e= .returned (.int .i64 m.deg)∧Below w.heap.size w w':=by
 have h0:=tC m.e0;have h1:=tC m.e1;have h2:=tC m.e2;have h3:=tC m.e3;have h4:=tC m.e4;have h5:=tC m.e5
 go_enter Tryz.func202,Tryz.ntmps202
 go_wp2
 go_rounds 7
 go_ret
 refine⟨?_,by go_grown⟩;simp [Mono.deg]
set_option maxRecDepth 100000 in
set_option maxHeartbeats 400000 in
theorem yY(m:Mono)(w:World):
  Calls Tryz.prog 189 #[.agg #[.int .i64 m.n,.int .u8 m.e0.toNat,.int .u8 m.e1.toNat,.int .u8 m.e2.toNat,.int .u8 m.e3.toNat,.int .u8 m.e4.toNat,.int .u8 m.e5.toNat]] w fun e w'=>e= .returned (.bool (mN m))∧Below w.heap.size w w':=by
 have h0:=tC m.e0;have h1:=tC m.e1;have h2:=tC m.e2;have h3:=tC m.e3;have h4:=tC m.e4;have h5:=tC m.e5;have i0: ∀w,(Instr.index 73 (.agg #[.int .u8 m.e0.toNat,.int .u8 m.e1.toNat,.int .u8 m.e2.toNat,.int .u8 m.e3.toNat,.int .u8 m.e4.toNat,.int .u8 m.e5.toNat]) (.int .i64 0)).run Tryz.prog w= .ok (.int .u8 m.e0.toNat) w:=fun _=>by kernel_rfl
 have i1: ∀w,(Instr.index 73 (.agg #[.int .u8 m.e0.toNat,.int .u8 m.e1.toNat,.int .u8 m.e2.toNat,.int .u8 m.e3.toNat,.int .u8 m.e4.toNat,.int .u8 m.e5.toNat]) (.int .i64 1)).run Tryz.prog w= .ok (.int .u8 m.e1.toNat) w:=fun _=>by kernel_rfl
 have i2: ∀w,(Instr.index 73 (.agg #[.int .u8 m.e0.toNat,.int .u8 m.e1.toNat,.int .u8 m.e2.toNat,.int .u8 m.e3.toNat,.int .u8 m.e4.toNat,.int .u8 m.e5.toNat]) (.int .i64 2)).run Tryz.prog w= .ok (.int .u8 m.e2.toNat) w:=fun _=>by kernel_rfl
 have i3: ∀w,(Instr.index 73 (.agg #[.int .u8 m.e0.toNat,.int .u8 m.e1.toNat,.int .u8 m.e2.toNat,.int .u8 m.e3.toNat,.int .u8 m.e4.toNat,.int .u8 m.e5.toNat]) (.int .i64 3)).run Tryz.prog w= .ok (.int .u8 m.e3.toNat) w:=fun _=>by kernel_rfl
 have i4: ∀w,(Instr.index 73 (.agg #[.int .u8 m.e0.toNat,.int .u8 m.e1.toNat,.int .u8 m.e2.toNat,.int .u8 m.e3.toNat,.int .u8 m.e4.toNat,.int .u8 m.e5.toNat]) (.int .i64 4)).run Tryz.prog w= .ok (.int .u8 m.e4.toNat) w:=fun _=>by kernel_rfl
 have i5: ∀w,(Instr.index 73 (.agg #[.int .u8 m.e0.toNat,.int .u8 m.e1.toNat,.int .u8 m.e2.toNat,.int .u8 m.e3.toNat,.int .u8 m.e4.toNat,.int .u8 m.e5.toNat]) (.int .i64 5)).run Tryz.prog w= .ok (.int .u8 m.e5.toNat) w:=fun _=>by kernel_rfl
 go_enter Tryz.func189,Tryz.ntmps189
 go_wp2
 go_rounds 7
 all_goals go_ret
 all_goals refine⟨iS ?_,by go_grown⟩
 all_goals clear i0 i1 i2 i3 i4 i5
 all_goals go_light
 all_goals unfold mN Mono.deg
 all_goals try exact(decide_eq_false (by omega)).symm
 have hn:(m.n !=0)=true:=by simpa using ‹¬m.n=0›
 rw [hn,Bool.true_and];exact decide_eq_decide.2 (by omega)
end Go.Proofs.YtnmhcaahkaocgaaGreatDoor
namespace Go.Proofs.YtnmhcaahkaocgaaGreatDoor
open Go.RowKit
set_option maxRecDepth 100000
theorem order_below(a b:Mono)(w:World):
  Calls Tryz.prog 190 #[.agg #[.int .i64 a.n,.int .u8 a.e0.toNat,.int .u8 a.e1.toNat,.int .u8 a.e2.toNat,.int .u8 a.e3.toNat,.int .u8 a.e4.toNat,.int .u8 a.e5.toNat],.agg #[.int .i64 b.n,.int .u8 b.e0.toNat,.int .u8 b.e1.toNat,.int .u8 b.e2.toNat,.int .u8 b.e3.toNat,.int .u8 b.e4.toNat,.int .u8 b.e5.toNat]] w fun e w'=>e= .returned (.int .i64 (ord a b))∧Below w.heap.size w w':=
 (order_any a b w).mono fun e w' ⟨he,q,o1,o2,hw⟩=>⟨he,by rw [hw];exact bAs (((Below.refl _ _).alloc (Nat.le_refl _) _).alloc (by simp) _) _⟩
set_option maxRecDepth 100000 in
set_option maxHeartbeats 1000000 in
theorem rL(A:Option Addr)(c:Nat)(xs:List Mono)(w:World)(ha:mK w A xs)(hx:xs.length≤140737488355328):
  Calls Tryz.prog 136 #[.slice A xs.length c] w fun e w'=>e= .returned (.bool (fX xs))∧Below w.heap.size w w':=by
 by_cases hl:xs.length≤48
 ·have hl1:decide ((48:Int)<(xs.length:Int))=false:=by simp;omega
  have Ha:=Lib.hid ha;clear ha
  go_enter Tryz.func136,Tryz.ntmps136
  go_wp2
  go_loopw [10] (fun i wr=> ∃k:Nat,k≤xs.length∧i= .int .i64 k∧Hid (fX xs=fT (if k=0 then none else xs[k-1]?) (xs.drop k))∧Below w.heap.size w wr) (fun i _=>xs.length-(intOf i).toNat)
  case atStart=>exact⟨0,Nat.zero_le _,rfl,by show _=_;simp [fX,hl],Below.refl _ _⟩
  case round=>
   obtain⟨k,hk,rfl,hs,hbl⟩:=hrel
   by_cases hlt:k<xs.length
   ·obtain⟨m,hm,dm⟩:=pA hlt;obtain⟨b,o,rfl,hB,c0,c1,c2,c3,c4,c5,c6⟩:=Ha.out.below hbl k m hm;have q0:hJ (wr.alloc (.cells #[.int .i64 m.n,.int .u8 m.e0.toNat,.int .u8 m.e1.toNat,.int .u8 m.e2.toNat,.int .u8 m.e3.toNat,.int .u8 m.e4.toNat,.int .u8 m.e5.toNat] 75)) wr.heap.size 0 m:=by simp [hJ,go_sem]
    have hb0:Below w.heap.size w (wr.alloc (.cells #[.int .i64 m.n,.int .u8 m.e0.toNat,.int .u8 m.e1.toNat,.int .u8 m.e2.toNat,.int .u8 m.e3.toNat,.int .u8 m.e4.toNat,.int .u8 m.e5.toNat] 75)):=hbl.alloc hbl.size _;have hz:wr.heap.size<(wr.alloc (.cells #[.int .i64 m.n,.int .u8 m.e0.toNat,.int .u8 m.e1.toNat,.int .u8 m.e2.toNat,.int .u8 m.e3.toNat,.int .u8 m.e4.toNat,.int .u8 m.e5.toNat] 75)).heap.size:=by simp
    have HB0:=Lib.hid hb0;have Q0:=Lib.hid q0;have Hz:=Lib.hid hz;have hm':=hm;clear q0 hb0 hz hm hB;cases hsb:mN m
    ·have HS:=Lib.hid (show fX xs=false by rw [hs.out,dm];split<;>(try cases xs[k-1]?)<;>simp [fT,hsb]);clear dm hs
     go_wp2
     clear c0 c1 c2 c3 c4 c5 c6;generalize hb:wr.heap.size=B at Q0 Hz⊢;generalize wr.alloc (.cells #[.int .i64 m.n,.int .u8 m.e0.toNat,.int .u8 m.e1.toNat,.int .u8 m.e2.toNat,.int .u8 m.e3.toNat,.int .u8 m.e4.toNat,.int .u8 m.e5.toNat] 75)=W0 at Q0 HB0 Hz⊢;clear hb hbl;have Hsm:=Lib.hid (gA.calls (W0:=W0) fun W _=>yY m W);rw [hsb] at Hsm;obtain⟨r0,r1,r2,r3,r4,r5,r6⟩:=Q0.out.later0;clear Q0 Hz;refine kD (by kernel_rfl) (by kernel_rfl) ?_
     repeat (go_big_quiet_step ((go_at_call 189;exact Hsm.out _)))
     refine wpQuiet_nil ?_;rintro _ ⟨x,rfl⟩
     go_wp2
     go_ret
     exact⟨iS HS.out.symm,HB0.out.trans (x.h.mono HB0.out.size)⟩
    ·rcases Nat.eq_zero_or_pos k with hk0 | hk0
     ·have hk1:decide (0<k)=false:=by simp;omega
      have HS:=Lib.hid (show fX xs=fT (if k+1=0 then none else xs[k+1-1]?) (xs.drop (k+1)) by rw [hs.out,dm,if_pos hk0,if_neg (by omega),show k+1-1=k from rfl,hm'];simp [fT,hsb]);clear dm hs hk0 hm'
      go_wp2
      clear c0 c1 c2 c3 c4 c5 c6;generalize hb:wr.heap.size=B at Q0 Hz⊢;generalize wr.alloc (.cells #[.int .i64 m.n,.int .u8 m.e0.toNat,.int .u8 m.e1.toNat,.int .u8 m.e2.toNat,.int .u8 m.e3.toNat,.int .u8 m.e4.toNat,.int .u8 m.e5.toNat] 75)=W0 at Q0 HB0 Hz⊢;clear hb hbl;have Hsm:=Lib.hid (gA.calls (W0:=W0) fun W _=>yY m W);rw [hsb] at Hsm;obtain⟨r0,r1,r2,r3,r4,r5,r6⟩:=Q0.out.later0;clear Q0 Hz;refine kD (by kernel_rfl) (by kernel_rfl) ?_
      repeat (go_big_quiet_step ((go_at_call 189;exact Hsm.out _)))
      refine wpQuiet_nil ?_;rintro _ ⟨x,rfl⟩
      go_wp2
      go_roundw
      case rel=>exact⟨k+1,by omega,by go_num,HS,HB0.out.trans (x.h.mono HB0.out.size)⟩
      case measure=>simp [intOf];omega
     ·have hk1:decide (0<k)=true:=by simp;omega
      obtain⟨j,rfl⟩: ∃j,k=j+1:=⟨k-1,by omega⟩
      obtain⟨q,hq⟩: ∃q,xs[j]?=some q:=⟨xs[j]'(by omega),List.getElem?_eq_getElem _⟩
      have HS:=Lib.hid (show fX xs=(decide (ord q m<0)&&fT (some m) (xs.drop (j+1+1))) by rw [hs.out,dm,if_neg (by omega),show j+1-1=j from rfl,hq];simp [fT,hsb]);have HM:=Lib.hid hm'
      have p0:hJ (wr.alloc (.cells #[.int .i64 m.n,.int .u8 m.e0.toNat,.int .u8 m.e1.toNat,.int .u8 m.e2.toNat,.int .u8 m.e3.toNat,.int .u8 m.e4.toNat,.int .u8 m.e5.toNat] 75)) b (o+j*7) q:=by
       obtain⟨b1,o1,e1,hB1,hm1⟩:=Ha.out.below hbl j q hq;injection e1 with e1
       injection e1 with e1 e2
       subst e1 e2;exact hm1.below ((Below.refl _ _).alloc (Nat.le_refl _) _) hB1
      have P0:=Lib.hid p0;clear dm hs hk0 hm' hq p0
      go_wp2
      clear c0 c1 c2 c3 c4 c5 c6;generalize hb:wr.heap.size=B at Q0 Hz⊢;generalize wr.alloc (.cells #[.int .i64 m.n,.int .u8 m.e0.toNat,.int .u8 m.e1.toNat,.int .u8 m.e2.toNat,.int .u8 m.e3.toNat,.int .u8 m.e4.toNat,.int .u8 m.e5.toNat] 75)=W0 at Q0 HB0 Hz P0⊢;clear hb hbl;have Hsm:=Lib.hid (gA.calls (W0:=W0) fun W _=>yY m W);rw [hsb] at Hsm;have Hor:=Lib.hid (gA.calls (W0:=W0) fun W _=>order_below q m W);obtain⟨r0,r1,r2,r3,r4,r5,r6⟩:=Q0.out.later0;obtain⟨s0,s1,s2,s3,s4,s5,s6⟩:=P0.out.later;clear Q0 Hz P0;refine kD (by kernel_rfl) (by kernel_rfl) ?_
      repeat (go_big_quiet_step ((first | (go_at_call 189;exact Hsm.out _) | (go_at_call 190;exact Hor.out _))))
      refine wpQuiet_nil ?_;rintro _ ⟨x,rfl⟩;clear r0 r1 r2 r3 r4 r5 r6 s0 s1 s2 s3 s4 s5 s6 Hsm Hor;have HBX:=Lib.hid (show Below w.heap.size w x.w from HB0.out.trans (x.h.mono HB0.out.size));clear HB0
      by_cases ho:ord q m<0
      ·have ho1:decide ((0:Int)≤ord q m)=false:=by simp;omega
       go_wp2
       go_roundw
       case rel=>exact⟨j+1+1,by omega,by go_num,(by show _=_;rw [HS.out,if_neg (by omega),show j+1+1-1=j+1 from rfl,HM.out];simp [ho]),HBX.out⟩
       case measure=>simp [intOf];omega
      ·have ho1:decide ((0:Int)≤ord q m)=true:=by simp;omega
       go_wp2
       go_ret
       exact⟨iS (by rw [HS.out,decide_eq_false (by omega),Bool.false_and]),HBX.out⟩
   ·have hk':k=xs.length:=by omega
    go_wp2
    go_ret
    refine⟨iS ?_,hbl⟩;rw [hs.out,List.drop_of_length_le (by omega)];split<;>(try cases xs[k-1]?)<;>simp [fT]
 ·have hl1:decide ((48:Int)<(xs.length:Int))=true:=by simp;omega
  go_enter Tryz.func136,Tryz.ntmps136
  go_wp2
  go_ret
  exact⟨iS (by simp [fX,hl]),Below.refl _ _⟩
end Go.Proofs.YtnmhcaahkaocgaaGreatDoor
namespace Go.Proofs.YtnmhcaahkaocgaaGreatDoor
open Go.RowKit Go.Sort
set_option maxRecDepth 100000
open Go.ChangeMaps (setBlock)
def xQ (L:List Mono):List Mono×Int:=if fX (rD L) then (rD L,0) else ([],21)
def Gives (w:World)(r:List Mono×Int)(e:Ending)(w':World):Prop:=
 ∃v,e= .returned (.tuple #[v,.int .i64 r.2])∧Below w.heap.size w w'∧Res w.heap.size w' v r.1
theorem Gives.list{w w':World}{r:List Mono×Int}{e:Ending}(h:Gives w r e w'): ∃A c,e= .returned (.tuple #[.slice A r.1.length c,.int .i64 r.2])∧Below w.heap.size w w'∧mK w' A r.1:=by
 obtain⟨v,rfl,hb,A,c,rfl,hr⟩:=h;exact⟨A,c,rfl,hb,(Res.monos (B:=w.heap.size) ⟨A,c,rfl,hr⟩).1⟩
end Go.Proofs.YtnmhcaahkaocgaaGreatDoor
namespace Go.Proofs.YtnmhcaahkaocgaaGreatDoor
open Go.RowKit Go.Sort
set_option maxRecDepth 100000
open Go.ChangeMaps (setBlock)
def bIc (m:Mono)(v:Int)(L:List Mono):List Mono:=setTo m (wrap64 (coef m L+v)) L
def sK (g:Mono→Int):List Mono→List Mono→List Mono
 | L,[]=>L
 | L,m::p=>sK g (bIc m (g m) L) p
def bothP (p q:List Mono)(s:Int):List Mono×Int:=if fX p&&fX q then xQ (sK (fun m=>wrap64 (s*m.n)) (sK Mono.n [] p) q) else ([],20)
theorem zX.alloc{w:World}{r:Nat}{L:List Mono}(h:zX w r L)(o:Obj):zX (w.alloc o) r L:=by
 obtain⟨es,clock,hb,h1,h2,h3⟩:=h;exact⟨es,clock,(Below.heap_alloc _ _ _ (Array.getElem?_eq_some_iff.1 hb).1).trans hb,h1,h2,h3⟩
theorem zX.drew{w:World}{r:Nat}{L:List Mono}(h:zX w r L):zX w.drew r L:=h
theorem zX.new(w:World):zX (w.alloc (.map #[] 0)) w.heap.size []:=⟨#[],0,heap_alloc_new _ _,rfl,by simp,by simp⟩
theorem sameE_E{k m:Mono}:k.sameE m=true↔k.key=m.key:=by
 rw [key_E];simp [Mono.sameE,Mono.E]
theorem yZ{k y:Mono}{x:Int}: ∀{L:List Mono},y∈setTo k x L→y={k with n:=x}∨(y∈L)
 | [],h=>by simp [setTo] at h;exact .inl h
 | m::L,h=>by
  unfold setTo at h;split at h
  ·rcases List.mem_cons.1 h with h | h
   ·exact .inl h
   ·exact .inr (by simp [h])
  ·rcases List.mem_cons.1 h with h | h
   ·exact .inr (by simp [h])
   ·rcases yZ h with h | h
    ·exact .inl h
    ·exact .inr (by simp [h])
theorem tV(k:Mono)(x:Int): ∀{L:List Mono},jL L→jL (setTo k x L)
 | [],_=>by simp [setTo,jL]
 | m::L,h=>by
  obtain⟨h1,h2⟩:=List.pairwise_cons.1 h;unfold setTo;split
  ·rename_i hs;have e:k.key=m.key:=sameE_E.1 hs;refine List.pairwise_cons.2 ⟨fun y hy=>?_,h2⟩;show k.key≠y.key;rw [e];exact h1 y hy
  ·rename_i hs;refine List.pairwise_cons.2 ⟨fun y hy=>?_,tV k x h2⟩
   rcases yZ hy with rfl | hy
   ·intro e;exact hs (sameE_E.2 e.symm)
   ·exact h1 y hy
theorem sX(g:Mono→Int): ∀(p:List Mono) {L:List Mono},jL L→jL (sK g L p)
 | [],_,h=>h
 | m::p,_,h=>sX g p (tV m _ h)
end Go.Proofs.YtnmhcaahkaocgaaGreatDoor
namespace Go.Proofs.YtnmhcaahkaocgaaGreatDoor
open Go.RowKit Go.Sort
set_option maxRecDepth 100000
open Go.ChangeMaps (setBlock)
def mulM (a b:Mono):Mono:=⟨wrap64 (a.n*b.n),a.e0+b.e0,a.e1+b.e1,a.e2+b.e2,a.e3+b.e3,a.e4+b.e4,a.e5+b.e5⟩
def zF (a:Mono):List Mono→List Mono→List Mono
 | L,[]=>L
 | L,b::q=>zF a (bIc (mulM a b) (wrap64 (a.n*b.n)) L) q
def pT (q:List Mono):List Mono→List Mono→List Mono
 | L,[]=>L
 | L,a::p=>pT q (zF a L q) p
def mulP (p q:List Mono):List Mono×Int:=if fX p&&fX q then xQ (pT q [] p) else ([],20)
theorem yL(a:Mono): ∀(q:List Mono) {L:List Mono},jL L→jL (zF a L q)
 | [],_,h=>h
 | _::q,_,h=>yL a q (tV _ _ h)
theorem yJ(q:List Mono): ∀(p:List Mono) {L:List Mono},jL L→jL (pT q L p)
 | [],_,h=>h
 | a::p,_,h=>yJ q p (yL a q h)
theorem hJ.lt{w:World}{b o:Nat}{m:Mono}(h:hJ w b o m):b<w.heap.size:=by
 rcases Nat.lt_or_ge b w.heap.size with hlt | hge
 ·exact hlt
 ·have:=h.1;simp [World.cell?,Array.getElem?_eq_none hge] at this
end Go.Proofs.YtnmhcaahkaocgaaGreatDoor
namespace Go.Proofs.YtnmhcaahkaocgaaGreatDoor
namespace X
open Go.RowKit
noncomputable section
def monoO (cs:List V):Option Mono:=match cs with
 | [n,a,b,c,d,e,f]=>asI n fun k z=>gd (isI64 k) (ob (byteX a) fun a=>ob (byteX b) fun b=>ob (byteX c) fun c=>ob (byteX d) fun d=>ob (byteX e) fun e=>ob (byteX f) fun f=>some ⟨z,UInt8.ofNat a,UInt8.ofNat b,UInt8.ofNat c,UInt8.ofNat d,UInt8.ofNat e,UInt8.ofNat f⟩)
 | _=>none
def monoV (m:Mono):List V:=[.i .i64 m.n,.i .u8 m.e0.toNat,.i .u8 m.e1.toNat,.i .u8 m.e2.toNat,.i .u8 m.e3.toNat,.i .u8 m.e4.toNat,.i .u8 m.e5.toNat]
end
section
variable [Ctx] {α : As} {s s' : St} {w w' : World}
omit [Ctx] in
theorem vE{v:V}{n:Nat}(h:byteX v=some n):v= .i .u8 (.ofNat n)∧n<256:=by
 unfold byteX at h;split at h
 ·rename_i x;obtain⟨h1,h2⟩:=cH h;cases h2;exact⟨rfl,by simpa using h1⟩
 ·cases h
omit [Ctx] in
theorem mono_is{cs:List V}{m:Mono}(h:monoO cs=some m):cs=monoV m:=by
 unfold monoO at h;split at h
 ·rename_i n a b c d e f;obtain⟨k,z,rfl,h1⟩:=kC h;obtain⟨h2,h3⟩:=cH h1;obtain⟨a',ha,h3⟩:=bJ h3;obtain⟨b',hb,h3⟩:=bJ h3;obtain⟨c',hc,h3⟩:=bJ h3;obtain⟨d',hd,h3⟩:=bJ h3;obtain⟨e',he,h3⟩:=bJ h3;obtain⟨f',hf,h3⟩:=bJ h3;cases h3;obtain⟨rfl,la⟩:=vE ha;obtain⟨rfl,lb⟩:=vE hb;obtain⟨rfl,lc⟩:=vE hc;obtain⟨rfl,ld⟩:=vE hd;obtain⟨rfl,le⟩:=vE he;obtain⟨rfl,lf⟩:=vE hf;have u: ∀n:Nat,n<256→(UInt8.ofNat n).toNat=n:=fun n hn=>by simp;omega
  have hk:k= .i64:=by cases k<;>first | rfl | cases h2
  subst hk;simp only [monoV,u _ la,u _ lb,u _ lc,u _ ld,u _ le,u _ lf];rfl
 ·cases h
end
end X
end Go.Proofs.YtnmhcaahkaocgaaGreatDoor
namespace Go.Proofs.YtnmhcaahkaocgaaGreatDoor
namespace X
open Go.RowKit
noncomputable section
def upN (n0 d k:Nat):Nat:=sel (Nat.blt k n0) k (k+d)
def Cap.up(dc:Nat):Cap→Cap
 | .n c=> .n c
 | .s k d=> .s (k+dc) d
def upD (n0 d dc f:Nat):V→V:=Nat.rec (motive:=fun _=>V→V) (fun v=>v) (fun _ ih v=>match v with
 | .p k o=> .p (upN n0 d k) o
 | .l k o n c=> .l (upN n0 d k) o n (c.up dc)
 | .z k o o' c=> .z (upN n0 d k) o o' (c+dc)
 | .y c=> .y (c+dc)
 | .m k=> .m (upN n0 d k)
 | .f fn a c=> .f fn (a.map ih) (c.map ih)
 | .e t v=> .e t (ih v)
 | .g cs=> .g (cs.map ih)
 | .t vs=> .t (vs.map ih)
 | v=>v) f
def V.up (n0 d dc:Nat)(v:V):V:=upD n0 d dc 5 v
def Blk.up(n0 d dc:Nat):Blk→Blk
 | .cells cs t ext ro=> .cells (cs.map (V.up n0 d dc)) t (ext.map fun k=>k+dc) ro
 | .map es c=> .map (es.map fun x=>(x.1.up n0 d dc,x.2.1.up n0 d dc,x.2.2)) c
 | .win cs=> .win (cs.map (V.up n0 d dc))
 | b=>b
def baseH (K:List (Nat×Nat)):T Blk:=List.rec .lf (fun x _ ih=>ih.set (some (.know x.2)) fuelT x.1) K
section
variable [Ctx]
def baseS (K:List (Nat×Nat)):St:={h:=baseH K,n:=Ctx.n0,c:=0}
end
end
def As.up (α β:As)(n c d:Nat):As:={blk:=fun k=>if k<n then α.blk k else β.blk (k-d),room:=fun k=>if k<c then α.room k else β.room (k-c),place:=fun k=>if k<c then α.place k else β.place (k-c)}
section
variable {α β : As} {n0 n c d n1 c1 : Nat}
theorem zD: ∀{K:List (Nat×Nat)} {k:Nat} {x:Blk},(baseH K).get k=some x→ ∃m,(k,m)∈K∧x= .know m
 | [],_,_,h=>by cases h
 | y::K,k,x,h=>by
  have h:((baseH K).set (some (.know y.2)) fuelT y.1).get k=some x:=h
  rcases T.get_set_fuel _ _ _ _ _ _ h with ⟨rfl,e⟩ | ⟨_,h⟩
  ·cases e;exact⟨y.2,List.mem_cons_self ..,rfl⟩
  ·obtain⟨m,hm,h1⟩:=zD h;exact⟨m,List.mem_cons_of_mem _ hm,h1⟩
end
section
variable [Ctx] {α β : As} {s : St} {w w' : World} {n0 n c d n1 c1 : Nat}
variable [Good]
theorem ran_true{f:FuncId}{N:Nat}{K:List (Nat×Nat)}{s':St}(h:callF f (wF N) [] (baseS K)=some (.b true,s'))(hs:Sim α (baseS K) w):
  (callFunc f #[]).run Ctx.P w= .ok (.enter f #[]) w∧Calls Ctx.P f #[] w fun e w'=>e= .returned (.bool true)∧Below w.heap.size w w':=by
 obtain⟨h1,h2⟩:=bEl (run_ok N) hs h fun x hx=>by cases hx
 refine⟨h1,h2.mono ?_⟩;rintro e w' ⟨u,rfl,β,rfl,hst⟩
 exact⟨rfl,hst.fr.os,hst.fr.tape,hst.fr.output,hst.fr.size,fun b hb=>hst.fr.block b hb fun k x hk hr=>by
  obtain⟨m,_,rfl⟩:=zD hk
  cases hr⟩
end
end X
end Go.Proofs.YtnmhcaahkaocgaaGreatDoor
