/- Texts of one proof, one behind the other: Mono, Order, Plain, Sort, Same, Map, Own, Small, Right, Listed, Both, Mul, MakesT, Value. -/
import Derived.Test.YtbgdphbebhjpiaaGreatDoorM1
import Derived.Test.YtbgdphbebhjpiaaGreatDoorRows
import Derived.WalkKit
import Derived.WalkSpells
import Derived.WalkLawsBesides
import Derived.Handy
import Derived.Deep.QuietTactic
import Derived.Deep.Light
import Derived.BigQuiet
import Derived.Test.YtbgdphbebhjpiaaGreatDoorShelfP
import Derived.Shelf.SlSortCmp.NoneTotal
import Derived.ChangeKeysEq
import Derived.MapKept
import Derived.ChangeMaps5
import Derived.WideKeyEntry
import Derived.Maps.RangeRun
import Derived.Maps.AppendAt
import Derived.Maps.Range
import Derived.Laws.OwnMore
import Derived.Laws.Tables
import Derived.RegionTactic
import Derived.BigRegion
namespace Go.Proofs.YtbgdphbebhjpiaaGreatDoor
open Go.RowKit
structure Mono where
 n:Int
 e0:UInt8
 e1:UInt8
 e2:UInt8
 e3:UInt8
 e4:UInt8
 e5:UInt8
instance : Inhabited Mono := ⟨⟨0, 0, 0, 0, 0, 0, 0⟩⟩
def Mono.E(m:Mono):List UInt8:=[m.e0,m.e1,m.e2,m.e3,m.e4,m.e5]
def Mono.cells(m:Mono):List Value:=
 [.int .i64 m.n,.int .u8 m.e0.toNat,.int .u8 m.e1.toNat,.int .u8 m.e2.toNat,.int .u8 m.e3.toNat,.int .u8 m.e4.toNat,.int .u8 m.e5.toNat]
def Mono.val(m:Mono):Value:=
 .agg #[.int .i64 m.n,.int .u8 m.e0.toNat,.int .u8 m.e1.toNat,.int .u8 m.e2.toNat,.int .u8 m.e3.toNat,.int .u8 m.e4.toNat,.int .u8 m.e5.toNat]
theorem Mono.cells_length(m:Mono):m.cells.length=7:=rfl
def Mono.deg(m:Mono):Nat:=m.e0.toNat+m.e1.toNat+m.e2.toNat+m.e3.toNat+m.e4.toNat+m.e5.toNat
def ord (a b:Mono):Int:=Lib.compareBytes b.E a.E
def sH (m:Mono):Bool:=decide (m.n≠0∧m.n≤16777216∧ -16777216≤m.n∧m.deg≤8)
theorem bMb(e:UInt8):(e.toNat:Int)<256:=by have:=e.toNat_lt;omega
theorem cmp_cons(a b:UInt8)(l m:List UInt8):Lib.compareBytes (a::l) (b::m)=if b.toNat<a.toNat then 1 else if a.toNat<b.toNat then-1 else Lib.compareBytes l m:=by
 rw [Lib.compareBytes];simp only [UInt8.lt_iff_toNat_lt]
 by_cases h:a.toNat<b.toNat
 ·rw [if_pos h,if_neg (by omega),if_pos h]
 ·rw [if_neg h]
  by_cases h':b.toNat<a.toNat
  ·rw [if_pos h',if_pos h']
  ·rw [if_neg h',if_neg h',if_neg h]
def gD (w:World)(b o:Nat)(m:Mono):Prop:=
 w.cell? ⟨b,o,none⟩=some (.int .i64 m.n)∧w.cell? ⟨b,o+1,none⟩=some (.int .u8 m.e0.toNat)∧w.cell? ⟨b,o+2,none⟩=some (.int .u8 m.e1.toNat)∧
 w.cell? ⟨b,o+3,none⟩=some (.int .u8 m.e2.toNat)∧w.cell? ⟨b,o+4,none⟩=some (.int .u8 m.e3.toNat)∧w.cell? ⟨b,o+5,none⟩=some (.int .u8 m.e4.toNat)∧
 w.cell? ⟨b,o+6,none⟩=some (.int .u8 m.e5.toNat)
def jZ (w:World)(A:Option Addr)(l:List Mono):Prop:=
 ∀k m,l[k]?=some m→ ∃b o,A=some ⟨b,o,none⟩∧b<w.heap.size∧gD w b (o+k*7) m
theorem gD.below{w w':World}{B b o:Nat}{m:Mono}(h:gD w b o m)(hb:Below B w w')(hB:b<B):gD w' b o m:=by
 obtain⟨h0,h1,h2,h3,h4,h5,h6⟩:=h
 exact⟨(hb.cell (p:=⟨b,o,none⟩) hB).trans h0,(hb.cell (p:=⟨b,o+1,none⟩) hB).trans h1,(hb.cell (p:=⟨b,o+2,none⟩) hB).trans h2,(hb.cell (p:=⟨b,o+3,none⟩) hB).trans h3,
  (hb.cell (p:=⟨b,o+4,none⟩) hB).trans h4,(hb.cell (p:=⟨b,o+5,none⟩) hB).trans h5,(hb.cell (p:=⟨b,o+6,none⟩) hB).trans h6⟩
theorem jZ.below{w w':World}{A:Option Addr}{l:List Mono}(h:jZ w A l)(hb:Below w.heap.size w w'):jZ w' A l:=fun k m hk=>by
 obtain⟨b,o,e,hB,hm⟩:=h k m hk;exact⟨b,o,e,Nat.lt_of_lt_of_le hB hb.size,hm.below hb hB⟩
theorem jZ.nil{w:World}{A:Option Addr}:jZ w A []:=fun k m h=>by simp at h
def Mono.eqB(a b:Mono):Bool:=a.n==b.n&&(a.e0==b.e0&&(a.e1==b.e1&&(a.e2==b.e2&&(a.e3==b.e3&&(a.e4==b.e4&&a.e5==b.e5)))))
theorem Mono.eqB_iff(a b:Mono):a.eqB b=true↔a=b:=by
 obtain⟨n,a0,a1,a2,a3,a4,a5⟩:=a;obtain⟨n',b0,b1,b2,b3,b4,b5⟩:=b;simp [Mono.eqB]
def rD:List Mono→List Mono→Bool
 | [],[]=>true
 | a::l,b::m=>a.eqB b&&rD l m
 | _,_=>false
theorem bMz: ∀l m:List Mono,rD l m=true↔l=m
 | [],[]=>by simp [rD]
 | [],b::m=>by simp [rD]
 | a::l,[]=>by simp [rD]
 | a::l,b::m=>by simp [rD,Mono.eqB_iff,bMz l m]
def iU:Option Mono→List Mono→Bool
 | _,[]=>true
 | none,m::l=>sH m&&iU (some m) l
 | some a,m::l=>sH m&&(decide (ord a m<0)&&iU (some m) l)
def fF (p:List Mono):Bool:=decide (p.length≤48)&&iU none p
theorem mC{l:List Mono}{k:Nat}(h:k<l.length): ∃m,l[k]?=some m∧l.drop k=m::l.drop (k+1):=
 ⟨l[k],List.getElem?_eq_getElem h,List.drop_eq_getElem_cons h⟩
theorem gD.later{W:World}{b o:Nat}{m:Mono}(h:gD W b o m):(∀x:gN W,x.w.cell? ⟨b,o,none⟩=some (.int .i64 m.n))∧(∀x:gN W,x.w.cell? ⟨b,o+1,none⟩=some (.int .u8 m.e0.toNat))∧(∀x:gN W,x.w.cell? ⟨b,o+2,none⟩=some (.int .u8 m.e1.toNat))∧(∀x:gN W,x.w.cell? ⟨b,o+3,none⟩=some (.int .u8 m.e2.toNat))∧(∀x:gN W,x.w.cell? ⟨b,o+4,none⟩=some (.int .u8 m.e3.toNat))∧(∀x:gN W,x.w.cell? ⟨b,o+5,none⟩=some (.int .u8 m.e4.toNat))∧(∀x:gN W,x.w.cell? ⟨b,o+6,none⟩=some (.int .u8 m.e5.toNat)):=by
 obtain⟨h0,h1,h2,h3,h4,h5,h6⟩:=h;exact⟨gN.cell h0,gN.cell h1,gN.cell h2,gN.cell h3,gN.cell h4,gN.cell h5,gN.cell h6⟩
theorem gD.zero{W:World}{b:Nat}{m:Mono}(h:gD W b 0 m):W.cell? ⟨b,0,none⟩=some (.int .i64 m.n)∧W.cell? ⟨b,1,none⟩=some (.int .u8 m.e0.toNat)∧W.cell? ⟨b,2,none⟩=some (.int .u8 m.e1.toNat)∧W.cell? ⟨b,3,none⟩=some (.int .u8 m.e2.toNat)∧W.cell? ⟨b,4,none⟩=some (.int .u8 m.e3.toNat)∧W.cell? ⟨b,5,none⟩=some (.int .u8 m.e4.toNat)∧W.cell? ⟨b,6,none⟩=some (.int .u8 m.e5.toNat):=by simpa [gD] using h
theorem gD.later0{W:World}{b:Nat}{m:Mono}(h:gD W b 0 m):(∀x:gN W,x.w.cell? ⟨b,0,none⟩=some (.int .i64 m.n))∧(∀x:gN W,x.w.cell? ⟨b,1,none⟩=some (.int .u8 m.e0.toNat))∧(∀x:gN W,x.w.cell? ⟨b,2,none⟩=some (.int .u8 m.e1.toNat))∧(∀x:gN W,x.w.cell? ⟨b,3,none⟩=some (.int .u8 m.e2.toNat))∧(∀x:gN W,x.w.cell? ⟨b,4,none⟩=some (.int .u8 m.e3.toNat))∧(∀x:gN W,x.w.cell? ⟨b,5,none⟩=some (.int .u8 m.e4.toNat))∧(∀x:gN W,x.w.cell? ⟨b,6,none⟩=some (.int .u8 m.e5.toNat)):=by
 obtain⟨h0,h1,h2,h3,h4,h5,h6⟩:=h.zero;exact⟨gN.cell h0,gN.cell h1,gN.cell h2,gN.cell h3,gN.cell h4,gN.cell h5,gN.cell h6⟩
def sA (w:World)(b o:Nat):List UInt8→Prop
 | []=>True
 | x::l=>w.cell? ⟨b,o,none⟩=some (.int .u8 x.toNat)∧sA w b (o+1) l
theorem push_append(acc:ByteArray)(x:UInt8)(l:List UInt8):((acc.push x).data++l.toArray)=acc.data++(x::l).toArray:=by
 apply Array.ext';simp [ByteArray.push]
theorem sN{P:Program}(w:World)(b:Nat): ∀(l:List UInt8) (o:Nat) (acc:ByteArray),sA w b o l→
  (Extern.Bytes.loadBytes ⟨b,o,none⟩ l.length acc).run P w= .ok ⟨acc.data++l.toArray⟩ w
 | [],o,acc,_=>by simp [Extern.Bytes.loadBytes]
 | x::l,o,acc,⟨h,t⟩=>by
  have ih:=sN (P:=P) w b l (o+1) (acc.push x) t;rw [push_append] at ih;simp only [Extern.Bytes.loadBytes,List.length_cons,Sem.run_bind];have hl:(load ⟨b,o,none⟩).run P w= .ok (.int .u8 x.toNat) w:=by simp [go_sem,h]
  rw [hl];simp only [Result.andThen_ok];have e:((x.toNat:Int)).toNat.toUInt8=x:=by simp
  rw [e];exact ih
theorem run_compare{P:Program}(w:World)(b c o p k k':Nat)(x y:List UInt8)(hx:sA w b o x)(hy:sA w c p y):
  (Extern.BytealgCompare.compare #[.slice (some ⟨b,o,none⟩) x.length k,.slice (some ⟨c,p,none⟩) y.length k']).run P w= .ok (.int .i64 (Lib.compareBytes x y)) w:=by
 change Sem.run P (do pure (goInt (Extern.BytealgCompare.cmp (←Extern.Bytes.bytesOf (.slice (some ⟨b,o,none⟩) x.length k)) (←Extern.Bytes.bytesOf (.slice (some ⟨c,p,none⟩) y.length k'))))) w=_;simp only [Extern.Bytes.bytesOf,Sem.run_bind,sN w b x o _ hx,sN w c y p _ hy,Result.andThen_ok,Sem.run_pure,Lib.cmp_eq];simp [goInt]
set_option maxRecDepth 100000 in
set_option maxHeartbeats 400000 in
theorem compare_any(b c o p:Nat)(k k':Nat)(x y:List UInt8)(w:World)(hx:sA w b o x)(hy:sA w c p y):
  Calls Tryz.prog 96 #[.slice (some ⟨b,o,none⟩) x.length k,.slice (some ⟨c,p,none⟩) y.length k'] w fun e w'=>e= .returned (.int .i64 (Lib.compareBytes x y))∧w=w':=by
 go_enter Tryz.func96,Tryz.ntmps96
 go_wp2
 rw [run_callFunc_extern Tryz.func164 (by kernel_rfl) (by kernel_rfl) (by kernel_rfl) (e:=Extern.BytealgCompare.compare) (by kernel_rfl),run_compare w b c o p k k' x y hx hy];simp only [Result.andThen];rw [Oper.upon_value]
 go_wp2
 go_ret
 exact⟨rfl,rfl⟩
set_option maxRecDepth 100000 in
set_option maxHeartbeats 400000 in
theorem order_any(a b:Mono)(w:World):
  Calls Tryz.prog 53 #[.agg #[.int .i64 a.n,.int .u8 a.e0.toNat,.int .u8 a.e1.toNat,.int .u8 a.e2.toNat,.int .u8 a.e3.toNat,.int .u8 a.e4.toNat,.int .u8 a.e5.toNat],.agg #[.int .i64 b.n,.int .u8 b.e0.toNat,.int .u8 b.e1.toNat,.int .u8 b.e2.toNat,.int .u8 b.e3.toNat,.int .u8 b.e4.toNat,.int .u8 b.e5.toNat]] w fun e w'=>e= .returned (.int .i64 (ord a b))∧ ∃q o1 o2,w'=((w.alloc o1).alloc o2).drewN q:=by
 have hc:=fun n=>compare_any (w.heap.size+1) w.heap.size 1 1 6 6 b.E a.E (((w.alloc (.cells #[.int .i64 a.n,.int .u8 a.e0.toNat,.int .u8 a.e1.toNat,.int .u8 a.e2.toNat,.int .u8 a.e3.toNat,.int .u8 a.e4.toNat,.int .u8 a.e5.toNat] 74)).alloc (.cells #[.int .i64 b.n,.int .u8 b.e0.toNat,.int .u8 b.e1.toNat,.int .u8 b.e2.toNat,.int .u8 b.e3.toNat,.int .u8 b.e4.toNat,.int .u8 b.e5.toNat] 74)).drewN n) (by simp [sA,Mono.E,go_sem]) (by simp [sA,Mono.E,go_sem]);have HC:=Lib.hid hc;clear hc
 go_enter Tryz.func53,Tryz.ntmps53
 go_wp2
 go_quiet ((go_at_call 96;exact Calls.quiet_of_same ((HC.out _).mono fun _ _ h=>⟨h.1,h.2.symm⟩)))
 go_wp2
 go_ret
 exact⟨rfl,_,_,_,rfl⟩
end Go.Proofs.YtbgdphbebhjpiaaGreatDoor
namespace Go.Proofs.YtbgdphbebhjpiaaGreatDoor
def num:List UInt8→Nat
 | []=>0
 | a::l=>a.toNat*256^l.length+num l
theorem bHg: ∀l:List UInt8,num l<256^l.length
 | []=>by simp [num]
 | a::l=>by
  have ih:=bHg l;have ha:=a.toNat_lt;have h:(a.toNat+1)*256^l.length≤256*256^l.length:=Nat.mul_le_mul_right _ (by omega);rw [Nat.add_mul,Nat.one_mul] at h;rw [num,List.length_cons,Nat.pow_succ,Nat.mul_comm (256^l.length) 256];omega
theorem cmp_num: ∀l m:List UInt8,l.length=m.length→Lib.compareBytes l m=if num m<num l then 1 else if num l<num m then-1 else 0
 | [],[],_=>by simp [num,Lib.compareBytes]
 | [],_::_,h=>by simp at h
 | _::_,[],h=>by simp at h
 | a::l,b::m,h=>by
  have hl:l.length=m.length:=by simpa using h
  have ih:=cmp_num l m hl;have nl:=bHg l;have nm:=bHg m;rw [cmp_cons,num,num,←hl];rw [←hl] at nm;generalize 256^l.length=p at*
  by_cases h1:b.toNat<a.toNat
  ·have:(b.toNat+1)*p≤a.toNat*p:=Nat.mul_le_mul_right _ h1;rw [Nat.add_mul,Nat.one_mul] at this;rw [if_pos h1,if_pos (by omega)]
  ·rw [if_neg h1]
   by_cases h2:a.toNat<b.toNat
   ·have:(a.toNat+1)*p≤b.toNat*p:=Nat.mul_le_mul_right _ h2;rw [Nat.add_mul,Nat.one_mul] at this;rw [if_pos h2,if_neg (by omega),if_pos (by omega)]
   ·have e:a.toNat=b.toNat:=by omega
    rw [if_neg h2,ih,e];simp only [Nat.add_lt_add_iff_left]
def Mono.key(m:Mono):Nat:=num m.E
theorem ord_key(a b:Mono):ord a b=if a.key<b.key then 1 else if b.key<a.key then-1 else 0:=cmp_num b.E a.E rfl
theorem ord_lt(a b:Mono):ord a b<0↔b.key<a.key:=by
 rw [ord_key];split
 ·constructor<;>intro h<;>omega
 ·split<;>simp_all
theorem num_inj: ∀l m:List UInt8,l.length=m.length→num l=num m→l=m
 | [],[],_,_=>rfl
 | [],_::_,h,_=>by simp at h
 | _::_,[],h,_=>by simp at h
 | a::l,b::m,h,hn=>by
  have hl:l.length=m.length:=by simpa using h
  have nl:=bHg l;have nm:=bHg m;rw [num,num,←hl] at hn;rw [←hl] at nm
  have e:a.toNat=b.toNat:=by
   rcases Nat.lt_trichotomy a.toNat b.toNat with h1 | h1 | h1
   ·have:(a.toNat+1)*256^l.length≤b.toNat*256^l.length:=Nat.mul_le_mul_right _ h1;rw [Nat.add_mul,Nat.one_mul] at this;omega
   ·exact h1
   ·have:(b.toNat+1)*256^l.length≤a.toNat*256^l.length:=Nat.mul_le_mul_right _ h1;rw [Nat.add_mul,Nat.one_mul] at this;omega
  rw [e] at hn;rw [UInt8.toNat_inj.1 e,num_inj l m hl (by omega)]
theorem key_E{a b:Mono}:a.key=b.key↔a.E=b.E:=⟨fun h=>num_inj _ _ rfl h,fun h=>by unfold Mono.key;rw [h]⟩
def bAb (l:List Mono):Prop:=l.Pairwise (fun a b=>b.key<a.key)
def nL (l:List Mono):Prop:=l.Pairwise (fun a b=>a.key≠b.key)
theorem bAb.apart{l:List Mono}(h:bAb l):nL l:=List.Pairwise.imp (fun h=>by omega) h
theorem bAb.ext: ∀{l m:List Mono},bAb l→bAb m→(∀x,x∈l↔x∈m)→l=m
 | [],[],_,_,_=>rfl
 | [],b::m,_,_,h=>absurd ((h b).2 (by simp)) (by simp)
 | a::l,[],_,_,h=>absurd ((h a).1 (by simp)) (by simp)
 | a::l,b::m,h1,h2,h=>by
  obtain⟨ha,hl⟩:=List.pairwise_cons.1 h1;obtain⟨hb,hm⟩:=List.pairwise_cons.1 h2
  have e:a=b:=by
   have i1:a∈b::m:=(h a).1 (by simp);have i2:b∈a::l:=(h b).2 (by simp)
   rcases List.mem_cons.1 i1 with e | i1
   ·exact e
   ·rcases List.mem_cons.1 i2 with e | i2
    ·exact e.symm
    ·have:=hb a i1;have:=ha b i2;omega
  subst e;rw [bAb.ext hl hm fun x=>?_];constructor
  ·intro hx;have:=(h x).1 (by simp [hx])
   rcases List.mem_cons.1 this with rfl | h'
   ·have:=ha x hx;omega
   ·exact h'
  ·intro hx;have:=(h x).2 (by simp [hx])
   rcases List.mem_cons.1 this with rfl | h'
   ·have:=hb x hx;omega
   ·exact h'
def zK (L:List Mono):List Mono:=(L.filter (fun m=>m.n !=0)).mergeSort (fun a b=>decide (b.key≤a.key))
theorem mem_canon{L:List Mono}{x:Mono}:x∈zK L↔x∈L∧x.n≠0:=by
 unfold zK;rw [(List.mergeSort_perm _ _).mem_iff];simp
theorem falls_of{l:List Mono}(h1:l.Pairwise (fun a b=>b.key≤a.key))(h2:nL l):bAb l:=
 List.Pairwise.imp (fun⟨a,b⟩=>by omega) (List.Pairwise.and h1 h2)
theorem nL.perm{l m:List Mono}(h:nL l)(hp:l.Perm m):nL m:=hp.pairwise h (fun h=>Ne.symm h)
theorem nL.filter{l:List Mono}(p:Mono→Bool)(h:nL l):nL (l.filter p):=List.Pairwise.filter _ h
theorem falls_canon{L:List Mono}(h:nL L):bAb (zK L):=by
 refine falls_of ?_ ((h.filter _).perm (List.mergeSort_perm _ _).symm);have:=List.pairwise_mergeSort (le:=fun a b:Mono=>decide (b.key≤a.key)) (by simp;omega) (by simp;omega) (L.filter (fun m=>m.n !=0));exact List.Pairwise.imp (fun h=>by simpa using h) this
theorem canon_of{L S:List Mono}(h:nL L)(hp:S.Perm (L.filter (fun m=>m.n !=0)))(hs:S.Pairwise (fun a b=>b.key≤a.key)):S=zK L:=
 bAb.ext (falls_of hs ((h.filter _).perm hp.symm)) (falls_canon h) fun x=>by rw [hp.mem_iff,mem_canon];simp
end Go.Proofs.YtbgdphbebhjpiaaGreatDoor
namespace Go.Proofs.YtbgdphbebhjpiaaGreatDoor
open Go.RowKit Go.Sort
set_option maxRecDepth 100000
theorem bAt(a b:Mono):ltOf ord a b=decide (b.key<a.key):=by
 unfold ltOf;rw [decide_eq_decide];exact ord_lt a b
theorem swo_ord:SWO (ltOf ord) where
 irrefl x:=by rw [bAt];simp
 trans x y z h1 h2:=by rw [bAt] at*;simp at*;omega
 ntrans x y z h1 h2:=by rw [bAt] at*;simp at*;omega
theorem bKm(blk off size:Nat)(w:World):CmpLays Tryz.prog 53 #[] Mono.cells 7 ord blk off size w:=
 fun m os dk _ x y=>by
  show Calls Tryz.prog 53 #[.agg #[.int .i64 x.n,.int .u8 x.e0.toNat,.int .u8 x.e1.toNat,.int .u8 x.e2.toNat,.int .u8 x.e3.toNat,.int .u8 x.e4.toNat,.int .u8 x.e5.toNat],.agg #[.int .i64 y.n,.int .u8 y.e0.toNat,.int .u8 y.e1.toNat,.int .u8 y.e2.toNat,.int .u8 y.e3.toNat,.int .u8 y.e4.toNat,.int .u8 y.e5.toNat]] _ _
  exact(order_any x y _).mono fun _ _ ⟨he,q,o1,o2,hw⟩=>⟨he,q,#[o1,o2],by rw [hw,alloc_eq_grow,alloc_eq_grow,grow_grow];rfl⟩
theorem bLo(x:Mono): ∀v∈x.cells,v.oneCell'=true:=fun v hv=>by
 simp only [Mono.cells,List.mem_cons,List.not_mem_nil,or_false] at hv
 rcases hv with rfl | rfl | rfl | rfl | rfl | rfl | rfl<;>rfl
def Row (w:World)(g:Nat)(l:List Mono):Prop:=HoldsK Mono.cells 7 w g 0 l.toArray
theorem sort_any(g cap:Nat)(l:List Mono)(w:World)(hH:Row w g l)(hg:g<w.heap.size)(hl:l.length<4611686018427387904):
  Calls Tryz.prog 245 #[.slice (some ⟨g,0,none⟩) l.length cap,.func (.func 53) #[] #[]] w fun e w'=>
   e= .returned (.tuple #[])∧ ∃l':List Mono,l'.Perm l∧l'.Pairwise (fun a b=>b.key≤a.key)∧Row w' g l'∧w.heap.size≤w'.heap.size∧w'.os=w.os∧w'.tape=w.tape∧w'.output=w.output∧(∀k,k<w.heap.size→k≠g→w'.heap[k]?=w.heap[k]?):=by
 have eg: ∀args w,(callFunc 53 args).run Tryz.prog w= .ok (.enter 53 args) w:=enters_of Tryz.func53 (by kernel_rfl) rfl;have hcon:=AnyQ.slices_SortFunc Tryz.sortL 7 Tryz.isAgg74 Tryz.sizeOf74 Mono.cells (fun _=>rfl) bLo ord swo_ord 53 #[] g 0 cap l.toArray w eg (bKm _ _ _ _) hH hg (by simpa using hl);change Calls Tryz.prog 245 #[.slice (some ⟨g,0,none⟩) l.length cap,.func (.func 53) #[] #[]] w _ at hcon;refine hcon.mono ?_;rintro e w' ⟨he,d',n,os,hp,hs,rfl⟩;obtain⟨hsz,_,hpm⟩:=hp;have hsz':d'.size=l.length:=by simpa using hsz
 refine⟨he,d'.toList,?_,?_,?_,?_,rfl,rfl,rfl,?_⟩
 ·have e1:d'.extract 0 l.toArray.size=d':=by
   apply Array.extract_eq_self_of_le;rw [hsz];exact Nat.le_refl _
  have e2:l.toArray.extract 0 l.toArray.size=l.toArray:=Array.extract_eq_self_of_le (Nat.le_refl _);rw [e1,e2] at hpm;exact hpm
 ·rw [List.pairwise_iff_getElem];intro i j hi hj hij;have hj':j<d'.size:=by simpa using hj
  have hi':i<d'.size:=by simpa using hi
  have h:=hs i j (Nat.zero_le _) hij (by rw [←hsz];exact hj');rw [getElem!_pos d' j hj',getElem!_pos d' i hi',bAt] at h
  simpa using h
 ·show HoldsK Mono.cells 7 _ g 0 d';refine holdsK_grow Mono.cells 7 _ os g 0 d' (by simp [putRowK,Sort.ahead];exact hg) ?_;exact holdsK_putRowK Mono.cells 7 _ g 0 l.toArray d' hH hsz
 ·simp [sortWorldK,grow,putRowK,Sort.ahead]
 ·intro k hk hne;have hk':k<(putRowK Mono.cells 7 (Sort.ahead w n) g 0 d').heap.size:=by simp [putRowK,Sort.ahead];exact hk
  simp only [sortWorldK,grow];rw [Array.getElem?_append_left hk'];simp only [putRowK,putRow,mapBlock,Sort.ahead];rw [Array.getElem?_modify,if_neg (Ne.symm hne)]
theorem sort_none(A:Option Addr)(cap:Nat)(w:World):
  Calls Tryz.prog 245 #[.slice A 0 cap,.func (.func 53) #[] #[]] w fun e w'=>e= .returned (.tuple #[])∧Below w.heap.size w w':=by
 have h:=AnyF.slices_SortFunc_none Tryz.sortL A cap (.func (.func 53) #[] #[]) w;change Calls Tryz.prog 245 _ w _ at h
 exact h.mono fun _ _ ⟨he,hw⟩=>⟨he,by rw [hw];exact Below.refl _ _⟩
end Go.Proofs.YtbgdphbebhjpiaaGreatDoor
namespace Go.Proofs.YtbgdphbebhjpiaaGreatDoor
open Go.RowKit
set_option maxRecDepth 100000
theorem u8_eq(a b:UInt8):((a.toNat:Int)==(b.toNat:Int))=(a==b):=by
 rw [Bool.eq_iff_iff];simp only [beq_iff_eq];constructor
 ·intro h;exact UInt8.toNat_inj.1 (by omega)
 ·rintro rfl;rfl
def Mono.sameE(a b:Mono):Bool:=a.e0==b.e0&&(a.e1==b.e1&&(a.e2==b.e2&&(a.e3==b.e3&&(a.e4==b.e4&&a.e5==b.e5))))
theorem bGl(a:Mono)(w:World):(part 5 #[.int .u8 a.e0.toNat,.int .u8 a.e1.toNat,.int .u8 a.e2.toNat,.int .u8 a.e3.toNat,.int .u8 a.e4.toNat,.int .u8 a.e5.toNat] (0*1)).run Tryz.prog w= .ok (.int .u8 a.e0.toNat) w∧(part 5 #[.int .u8 a.e0.toNat,.int .u8 a.e1.toNat,.int .u8 a.e2.toNat,.int .u8 a.e3.toNat,.int .u8 a.e4.toNat,.int .u8 a.e5.toNat] (1*1)).run Tryz.prog w= .ok (.int .u8 a.e1.toNat) w∧
  (part 5 #[.int .u8 a.e0.toNat,.int .u8 a.e1.toNat,.int .u8 a.e2.toNat,.int .u8 a.e3.toNat,.int .u8 a.e4.toNat,.int .u8 a.e5.toNat] (2*1)).run Tryz.prog w= .ok (.int .u8 a.e2.toNat) w∧(part 5 #[.int .u8 a.e0.toNat,.int .u8 a.e1.toNat,.int .u8 a.e2.toNat,.int .u8 a.e3.toNat,.int .u8 a.e4.toNat,.int .u8 a.e5.toNat] (3*1)).run Tryz.prog w= .ok (.int .u8 a.e3.toNat) w∧
  (part 5 #[.int .u8 a.e0.toNat,.int .u8 a.e1.toNat,.int .u8 a.e2.toNat,.int .u8 a.e3.toNat,.int .u8 a.e4.toNat,.int .u8 a.e5.toNat] (4*1)).run Tryz.prog w= .ok (.int .u8 a.e4.toNat) w∧(part 5 #[.int .u8 a.e0.toNat,.int .u8 a.e1.toNat,.int .u8 a.e2.toNat,.int .u8 a.e3.toNat,.int .u8 a.e4.toNat,.int .u8 a.e5.toNat] (5*1)).run Tryz.prog w= .ok (.int .u8 a.e5.toNat) w:=
 ⟨by kernel_rfl,by kernel_rfl,by kernel_rfl,by kernel_rfl,by kernel_rfl,by kernel_rfl⟩
theorem sF(d:Nat)(a b:Mono)(w:World):(Op.equalIn (d+2) 72 (.agg #[.int .u8 a.e0.toNat,.int .u8 a.e1.toNat,.int .u8 a.e2.toNat,.int .u8 a.e3.toNat,.int .u8 a.e4.toNat,.int .u8 a.e5.toNat]) (.agg #[.int .u8 b.e0.toNat,.int .u8 b.e1.toNat,.int .u8 b.e2.toNat,.int .u8 b.e3.toNat,.int .u8 b.e4.toNat,.int .u8 b.e5.toNat])).run Tryz.prog w= .ok (a.sameE b) w:=by
 obtain⟨i5,hi5⟩: ∃i,Tryz.prog.info? 5=some i:=⟨_,rfl⟩
 have hc:Tryz.prog.cellsOf 5=1:=by kernel_rfl
 obtain⟨p0,p1,p2,p3,p4,p5⟩:=bGl a w;obtain⟨q0,q1,q2,q3,q4,q5⟩:=bGl b w;rw [run_equalIn_array w (d+1) _ _ Tryz.underlying72 hi5,hc];have hr:List.range 6=[0,1,2,3,4,5]:=rfl;rw [hr];simp only [Op.eqItems,Sem.run_bind,Sem.run_ite,Sem.run_pure,p0,p1,p2,p3,p4,p5,q0,q1,q2,q3,q4,q5,Result.andThen_ok,run_equalIn_int w d 5 .u8 .u8 _ _ Tryz.underlying5,u8_eq];unfold Mono.sameE;cases a.e0==b.e0<;>cases a.e1==b.e1<;>cases a.e2==b.e2<;>cases a.e3==b.e3<;>cases a.e4==b.e4<;>cases a.e5==b.e5<;>rfl
theorem bCj(d:Nat)(a b:Mono)(w:World):(Op.equalIn (d+3) 74 (.agg #[.int .i64 a.n,.int .u8 a.e0.toNat,.int .u8 a.e1.toNat,.int .u8 a.e2.toNat,.int .u8 a.e3.toNat,.int .u8 a.e4.toNat,.int .u8 a.e5.toNat]) (.agg #[.int .i64 b.n,.int .u8 b.e0.toNat,.int .u8 b.e1.toNat,.int .u8 b.e2.toNat,.int .u8 b.e3.toNat,.int .u8 b.e4.toNat,.int .u8 b.e5.toNat])).run Tryz.prog w= .ok (a.eqB b) w:=by
 have hS:Tryz.prog.underlying 74=some (.struct (Tryz.prog.fieldsOf 74)):=by kernel_rfl
 have hp:Tryz.prog.stoodInHeld 74=false:=by kernel_rfl
 have hF:(Tryz.prog.fieldsOf 74).toList=[⟨ "N",2,0,false, "", "",0⟩,⟨ "E",72,1,false, "", "",8⟩]:=by kernel_rfl
 have p0: ∀m:Mono,(part 2 #[.int .i64 m.n,.int .u8 m.e0.toNat,.int .u8 m.e1.toNat,.int .u8 m.e2.toNat,.int .u8 m.e3.toNat,.int .u8 m.e4.toNat,.int .u8 m.e5.toNat] 0).run Tryz.prog w= .ok (.int .i64 m.n) w:=fun m=>by kernel_rfl
 have p1: ∀m:Mono,(part 72 #[.int .i64 m.n,.int .u8 m.e0.toNat,.int .u8 m.e1.toNat,.int .u8 m.e2.toNat,.int .u8 m.e3.toNat,.int .u8 m.e4.toNat,.int .u8 m.e5.toNat] 1).run Tryz.prog w= .ok (.agg #[.int .u8 m.e0.toNat,.int .u8 m.e1.toNat,.int .u8 m.e2.toNat,.int .u8 m.e3.toNat,.int .u8 m.e4.toNat,.int .u8 m.e5.toNat]) w:=fun m=>by kernel_rfl
 rw [run_equalIn_agg w (d+2) 74 _ _ hS hp,hF];simp only [Op.eqFields,Sem.run_bind,Sem.run_ite,Sem.run_pure,p0,p1,Result.andThen_ok,run_equalIn_int w (d+1) 2 .i64 .i64 _ _ Tryz.underlying2,sF d a b w];have e:a.eqB b=(a.n==b.n&&a.sameE b):=rfl;rw [e];cases a.n==b.n<;>cases a.sameE b<;>simp
theorem zN(a b:Mono)(w:World):(binOp .neq 74 (.agg #[.int .i64 a.n,.int .u8 a.e0.toNat,.int .u8 a.e1.toNat,.int .u8 a.e2.toNat,.int .u8 a.e3.toNat,.int .u8 a.e4.toNat,.int .u8 a.e5.toNat]) (.agg #[.int .i64 b.n,.int .u8 b.e0.toNat,.int .u8 b.e1.toNat,.int .u8 b.e2.toNat,.int .u8 b.e3.toNat,.int .u8 b.e4.toNat,.int .u8 b.e5.toNat])).run Tryz.prog w= .ok (.bool (!a.eqB b)) w:=by
 rw [run_neq_struct,bCj 9997 a b w];rfl
theorem bMm: ∀(l m:List Mono),l.length≠m.length→rD l m=false
 | [],[],h=>absurd rfl h
 | [],_::_,_=>rfl
 | _::_,[],_=>rfl
 | a::l,b::m,h=>by
  rw [rD,bMm l m (by simpa using h),Bool.and_false]
set_option maxRecDepth 100000 in
set_option maxHeartbeats 1000000 in
theorem same_any(A B:Option Addr)(c d:Nat)(xs ys:List Mono)(w:World)(ha:jZ w A xs)(hb:jZ w B ys)(hx:xs.length≤140737488355328):
  Calls Tryz.prog 94 #[.slice A xs.length c,.slice B ys.length d] w fun e w'=>e= .returned (.bool (rD xs ys))∧Below w.heap.size w w':=by
 by_cases hl:xs.length=ys.length
 ·have hneq:=zN;have Hl:=Lib.hid hl;have Ha:=Lib.hid ha;have Hb:=Lib.hid hb;have hl1:((xs.length:Int) !=(ys.length:Int))=false:=by simp [hl]
  clear hl ha hb
  go_enter Tryz.func94,Tryz.ntmps94
  go_wp2
  go_loopw [5] (fun i wr=> ∃k:Nat,k≤xs.length∧i= .int .i64 k∧Hid (rD xs ys=rD (xs.drop k) (ys.drop k))∧Below w.heap.size w wr) (fun i _=>xs.length-(intOf i).toNat)
  case atStart=>exact⟨0,Nat.zero_le _,rfl,rfl,Below.refl _ _⟩
  case round=>
   obtain⟨k,hk,rfl,hs,hbl⟩:=hrel
   by_cases hlt:k<xs.length
   ·obtain⟨m,hm,dm⟩:=mC hlt;obtain⟨m',hm',dm'⟩:=mC (show k<ys.length by rw [←Hl.out];exact hlt);obtain⟨b,o,rfl,hB,c0,c1,c2,c3,c4,c5,c6⟩:=Ha.out.below hbl k m hm;obtain⟨b',o',rfl,hB',d0,d1,d2,d3,d4,d5,d6⟩:=Hb.out.below hbl k m' hm';have hlt':k<ys.length:=by rw [←Hl.out];exact hlt
    have HS:=Lib.hid (show rD xs ys=(m.eqB m'&&rD (xs.drop (k+1)) (ys.drop (k+1))) by rw [hs.out,dm,dm',rD]);clear dm dm' hm hm' hB hB' hs;cases hf:m.eqB m'
    ·go_wp2
     go_quiet (fail)
     go_wp2
     go_ret
     refine⟨iY ?_,vD hbl _⟩;rw [HS.out,hf,Bool.false_and]
    ·go_wp2
     go_quiet (fail)
     go_wp2
     go_roundw
     case rel=>exact⟨k+1,by omega,by go_num,(by show _=_;rw [HS.out,hf,Bool.true_and]),vD hbl _⟩
     case measure=>simp [intOf];omega
   ·have hk':k=xs.length:=by omega
    go_wp2
    go_ret
    refine⟨iY ?_,hbl⟩;rw [hs.out,List.drop_of_length_le (by omega),List.drop_of_length_le (by rw [←Hl.out];omega)];rfl
 ·have hl1:((xs.length:Int) !=(ys.length:Int))=true:=by rw [bne_iff_ne];omega
  go_enter Tryz.func94,Tryz.ntmps94
  go_wp2
  go_ret
  exact⟨iY (bMm _ _ hl).symm,Below.refl _ _⟩
end Go.Proofs.YtbgdphbebhjpiaaGreatDoor
namespace Go.Proofs.YtbgdphbebhjpiaaGreatDoor
open Go.RowKit
set_option maxRecDepth 100000
open Go.ChangeMaps (setBlock)
def kvM (m:Mono):Value×Value:=(.agg #[.int .u8 m.e0.toNat,.int .u8 m.e1.toNat,.int .u8 m.e2.toNat,.int .u8 m.e3.toNat,.int .u8 m.e4.toNat,.int .u8 m.e5.toNat],.int .i64 m.n)
def kvE (e:MapEntry):Value×Value:=(e.key,e.val)
def mI (w:World)(r:Nat)(L:List Mono):Prop:=
 ∃es clock,w.heap[r]?=some (.map es clock)∧es.toList.map kvE=L.map kvM∧(∀x∈es.toList,x.born<clock)∧(es.toList.map (·.born)).Nodup
def xI (k:Mono):List Mono→Int
 | []=>0
 | m::l=>if k.sameE m then m.n else xI k l
def setTo (k:Mono)(x:Int):List Mono→List Mono
 | []=>[{k with n:=x}]
 | m::l=>if k.sameE m then {k with n:=x}::l else m::setTo k x l
def findAt(k:Mono):List Mono→Nat→Option (Nat×Value)
 | [],_=>none
 | m::l,i=>if k.sameE m then some (i,.int .i64 m.n) else findAt k l (i+1)
theorem wJ(k:Mono)(w:World): ∀(es:List MapEntry) (L:List Mono) (i:Nat),es.map kvE=L.map kvM→(Instr.findAsking 72 (.agg #[.int .u8 k.e0.toNat,.int .u8 k.e1.toNat,.int .u8 k.e2.toNat,.int .u8 k.e3.toNat,.int .u8 k.e4.toNat,.int .u8 k.e5.toNat]) es i).run Tryz.prog w= .ok (findAt k L i) w
 | [],[],_,_=>by simp [Instr.findAsking,findAt]
 | [],_::_,_,h=>by simp at h
 | _::_,[],_,h=>by simp at h
 | e::es,m::L,i,h=>by
  simp only [List.map_cons,List.cons.injEq,kvE,kvM,Prod.mk.injEq] at h;obtain⟨⟨h1,h2⟩,h3⟩:=h;have ih:=wJ k w es L (i+1) h3
  have he:(Op.equal 72 (.agg #[.int .u8 k.e0.toNat,.int .u8 k.e1.toNat,.int .u8 k.e2.toNat,.int .u8 k.e3.toNat,.int .u8 k.e4.toNat,.int .u8 k.e5.toNat]) e.key).run Tryz.prog w= .ok (k.sameE m) w:=by
   rw [h1];exact sF 9998 k m w
  simp only [Instr.findAsking,Sem.run_bind,Sem.run_ite,Sem.run_pure,he,Result.andThen_ok,findAt,h2];cases k.sameE m
  ·simpa using ih
  ·simp
theorem vK(k:Mono)(w:World)(es:List MapEntry)(L:List Mono)(h:es.map kvE=L.map kvM):(Instr.findKey 72 (.agg #[.int .u8 k.e0.toNat,.int .u8 k.e1.toNat,.int .u8 k.e2.toNat,.int .u8 k.e3.toNat,.int .u8 k.e4.toNat,.int .u8 k.e5.toNat]) es).run Tryz.prog w= .ok (findAt k L 0) w:=by
 have hf:=wJ k w es L 0 h;unfold Instr.findKey;simp only [Sem.run_bind,run_underlying Tryz.underlying72,Result.andThen_ok]
 cases es with
 | nil=>
  cases L with
  | nil=>simp [Instr.findNow,findAt]
  | cons m L=>simp at h
 | cons e es=>simpa [Instr.findNow,Instr.sameNow] using hf
theorem tN(b:Bool)(k:Mono)(w:World):(Instr.checkKey b 10000 72 (.agg #[.int .u8 k.e0.toNat,.int .u8 k.e1.toNat,.int .u8 k.e2.toNat,.int .u8 k.e3.toNat,.int .u8 k.e4.toNat,.int .u8 k.e5.toNat])).run Tryz.prog w= .ok () w:=by
 kernel_rfl
theorem run_stays(k:Mono)(w:World):(Instr.keyThatStays (.agg #[.int .u8 k.e0.toNat,.int .u8 k.e1.toNat,.int .u8 k.e2.toNat,.int .u8 k.e3.toNat,.int .u8 k.e4.toNat,.int .u8 k.e5.toNat]) (.agg #[.int .u8 k.e0.toNat,.int .u8 k.e1.toNat,.int .u8 k.e2.toNat,.int .u8 k.e3.toNat,.int .u8 k.e4.toNat,.int .u8 k.e5.toNat])).run Tryz.prog w= .ok (.agg #[.int .u8 k.e0.toNat,.int .u8 k.e1.toNat,.int .u8 k.e2.toNat,.int .u8 k.e3.toNat,.int .u8 k.e4.toNat,.int .u8 k.e5.toNat]) w:=by
 unfold Instr.keyThatStays;simp [Instr.sameBits]
theorem findAt_none{k:Mono}{x:Int}: ∀{L:List Mono} {i:Nat},findAt k L i=none→xI k L=0∧setTo k x L=L++[{k with n:=x}]
 | [],_,_=>⟨rfl,rfl⟩
 | m::L,i,h=>by
  unfold findAt at h;cases hs:k.sameE m
  ·rw [hs] at h;simp only [Bool.false_eq_true,if_false] at h;obtain⟨h1,h2⟩:=findAt_none (x:=x) h;simp [xI,setTo,hs,h1,h2]
  ·rw [hs] at h;simp at h
theorem coef_app{k:Mono}: ∀{L:List Mono} {i:Nat},findAt k L i=none→ ∀M:List Mono,xI k (L++M)=xI k M
 | [],_,_,_=>rfl
 | m::L,i,h,M=>by
  unfold findAt at h;cases hs:k.sameE m
  ·rw [hs] at h;simp only [Bool.false_eq_true,if_false] at h;simp [xI,hs,coef_app h M]
  ·rw [hs] at h;simp at h
theorem sameE_self(k:Mono)(x:Int):k.sameE {k with n:=x}=true:=by simp [Mono.sameE]
theorem wD{k:Mono}{x:Int}{j:Nat}{v:Value}: ∀{L:List Mono} {i:Nat},findAt k L i=some (j,v)→ ∃d m,j=i+d∧L[d]?=some m∧k.sameE m=true∧v= .int .i64 m.n∧xI k L=m.n∧setTo k x L=L.set d {k with n:=x}
 | [],_,h=>by simp [findAt] at h
 | m::L,i,h=>by
  unfold findAt at h;cases hs:k.sameE m
  ·rw [hs] at h;simp only [Bool.false_eq_true,if_false] at h;obtain⟨d,m',h1,h2,h3,h4,h5,h6⟩:=wD (x:=x) h;exact⟨d+1,m',by omega,by simpa using h2,h3,h4,by simp [xI,hs,h5],by simp [setTo,hs,h6]⟩
  ·rw [hs] at h;simp only [if_true,Option.some.injEq,Prod.mk.injEq] at h;exact⟨0,m,by omega,rfl,hs,h.2.symm,by simp [xI,hs],by simp [setTo,hs]⟩
theorem lL(k:Mono){w:World}{r:Nat}{L:List Mono}(h:mI w r L):
  (Instr.lookup 259 (.map (some r)) (.agg #[.int .u8 k.e0.toNat,.int .u8 k.e1.toNat,.int .u8 k.e2.toNat,.int .u8 k.e3.toNat,.int .u8 k.e4.toNat,.int .u8 k.e5.toNat]) false).run Tryz.prog w= .ok (.int .i64 (xI k L)) w:=by
 obtain⟨es,clock,hb,hkv,_,_⟩:=h;have hz:(zeroValue 2).run Tryz.prog w= .ok (.int .i64 0) w:=by kernel_rfl
 unfold Instr.lookup;simp only [Sem.run_bind,run_underlying Tryz.underlying259,Result.andThen_ok,MapKept.run_getObj_map hb,Sem.run_pure,tN,vK k w es.toList L hkv]
 cases hf:findAt k L 0 with
 | none=>simp [(findAt_none (x:=0) hf).1,hz]
 | some p=>
  obtain⟨j,v⟩:=p;obtain⟨d,m,_,_,_,rfl,h5,_⟩:=wD (x:=0) hf;simp [h5]
theorem bMc{k m:Mono}(h:k.sameE m=true):(Value.agg #[.int .u8 m.e0.toNat,.int .u8 m.e1.toNat,.int .u8 m.e2.toNat,.int .u8 m.e3.toNat,.int .u8 m.e4.toNat,.int .u8 m.e5.toNat])= .agg #[.int .u8 k.e0.toNat,.int .u8 k.e1.toNat,.int .u8 k.e2.toNat,.int .u8 k.e3.toNat,.int .u8 k.e4.toNat,.int .u8 k.e5.toNat]:=by
 simp only [Mono.sameE,Bool.and_eq_true,beq_iff_eq] at h;obtain⟨h0,h1,h2,h3,h4,h5⟩:=h;rw [h0,h1,h2,h3,h4,h5]
theorem map_set_kv{es:Array MapEntry}{L:List Mono}{d:Nat}{k m:Mono}{e:MapEntry}(hkv:es.toList.map kvE=L.map kvM)(hd:L[d]?=some m)(hs:k.sameE m=true)(he:es[d]?=some e)(x:Int):
  (es.modify d fun e=>{e with val:= .int .i64 x}).toList.map kvE=(L.set d {k with n:=x}).map kvM:=by
 have hk:e.key= .agg #[.int .u8 k.e0.toNat,.int .u8 k.e1.toNat,.int .u8 k.e2.toNat,.int .u8 k.e3.toNat,.int .u8 k.e4.toNat,.int .u8 k.e5.toNat]:=by
  have h1:(es.toList.map kvE)[d]?=some (kvE e):=by simp [he]
  rw [hkv,List.getElem?_map,hd] at h1;simp only [Option.map_some,Option.some.injEq,kvE,kvM,Prod.mk.injEq] at h1;rw [←h1.1];exact bMc hs
 have he':es.toList[d]?=some e:=by simpa using he
 rw [Array.toList_modify,ChangeMaps.modify_eq_set _ _ _ _ he',List.map_set,List.map_set,hkv]
 congr 1
 simp [kvE,kvM,hk]
theorem vR(k:Mono)(x:Int){w:World}{r:Nat}{L:List Mono}(h:mI w r L): ∃v0 st w1 w2,
  (Instr.mapEntry 259 (.map (some r)) (.agg #[.int .u8 k.e0.toNat,.int .u8 k.e1.toNat,.int .u8 k.e2.toNat,.int .u8 k.e3.toNat,.int .u8 k.e4.toNat,.int .u8 k.e5.toNat])).run Tryz.prog w= .ok (.tuple #[v0,.int .i64 st]) w1∧
  (Instr.lookup 259 (.map (some r)) (.agg #[.int .u8 k.e0.toNat,.int .u8 k.e1.toNat,.int .u8 k.e2.toNat,.int .u8 k.e3.toNat,.int .u8 k.e4.toNat,.int .u8 k.e5.toNat]) false).run Tryz.prog w1= .ok (.int .i64 (xI k L)) w1∧
  (Instr.entryStore 259 (.map (some r)) (.int .i64 st) (.int .i64 x)).run Tryz.prog w1= .ok () w2∧
  mI w2 r (setTo k x L)∧ ∃o,w2=setBlock w r o:=by
 obtain⟨es,clock,hb,hkv,hlt,hnd⟩:=h;have hz:(zeroValue 2).run Tryz.prog w= .ok (.int .i64 0) w:=by kernel_rfl
 cases hf:findAt k L 0 with
 | none=>
  obtain⟨hc,hset⟩:=findAt_none (x:=x) hf;obtain⟨_,hset0⟩:=findAt_none (x:=0) hf;have hb1:(setBlock w r (.map (es.push ⟨.agg #[.int .u8 k.e0.toNat,.int .u8 k.e1.toNat,.int .u8 k.e2.toNat,.int .u8 k.e3.toNat,.int .u8 k.e4.toNat,.int .u8 k.e5.toNat],.int .i64 0,clock⟩) (clock+1))).heap[r]?=some (.map (es.push ⟨.agg #[.int .u8 k.e0.toNat,.int .u8 k.e1.toNat,.int .u8 k.e2.toNat,.int .u8 k.e3.toNat,.int .u8 k.e4.toNat,.int .u8 k.e5.toNat],.int .i64 0,clock⟩) (clock+1)):=ChangeMaps.heap_setBlock_same hb _
  have hnd': ∀v,((es.push ⟨.agg #[.int .u8 k.e0.toNat,.int .u8 k.e1.toNat,.int .u8 k.e2.toNat,.int .u8 k.e3.toNat,.int .u8 k.e4.toNat,.int .u8 k.e5.toNat],v,clock⟩).toList.map (·.born)).Nodup:=fun v=>by
   simp only [Array.toList_push,List.map_append,List.map_cons,List.map_nil];refine List.nodup_append.2 ⟨hnd,by simp,fun a ha c hc e1=>?_⟩;simp only [List.mem_singleton] at hc;obtain⟨y,hy,rfl⟩:=List.mem_map.1 ha;have:=hlt y hy;omega
  have hlt': ∀v,∀y∈(es.push ⟨.agg #[.int .u8 k.e0.toNat,.int .u8 k.e1.toNat,.int .u8 k.e2.toNat,.int .u8 k.e3.toNat,.int .u8 k.e4.toNat,.int .u8 k.e5.toNat],v,clock⟩).toList,y.born<clock+1:=fun v y hy=>by
   simp only [Array.toList_push,List.mem_append,List.mem_singleton] at hy
   rcases hy with hy | rfl
   ·have:=hlt y hy;omega
   ·simp
  have hkv': ∀n:Int,(es.push ⟨.agg #[.int .u8 k.e0.toNat,.int .u8 k.e1.toNat,.int .u8 k.e2.toNat,.int .u8 k.e3.toNat,.int .u8 k.e4.toNat,.int .u8 k.e5.toNat],.int .i64 n,clock⟩).toList.map kvE=(L++[{k with n:=n}]).map kvM:=fun n=>by
   simp [hkv,kvE,kvM]
  refine⟨.int .i64 0,clock,setBlock w r (.map (es.push ⟨.agg #[.int .u8 k.e0.toNat,.int .u8 k.e1.toNat,.int .u8 k.e2.toNat,.int .u8 k.e3.toNat,.int .u8 k.e4.toNat,.int .u8 k.e5.toNat],.int .i64 0,clock⟩) (clock+1)),setBlock w r (.map (es.push ⟨.agg #[.int .u8 k.e0.toNat,.int .u8 k.e1.toNat,.int .u8 k.e2.toNat,.int .u8 k.e3.toNat,.int .u8 k.e4.toNat,.int .u8 k.e5.toNat],.int .i64 x,clock⟩) (clock+1)),?_,?_,?_,?_,⟨_,rfl⟩⟩
  ·unfold Instr.mapEntry;simp only [Sem.run_bind,run_underlying Tryz.underlying259,Result.andThen_ok,MapKept.run_getObj_map hb,Sem.run_pure,tN,vK k w es.toList L hkv,hf,hz];simp [MapKept.run_setObj_map _ hb,Result.andThen,setBlock,goInt]
  ·have hm:mI (setBlock w r (.map (es.push ⟨.agg #[.int .u8 k.e0.toNat,.int .u8 k.e1.toNat,.int .u8 k.e2.toNat,.int .u8 k.e3.toNat,.int .u8 k.e4.toNat,.int .u8 k.e5.toNat],.int .i64 0,clock⟩) (clock+1))) r (L++[{k with n:=0}]):=⟨_,_,hb1,hkv' 0,hlt' _,hnd' _⟩
   rw [lL k hm,hc,coef_app hf];simp [xI,sameE_self]
  ·have hidx:(es.push ⟨.agg #[.int .u8 k.e0.toNat,.int .u8 k.e1.toNat,.int .u8 k.e2.toNat,.int .u8 k.e3.toNat,.int .u8 k.e4.toNat,.int .u8 k.e5.toNat],.int .i64 0,clock⟩).findIdx? (fun e=>((e.born:Nat):Int)==((clock:Nat):Int))=some es.size:=by
    rw [WideElems.findIdx_arr];exact WideElems.findIdx_born (j:=es.size) (e0:=⟨.agg #[.int .u8 k.e0.toNat,.int .u8 k.e1.toNat,.int .u8 k.e2.toNat,.int .u8 k.e3.toNat,.int .u8 k.e4.toNat,.int .u8 k.e5.toNat],.int .i64 0,clock⟩) (hnd' _) (by simp)
   have hmod:(es.push ⟨.agg #[.int .u8 k.e0.toNat,.int .u8 k.e1.toNat,.int .u8 k.e2.toNat,.int .u8 k.e3.toNat,.int .u8 k.e4.toNat,.int .u8 k.e5.toNat],.int .i64 0,clock⟩).modify es.size (fun e=>{e with val:= .int .i64 x})=es.push ⟨.agg #[.int .u8 k.e0.toNat,.int .u8 k.e1.toNat,.int .u8 k.e2.toNat,.int .u8 k.e3.toNat,.int .u8 k.e4.toNat,.int .u8 k.e5.toNat],.int .i64 x,clock⟩:=by
    apply Array.ext';rw [Array.toList_modify,Array.toList_push,Array.toList_push,←Array.length_toList,WideElems.modify_last]
   simp only [Instr.entryStore,Sem.run_bind,MapKept.run_getObj_map hb1,Result.andThen_ok,asInt,asIntOf,Sem.run_pure,hidx,hmod,MapKept.run_setObj_map _ hb1];simp [setBlock]
  ·rw [hset];exact⟨_,_,ChangeMaps.heap_setBlock_same hb _,hkv' x,hlt' _,hnd' _⟩
 | some p=>
  obtain⟨j,v⟩:=p;obtain⟨d,m,hj,hd,hs,hv,hc,hset⟩:=wD (x:=x) hf;obtain rfl:j=d:=by omega
  subst hv
  have hlen:es.size=L.length:=by
   have:=congrArg List.length hkv
   simpa using this
  have hjl:j<es.size:=by rw [hlen];exact(List.getElem?_eq_some_iff.1 hd).1
  obtain⟨e,he⟩: ∃e,es[j]?=some e:=⟨es[j],Array.getElem?_eq_getElem hjl⟩
  have hk:e.key= .agg #[.int .u8 k.e0.toNat,.int .u8 k.e1.toNat,.int .u8 k.e2.toNat,.int .u8 k.e3.toNat,.int .u8 k.e4.toNat,.int .u8 k.e5.toNat]:=by
   have h1:(es.toList.map kvE)[j]?=some (kvE e):=by simp [he]
   rw [hkv,List.getElem?_map,hd] at h1;simp only [Option.map_some,Option.some.injEq,kvE,kvM,Prod.mk.injEq] at h1;rw [←h1.1];exact bMc hs
  have he':es.toList[j]?=some e:=by simpa using he
  have hsame:es.modify j (fun e=>{e with key:= .agg #[.int .u8 k.e0.toNat,.int .u8 k.e1.toNat,.int .u8 k.e2.toNat,.int .u8 k.e3.toNat,.int .u8 k.e4.toNat,.int .u8 k.e5.toNat]})=es:=by
   apply Array.ext';rw [Array.toList_modify,ChangeMaps.modify_eq_set _ _ _ _ he',←hk];exact WideElems.set_self _ _ _ he'
  have hb1:(setBlock w r (.map es clock)).heap[r]?=some (.map es clock):=ChangeMaps.heap_setBlock_same hb _;refine⟨.int .i64 m.n,e.born,setBlock w r (.map es clock),setBlock w r (.map (es.modify j fun e=>{e with val:= .int .i64 x}) clock),?_,?_,?_,?_,⟨_,rfl⟩⟩
  ·unfold Instr.mapEntry;simp only [Sem.run_bind,run_underlying Tryz.underlying259,Result.andThen_ok,MapKept.run_getObj_map hb,Sem.run_pure,tN,vK k w es.toList L hkv,hf,he,Option.map_some,Option.getD_some,hk,run_stays];rw [hsame,MapKept.run_setObj_map _ hb];simp [setBlock,goInt]
  ·exact lL k ⟨_,_,hb1,hkv,hlt,hnd⟩
  ·have hidx:es.findIdx? (fun e'=>((e'.born:Nat):Int)==((e.born:Nat):Int))=some j:=by
    rw [WideElems.findIdx_arr];exact WideElems.findIdx_born hnd he'
   simp only [Instr.entryStore,Sem.run_bind,MapKept.run_getObj_map hb1,Result.andThen_ok,asInt,asIntOf,Sem.run_pure,hidx,MapKept.run_setObj_map _ hb1];simp [setBlock]
  ·rw [hset]
   have hborn:(es.modify j fun e=>{e with val:= .int .i64 x}).toList.map (·.born)=es.toList.map (·.born):=by
    rw [Array.toList_modify,ChangeMaps.modify_eq_set _ _ _ _ he',List.map_set];exact WideElems.set_self _ _ _ (by simp [he'])
   refine⟨_,_,ChangeMaps.heap_setBlock_same hb _,map_set_kv hkv hd hs he x,fun y hy=>?_,by rw [hborn];exact hnd⟩;have hy':y.born∈es.toList.map (·.born):=by rw [←hborn];exact List.mem_map.2 ⟨y,hy,rfl⟩
   obtain⟨z,hz1,hz2⟩:=List.mem_map.1 hy';rw [←hz2];exact hlt z hz1
end Go.Proofs.YtbgdphbebhjpiaaGreatDoor
namespace Go.Proofs.YtbgdphbebhjpiaaGreatDoor
open Go.RowKit Go.Sort
set_option maxRecDepth 100000
def flat (l:List Mono):List Value:=l.flatMap Mono.cells
theorem flat_snoc(l:List Mono)(m:Mono):flat (l++[m])=flat l++m.cells:=by simp [flat]
theorem flat_get: ∀(l:List Mono) (k j:Nat) (m:Mono),l[k]?=some m→j<7→(flat l)[k*7+j]?=m.cells[j]?
 | [],k,j,m,h,_=>by simp at h
 | a::l,0,j,m,h,hj=>by
  simp at h;subst h;simp only [flat,List.flatMap_cons,Nat.zero_mul,Nat.zero_add];exact List.getElem?_append_left (by rw [Mono.cells_length];exact hj)
 | a::l,k+1,j,m,h,hj=>by
  have ih:=flat_get l k j m (by simpa using h) hj;have e:flat (a::l)=a.cells++flat l:=by simp [flat]
  rw [e,List.getElem?_append_right (by rw [Mono.cells_length];omega),Mono.cells_length];rw [←ih]
  congr 1
  omega
def bIc (w:World)(B:Nat)(v:Value)(l:List Mono):Prop:=w.ownsRow B 74 7 v l.length (flat l)
theorem bIc.row{w:World}{B g cap:Nat}{l:List Mono}(h:bIc w B (.slice (some ⟨g,0,none⟩) l.length cap) l):Row w g l:=fun t ht=>by
 have ht':t<l.length*7:=by simpa using ht
 have hc:=World.ownsRow.cellAt h t ht';refine⟨?_,by simpa using World.ownsRow.frozenAt h t⟩;rw [get_flatK _ _ _ _ (by simpa using ht')];have hk:t/7<l.length:=by omega
 have hg:=flat_get l (t/7) (t%7) l[t/7] (List.getElem?_eq_getElem hk) (Nat.mod_lt _ (by omega));have e:t/7*7+t%7=t:=by omega
 rw [e] at hg;rw [Nat.zero_add,hc,hg];have e2:l.toArray[t/7]! =l[t/7]:=by simp [hk]
 rw [e2];have hj:t%7<(l[t/7]).cells.length:=by rw [Mono.cells_length];exact Nat.mod_lt _ (by omega)
 rw [List.getElem?_eq_getElem hj,getElem!_pos (l[t/7]).cells (t%7) hj];rfl
theorem Row.monos{w:World}{g:Nat}{l:List Mono}(h:Row w g l):jZ w (some ⟨g,0,none⟩) l:=fun k m hk=>by
 have hkl:k<l.toArray.size:=by simpa using (List.getElem?_eq_some_iff.1 hk).1
 have hm:l.toArray[k]! =m:=by
  rw [getElem!_pos l.toArray k hkl];have:=(List.getElem?_eq_some_iff.1 hk).2
  simpa using this
 have c:=fun j (hj:j<7)=>(HoldsK.cell h hkl hj).1;rw [hm] at c
 have hlt:g<w.heap.size:=by
  rcases Nat.lt_or_ge g w.heap.size with h' | h'
  ·exact h'
  ·have:=c 0 (by omega);simp [World.cell?,Array.getElem?_eq_none h'] at this
 refine⟨g,0,rfl,hlt,?_⟩;exact⟨c 0 (by omega),c 1 (by omega),c 2 (by omega),c 3 (by omega),c 4 (by omega),c 5 (by omega),c 6 (by omega)⟩
theorem Row.below{w w':World}{B g:Nat}{l:List Mono}(h:Row w g l)(hb:Below B w w')(hg:g<B):Row w' g l:=fun t ht=>by
 obtain⟨h1,h2⟩:=h t ht;exact⟨(hb.cell (p:=⟨g,0+t,none⟩) hg).trans h1,(hb.frozen (p:=⟨g,0+t,none⟩) hg).trans h2⟩
theorem Row.lt{w:World}{g:Nat}{l:List Mono}(h:Row w g l)(hl:l≠[]):g<w.heap.size:=by
 cases l with
 | nil=>exact absurd rfl hl
 | cons m l=>
  obtain⟨b,o,e,hb,_⟩:=h.monos 0 m rfl;injection e with e
  injection e with e
  omega
def Res (B:Nat)(w:World)(v:Value)(l:List Mono):Prop:=
 ∃A c,v= .slice A l.length c∧(l=[]∨ ∃g,A=some ⟨g,0,none⟩∧B≤g∧Row w g l)
theorem Res.monos{B:Nat}{w:World}{A:Option Addr}{n c:Nat}{l:List Mono}(h:Res B w (.slice A n c) l):jZ w A l∧n=l.length:=by
 obtain⟨A',c',e,h⟩:=h;injection e with e1 e2 e3
 subst e1 e2
 rcases h with rfl | ⟨g,rfl,_,hr⟩
 ·exact⟨jZ.nil,rfl⟩
 ·exact⟨hr.monos,rfl⟩
theorem Res.below{B:Nat}{w w':World}{v:Value}{l:List Mono}(h:Res B w v l)(hb:Below w.heap.size w w'):Res B w' v l:=by
 obtain⟨A,c,e,h⟩:=h;refine⟨A,c,e,?_⟩
 by_cases hl:l=[]
 ·exact .inl hl
 ·rcases h with h | ⟨g,e1,e2,hr⟩
  ·exact .inl h
  ·exact .inr ⟨g,e1,e2,hr.below hb (hr.lt hl)⟩
theorem Res.mono{B B':Nat}{w:World}{v:Value}{l:List Mono}(h:Res B w v l)(hB:B'≤B):Res B' w v l:=by
 obtain⟨A,c,e,h⟩:=h;refine⟨A,c,e,?_⟩
 rcases h with h | ⟨g,e1,e2,hr⟩
 ·exact .inl h
 ·exact .inr ⟨g,e1,Nat.le_trans hB e2,hr⟩
theorem Res.nil(B:Nat)(w:World)(c:Nat)(A:Option Addr):Res B w (.slice A 0 c) []:=⟨A,c,rfl,.inl rfl⟩
end Go.Proofs.YtbgdphbebhjpiaaGreatDoor
namespace Go.Proofs.YtbgdphbebhjpiaaGreatDoor
open Go.RowKit
set_option maxRecDepth 100000
set_option maxRecDepth 100000 in
set_option maxHeartbeats 400000 in
theorem small_any(m:Mono)(w:World):
  Calls Tryz.prog 52 #[.agg #[.int .i64 m.n,.int .u8 m.e0.toNat,.int .u8 m.e1.toNat,.int .u8 m.e2.toNat,.int .u8 m.e3.toNat,.int .u8 m.e4.toNat,.int .u8 m.e5.toNat]] w fun e w'=>e= .returned (.bool (sH m))∧Below w.heap.size w w':=by
 have h0:=bMb m.e0;have h1:=bMb m.e1;have h2:=bMb m.e2;have h3:=bMb m.e3;have h4:=bMb m.e4;have h5:=bMb m.e5;have i0: ∀w,(Instr.index 72 (.agg #[.int .u8 m.e0.toNat,.int .u8 m.e1.toNat,.int .u8 m.e2.toNat,.int .u8 m.e3.toNat,.int .u8 m.e4.toNat,.int .u8 m.e5.toNat]) (.int .i64 0)).run Tryz.prog w= .ok (.int .u8 m.e0.toNat) w:=fun _=>by kernel_rfl
 have i1: ∀w,(Instr.index 72 (.agg #[.int .u8 m.e0.toNat,.int .u8 m.e1.toNat,.int .u8 m.e2.toNat,.int .u8 m.e3.toNat,.int .u8 m.e4.toNat,.int .u8 m.e5.toNat]) (.int .i64 1)).run Tryz.prog w= .ok (.int .u8 m.e1.toNat) w:=fun _=>by kernel_rfl
 have i2: ∀w,(Instr.index 72 (.agg #[.int .u8 m.e0.toNat,.int .u8 m.e1.toNat,.int .u8 m.e2.toNat,.int .u8 m.e3.toNat,.int .u8 m.e4.toNat,.int .u8 m.e5.toNat]) (.int .i64 2)).run Tryz.prog w= .ok (.int .u8 m.e2.toNat) w:=fun _=>by kernel_rfl
 have i3: ∀w,(Instr.index 72 (.agg #[.int .u8 m.e0.toNat,.int .u8 m.e1.toNat,.int .u8 m.e2.toNat,.int .u8 m.e3.toNat,.int .u8 m.e4.toNat,.int .u8 m.e5.toNat]) (.int .i64 3)).run Tryz.prog w= .ok (.int .u8 m.e3.toNat) w:=fun _=>by kernel_rfl
 have i4: ∀w,(Instr.index 72 (.agg #[.int .u8 m.e0.toNat,.int .u8 m.e1.toNat,.int .u8 m.e2.toNat,.int .u8 m.e3.toNat,.int .u8 m.e4.toNat,.int .u8 m.e5.toNat]) (.int .i64 4)).run Tryz.prog w= .ok (.int .u8 m.e4.toNat) w:=fun _=>by kernel_rfl
 have i5: ∀w,(Instr.index 72 (.agg #[.int .u8 m.e0.toNat,.int .u8 m.e1.toNat,.int .u8 m.e2.toNat,.int .u8 m.e3.toNat,.int .u8 m.e4.toNat,.int .u8 m.e5.toNat]) (.int .i64 5)).run Tryz.prog w= .ok (.int .u8 m.e5.toNat) w:=fun _=>by kernel_rfl
 go_enter Tryz.func52,Tryz.ntmps52
 go_wp2
 go_rounds 7
 all_goals go_ret
 all_goals refine⟨iY ?_,by go_grown⟩
 all_goals clear i0 i1 i2 i3 i4 i5
 all_goals go_light
 all_goals unfold sH Mono.deg
 all_goals try exact(decide_eq_false (by omega)).symm
 have hn:(m.n !=0)=true:=by simpa using ‹¬m.n=0›
 rw [hn,Bool.true_and];exact decide_eq_decide.2 (by omega)
end Go.Proofs.YtbgdphbebhjpiaaGreatDoor
namespace Go.Proofs.YtbgdphbebhjpiaaGreatDoor
open Go.RowKit
set_option maxRecDepth 100000
theorem order_below(a b:Mono)(w:World):
  Calls Tryz.prog 53 #[.agg #[.int .i64 a.n,.int .u8 a.e0.toNat,.int .u8 a.e1.toNat,.int .u8 a.e2.toNat,.int .u8 a.e3.toNat,.int .u8 a.e4.toNat,.int .u8 a.e5.toNat],.agg #[.int .i64 b.n,.int .u8 b.e0.toNat,.int .u8 b.e1.toNat,.int .u8 b.e2.toNat,.int .u8 b.e3.toNat,.int .u8 b.e4.toNat,.int .u8 b.e5.toNat]] w fun e w'=>e= .returned (.int .i64 (ord a b))∧Below w.heap.size w w':=
 (order_any a b w).mono fun e w' ⟨he,q,o1,o2,hw⟩=>⟨he,by rw [hw];exact vD (((Below.refl _ _).alloc (Nat.le_refl _) _).alloc (by simp) _) _⟩
set_option maxRecDepth 100000 in
set_option maxHeartbeats 1000000 in
theorem right_any(A:Option Addr)(c:Nat)(xs:List Mono)(w:World)(ha:jZ w A xs)(hx:xs.length≤140737488355328):
  Calls Tryz.prog 26 #[.slice A xs.length c] w fun e w'=>e= .returned (.bool (fF xs))∧Below w.heap.size w w':=by
 by_cases hl:xs.length≤48
 ·have hl1:decide ((48:Int)<(xs.length:Int))=false:=by simp;omega
  have Ha:=Lib.hid ha;clear ha
  go_enter Tryz.func26,Tryz.ntmps26
  go_wp2
  go_loopw [10] (fun i wr=> ∃k:Nat,k≤xs.length∧i= .int .i64 k∧Hid (fF xs=iU (if k=0 then none else xs[k-1]?) (xs.drop k))∧Below w.heap.size w wr) (fun i _=>xs.length-(intOf i).toNat)
  case atStart=>exact⟨0,Nat.zero_le _,rfl,by show _=_;simp [fF,hl],Below.refl _ _⟩
  case round=>
   obtain⟨k,hk,rfl,hs,hbl⟩:=hrel
   by_cases hlt:k<xs.length
   ·obtain⟨m,hm,dm⟩:=mC hlt;obtain⟨b,o,rfl,hB,c0,c1,c2,c3,c4,c5,c6⟩:=Ha.out.below hbl k m hm;have q0:gD (wr.alloc (.cells #[.int .i64 m.n,.int .u8 m.e0.toNat,.int .u8 m.e1.toNat,.int .u8 m.e2.toNat,.int .u8 m.e3.toNat,.int .u8 m.e4.toNat,.int .u8 m.e5.toNat] 74)) wr.heap.size 0 m:=by simp [gD,go_sem]
    have hb0:Below w.heap.size w (wr.alloc (.cells #[.int .i64 m.n,.int .u8 m.e0.toNat,.int .u8 m.e1.toNat,.int .u8 m.e2.toNat,.int .u8 m.e3.toNat,.int .u8 m.e4.toNat,.int .u8 m.e5.toNat] 74)):=hbl.alloc hbl.size _;have hz:wr.heap.size<(wr.alloc (.cells #[.int .i64 m.n,.int .u8 m.e0.toNat,.int .u8 m.e1.toNat,.int .u8 m.e2.toNat,.int .u8 m.e3.toNat,.int .u8 m.e4.toNat,.int .u8 m.e5.toNat] 74)).heap.size:=by simp
    have HB0:=Lib.hid hb0;have Q0:=Lib.hid q0;have Hz:=Lib.hid hz;have hm':=hm;clear q0 hb0 hz hm hB;cases hsb:sH m
    ·have HS:=Lib.hid (show fF xs=false by rw [hs.out,dm];split<;>(try cases xs[k-1]?)<;>simp [iU,hsb]);clear dm hs
     go_wp2
     clear c0 c1 c2 c3 c4 c5 c6;generalize hb:wr.heap.size=B at Q0 Hz⊢;generalize wr.alloc (.cells #[.int .i64 m.n,.int .u8 m.e0.toNat,.int .u8 m.e1.toNat,.int .u8 m.e2.toNat,.int .u8 m.e3.toNat,.int .u8 m.e4.toNat,.int .u8 m.e5.toNat] 74)=W0 at Q0 HB0 Hz⊢;clear hb hbl;have Hsm:=Lib.hid (gN.calls (W0:=W0) fun W _=>small_any m W);rw [hsb] at Hsm;obtain⟨r0,r1,r2,r3,r4,r5,r6⟩:=Q0.out.later0;clear Q0 Hz;refine pY (by kernel_rfl) (by kernel_rfl) ?_
     repeat (go_big_quiet_step ((go_at_call 52;exact Hsm.out _)))
     refine wpQuiet_nil ?_;rintro _ ⟨x,rfl⟩
     go_wp2
     go_ret
     exact⟨iY HS.out.symm,HB0.out.trans (x.h.mono HB0.out.size)⟩
    ·rcases Nat.eq_zero_or_pos k with hk0 | hk0
     ·have hk1:decide (0<k)=false:=by simp;omega
      have HS:=Lib.hid (show fF xs=iU (if k+1=0 then none else xs[k+1-1]?) (xs.drop (k+1)) by rw [hs.out,dm,if_pos hk0,if_neg (by omega),show k+1-1=k from rfl,hm'];simp [iU,hsb]);clear dm hs hk0 hm'
      go_wp2
      clear c0 c1 c2 c3 c4 c5 c6;generalize hb:wr.heap.size=B at Q0 Hz⊢;generalize wr.alloc (.cells #[.int .i64 m.n,.int .u8 m.e0.toNat,.int .u8 m.e1.toNat,.int .u8 m.e2.toNat,.int .u8 m.e3.toNat,.int .u8 m.e4.toNat,.int .u8 m.e5.toNat] 74)=W0 at Q0 HB0 Hz⊢;clear hb hbl;have Hsm:=Lib.hid (gN.calls (W0:=W0) fun W _=>small_any m W);rw [hsb] at Hsm;obtain⟨r0,r1,r2,r3,r4,r5,r6⟩:=Q0.out.later0;clear Q0 Hz;refine pY (by kernel_rfl) (by kernel_rfl) ?_
      repeat (go_big_quiet_step ((go_at_call 52;exact Hsm.out _)))
      refine wpQuiet_nil ?_;rintro _ ⟨x,rfl⟩
      go_wp2
      go_roundw
      case rel=>exact⟨k+1,by omega,by go_num,HS,HB0.out.trans (x.h.mono HB0.out.size)⟩
      case measure=>simp [intOf];omega
     ·have hk1:decide (0<k)=true:=by simp;omega
      obtain⟨j,rfl⟩: ∃j,k=j+1:=⟨k-1,by omega⟩
      obtain⟨q,hq⟩: ∃q,xs[j]?=some q:=⟨xs[j]'(by omega),List.getElem?_eq_getElem _⟩
      have HS:=Lib.hid (show fF xs=(decide (ord q m<0)&&iU (some m) (xs.drop (j+1+1))) by rw [hs.out,dm,if_neg (by omega),show j+1-1=j from rfl,hq];simp [iU,hsb]);have HM:=Lib.hid hm'
      have p0:gD (wr.alloc (.cells #[.int .i64 m.n,.int .u8 m.e0.toNat,.int .u8 m.e1.toNat,.int .u8 m.e2.toNat,.int .u8 m.e3.toNat,.int .u8 m.e4.toNat,.int .u8 m.e5.toNat] 74)) b (o+j*7) q:=by
       obtain⟨b1,o1,e1,hB1,hm1⟩:=Ha.out.below hbl j q hq;injection e1 with e1
       injection e1 with e1 e2
       subst e1 e2;exact hm1.below ((Below.refl _ _).alloc (Nat.le_refl _) _) hB1
      have P0:=Lib.hid p0;clear dm hs hk0 hm' hq p0
      go_wp2
      clear c0 c1 c2 c3 c4 c5 c6;generalize hb:wr.heap.size=B at Q0 Hz⊢;generalize wr.alloc (.cells #[.int .i64 m.n,.int .u8 m.e0.toNat,.int .u8 m.e1.toNat,.int .u8 m.e2.toNat,.int .u8 m.e3.toNat,.int .u8 m.e4.toNat,.int .u8 m.e5.toNat] 74)=W0 at Q0 HB0 Hz P0⊢;clear hb hbl;have Hsm:=Lib.hid (gN.calls (W0:=W0) fun W _=>small_any m W);rw [hsb] at Hsm;have Hor:=Lib.hid (gN.calls (W0:=W0) fun W _=>order_below q m W);obtain⟨r0,r1,r2,r3,r4,r5,r6⟩:=Q0.out.later0;obtain⟨s0,s1,s2,s3,s4,s5,s6⟩:=P0.out.later;clear Q0 Hz P0;refine pY (by kernel_rfl) (by kernel_rfl) ?_
      repeat (go_big_quiet_step ((first | (go_at_call 52;exact Hsm.out _) | (go_at_call 53;exact Hor.out _))))
      refine wpQuiet_nil ?_;rintro _ ⟨x,rfl⟩;clear r0 r1 r2 r3 r4 r5 r6 s0 s1 s2 s3 s4 s5 s6 Hsm Hor;have HBX:=Lib.hid (show Below w.heap.size w x.w from HB0.out.trans (x.h.mono HB0.out.size));clear HB0
      by_cases ho:ord q m<0
      ·have ho1:decide ((0:Int)≤ord q m)=false:=by simp;omega
       go_wp2
       go_roundw
       case rel=>exact⟨j+1+1,by omega,by go_num,(by show _=_;rw [HS.out,if_neg (by omega),show j+1+1-1=j+1 from rfl,HM.out];simp [ho]),HBX.out⟩
       case measure=>simp [intOf];omega
      ·have ho1:decide ((0:Int)≤ord q m)=true:=by simp;omega
       go_wp2
       go_ret
       exact⟨iY (by rw [HS.out,decide_eq_false (by omega),Bool.false_and]),HBX.out⟩
   ·have hk':k=xs.length:=by omega
    go_wp2
    go_ret
    refine⟨iY ?_,hbl⟩;rw [hs.out,List.drop_of_length_le (by omega)];split<;>(try cases xs[k-1]?)<;>simp [iU]
 ·have hl1:decide ((48:Int)<(xs.length:Int))=true:=by simp;omega
  go_enter Tryz.func26,Tryz.ntmps26
  go_wp2
  go_ret
  exact⟨iY (by simp [fF,hl]),Below.refl _ _⟩
end Go.Proofs.YtbgdphbebhjpiaaGreatDoor
namespace Go.Proofs.YtbgdphbebhjpiaaGreatDoor
open Go.RowKit Go.Sort
set_option maxRecDepth 100000
open Go.ChangeMaps (setBlock)
theorem bKr{α:Type}(f:α→Nat): ∀{l:List α},(l.map f).Nodup→ ∀p∈l,l.Perm (p::l.filter (fun q=>f q !=f p))
 | [],_,p,hp=>by simp at hp
 | a::l,hn,p,hp=>by
  simp only [List.map_cons,List.nodup_cons] at hn
  rcases List.mem_cons.1 hp with rfl | hp'
  ·have e:l.filter (fun q=>f q !=f p)=l:=by
    rw [List.filter_eq_self];intro q hq;rw [bne_iff_ne];intro h;exact hn.1 (List.mem_map.2 ⟨q,hq,h⟩)
   simp [e]
  ·have hne:f a≠f p:=fun h=>hn.1 (List.mem_map.2 ⟨p,hp',h.symm⟩);rw [List.filter_cons_of_pos (by rw [bne_iff_ne];exact hne)];exact((bKr f hn.2 p hp').cons a).trans (List.Perm.swap _ _ _)
def uQ (Z:List (MapEntry×Mono))(seen:Array Nat):List (MapEntry×Mono):=Z.filter fun p=>!seen.contains p.1.born
def nz (m:Mono):Bool:=m.n !=0
theorem zip_mem{es:List MapEntry}{L:List Mono}(h:es.map kvE=L.map kvM){p:MapEntry×Mono}(hp:p∈es.zip L):kvE p.1=kvM p.2:=by
 induction es generalizing L with
 | nil=>simp at hp
 | cons e es ih=>
  cases L with
  | nil=>simp at hp
  | cons m L=>
   simp only [List.map_cons,List.cons.injEq] at h;simp only [List.zip_cons_cons,List.mem_cons] at hp
   rcases hp with rfl | hp
   ·exact h.1
   ·exact ih h.2 hp
theorem bBv{es:Array MapEntry}{L:List Mono}(hl:es.toList.length=L.length)(seen:Array Nat):(uQ (es.toList.zip L) seen).map (·.1)=(leftOf es seen).toList:=by
 unfold uQ leftOf;rw [Array.toList_filter];rw [show(es.toList.zip L).filter (fun p=>!seen.contains p.1.born)=(es.toList.zip L).filter ((fun e:MapEntry=>!seen.contains e.born)∘Prod.fst) from rfl];rw [←List.filter_map,List.map_fst_zip (by omega)]
theorem left_step{es:Array MapEntry}{L:List Mono}(hkv:es.toList.map kvE=L.map kvM)(hnd:(es.toList.map (·.born)).Nodup){seen:Array Nat}{e:MapEntry}(he:e∈(leftOf es seen).toList):
  ∃m,e.key= .agg #[.int .u8 m.e0.toNat,.int .u8 m.e1.toNat,.int .u8 m.e2.toNat,.int .u8 m.e3.toNat,.int .u8 m.e4.toNat,.int .u8 m.e5.toNat]∧e.val= .int .i64 m.n∧(uQ (es.toList.zip L) seen).Perm ((e,m)::uQ (es.toList.zip L) (seen.push e.born)):=by
 have hl:es.toList.length=L.length:=by simpa using congrArg List.length hkv
 rw [←bBv hl] at he;obtain⟨⟨e',m⟩,hp,rfl⟩:=List.mem_map.1 he;have hz:=zip_mem hkv (List.mem_filter.1 hp).1;simp only [kvE,kvM,Prod.mk.injEq] at hz;refine⟨m,hz.1,hz.2,?_⟩
 have hnd':((uQ (es.toList.zip L) seen).map fun p=>p.1.born).Nodup:=by
  have h1:((es.toList.zip L).map fun p=>p.1.born).Nodup:=by
   rw [show(fun p:MapEntry×Mono=>p.1.born)=(·.born)∘Prod.fst from rfl,←List.map_map,List.map_fst_zip (by omega)];exact hnd
  exact h1.sublist (List.Sublist.map _ List.filter_sublist)
 have h:=bKr (fun p:MapEntry×Mono=>p.1.born) hnd' (e',m) hp;refine h.trans (List.Perm.of_eq ?_)
 congr 1
 unfold uQ;rw [List.filter_filter];apply List.filter_congr;intro p _;simp only [Array.contains_push,Bool.not_or];cases seen.contains p.1.born<;>simp [bne]
def kR (L:List Mono):List Mono×Int:=if fF (zK L) then (zK L,0) else ([],21)
def xP (w:World)(r:List Mono×Int)(e:Ending)(w':World):Prop:=
 ∃v,e= .returned (.tuple #[v,.int .i64 r.2])∧Below w.heap.size w w'∧Res w.heap.size w' v r.1
theorem xP.list{w w':World}{r:List Mono×Int}{e:Ending}(h:xP w r e w'): ∃A c,e= .returned (.tuple #[.slice A r.1.length c,.int .i64 r.2])∧Below w.heap.size w w'∧jZ w' A r.1:=by
 obtain⟨v,rfl,hb,A,c,rfl,hr⟩:=h;exact⟨A,c,rfl,hb,(Res.monos (B:=w.heap.size) ⟨A,c,rfl,hr⟩).1⟩
theorem bHj(m:Mono)(w:World):(Instr.build 74 #[(0,.int .i64 m.n),(1,.agg #[.int .u8 m.e0.toNat,.int .u8 m.e1.toNat,.int .u8 m.e2.toNat,.int .u8 m.e3.toNat,.int .u8 m.e4.toNat,.int .u8 m.e5.toNat])]).run Tryz.prog w= .ok (.agg #[.int .i64 m.n,.int .u8 m.e0.toNat,.int .u8 m.e1.toNat,.int .u8 m.e2.toNat,.int .u8 m.e3.toNat,.int .u8 m.e4.toNat,.int .u8 m.e5.toNat]) w:=run_build w _ _ _ (by kernel_rfl)
theorem info_mono:(Tryz.prog.info? 74).map (fun i=>(i.zero,i.size,i.bytes))=some (some (.agg #[.int .i64 0,.int .u8 0,.int .u8 0,.int .u8 0,.int .u8 0,.int .u8 0,.int .u8 0]),7,16):=by kernel_rfl
theorem cells_at{W:World}{g:Nat}{t:TypeId}{m:Mono}(hb:W.heap[g]?=some (.cells #[.int .i64 m.n,.int .u8 m.e0.toNat,.int .u8 m.e1.toNat,.int .u8 m.e2.toNat,.int .u8 m.e3.toNat,.int .u8 m.e4.toNat,.int .u8 m.e5.toNat] t)): ∀j u,m.cells[j]?=some u→W.cell? ((⟨g,0,none⟩:Addr).add j)=some u:=fun j u hu=>by
 have e:((⟨g,0,none⟩:Addr).add j)=⟨g,j,none⟩:=by
  unfold Addr.add;split<;>simp_all
 rw [e];unfold World.cell?;rw [hb]
 simpa [Mono.cells] using hu
theorem bJi{w w1:World}{r:Nat}(o:Obj)(h:w1=w∨w1=w.drew):w.grownBy (setBlock w1 r o) (some r):=by
 have hs: ∀h:Array Obj,h.size≤(h.setIfInBounds r o).size:=fun h=>by simp
 have hk: ∀(h:Array Obj) (i:Nat),r≠i→(h.setIfInBounds r o)[i]?=h[i]?:=fun h i hne=>by simp [hne]
 rcases h with rfl | rfl<;>exact⟨rfl,rfl,rfl,hs _,fun i hi hne=>hk _ _ (fun e=>hne (by rw [e]))⟩
theorem left_eq{W:World}{b r:Nat}{es:Array MapEntry}{L:List Mono}{c c' s:Nat}{x:Option Nat}{seen:Array Nat}(hl:es.toList.length=L.length)(h1:W.heap[b]?=some (.map es c))(h2:W.heap[r]?=some (.mapIter x s seen c')):
  W.rangeLeft b r=(uQ (es.toList.zip L) seen).length:=by
 unfold World.rangeLeft;rw [h1,h2];show(leftOf es seen).size=_;rw [←Array.length_toList,←bBv hl,List.length_map]
theorem perm_skip{C F:List Mono}{Z Z':List (MapEntry×Mono)}{e:MapEntry}{m:Mono}(h:(C++(Z.map (·.2)).filter nz).Perm F)(hp:Z.Perm ((e,m)::Z'))(hm:nz m=false):(C++(Z'.map (·.2)).filter nz).Perm F:=by
 have h1:(Z.map (·.2)).Perm (m::Z'.map (·.2)):=by simpa using hp.map (·.2)
 have h2:=h1.filter nz;rw [List.filter_cons_of_neg (by rw [hm];simp)] at h2;exact(h2.symm.append_left C).trans h
theorem perm_take1{C F:List Mono}{Z Z':List (MapEntry×Mono)}{e:MapEntry}{m:Mono}(h:(C++(Z.map (·.2)).filter nz).Perm F)(hp:Z.Perm ((e,m)::Z'))(hm:nz m=true):(C++[m]++(Z'.map (·.2)).filter nz).Perm F:=by
 have h1:(Z.map (·.2)).Perm (m::Z'.map (·.2)):=by simpa using hp.map (·.2)
 have h2:=h1.filter nz;rw [List.filter_cons_of_pos hm] at h2;rw [List.append_assoc];exact(h2.symm.append_left C).trans h
theorem owns_far{w w':World}{B it:Nat}{v:Value}{C:List Mono}(h:bIc w B v C)(hg:w.grownBy w' (some it))(hit:it<B):bIc w' B v C:=by
 refine World.ownsRow.kept h hg ?_
 rcases h.2 with ⟨rfl,_⟩ | ⟨g,cap,cur,rfl,hb,_⟩
 ·exact .inl rfl
 ·refine .inr fun e=>?_;simp [Value.ownBlock] at e;omega
theorem own_ne{w:World}{B it:Nat}{v:Value}{C:List Mono}(h:bIc w B v C)(hit:it<B):some it≠v.ownBlock:=by
 rcases h.2 with ⟨rfl,_⟩ | ⟨g,cap,cur,rfl,hb,_⟩
 ·simp [Value.ownBlock]
 ·intro e;simp [Value.ownBlock] at e;omega
theorem bDg{B:Nat}{a w w':World}{row:Option Nat}(h:Below B a w)(hg:w.grownBy w' row)(hB:B≤w.heap.size)(hr: ∀k,row=some k→B≤k):Below B a w':=h.grown hg hB hr
set_option maxRecDepth 100000 in
set_option maxHeartbeats 1000000 in
theorem listed_any(r:Nat)(L:List Mono)(w:World)(hm:mI w r L)(hA:nL L)(hL:L.length≤1000000):
  Calls Tryz.prog 201 #[.map (some r)] w (xP w (kR L)):=by
 obtain⟨es,clock,hb,hkv,hlt,hnd⟩:=hm;have hr:r<w.heap.size:=(Array.getElem?_eq_some_iff.1 hb).1
 have hrange:(Instr.range 259 (.map (some r))).run Tryz.prog w= .ok (.pointer (some ⟨w.heap.size,0,none⟩)) (w.alloc (.mapIter (some r) clock #[] clock)):=by
  unfold Instr.range;simp only [Sem.run_bind,run_underlying Tryz.underlying259,Result.andThen_ok,MapKept.run_getObj_map hb,Sem.run_pure];rfl
 have HA:=Lib.hid hA;have Hkv:=Lib.hid hkv;have Hnd:=Lib.hid hnd;have Hlt:=Lib.hid hlt;have Hb:=Lib.hid hb;clear hA hkv hnd hlt hb
 go_enter Tryz.func201,Tryz.ntmps201
 go_wp2
 go_loopw [4] (fun v wr=> ∃(seen:Array Nat) (C:List Mono),wr.heap[w.heap.size]?=some (.mapIter (some r) clock seen clock)∧bIc wr (w.heap.size+1) v C∧Hid ((C++((uQ (es.toList.zip L) seen).map (·.2)).filter nz).Perm (L.filter nz))∧Below w.heap.size w wr) (fun _ wr=>wr.rangeLeft r w.heap.size)
 case atStart=>
  refine⟨#[],[],heap_alloc_new _ _,World.ownsRow_nil _ _ _ _,?_,(Below.refl _ _).alloc (Nat.le_refl _) _⟩;show List.Perm _ _;have hl:es.toList.length=L.length:=by simpa using congrArg List.length Hkv.out
  have e:uQ (es.toList.zip L) #[]=es.toList.zip L:=by simp [uQ]
  rw [e,List.map_snd_zip (by omega)];simp
 case round=>
  obtain⟨seen,C,hit,hown,hperm,hbl⟩:=hrel;have hbr:wr.heap[r]?=some (.map es clock):=(hbl.block r hr).trans Hb.out
  rcases run_next_at (P:=Tryz.prog) wr 0 w.heap.size r clock clock seen es clock hit hbr Hlt.out (Nat.le_refl _) with ⟨h0,hn⟩ | ⟨e,he,w1,hw1,hn⟩
  ·have hl:es.toList.length=L.length:=by simpa using congrArg List.length Hkv.out
   have hz:uQ (es.toList.zip L) seen=[]:=by
    have h1:=bBv hl seen;rw [show(leftOf es seen).toList=[] from List.eq_nil_of_length_eq_zero (by simpa using h0)] at h1;exact List.map_eq_nil_iff.1 h1
   have hpm:C.Perm (L.filter nz):=by have:=hperm.out;rw [hz] at this;simpa using this
   have hCl:C.length≤1000000:=by
    have h1:=hpm.length_eq;have h2:=List.length_filter_le nz L;omega
   have HC:=Lib.hid (show ∀T:List Mono,T.Perm C→T.Pairwise (fun a b=>b.key≤a.key)→T=zK L from fun T h1 h2=>canon_of HA.out (h1.trans hpm) h2);have Hown:=Lib.hid hown;have HBL:=Lib.hid hbl;clear hit hbr hperm hpm hz hl h0 hown hbl
   rcases Hown.out.2 with ⟨hnil,hC⟩ | ⟨g,cap,cur,hv,hg,_⟩
   ·go_wp2_with fail
    rw [hnil];refine(sort_none _ _ _).mono ?_;rintro e w1 ⟨rfl,hb1⟩;obtain rfl:C=[]:=List.eq_nil_of_length_eq_zero hC;have hcan:zK L=[]:=(HC.out [] (List.Perm.refl _) List.Pairwise.nil).symm;have Hcan:=Lib.hid hcan;clear hcan;have hb1':=Lib.hid hb1;clear hb1
    go_wp2_with fail
    refine(right_any none 0 [] _ jZ.nil (by simp)).mono ?_;rintro e w2 ⟨rfl,hb2⟩;have hrb:fF []=true:=rfl;have HB2:=Lib.hid (show Below w.heap.size w w2 from (HBL.out.trans (hb1'.out.mono HBL.out.size)).trans (hb2.mono (by have:=HBL.out.size;have:=hb1'.out.size;omega)));clear hb2 hb1' HBL
    go_wp2
    go_ret2
    have e:kR L=([],0):=by unfold kR;rw [Hcan.out];rfl
    rw [e];exact⟨_,rfl,HB2.out,Res.nil _ _ _ _⟩
   ·have hrow:Row wr g C:=by
     have h:=Hown.out;rw [hv] at h;exact bIc.row h
    have hgl:g<wr.heap.size:=(World.ownsRow.lt Hown.out g (by rw [hv];rfl)).2;have HG:=Lib.hid hg;have HR:=Lib.hid hrow;clear hrow hg
    go_wp2_with fail
    rw [hv];refine(sort_any g cap C wr HR.out hgl (by omega)).mono ?_;rintro e w1 ⟨rfl,T,hTp,hTs,hTr,hsz,hos,htp,hou,hkeep⟩;have hT:T=zK L:=HC.out T hTp hTs;have hTl:T.length=C.length:=hTp.length_eq;have hb1:Below w.heap.size w w1:=HBL.out.trans ⟨hos,htp,hou,hsz,fun k hk=>hkeep k (Nat.lt_of_lt_of_le hk HBL.out.size) (by have:=HG.out;omega)⟩;have HB1:=Lib.hid hb1;have hgl1:g<w1.heap.size:=Nat.lt_of_lt_of_le hgl hsz;have HTr:=Lib.hid hTr;have HT:=Lib.hid hT;have HTl:=Lib.hid hTl;clear hTp hTs hTr hsz hos htp hou hkeep hT hTl hb1 HR HBL
    go_wp2_with fail
    rw [←HTl.out];refine(right_any _ cap T _ HTr.out.monos (by rw [HTl.out];omega)).mono ?_;rintro e w2 ⟨rfl,hb2⟩;have HB2:=Lib.hid (show Below w.heap.size w w2 from HB1.out.trans (hb2.mono HB1.out.size));have HTr2:=Lib.hid (show Row w2 g T from HTr.out.below hb2 hgl1);clear hb2 HB1 HTr;cases hrb:fF T
    ·go_wp2
     go_ret2
     have e:kR L=([],21):=by unfold kR;rw [←HT.out,hrb];rfl
     rw [e];exact⟨_,rfl,HB2.out,Res.nil _ _ _ _⟩
    ·go_wp2
     go_ret2
     have e:kR L=(T,0):=by unfold kR;rw [←HT.out,hrb];rfl
     rw [e];refine⟨_,rfl,HB2.out,some ⟨g,0,none⟩,cap,?_,.inr ⟨g,rfl,by have:=HG.out;omega,HTr2.out⟩⟩;simp [HTl.out]
  ·obtain⟨m,hk,hv,hp⟩:=left_step Hkv.out Hnd.out he;rw [hk,hv] at hn
   obtain⟨W1,hW1⟩: ∃W1,W1=setBlock w1 w.heap.size (.mapIter (some r) clock (seen.push e.born) clock):=⟨_,rfl⟩
   rw [←hW1] at hn;have hg1:wr.grownBy W1 (some w.heap.size):=by rw [hW1];exact bJi _ hw1
   have hit1:W1.heap[w.heap.size]?=some (.mapIter (some r) clock (seen.push e.born) clock):=by
    rw [hW1]
    have hlt:w.heap.size<w1.heap.size:=by
     have:=(Array.getElem?_eq_some_iff.1 hit).1
     rcases hw1 with rfl | rfl<;>exact this
    simp [setBlock,hlt]
   have hbr1:W1.heap[r]?=some (.map es clock):=(hg1.block r (Array.getElem?_eq_some_iff.1 hbr).1 (by intro h;injection h with h;omega)).trans hbr
   have hen:(Instr.entry (.pointer (some ⟨w.heap.size,0,none⟩))).run Tryz.prog W1= .ok (.tuple #[.agg #[.int .u8 m.e0.toNat,.int .u8 m.e1.toNat,.int .u8 m.e2.toNat,.int .u8 m.e3.toNat,.int .u8 m.e4.toNat,.int .u8 m.e5.toNat],.int .i64 m.n]) W1:=by
    have:=run_entry_at (P:=Tryz.prog) W1 w.heap.size r clock seen es clock e hit1 hbr1 (by
     have:=he;unfold leftOf at this;rw [Array.toList_filter] at this
     exact(List.mem_filter.1 this).1) Hnd.out
    rw [hk,hv] at this;exact this
   have Hown:=Lib.hid (owns_far hown hg1 (Nat.lt_succ_self _));have HBL:=Lib.hid (bDg hbl hg1 hbl.size (fun k hk=>by injection hk with hk;omega));have Hit:=Lib.hid hit1;have Hbr:=Lib.hid hbr1;have hl:es.toList.length=L.length:=by simpa using congrArg List.length Hkv.out
   have Hmes:=Lib.hid (show wr.rangeLeft r w.heap.size=(uQ (es.toList.zip L) (seen.push e.born)).length+1 by rw [left_eq hl hbr hit,hp.length_eq];rfl);have Hl:=Lib.hid hl
   have hCl:C.length≤1000000:=by
    have h1:=hperm.out.length_eq;have h2:=List.length_filter_le nz L;simp only [List.length_append] at h1;omega
   have Hp:=Lib.hid hp;clear hl hp;clear hW1 hg1 hit1 hbr1 hit hbr hown hbl hw1 he hk hv;have hbu:=bHj m
   by_cases hz:m.n=0
   ·have hz1:(m.n !=0)=false:=by simp [hz]
    have Hz:=Lib.hid hz;clear hz
    go_wp2
    have q1:(W1.alloc (.cells #[.int .u8 m.e0.toNat,.int .u8 m.e1.toNat,.int .u8 m.e2.toNat,.int .u8 m.e3.toNat,.int .u8 m.e4.toNat,.int .u8 m.e5.toNat] 72)).heap[w.heap.size]?=some (.mapIter (some r) clock (seen.push e.born) clock):=(Below.heap_alloc _ _ _ (Array.getElem?_eq_some_iff.1 Hit.out).1).trans Hit.out;have q2:(W1.alloc (.cells #[.int .u8 m.e0.toNat,.int .u8 m.e1.toNat,.int .u8 m.e2.toNat,.int .u8 m.e3.toNat,.int .u8 m.e4.toNat,.int .u8 m.e5.toNat] 72)).heap[r]?=some (.map es clock):=(Below.heap_alloc _ _ _ (Array.getElem?_eq_some_iff.1 Hbr.out).1).trans Hbr.out
    go_roundw
    case rel=>exact⟨seen.push e.born,C,q1,Hown.out.alloc _,perm_skip hperm.out Hp.out (by simp [nz,Hz.out]),HBL.out.alloc HBL.out.size _⟩
    case measure=>rw [left_eq Hl.out q2 q1,Hmes.out];omega
   ·have hz1:(m.n !=0)=true:=by simp [hz]
    clear hz;obtain⟨i0,hi0,hi1,hi2,hi3⟩:=info_parts info_mono
    go_wp2_with (at_builtin;refine wpList_append_own_at _ rfl (.tmp 16) (.tmp 20) 71 rfl (w.heap.size+1) 74 i0 _ 7 16 Tryz.underlying71 hi0 hi1 hi2 hi3 rfl (by decide) _ C.length (flat C) rfl ((Hown.out.alloc _).alloc _) ⟨W1.heap.size+1,0,none⟩ 1 1 m.cells rfl rfl ?hx ?h1 ?h2 ?h3 ?h4 ?_)
    case hx=>exact cells_at (by rw [←World.size_alloc];exact heap_alloc_new _ _)
    case h1=>exact bLo m
    case h2=>unfold maxLen;omega
    case h3=>omega
    case h4=>have:=HBL.out.size;simp;omega
    intro v' w2 hown2 hgrow2 _ _;have hs2:=HBL.out.size
    have e1:((W1.alloc (.cells #[.int .u8 m.e0.toNat,.int .u8 m.e1.toNat,.int .u8 m.e2.toNat,.int .u8 m.e3.toNat,.int .u8 m.e4.toNat,.int .u8 m.e5.toNat] 72)).alloc (.cells #[.int .i64 m.n,.int .u8 m.e0.toNat,.int .u8 m.e1.toNat,.int .u8 m.e2.toNat,.int .u8 m.e3.toNat,.int .u8 m.e4.toNat,.int .u8 m.e5.toNat] 74)).heap[w.heap.size]?=some (.mapIter (some r) clock (seen.push e.born) clock):=by
     rw [Below.heap_alloc _ _ _ (by have:=(Array.getElem?_eq_some_iff.1 Hit.out).1;simp;omega),Below.heap_alloc _ _ _ (Array.getElem?_eq_some_iff.1 Hit.out).1];exact Hit.out
    have e2:((W1.alloc (.cells #[.int .u8 m.e0.toNat,.int .u8 m.e1.toNat,.int .u8 m.e2.toNat,.int .u8 m.e3.toNat,.int .u8 m.e4.toNat,.int .u8 m.e5.toNat] 72)).alloc (.cells #[.int .i64 m.n,.int .u8 m.e0.toNat,.int .u8 m.e1.toNat,.int .u8 m.e2.toNat,.int .u8 m.e3.toNat,.int .u8 m.e4.toNat,.int .u8 m.e5.toNat] 74)).heap[r]?=some (.map es clock):=by
     rw [Below.heap_alloc _ _ _ (by have:=(Array.getElem?_eq_some_iff.1 Hbr.out).1;simp;omega),Below.heap_alloc _ _ _ (Array.getElem?_eq_some_iff.1 Hbr.out).1];exact Hbr.out
    have q1:w2.heap[w.heap.size]?=some (.mapIter (some r) clock (seen.push e.born) clock):=(hgrow2.block _ (Array.getElem?_eq_some_iff.1 e1).1 (own_ne Hown.out (Nat.lt_succ_self _))).trans e1;have q2:w2.heap[r]?=some (.map es clock):=(hgrow2.block _ (Array.getElem?_eq_some_iff.1 e2).1 (own_ne Hown.out (by omega))).trans e2;have hb2:Below w.heap.size w ((W1.alloc (.cells #[.int .u8 m.e0.toNat,.int .u8 m.e1.toNat,.int .u8 m.e2.toNat,.int .u8 m.e3.toNat,.int .u8 m.e4.toNat,.int .u8 m.e5.toNat] 72)).alloc (.cells #[.int .i64 m.n,.int .u8 m.e0.toNat,.int .u8 m.e1.toNat,.int .u8 m.e2.toNat,.int .u8 m.e3.toNat,.int .u8 m.e4.toNat,.int .u8 m.e5.toNat] 74)):=(HBL.out.alloc hs2 _).alloc (by simp;omega) _
    have hb3:Below w.heap.size w w2:=bDg hb2 hgrow2 hb2.size (fun k hk=>by
     have:=(World.ownsRow.lt Hown.out k hk).1
     omega)
    have Q1:=Lib.hid q1;have Q2:=Lib.hid q2
    have HO2:=Lib.hid (show bIc w2 (w.heap.size+1) v' (C++[m]) by
     have:=hown2;unfold bIc;rw [flat_snoc,List.length_append]
     exact this)
    have HB3:=Lib.hid hb3;clear e1 e2 q1 q2 hb2 hb3 hown2 hgrow2 Hown HBL Hit Hbr hs2 hi0 hi1 hi2 hi3 hbu hen hn
    go_wp2
    go_roundw
    case rel=>exact⟨seen.push e.born,C++[m],Q1.out,HO2.out,perm_take1 hperm.out Hp.out hz1,HB3.out⟩
    case measure=>rw [left_eq Hl.out Q2.out Q1.out,Hmes.out];omega
end Go.Proofs.YtbgdphbebhjpiaaGreatDoor
namespace Go.Proofs.YtbgdphbebhjpiaaGreatDoor
open Go.RowKit Go.Sort
set_option maxRecDepth 100000
open Go.ChangeMaps (setBlock)
def bDf (m:Mono)(v:Int)(L:List Mono):List Mono:=setTo m (wrap64 (xI m L+v)) L
def kG (g:Mono→Int):List Mono→List Mono→List Mono
 | L,[]=>L
 | L,m::p=>kG g (bDf m (g m) L) p
def cX (p q:List Mono)(s:Int):List Mono×Int:=if fF p&&fF q then kR (kG (fun m=>wrap64 (s*m.n)) (kG Mono.n [] p) q) else ([],20)
theorem mI.alloc{w:World}{r:Nat}{L:List Mono}(h:mI w r L)(o:Obj):mI (w.alloc o) r L:=by
 obtain⟨es,clock,hb,h1,h2,h3⟩:=h;exact⟨es,clock,(Below.heap_alloc _ _ _ (Array.getElem?_eq_some_iff.1 hb).1).trans hb,h1,h2,h3⟩
theorem mI.drew{w:World}{r:Nat}{L:List Mono}(h:mI w r L):mI w.drew r L:=h
theorem mI.new(w:World):mI (w.alloc (.map #[] 0)) w.heap.size []:=⟨#[],0,heap_alloc_new _ _,rfl,by simp,by simp⟩
theorem sameE_E{k m:Mono}:k.sameE m=true↔k.key=m.key:=by
 rw [key_E];simp [Mono.sameE,Mono.E]
theorem bLx{k y:Mono}{x:Int}: ∀{L:List Mono},y∈setTo k x L→y={k with n:=x}∨(y∈L)
 | [],h=>by simp [setTo] at h;exact .inl h
 | m::L,h=>by
  unfold setTo at h;split at h
  ·rcases List.mem_cons.1 h with h | h
   ·exact .inl h
   ·exact .inr (by simp [h])
  ·rcases List.mem_cons.1 h with h | h
   ·exact .inr (by simp [h])
   ·rcases bLx h with h | h
    ·exact .inl h
    ·exact .inr (by simp [h])
theorem wE(k:Mono)(x:Int): ∀{L:List Mono},nL L→nL (setTo k x L)
 | [],_=>by simp [setTo,nL]
 | m::L,h=>by
  obtain⟨h1,h2⟩:=List.pairwise_cons.1 h;unfold setTo;split
  ·rename_i hs;have e:k.key=m.key:=sameE_E.1 hs;refine List.pairwise_cons.2 ⟨fun y hy=>?_,h2⟩;show k.key≠y.key;rw [e];exact h1 y hy
  ·rename_i hs;refine List.pairwise_cons.2 ⟨fun y hy=>?_,wE k x h2⟩
   rcases bLx hy with rfl | hy
   ·intro e;exact hs (sameE_E.2 e.symm)
   ·exact h1 y hy
theorem tS(g:Mono→Int): ∀(p:List Mono) {L:List Mono},nL L→nL (kG g L p)
 | [],_,h=>h
 | m::p,_,h=>tS g p (wE m _ h)
theorem qI(k:Mono)(x:Int): ∀L:List Mono,(setTo k x L).length≤L.length+1
 | []=>by simp [setTo]
 | m::L=>by
  unfold setTo;split
  ·simp
  ·have:=qI k x L;simp;omega
theorem rB{B:Nat}{a w:World}{r:Nat}(h:Below B a w)(hB:B≤r)(o:Obj):Below B a (setBlock w r o):=
 ⟨h.os,h.tape,h.output,by
  have:=h.size
  simpa [setBlock] using this,fun i hi=>by
  have hne:r≠i:=by omega
  have:=h.block i hi;rw [←this]
  simp [setBlock,hne]⟩
set_option maxRecDepth 100000 in
set_option maxHeartbeats 1000000 in
theorem both_any(A B:Option Addr)(c d:Nat)(p q:List Mono)(s:Int)(w:World)(ha:jZ w A p)(hb:jZ w B q)(hp:p.length≤140737488355328)(hq:q.length≤140737488355328):
  Calls Tryz.prog 205 #[.slice A p.length c,.slice B q.length d,.int .i64 s] w (xP w (cX p q s)):=by
 have Ha:=Lib.hid ha;have Hb:=Lib.hid hb;clear ha hb;cases hrp:fF p
 ·have e:cX p q s=([],20):=by unfold cX;rw [hrp];rfl
  rw [e]
  go_enter Tryz.func205,Tryz.ntmps205
  go_wp2_with (go_at_call 26;refine(right_any A c p _ Ha.out hp).mono ?_;rintro e w1 ⟨rfl,hb1⟩)
  go_ret2
  exact⟨_,rfl,hb1,Res.nil _ _ _ _⟩
 ·cases hrq:fF q
  ·have e:cX p q s=([],20):=by unfold cX;rw [hrp,hrq];rfl
   rw [e]
   go_enter Tryz.func205,Tryz.ntmps205
   go_wp2_with fail
   refine(right_any A c p _ Ha.out hp).mono ?_;rintro e w1 ⟨rfl,hb1⟩;have H1:=Lib.hid hb1;clear hb1
   go_wp2_with fail
   refine(right_any B d q _ (Hb.out.below H1.out) hq).mono ?_;rintro e w2 ⟨rfl,hb2⟩;have H2:=Lib.hid (show Below w.heap.size w w2 from H1.out.trans (hb2.mono H1.out.size));clear hb2
   go_wp2
   go_ret2
   exact⟨_,rfl,H2.out,Res.nil _ _ _ _⟩
  ·have e:cX p q s=kR (kG (fun m=>wrap64 (s*m.n)) (kG Mono.n [] p) q):=by unfold cX;rw [hrp,hrq];rfl
   rw [e]
   have hp48:p.length≤48:=by
    unfold fF at hrp;simp at hrp;exact hrp.1
   have hq48:q.length≤48:=by
    unfold fF at hrq;simp at hrq;exact hrq.1
   have hmm:= @run_makeMap Tryz.prog
   go_enter Tryz.func205,Tryz.ntmps205
   go_wp2_with fail
   refine(right_any A c p _ Ha.out hp).mono ?_;rintro e w1 ⟨rfl,hb1⟩;have H1:=Lib.hid hb1;clear hb1
   go_wp2_with fail
   refine(right_any B d q _ (Hb.out.below H1.out) hq).mono ?_;rintro e w2 ⟨rfl,hb2⟩;have H2:=Lib.hid (show Below w.heap.size w w2 from H1.out.trans (hb2.mono H1.out.size));clear hb2 H1
   go_wp2
   generalize hr:w2.heap.size=r;have hrw:w.heap.size≤r:=by have:=H2.out.size;omega
   have hm0:mI (w2.alloc (.map #[] 0)) r []:=by rw [←hr];exact mI.new _
   have hb0:Below w.heap.size w (w2.alloc (.map #[] 0)):=H2.out.alloc H2.out.size _;have HM0:=Lib.hid hm0;have HB0:=Lib.hid hb0;clear hm0 hb0 hr H2
   go_loopw [24] (fun i wr=> ∃(k:Nat) (L:List Mono),k≤p.length∧i= .int .i64 k∧mI wr r L∧L.length≤k∧Hid (kG Mono.n [] p=kG Mono.n L (p.drop k))∧Below w.heap.size w wr) (fun i _=>p.length-(intOf i).toNat)
   case atStart=>exact⟨0,[],Nat.zero_le _,rfl,HM0.out,by simp,rfl,HB0.out⟩
   case round=>
    obtain⟨k,L,hk,rfl,hm,hLk,hL,hbl⟩:=hrel;have HM:=Lib.hid hm;clear hm
    by_cases hlt:k<p.length
    ·obtain⟨m,hm,dm⟩:=mC hlt;obtain⟨b,o,rfl,hB,c0,c1,c2,c3,c4,c5,c6⟩:=Ha.out.below hbl k m hm;have q0:gD (wr.alloc (.cells #[.int .i64 m.n,.int .u8 m.e0.toNat,.int .u8 m.e1.toNat,.int .u8 m.e2.toNat,.int .u8 m.e3.toNat,.int .u8 m.e4.toNat,.int .u8 m.e5.toNat] 74)) wr.heap.size 0 m:=by simp [gD,go_sem]
     have Q0:=Lib.hid q0;have HM1:=Lib.hid (HM.out.alloc (.cells #[.int .i64 m.n,.int .u8 m.e0.toNat,.int .u8 m.e1.toNat,.int .u8 m.e2.toNat,.int .u8 m.e3.toNat,.int .u8 m.e4.toNat,.int .u8 m.e5.toNat] 74));have HB1:=Lib.hid (hbl.alloc hbl.size (.cells #[.int .i64 m.n,.int .u8 m.e0.toNat,.int .u8 m.e1.toNat,.int .u8 m.e2.toNat,.int .u8 m.e3.toNat,.int .u8 m.e4.toNat,.int .u8 m.e5.toNat] 74));have HL:=Lib.hid (show kG Mono.n [] p=kG Mono.n (bDf m m.n L) (p.drop (k+1)) by rw [hL.out,dm,kG]);clear q0 hm dm hB HM hL
     go_wp2
     clear c0 c1 c2 c3 c4 c5 c6;generalize hb:wr.heap.size=X at Q0⊢;generalize wr.alloc (.cells #[.int .i64 m.n,.int .u8 m.e0.toNat,.int .u8 m.e1.toNat,.int .u8 m.e2.toNat,.int .u8 m.e3.toNat,.int .u8 m.e4.toNat,.int .u8 m.e5.toNat] 74)=W0 at Q0 HM1 HB1⊢;clear hb hbl;obtain⟨q0,q1,q2,q3,q4,q5,q6⟩:=Q0.out.zero;have hlk:=lL m HM1.out.drew;obtain⟨v0,st,w3,w4,hme,hlk1,hes,hm4,o4,hw4⟩:=vR m (wrap64 (xI m L+m.n)) HM1.out.drew;have HM4:=Lib.hid hm4;have HB4:=Lib.hid (show Below w.heap.size w w4 by rw [hw4];exact rB HB1.out.drew hrw _);clear hm4 hw4 HM1 HB1 Q0
     go_region
     clear hlk hme hlk1 hes q0 q1 q2 q3 q4 q5 q6
     go_wp2
     go_roundw
     case rel=>exact⟨k+1,bDf m m.n L,by omega,by go_num,HM4.out,Nat.le_trans (qI _ _ _) (by omega),HL,HB4.out⟩
     case measure=>simp [intOf];omega
    ·have HL:=Lib.hid (show kG Mono.n [] p=L by rw [hL.out,List.drop_of_length_le (by omega),kG]);have hLk':L.length≤48:=by omega
     have HBL:=Lib.hid hbl;clear hL hbl
     go_wp2
     go_loopw [40] (fun i wr=> ∃(k:Nat) (T:List Mono),k≤q.length∧i= .int .i64 k∧mI wr r T∧T.length≤48+k∧Hid (kG (fun m=>wrap64 (s*m.n)) L q=kG (fun m=>wrap64 (s*m.n)) T (q.drop k))∧Below w.heap.size w wr) (fun i _=>q.length-(intOf i).toNat)
     case atStart=>exact⟨0,L,Nat.zero_le _,rfl,HM.out,by omega,rfl,HBL.out⟩
     case round=>
      obtain⟨j,T,hj,rfl,hm,hTk,hT,hbl⟩:=hrel;have HMT:=Lib.hid hm;clear hm HM HBL
      by_cases hlt2:j<q.length
      ·obtain⟨m,hm,dm⟩:=mC hlt2;obtain⟨b,o,rfl,hB,c0,c1,c2,c3,c4,c5,c6⟩:=Hb.out.below hbl j m hm;have q0:gD (wr.alloc (.cells #[.int .i64 m.n,.int .u8 m.e0.toNat,.int .u8 m.e1.toNat,.int .u8 m.e2.toNat,.int .u8 m.e3.toNat,.int .u8 m.e4.toNat,.int .u8 m.e5.toNat] 74)) wr.heap.size 0 m:=by simp [gD,go_sem]
       have Q0:=Lib.hid q0;have HM1:=Lib.hid (HMT.out.alloc (.cells #[.int .i64 m.n,.int .u8 m.e0.toNat,.int .u8 m.e1.toNat,.int .u8 m.e2.toNat,.int .u8 m.e3.toNat,.int .u8 m.e4.toNat,.int .u8 m.e5.toNat] 74));have HB1:=Lib.hid (hbl.alloc hbl.size (.cells #[.int .i64 m.n,.int .u8 m.e0.toNat,.int .u8 m.e1.toNat,.int .u8 m.e2.toNat,.int .u8 m.e3.toNat,.int .u8 m.e4.toNat,.int .u8 m.e5.toNat] 74));have HT:=Lib.hid (show kG (fun m=>wrap64 (s*m.n)) L q=kG (fun m=>wrap64 (s*m.n)) (bDf m (wrap64 (s*m.n)) T) (q.drop (j+1)) by rw [hT.out,dm,kG]);clear q0 hm dm hB HMT hT
       go_wp2
       clear c0 c1 c2 c3 c4 c5 c6;generalize hb:wr.heap.size=X at Q0⊢;generalize wr.alloc (.cells #[.int .i64 m.n,.int .u8 m.e0.toNat,.int .u8 m.e1.toNat,.int .u8 m.e2.toNat,.int .u8 m.e3.toNat,.int .u8 m.e4.toNat,.int .u8 m.e5.toNat] 74)=W0 at Q0 HM1 HB1⊢;clear hb hbl;obtain⟨q0,q1,q2,q3,q4,q5,q6⟩:=Q0.out.zero;have hlk:=lL m HM1.out.drew;obtain⟨v0,st,w3,w4,hme,hlk1,hes,hm4,o4,hw4⟩:=vR m (wrap64 (xI m T+wrap64 (s*m.n))) HM1.out.drew;have HM4:=Lib.hid hm4;have HB4:=Lib.hid (show Below w.heap.size w w4 by rw [hw4];exact rB HB1.out.drew hrw _);clear hm4 hw4 HM1 HB1 Q0
       go_region
       clear hlk hme hlk1 hes q0 q1 q2 q3 q4 q5 q6
       go_wp2
       go_roundw
       case rel=>exact⟨j+1,bDf m (wrap64 (s*m.n)) T,by omega,by go_num,HM4.out,Nat.le_trans (qI _ _ _) (by omega),HT,HB4.out⟩
       case measure=>simp [intOf];omega
      ·have HT:=Lib.hid (show kG (fun m=>wrap64 (s*m.n)) (kG Mono.n [] p) q=T by rw [HL.out,hT.out,List.drop_of_length_le (by omega),kG]);have HBL:=Lib.hid hbl;have hT96:T.length≤1000000:=by omega
       clear hT hbl HL
       go_wp2_with fail
       refine(listed_any r T _ HMT.out (by rw [←HT.out];exact tS _ _ (tS _ _ List.Pairwise.nil)) hT96).mono ?_;rintro e w5 ⟨v,rfl,hb5,hv⟩;have HV:=Lib.hid (hv.mono HBL.out.size);have HB5:=Lib.hid (HBL.out.trans (hb5.mono HBL.out.size));clear hb5 hv
       go_wp2
       go_ret2
       rw [HT.out];exact⟨_,rfl,HB5.out,HV.out⟩
end Go.Proofs.YtbgdphbebhjpiaaGreatDoor
namespace Go.Proofs.YtbgdphbebhjpiaaGreatDoor
open Go.RowKit Go.Sort
set_option maxRecDepth 100000
open Go.ChangeMaps (setBlock)
def mulM (a b:Mono):Mono:=⟨wrap64 (a.n*b.n),a.e0+b.e0,a.e1+b.e1,a.e2+b.e2,a.e3+b.e3,a.e4+b.e4,a.e5+b.e5⟩
def sI (a:Mono):List Mono→List Mono→List Mono
 | L,[]=>L
 | L,b::q=>sI a (bDf (mulM a b) (wrap64 (a.n*b.n)) L) q
def oX (q:List Mono):List Mono→List Mono→List Mono
 | L,[]=>L
 | L,a::p=>oX q (sI a L q) p
def pP (p q:List Mono):List Mono×Int:=if fF p&&fF q then kR (oX q [] p) else ([],20)
theorem zI(a:Mono): ∀(q:List Mono) {L:List Mono},nL L→nL (sI a L q)
 | [],_,h=>h
 | _::q,_,h=>zI a q (wE _ _ h)
theorem zY(q:List Mono): ∀(p:List Mono) {L:List Mono},nL L→nL (oX q L p)
 | [],_,h=>h
 | a::p,_,h=>zY q p (zI a q h)
theorem gD.setBlock_far{w:World}{b o r:Nat}{m:Mono}(h:gD w b o m)(hne:b≠r)(x:Obj):gD (setBlock w r x) b o m:=by
 have hc: ∀o',(setBlock w r x).cell? ⟨b,o',none⟩=w.cell? ⟨b,o',none⟩:=fun o'=>by
  have:(w.heap.setIfInBounds r x)[b]?=w.heap[b]?:=by simp [Ne.symm hne]
  simp only [World.cell?,setBlock,this]
 obtain⟨h0,h1,h2,h3,h4,h5,h6⟩:=h;exact⟨(hc _).trans h0,(hc _).trans h1,(hc _).trans h2,(hc _).trans h3,(hc _).trans h4,(hc _).trans h5,(hc _).trans h6⟩
theorem gD.lt{w:World}{b o:Nat}{m:Mono}(h:gD w b o m):b<w.heap.size:=by
 rcases Nat.lt_or_ge b w.heap.size with hlt | hge
 ·exact hlt
 ·have:=h.1;simp [World.cell?,Array.getElem?_eq_none hge] at this
theorem bCh(a b:UInt8):((a.toNat:Int)+(b.toNat:Int))%256=((a+b).toNat:Int):=by
 rw [UInt8.toNat_add];omega
def ExpAt (w:World)(b:Nat)(m:Mono):Prop:=
 w.cell? ⟨b,0,none⟩=some (.int .u8 m.e0.toNat)∧w.cell? ⟨b,1,none⟩=some (.int .u8 m.e1.toNat)∧w.cell? ⟨b,2,none⟩=some (.int .u8 m.e2.toNat)∧
 w.cell? ⟨b,3,none⟩=some (.int .u8 m.e3.toNat)∧w.cell? ⟨b,4,none⟩=some (.int .u8 m.e4.toNat)∧w.cell? ⟨b,5,none⟩=some (.int .u8 m.e5.toNat)
set_option maxRecDepth 100000 in
set_option maxHeartbeats 2000000 in
theorem mul_any(A B:Option Addr)(c d:Nat)(p q:List Mono)(w:World)(ha:jZ w A p)(hb:jZ w B q)(hp:p.length≤140737488355328)(hq:q.length≤140737488355328):
  Calls Tryz.prog 141 #[.slice A p.length c,.slice B q.length d] w (xP w (pP p q)):=by
 have Ha:=Lib.hid ha;have Hb:=Lib.hid hb;clear ha hb;cases hrp:fF p
 ·have e:pP p q=([],20):=by unfold pP;rw [hrp];rfl
  rw [e]
  go_enter Tryz.func141,Tryz.ntmps141
  go_wp2_with (go_at_call 26;refine(right_any A c p _ Ha.out hp).mono ?_;rintro e w1 ⟨rfl,hb1⟩)
  go_ret2
  exact⟨_,rfl,hb1,Res.nil _ _ _ _⟩
 ·cases hrq:fF q
  ·have e:pP p q=([],20):=by unfold pP;rw [hrp,hrq];rfl
   rw [e]
   go_enter Tryz.func141,Tryz.ntmps141
   go_wp2_with fail
   refine(right_any A c p _ Ha.out hp).mono ?_;rintro e w1 ⟨rfl,hb1⟩;have H1:=Lib.hid hb1;clear hb1
   go_wp2_with fail
   refine(right_any B d q _ (Hb.out.below H1.out) hq).mono ?_;rintro e w2 ⟨rfl,hb2⟩;have H2:=Lib.hid (show Below w.heap.size w w2 from H1.out.trans (hb2.mono H1.out.size));clear hb2
   go_wp2
   go_ret2
   exact⟨_,rfl,H2.out,Res.nil _ _ _ _⟩
  ·have e:pP p q=kR (oX q [] p):=by unfold pP;rw [hrp,hrq];rfl
   rw [e]
   have hp48:p.length≤48:=by
    unfold fF at hrp;simp at hrp;exact hrp.1
   have hq48:q.length≤48:=by
    unfold fF at hrq;simp at hrq;exact hrq.1
   have hmm:= @run_makeMap Tryz.prog
   go_enter Tryz.func141,Tryz.ntmps141
   go_wp2_with fail
   refine(right_any A c p _ Ha.out hp).mono ?_;rintro e w1 ⟨rfl,hb1⟩;have H1:=Lib.hid hb1;clear hb1
   go_wp2_with fail
   refine(right_any B d q _ (Hb.out.below H1.out) hq).mono ?_;rintro e w2 ⟨rfl,hb2⟩;have H2:=Lib.hid (show Below w.heap.size w w2 from H1.out.trans (hb2.mono H1.out.size));clear hb2 H1
   go_wp2
   generalize hr:w2.heap.size=r;have hrw:w.heap.size≤r:=by have:=H2.out.size;omega
   have hm0:mI (w2.alloc (.map #[] 0)) r []:=by rw [←hr];exact mI.new _
   have hb0:Below w.heap.size w (w2.alloc (.map #[] 0)):=H2.out.alloc H2.out.size _;have HM0:=Lib.hid hm0;have HB0:=Lib.hid hb0;clear hm0 hb0 hr H2
   go_loopw [24] (fun i wr=> ∃(k:Nat) (L:List Mono),k≤p.length∧i= .int .i64 k∧mI wr r L∧L.length≤k*48∧Hid (oX q [] p=oX q L (p.drop k))∧Below w.heap.size w wr) (fun i _=>p.length-(intOf i).toNat)
   case atStart=>exact⟨0,[],Nat.zero_le _,rfl,HM0.out,by simp,rfl,HB0.out⟩
   case round=>
    obtain⟨k,L,hk,rfl,hm,hLk,hL,hbl⟩:=hrel;have HM:=Lib.hid hm;clear hm
    by_cases hlt:k<p.length
    ·obtain⟨a,hm,dm⟩:=mC hlt;obtain⟨b,o,rfl,hB,c0,c1,c2,c3,c4,c5,c6⟩:=Ha.out.below hbl k a hm;have q0:gD (wr.alloc (.cells #[.int .i64 a.n,.int .u8 a.e0.toNat,.int .u8 a.e1.toNat,.int .u8 a.e2.toNat,.int .u8 a.e3.toNat,.int .u8 a.e4.toNat,.int .u8 a.e5.toNat] 74)) wr.heap.size 0 a:=by simp [gD,go_sem]
     have hrx:r<wr.heap.size:=by obtain⟨es,cl,h,_⟩:=HM.out;exact(Array.getElem?_eq_some_iff.1 h).1
     have Q0:=Lib.hid q0;have HM1:=Lib.hid (HM.out.alloc (.cells #[.int .i64 a.n,.int .u8 a.e0.toNat,.int .u8 a.e1.toNat,.int .u8 a.e2.toNat,.int .u8 a.e3.toNat,.int .u8 a.e4.toNat,.int .u8 a.e5.toNat] 74));have HB1:=Lib.hid (hbl.alloc hbl.size (.cells #[.int .i64 a.n,.int .u8 a.e0.toNat,.int .u8 a.e1.toNat,.int .u8 a.e2.toNat,.int .u8 a.e3.toNat,.int .u8 a.e4.toNat,.int .u8 a.e5.toNat] 74));have HL:=Lib.hid (show oX q [] p=oX q (sI a L q) (p.drop (k+1)) by rw [hL.out,dm,oX]);clear q0 hm dm hB HM hL
     go_wp2
     clear c0 c1 c2 c3 c4 c5 c6;generalize wr.heap.size=X at Q0 hrx⊢;generalize wr.alloc (.cells #[.int .i64 a.n,.int .u8 a.e0.toNat,.int .u8 a.e1.toNat,.int .u8 a.e2.toNat,.int .u8 a.e3.toNat,.int .u8 a.e4.toNat,.int .u8 a.e5.toNat] 74)=W0 at Q0 HM1 HB1⊢;clear hbl
     go_loopw [30] (fun i wi=> ∃(j:Nat) (T:List Mono),j≤q.length∧i= .int .i64 j∧mI wi r T∧T.length≤k*48+j∧Hid (sI a L q=sI a T (q.drop j))∧Below w.heap.size w wi∧gD wi X 0 a) (fun i _=>q.length-(intOf i).toNat)
     case atStart=>exact⟨0,L,Nat.zero_le _,rfl,HM1.out,by omega,rfl,HB1.out,Q0.out⟩
     case round=>
      obtain⟨j,T,hj,rfl,hm,hTk,hT,hbl,ha0⟩:=hrel;have HMT:=Lib.hid hm;have HA0:=Lib.hid ha0;clear hm ha0 HM1 HB1 Q0
      by_cases hlt2:j<q.length
      ·obtain⟨b',hm,dm⟩:=mC hlt2;obtain⟨g,o',rfl,hB,d0,d1,d2,d3,d4,d5,d6⟩:=Hb.out.below hbl j b' hm;obtain⟨a0,a1,a2,a3,a4,a5,a6⟩:=HA0.out.zero;have hX:X<wr.heap.size:=gD.lt HA0.out
       obtain⟨t,ht⟩: ∃t,t=mulM a b':=⟨_,rfl⟩
       have HT:=Lib.hid (show sI a L q=sI a (bDf t (wrap64 (a.n*b'.n)) T) (q.drop (j+1)) by rw [hT.out,dm,sI,ht]);have s0:((a.e0.toNat:Int)+(b'.e0.toNat:Int))%256=(t.e0.toNat:Int):=by rw [ht];exact bCh a.e0 b'.e0
       have s1:((a.e1.toNat:Int)+(b'.e1.toNat:Int))%256=(t.e1.toNat:Int):=by rw [ht];exact bCh a.e1 b'.e1
       have s2:((a.e2.toNat:Int)+(b'.e2.toNat:Int))%256=(t.e2.toNat:Int):=by rw [ht];exact bCh a.e2 b'.e2
       have s3:((a.e3.toNat:Int)+(b'.e3.toNat:Int))%256=(t.e3.toNat:Int):=by rw [ht];exact bCh a.e3 b'.e3
       have s4:((a.e4.toNat:Int)+(b'.e4.toNat:Int))%256=(t.e4.toNat:Int):=by rw [ht];exact bCh a.e4 b'.e4
       have s5:((a.e5.toNat:Int)+(b'.e5.toNat:Int))%256=(t.e5.toNat:Int):=by rw [ht];exact bCh a.e5 b'.e5
       have S0:=Lib.hid s0;have S1:=Lib.hid s1;have S2:=Lib.hid s2;have S3:=Lib.hid s3;have S4:=Lib.hid s4;have S5:=Lib.hid s5;have HBL:=Lib.hid hbl;clear hm dm hT ht s0 s1 s2 s3 s4 s5 hbl hB
       go_wp2
       clear d0 d1 d2 d3 d4 d5 d6;refine wp_loop_rounds 7 ?_;rw [rounds_succ]
       go_wp2
       go_region
       go_wp2
       rw [rounds_succ]
       go_wp2
       go_region
       go_wp2
       rw [rounds_succ]
       go_wp2
       go_region
       go_wp2
       rw [rounds_succ]
       go_wp2
       go_region
       go_wp2
       rw [rounds_succ]
       go_wp2
       go_region
       go_wp2
       rw [rounds_succ]
       go_wp2
       go_region
       go_wp2
       rw [rounds_succ]
       go_wp2
       rw [S0.out,S1.out,S2.out,S3.out,S4.out,S5.out];have kE:ExpAt ((wr.alloc (.cells #[.int .i64 b'.n,.int .u8 b'.e0.toNat,.int .u8 b'.e1.toNat,.int .u8 b'.e2.toNat,.int .u8 b'.e3.toNat,.int .u8 b'.e4.toNat,.int .u8 b'.e5.toNat] 74)).alloc (.cells #[.int .u8 t.e0.toNat,.int .u8 t.e1.toNat,.int .u8 t.e2.toNat,.int .u8 t.e3.toNat,.int .u8 t.e4.toNat,.int .u8 t.e5.toNat] 72)).drew.drew.drew.drew.drew.drew (wr.heap.size+1) t:=by simp [ExpAt,go_sem]
       have kB:gD ((wr.alloc (.cells #[.int .i64 b'.n,.int .u8 b'.e0.toNat,.int .u8 b'.e1.toNat,.int .u8 b'.e2.toNat,.int .u8 b'.e3.toNat,.int .u8 b'.e4.toNat,.int .u8 b'.e5.toNat] 74)).alloc (.cells #[.int .u8 t.e0.toNat,.int .u8 t.e1.toNat,.int .u8 t.e2.toNat,.int .u8 t.e3.toNat,.int .u8 t.e4.toNat,.int .u8 t.e5.toNat] 72)).drew.drew.drew.drew.drew.drew wr.heap.size 0 b':=by simp [gD,go_sem]
       have kX:Below wr.heap.size wr ((wr.alloc (.cells #[.int .i64 b'.n,.int .u8 b'.e0.toNat,.int .u8 b'.e1.toNat,.int .u8 b'.e2.toNat,.int .u8 b'.e3.toNat,.int .u8 b'.e4.toNat,.int .u8 b'.e5.toNat] 74)).alloc (.cells #[.int .u8 t.e0.toNat,.int .u8 t.e1.toNat,.int .u8 t.e2.toNat,.int .u8 t.e3.toNat,.int .u8 t.e4.toNat,.int .u8 t.e5.toNat] 72)).drew.drew.drew.drew.drew.drew:=by go_grown
       have kA:=HA0.out.below kX hX;have kM:mI ((wr.alloc (.cells #[.int .i64 b'.n,.int .u8 b'.e0.toNat,.int .u8 b'.e1.toNat,.int .u8 b'.e2.toNat,.int .u8 b'.e3.toNat,.int .u8 b'.e4.toNat,.int .u8 b'.e5.toNat] 74)).alloc (.cells #[.int .u8 t.e0.toNat,.int .u8 t.e1.toNat,.int .u8 t.e2.toNat,.int .u8 t.e3.toNat,.int .u8 t.e4.toNat,.int .u8 t.e5.toNat] 72)).drew.drew.drew.drew.drew.drew r T:=(HMT.out.alloc _).alloc _;have kW:=HBL.out.trans (kX.mono HBL.out.size);have KE:=Lib.hid kE;have KB:=Lib.hid kB;have KA:=Lib.hid kA;have KM:=Lib.hid kM;have KW:=Lib.hid kW;clear kE kB kX kA kM kW a0 a1 a2 a3 a4 a5 a6 S0 S1 S2 S3 S4 S5 HMT HBL HA0 hX;generalize ((wr.alloc (.cells #[.int .i64 b'.n,.int .u8 b'.e0.toNat,.int .u8 b'.e1.toNat,.int .u8 b'.e2.toNat,.int .u8 b'.e3.toNat,.int .u8 b'.e4.toNat,.int .u8 b'.e5.toNat] 74)).alloc (.cells #[.int .u8 t.e0.toNat,.int .u8 t.e1.toNat,.int .u8 t.e2.toNat,.int .u8 t.e3.toNat,.int .u8 t.e4.toNat,.int .u8 t.e5.toNat] 72)).drew.drew.drew.drew.drew.drew=W5 at KE KB KA KM KW⊢;generalize wr.heap.size=Y at KE KB⊢;obtain⟨x0,x1,x2,x3,x4,x5⟩:=KE.out;obtain⟨y0,y1,y2,y3,y4,y5,y6⟩:=KB.out.zero;obtain⟨z0,z1,z2,z3,z4,z5,z6⟩:=KA.out.zero;have hlk:=lL t KM.out.drew;obtain⟨v0,st,w3,w4,hme,hlk1,hes,hm4,o4,hw4⟩:=vR t (wrap64 (xI t T+wrap64 (a.n*b'.n))) KM.out.drew;have HM4:=Lib.hid hm4;have HB4:=Lib.hid (show Below w.heap.size w w4 by rw [hw4];exact rB KW.out.drew hrw _);have HA4:=Lib.hid (show gD w4 X 0 a by rw [hw4];exact gD.setBlock_far (show gD W5.drew X 0 a from KA.out) (by omega) _);clear hm4 hw4 KE KB KA KM KW
       go_region
       clear hlk hme hlk1 hes x0 x1 x2 x3 x4 x5 y0 y1 y2 y3 y4 y5 y6 z0 z1 z2 z3 z4 z5 z6
       go_wp2
       go_roundw
       case rel=>exact⟨j+1,bDf t (wrap64 (a.n*b'.n)) T,by omega,by go_num,HM4.out,Nat.le_trans (qI _ _ _) (by omega),HT,HB4.out,HA4.out⟩
       case measure=>simp [intOf];omega
      ·have HT:=Lib.hid (show oX q [] p=oX q T (p.drop (k+1)) by rw [HL.out,hT.out,List.drop_of_length_le (by omega),sI]);have HBL:=Lib.hid hbl;have hT2:T.length≤(k+1)*48:=by omega
       clear hT hbl HL HA0
       go_wp2
       go_roundw
       case rel=>exact⟨k+1,T,by omega,by go_num,HMT.out,hT2,HT,HBL.out⟩
       case measure=>simp [intOf];omega
    ·have HT:=Lib.hid (show oX q [] p=L by rw [hL.out,List.drop_of_length_le (by omega),oX]);have HBL:=Lib.hid hbl;have hT96:L.length≤1000000:=by omega
     clear hL hbl
     go_wp2_with fail
     refine(listed_any r L _ HM.out (by rw [←HT.out];exact zY _ _ List.Pairwise.nil) hT96).mono ?_;rintro e w5 ⟨v,rfl,hb5,hv⟩;have HV:=Lib.hid (hv.mono HBL.out.size);have HB5:=Lib.hid (HBL.out.trans (hb5.mono HBL.out.size));clear hb5 hv
     go_wp2
     go_ret2
     rw [HT.out];exact⟨_,rfl,HB5.out,HV.out⟩
end Go.Proofs.YtbgdphbebhjpiaaGreatDoor
namespace Go.Proofs.YtbgdphbebhjpiaaGreatDoor
open Go.RowKit Go.Sort
set_option maxRecDepth 100000
def num0 (n:Int):Mono:=⟨n,0,0,0,0,0,0⟩
def iL (n:Int):List Mono×Int:=if n=0 then ([],0) else if 16777216<n∨n< -16777216 then ([],21) else ([num0 n],0)
def varM (k:Nat):Mono:=⟨1,if k=0 then 1 else 0,if k=1 then 1 else 0,if k=2 then 1 else 0,if k=3 then 1 else 0,if k=4 then 1 else 0,if k=5 then 1 else 0⟩
def tE (k:Int):List Mono×Int:=if k<0∨6≤k then ([],23) else ([varM k.toNat],0)
theorem xN(n:Int)(w:World):(Instr.build 74 #[(0,.int .i64 n)]).run Tryz.prog w= .ok (.agg #[.int .i64 n,.int .u8 0,.int .u8 0,.int .u8 0,.int .u8 0,.int .u8 0,.int .u8 0]) w:=run_build w _ _ _ (by kernel_rfl)
theorem res_one(w:World)(m:Mono):Res w.heap.size (w.alloc (.cells #[.int .i64 m.n,.int .u8 m.e0.toNat,.int .u8 m.e1.toNat,.int .u8 m.e2.toNat,.int .u8 m.e3.toNat,.int .u8 m.e4.toNat,.int .u8 m.e5.toNat] 74)) (.slice (some ⟨w.heap.size,0,none⟩) 1 1) [m]:=by
 refine⟨_,1,rfl,.inr ⟨w.heap.size,rfl,Nat.le_refl _,?_⟩⟩
 have h:bIc (w.alloc (.cells #[.int .i64 m.n,.int .u8 m.e0.toNat,.int .u8 m.e1.toNat,.int .u8 m.e2.toNat,.int .u8 m.e3.toNat,.int .u8 m.e4.toNat,.int .u8 m.e5.toNat] 74)) w.heap.size (.slice (some ⟨w.heap.size,0,none⟩) [m].length 1) [m]:=
  ⟨rfl,.inr ⟨w.heap.size,1,#[.int .i64 m.n,.int .u8 m.e0.toNat,.int .u8 m.e1.toNat,.int .u8 m.e2.toNat,.int .u8 m.e3.toNat,.int .u8 m.e4.toNat,.int .u8 m.e5.toNat],rfl,Nat.le_refl _,heap_alloc_new _ _,Nat.le_refl _,by simp [maxLen],rfl,rfl⟩⟩
 exact h.row
theorem bCo{W:World}{B g:Nat}{m:Mono}(hg:W.heap[g]?=some (.cells #[.int .i64 m.n,.int .u8 m.e0.toNat,.int .u8 m.e1.toNat,.int .u8 m.e2.toNat,.int .u8 m.e3.toNat,.int .u8 m.e4.toNat,.int .u8 m.e5.toNat] 74))(hB:B≤g):Res B W (.slice (some ⟨g,0,none⟩) 1 1) [m]:=by
 refine⟨_,1,rfl,.inr ⟨g,rfl,hB,?_⟩⟩
 have h:bIc W B (.slice (some ⟨g,0,none⟩) [m].length 1) [m]:=⟨rfl,.inr ⟨g,1,#[.int .i64 m.n,.int .u8 m.e0.toNat,.int .u8 m.e1.toNat,.int .u8 m.e2.toNat,.int .u8 m.e3.toNat,.int .u8 m.e4.toNat,.int .u8 m.e5.toNat],rfl,hB,hg,Nat.le_refl _,by simp [maxLen],rfl,rfl⟩⟩
 exact h.row
set_option maxHeartbeats 400000 in
theorem const_any(n:Int)(w:World):Calls Tryz.prog 140 #[.int .i64 n] w (xP w (iL n)):=by
 have hbn:=xN
 by_cases h0:n=0
 ·have e:iL n=([],0):=by unfold iL;rw [if_pos h0]
  rw [e];subst h0
  go_enter Tryz.func140,Tryz.ntmps140
  go_wp2
  go_ret2
  exact⟨_,rfl,Below.refl _ _,Res.nil _ _ _ _⟩
 ·have h01:(n==0)=false:=by simpa using h0
  by_cases h1:16777216<n
  ·have e:iL n=([],21):=by unfold iL;rw [if_neg h0,if_pos (.inl h1)]
   rw [e];have h11:decide (16777216<n)=true:=by simpa using h1
   go_enter Tryz.func140,Tryz.ntmps140
   go_wp2
   go_ret2
   exact⟨_,rfl,Below.refl _ _,Res.nil _ _ _ _⟩
  ·have h11:decide (16777216<n)=false:=by simpa using h1
   by_cases h2:n< -16777216
   ·have e:iL n=([],21):=by unfold iL;rw [if_neg h0,if_pos (.inr h2)]
    rw [e];have h21:decide (n< -16777216)=true:=by simpa using h2
    go_enter Tryz.func140,Tryz.ntmps140
    go_wp2
    go_ret2
    exact⟨_,rfl,Below.refl _ _,Res.nil _ _ _ _⟩
   ·have e:iL n=([num0 n],0):=by unfold iL;rw [if_neg h0,if_neg (by omega)]
    rw [e];have h21:decide (n< -16777216)=false:=by simpa using h2
    go_enter Tryz.func140,Tryz.ntmps140
    go_wp2
    go_ret2
    exact⟨_,rfl,by go_grown,res_one w (num0 n)⟩
set_option maxHeartbeats 1000000 in
theorem var_any(k:Int)(w:World):Calls Tryz.prog 78 #[.int .i64 k] w (xP w (tE k)):=by
 have hbn:=xN
 by_cases h0:k<0
 ·have e:tE k=([],23):=by unfold tE;rw [if_pos (.inl h0)]
  rw [e];have h01:decide (k<0)=true:=by simpa using h0
  go_enter Tryz.func78,Tryz.ntmps78
  go_wp2
  go_ret2
  exact⟨_,rfl,Below.refl _ _,Res.nil _ _ _ _⟩
 ·by_cases h6:6≤k
  ·have e:tE k=([],23):=by unfold tE;rw [if_pos (.inr h6)]
   rw [e];have h01:decide (k<0)=false:=by simpa using h0
   have h61:decide (6≤k)=true:=by simpa using h6
   go_enter Tryz.func78,Tryz.ntmps78
   go_wp2
   go_ret2
   exact⟨_,rfl,Below.refl _ _,Res.nil _ _ _ _⟩
  ·have hk:k=0∨k=1∨k=2∨k=3∨k=4∨k=5:=by omega
   clear h0 h6
   rcases hk with rfl | rfl | rfl | rfl | rfl | rfl
   ·go_enter Tryz.func78,Tryz.ntmps78
    go_wp2
    go_ret2
    have hg:((w.alloc (.cells #[.int .i64 1,.int .u8 1,.int .u8 0,.int .u8 0,.int .u8 0,.int .u8 0,.int .u8 0] 74)).alloc (.cells #[.int .i64 1,.int .u8 1,.int .u8 0,.int .u8 0,.int .u8 0,.int .u8 0,.int .u8 0] 74)).heap[w.heap.size+1]?=some (.cells #[.int .i64 1,.int .u8 1,.int .u8 0,.int .u8 0,.int .u8 0,.int .u8 0,.int .u8 0] 74):=by rw [←World.size_alloc];exact heap_alloc_new _ _
    exact⟨_,rfl,by go_grown,bCo (m:=⟨1,1,0,0,0,0,0⟩) hg (by omega)⟩
   ·go_enter Tryz.func78,Tryz.ntmps78
    go_wp2
    go_ret2
    have hg:((w.alloc (.cells #[.int .i64 1,.int .u8 0,.int .u8 1,.int .u8 0,.int .u8 0,.int .u8 0,.int .u8 0] 74)).alloc (.cells #[.int .i64 1,.int .u8 0,.int .u8 1,.int .u8 0,.int .u8 0,.int .u8 0,.int .u8 0] 74)).heap[w.heap.size+1]?=some (.cells #[.int .i64 1,.int .u8 0,.int .u8 1,.int .u8 0,.int .u8 0,.int .u8 0,.int .u8 0] 74):=by rw [←World.size_alloc];exact heap_alloc_new _ _
    exact⟨_,rfl,by go_grown,bCo (m:=⟨1,0,1,0,0,0,0⟩) hg (by omega)⟩
   ·go_enter Tryz.func78,Tryz.ntmps78
    go_wp2
    go_ret2
    have hg:((w.alloc (.cells #[.int .i64 1,.int .u8 0,.int .u8 0,.int .u8 1,.int .u8 0,.int .u8 0,.int .u8 0] 74)).alloc (.cells #[.int .i64 1,.int .u8 0,.int .u8 0,.int .u8 1,.int .u8 0,.int .u8 0,.int .u8 0] 74)).heap[w.heap.size+1]?=some (.cells #[.int .i64 1,.int .u8 0,.int .u8 0,.int .u8 1,.int .u8 0,.int .u8 0,.int .u8 0] 74):=by rw [←World.size_alloc];exact heap_alloc_new _ _
    exact⟨_,rfl,by go_grown,bCo (m:=⟨1,0,0,1,0,0,0⟩) hg (by omega)⟩
   ·go_enter Tryz.func78,Tryz.ntmps78
    go_wp2
    go_ret2
    have hg:((w.alloc (.cells #[.int .i64 1,.int .u8 0,.int .u8 0,.int .u8 0,.int .u8 1,.int .u8 0,.int .u8 0] 74)).alloc (.cells #[.int .i64 1,.int .u8 0,.int .u8 0,.int .u8 0,.int .u8 1,.int .u8 0,.int .u8 0] 74)).heap[w.heap.size+1]?=some (.cells #[.int .i64 1,.int .u8 0,.int .u8 0,.int .u8 0,.int .u8 1,.int .u8 0,.int .u8 0] 74):=by rw [←World.size_alloc];exact heap_alloc_new _ _
    exact⟨_,rfl,by go_grown,bCo (m:=⟨1,0,0,0,1,0,0⟩) hg (by omega)⟩
   ·go_enter Tryz.func78,Tryz.ntmps78
    go_wp2
    go_ret2
    have hg:((w.alloc (.cells #[.int .i64 1,.int .u8 0,.int .u8 0,.int .u8 0,.int .u8 0,.int .u8 1,.int .u8 0] 74)).alloc (.cells #[.int .i64 1,.int .u8 0,.int .u8 0,.int .u8 0,.int .u8 0,.int .u8 1,.int .u8 0] 74)).heap[w.heap.size+1]?=some (.cells #[.int .i64 1,.int .u8 0,.int .u8 0,.int .u8 0,.int .u8 0,.int .u8 1,.int .u8 0] 74):=by rw [←World.size_alloc];exact heap_alloc_new _ _
    exact⟨_,rfl,by go_grown,bCo (m:=⟨1,0,0,0,0,1,0⟩) hg (by omega)⟩
   ·go_enter Tryz.func78,Tryz.ntmps78
    go_wp2
    go_ret2
    have hg:((w.alloc (.cells #[.int .i64 1,.int .u8 0,.int .u8 0,.int .u8 0,.int .u8 0,.int .u8 0,.int .u8 1] 74)).alloc (.cells #[.int .i64 1,.int .u8 0,.int .u8 0,.int .u8 0,.int .u8 0,.int .u8 0,.int .u8 1] 74)).heap[w.heap.size+1]?=some (.cells #[.int .i64 1,.int .u8 0,.int .u8 0,.int .u8 0,.int .u8 0,.int .u8 0,.int .u8 1] 74):=by rw [←World.size_alloc];exact heap_alloc_new _ _
    exact⟨_,rfl,by go_grown,bCo (m:=⟨1,0,0,0,0,0,1⟩) hg (by omega)⟩
set_option maxHeartbeats 400000 in
theorem add_any(A B:Option Addr)(c d:Nat)(p q:List Mono)(w:World)(ha:jZ w A p)(hb:jZ w B q)(hp:p.length≤140737488355328)(hq:q.length≤140737488355328):
  Calls Tryz.prog 149 #[.slice A p.length c,.slice B q.length d] w (xP w (cX p q 1)):=by
 have H:=Lib.hid (both_any A B c d p q 1 w ha hb hp hq);clear ha hb
 go_enter Tryz.func149,Tryz.ntmps149
 go_wp2_with fail
 refine H.out.mono ?_;rintro e w1 ⟨v,rfl,hb1,hv⟩;have HB:=Lib.hid hb1;have HV:=Lib.hid hv;clear hb1 hv
 go_wp2
 go_ret2
 exact⟨_,rfl,HB.out,HV.out⟩
set_option maxHeartbeats 400000 in
theorem sub_any(A B:Option Addr)(c d:Nat)(p q:List Mono)(w:World)(ha:jZ w A p)(hb:jZ w B q)(hp:p.length≤140737488355328)(hq:q.length≤140737488355328):
  Calls Tryz.prog 144 #[.slice A p.length c,.slice B q.length d] w (xP w (cX p q (-1))):=by
 have H:=Lib.hid (both_any A B c d p q (-1) w ha hb hp hq);clear ha hb
 go_enter Tryz.func144,Tryz.ntmps144
 go_wp2_with fail
 refine H.out.mono ?_;rintro e w1 ⟨v,rfl,hb1,hv⟩;have HB:=Lib.hid hb1;have HV:=Lib.hid hv;clear hb1 hv
 go_wp2
 go_ret2
 exact⟨_,rfl,HB.out,HV.out⟩
end Go.Proofs.YtbgdphbebhjpiaaGreatDoor
namespace Go.Proofs.YtbgdphbebhjpiaaGreatDoor
open Go.RowKit
set_option maxRecDepth 100000
def Mono.ex(m:Mono)(k:Nat):UInt8:=m.E.getD k 0
def jP (m:Mono)(D:Nat→Int):List (UInt8×Int):=[(m.e0,D 0),(m.e1,D 1),(m.e2,D 2),(m.e3,D 3),(m.e4,D 4),(m.e5,D 5)]
theorem bGd(m:Mono)(D:Nat→Int): ∀k,k<6→(jP m D).drop k=(m.ex k,D k)::(jP m D).drop (k+1)
 | 0,_=>rfl
 | 1,_=>rfl
 | 2,_=>rfl
 | 3,_=>rfl
 | 4,_=>rfl
 | 5,_=>rfl
 | k+6,h=>absurd h (by omega)
def oN (l:List (UInt8×Int)):Bool:=l.any fun x=>decide (0<x.1.toNat)&&x.2==0
def rL:Int:=4611686018427387904
def bEo (d:Int):Nat→Int→Option Int
 | 0,n=>some n
 | e+1,n=>if rL/d<n then none else bEo d e (n*d)
def yJ:List (UInt8×Int)→Int→Option Int
 | [],n=>some n
 | x::l,n=>(bEo x.2 x.1.toNat n).bind (yJ l)
def gT (m:Mono)(D:Nat→Int):Int×Bool:=
 if oN (jP m D) then (0,true) else match yJ (jP m D) (max m.n (-m.n)) with
 | some n=>(n,true)
 | none=>(0,false)
theorem index_E(m:Mono)(k:Nat)(hk:k<6)(w:World):(Instr.index 72 (.agg #[.int .u8 m.e0.toNat,.int .u8 m.e1.toNat,.int .u8 m.e2.toNat,.int .u8 m.e3.toNat,.int .u8 m.e4.toNat,.int .u8 m.e5.toNat]) (.int .i64 (k:Int))).run Tryz.prog w= .ok (.int .u8 ((m.ex k).toNat:Int)) w:=by
 rcases k with _ | _ | _ | _ | _ | _ | k
 ·kernel_rfl
 ·kernel_rfl
 ·kernel_rfl
 ·kernel_rfl
 ·kernel_rfl
 ·kernel_rfl
 ·omega
theorem zero_not{m:Mono}{D:Nat→Int}(h:oN (jP m D)=false): ∀k,k<6→0<(m.ex k).toNat→D k≠0:=by
 intro k hk he hd
 have h1:(m.ex k,D k)∈jP m D:=by
  have:=bGd m D k hk;exact List.mem_of_mem_drop (i:=k) (by rw [this];simp)
 have h2:oN (jP m D)=true:=List.any_eq_true.2 ⟨_,h1,by simp [he,hd]⟩;rw [h2] at h;cases h
def InV (x:Int):Prop:=0≤x∧x≤rL
theorem inV_mul{x d:Int}(hx:InV x)(hd:1≤d)(h: ¬rL/d<x):InV (x*d):=by
 obtain⟨h0,_⟩:=hx;refine⟨Int.mul_nonneg h0 (by omega),?_⟩;have h1:x≤rL/d:=by omega
 exact Int.le_trans (Int.mul_le_mul_of_nonneg_right h1 (by omega)) (Int.ediv_mul_le rL (by omega))
theorem wrap_inV{x:Int}(h:InV x):wrap64 x=x:=by
 obtain⟨h0,h1⟩:=h;unfold rL at h1;exact IntWalk.wrap64_in x ⟨by omega,by omega⟩
def SixAt (w:World)(b:Nat)(D:Nat→Int):Prop:= ∀k,k<6→w.cell? ⟨b,k,none⟩=some (.int .i64 (D k))
set_option maxRecDepth 100000 in
set_option maxHeartbeats 1000000 in
theorem value_any(m:Mono)(D:Nat→Int)(w:World)(hD: ∀k,0≤D k∧D k≤2147483648)(hn: -16777216≤m.n∧m.n≤16777216):
  Calls Tryz.prog 100 #[.agg #[.int .i64 m.n,.int .u8 m.e0.toNat,.int .u8 m.e1.toNat,.int .u8 m.e2.toNat,.int .u8 m.e3.toNat,.int .u8 m.e4.toNat,.int .u8 m.e5.toNat],.agg #[.int .i64 (D 0),.int .i64 (D 1),.int .i64 (D 2),.int .i64 (D 3),.int .i64 (D 4),.int .i64 (D 5)]] w fun e w'=>e= .returned (.tuple #[.int .i64 (gT m D).1,.bool (gT m D).2])∧Below w.heap.size w w':=by
 have HD:=Lib.hid hD;obtain⟨hn1,hn2⟩:=hn;clear hD
 go_enter Tryz.func100,Tryz.ntmps100
 go_wp2
 all_goals
  have q0:gD ((w.alloc (.cells #[.int .i64 m.n,.int .u8 m.e0.toNat,.int .u8 m.e1.toNat,.int .u8 m.e2.toNat,.int .u8 m.e3.toNat,.int .u8 m.e4.toNat,.int .u8 m.e5.toNat] 74)).alloc (.cells #[.int .i64 (D 0),.int .i64 (D 1),.int .i64 (D 2),.int .i64 (D 3),.int .i64 (D 4),.int .i64 (D 5)] 181)) w.heap.size 0 m:=by simp [gD,go_sem]
  have q1:SixAt ((w.alloc (.cells #[.int .i64 m.n,.int .u8 m.e0.toNat,.int .u8 m.e1.toNat,.int .u8 m.e2.toNat,.int .u8 m.e3.toNat,.int .u8 m.e4.toNat,.int .u8 m.e5.toNat] 74)).alloc (.cells #[.int .i64 (D 0),.int .i64 (D 1),.int .i64 (D 2),.int .i64 (D 3),.int .i64 (D 4),.int .i64 (D 5)] 181)) (w.heap.size+1) D:=by
   intro k hk
   rcases k with _ | _ | _ | _ | _ | _ | k
   all_goals first | omega | simp [go_sem]
  have q2:Below w.heap.size w ((w.alloc (.cells #[.int .i64 m.n,.int .u8 m.e0.toNat,.int .u8 m.e1.toNat,.int .u8 m.e2.toNat,.int .u8 m.e3.toNat,.int .u8 m.e4.toNat,.int .u8 m.e5.toNat] 74)).alloc (.cells #[.int .i64 (D 0),.int .i64 (D 1),.int .i64 (D 2),.int .i64 (D 3),.int .i64 (D 4),.int .i64 (D 5)] 181)):=by go_grown
  have Q0:=Lib.hid q0;have Q1:=Lib.hid q1;have Q2:=Lib.hid q2;clear q0 q1 q2;generalize ((w.alloc (.cells #[.int .i64 m.n,.int .u8 m.e0.toNat,.int .u8 m.e1.toNat,.int .u8 m.e2.toNat,.int .u8 m.e3.toNat,.int .u8 m.e4.toNat,.int .u8 m.e5.toNat] 74)).alloc (.cells #[.int .i64 (D 0),.int .i64 (D 1),.int .i64 (D 2),.int .i64 (D 3),.int .i64 (D 4),.int .i64 (D 5)] 181))=W0 at Q0 Q1 Q2⊢;generalize w.heap.size=X at Q0 Q1⊢
  go_loop [19] (fun i=> ∃k:Nat,k≤6∧i= .int .i64 k∧Hid (oN (jP m D)=oN ((jP m D).drop k))) (fun i=>6-(intOf i).toNat)
  case atStart=>exact⟨0,Nat.zero_le _,rfl,rfl⟩
  case round=>
   obtain⟨k,hk,rfl,hz⟩:=hrel
   by_cases hlt:k<6
   ·have hidx:=index_E m k hlt;have hc:W0.cell? ⟨X+1,k,none⟩=some (.int .i64 (D k)):=Q1.out k hlt;have hp:=bGd m D k hlt;have HZ:=Lib.hid (show oN (jP m D)=((decide (0<(m.ex k).toNat)&&D k==0) || oN ((jP m D).drop (k+1))) by rw [hz.out,hp];rfl);clear hp hz
    by_cases he:0<(m.ex k).toNat
    ·have he1:decide (0<(m.ex k).toNat)=true:=by simpa using he
     by_cases hd:D k=0
     ·have hd1:(D k==0)=true:=by simpa using hd
      have Hd:=Lib.hid hd;have HZ':=Lib.hid (show oN (jP m D)=true by rw [HZ.out,he1,hd1];rfl);clear hd HZ
      go_wp2
      go_ret2
      have e:gT m D=(0,true):=by unfold gT;rw [HZ'.out];rfl
      rw [e];exact⟨rfl,Q2.out⟩
     ·have hd1:(D k==0)=false:=by simpa using hd
      have HZ':=Lib.hid (show oN (jP m D)=oN ((jP m D).drop (k+1)) by rw [HZ.out,hd1,Bool.and_false,Bool.false_or]);clear hd HZ
      go_wp2
      go_round
      case rel=>exact⟨k+1,by omega,by go_num,HZ'⟩
      case measure=>simp [intOf];omega
    ·have he1:decide (0<(m.ex k).toNat)=false:=by simpa using he
     have HZ':=Lib.hid (show oN (jP m D)=oN ((jP m D).drop (k+1)) by rw [HZ.out,he1,Bool.false_and,Bool.false_or]);clear HZ
     go_wp2
     go_round
     case rel=>exact⟨k+1,by omega,by go_num,HZ'⟩
     case measure=>simp [intOf];omega
   ·have HZ:=Lib.hid (show oN (jP m D)=false by rw [hz.out,List.drop_of_length_le (by simp [jP];omega)];rfl);obtain⟨q0,q1,q2,q3,q4,q5,q6⟩:=Q0.out.zero;clear hz
    go_wp2
    clear q0 q1 q2 q3 q4 q5 q6
    go_loop [34,6] (fun i n=> ∃(k:Nat) (x:Int),k≤6∧i= .int .i64 k∧n= .int .i64 x∧InV x∧Hid (yJ (jP m D) (max m.n (-m.n))=yJ ((jP m D).drop k) x)) (fun i _=>6-(intOf i).toNat)
    case atStart=>exact⟨0,_,Nat.zero_le _,rfl,rfl,⟨by omega,by unfold rL;omega⟩,by show _=_;rw [List.drop_zero];try (congr 1;omega)⟩
    case round=>
     obtain⟨k2,x,hk2,rfl,rfl,hx,hmul⟩:=hrel;have HX:=Lib.hid hx;clear hx
     by_cases hlt2:k2<6
     ·have hidx:=index_E m k2 hlt2;have hc:W0.cell? ⟨X+1,k2,none⟩=some (.int .i64 (D k2)):=Q1.out k2 hlt2;have HM:=Lib.hid (show yJ (jP m D) (max m.n (-m.n))=(bEo (D k2) (m.ex k2).toNat x).bind (yJ ((jP m D).drop (k2+1))) by rw [hmul.out,bGd m D k2 hlt2];rfl);have hd:=HD.out k2;obtain⟨hd0,hd1⟩:=hd;have hu:=(m.ex k2).toNat_lt;have HNZ:=Lib.hid (zero_not HZ.out k2 hlt2);clear hmul;generalize m.ex k2=ee at hidx HM hu HNZ⊢
      go_wp2
      go_loop [39,6] (fun c n=> ∃(j:Nat) (y:Int),j≤ee.toNat∧c= .int .u8 j∧n= .int .i64 y∧InV y∧Hid (yJ (jP m D) (max m.n (-m.n))=(bEo (D k2) (ee.toNat-j) y).bind (yJ ((jP m D).drop (k2+1))))) (fun c _=>ee.toNat-(intOf c).toNat)
      case atStart=>exact⟨0,x,Nat.zero_le _,rfl,rfl,HX.out,HM⟩
      case round=>
       obtain⟨j,y,hj,rfl,rfl,hy,hpow⟩:=hrel;have HY:=Lib.hid hy;clear hy
       by_cases hlt3:j<ee.toNat
       ·have hd2:1≤D k2:=by have:=HNZ.out (by omega);omega
        have HP:=Lib.hid (show(bEo (D k2) (ee.toNat-j) y)=if rL/D k2<y then none else bEo (D k2) (ee.toNat-(j+1)) (y*D k2) by rw [show ee.toNat-j=(ee.toNat-(j+1))+1 by omega,bEo])
        by_cases hq:rL/D k2<y
        ·have hq1:decide (4611686018427387904/D k2<y)=true:=by simpa [rL] using hq
         go_wp2
         go_ret2
         have e:gT m D=(0,false):=by
          unfold gT;rw [HZ.out,hpow.out,HP.out,if_pos hq];rfl
         rw [e];exact⟨rfl,Q2.out⟩
        ·have hq1:decide (4611686018427387904/D k2<y)=false:=by simpa [rL] using hq
         have HY2:=Lib.hid (inV_mul HY.out hd2 hq);have hw:=wrap_inV HY2.out;have HP2:=Lib.hid (show yJ (jP m D) (max m.n (-m.n))=(bEo (D k2) (ee.toNat-(j+1)) (y*D k2)).bind (yJ ((jP m D).drop (k2+1))) by rw [hpow.out,HP.out,if_neg hq]);clear HP hpow
         go_wp2
         go_round
         case rel=>exact⟨j+1,y*D k2,by omega,by go_num,by rw [hw],HY2.out,HP2⟩
         case measure=>simp [intOf];omega
       ·have HP:=Lib.hid (show yJ (jP m D) (max m.n (-m.n))=yJ ((jP m D).drop (k2+1)) y by rw [hpow.out,show ee.toNat-j=0 by omega];rfl);clear hpow
        go_wp2
        go_round
        case rel=>exact⟨k2+1,y,by omega,by go_num,rfl,HY.out,HP⟩
        case measure=>simp [intOf];omega
     ·have e:gT m D=(x,true):=by
       unfold gT;rw [HZ.out,hmul.out,List.drop_of_length_le (by simp [jP];omega)];rfl
      have He:=Lib.hid e;clear e hmul
      go_wp2
      go_ret2
      rw [He.out];exact⟨rfl,Q2.out⟩
end Go.Proofs.YtbgdphbebhjpiaaGreatDoor
