/- Texts of one proof, one behind the other: Mono, Order, Plain, Sort, Same, Map, Own, Small, Right, Listed, Both, Mul, RunI, RunN, MixT. -/
import Derived.Test.YtnfiadlonjediaaGreatDoorM1
import Derived.Test.YtnfiadlonjediaaGreatDoorRows
import Derived.WalkKit
import Derived.WalkSpells
import Derived.WalkLawsBesides
import Derived.Handy
import Derived.Deep.QuietTactic
import Derived.Deep.Light
import Derived.BigQuiet
import Derived.Test.YtnfiadlonjediaaGreatDoorShelfP
import Derived.Shelf.SlSortCmp.NoneTotal
import Derived.ChangeKeysEq
import Derived.MapKept
import Derived.ChangeMaps5
import Derived.WideKeyEntry
import Derived.Maps.RangeRun
import Derived.Maps.AppendAt
import Derived.Maps.Range
import Derived.Laws.OwnMore
import Derived.Laws.Tables
import Derived.RegionTactic
import Derived.BigRegion
import Derived.Test.YtnfiadlonjediaaGreatDoorM5
import Derived.Test.YtnfiadlonjediaaGreatDoorM2
set_option maxRecDepth 100000
namespace Go.Proofs.YtnfiadlonjediaaGreatDoor
section
open Go.RowKit Go.Proofs.Tryz
structure Mono where
 n:Int
 e0:UInt8
 e1:UInt8
 e2:UInt8
 e3:UInt8
 e4:UInt8
 e5:UInt8
instance : Inhabited Mono := ⟨⟨0, 0, 0, 0, 0, 0, 0⟩⟩
def Mono.E(m:Mono):List UInt8:=[m.e0,m.e1,m.e2,m.e3,m.e4,m.e5]
def Mono.cells(m:Mono):List Value:=
 [.int .i64 m.n,.int .u8 m.e0.toNat,.int .u8 m.e1.toNat,.int .u8 m.e2.toNat,.int .u8 m.e3.toNat,.int .u8 m.e4.toNat,.int .u8 m.e5.toNat]
def Mono.val(m:Mono):Value:=
 .agg #[.int .i64 m.n,.int .u8 m.e0.toNat,.int .u8 m.e1.toNat,.int .u8 m.e2.toNat,.int .u8 m.e3.toNat,.int .u8 m.e4.toNat,.int .u8 m.e5.toNat]
theorem Mono.cells_length(m:Mono):m.cells.length=7:=rfl
def Mono.deg(m:Mono):Nat:=m.e0.toNat+m.e1.toNat+m.e2.toNat+m.e3.toNat+m.e4.toNat+m.e5.toNat
def ord (a b:Mono):Int:=Lib.compareBytes b.E a.E
def gU (m:Mono):Bool:=decide (m.n≠0/\m.n<=16777216/\ -16777216<=m.n/\m.deg<=8)
theorem wA(e:UInt8):(e.toNat:Int)<256:=by have:=e.toNat_lt;omega
def bPt (a b:Mono):Int:=Lib.compareBytes a.E b.E
theorem xF(a b:UInt8)(l m:List UInt8):Lib.compareBytes (a::l) (b::m)=if b.toNat<a.toNat then 1 else if a.toNat<b.toNat then-1 else Lib.compareBytes l m:=by
 rw[Lib.compareBytes];simp only[UInt8.lt_iff_toNat_lt]
 by_cases h:a.toNat<b.toNat
 .rw[if_pos h,if_neg k7,if_pos h]
 .rw[if_neg h]
  by_cases h':b.toNat<a.toNat
  .rw[if_pos h',if_pos h']
  .rw[if_neg h',if_neg h',if_neg h]
def fE (w:World)(b o:Nat)(m:Mono):Prop:=
 w.cell? ⟨b,o,none⟩=some (.int .i64 m.n)/\w.cell? ⟨b,o+1,none⟩=some (.int .u8 m.e0.toNat)/\w.cell? ⟨b,o+2,none⟩=some (.int .u8 m.e1.toNat)/\
 w.cell? ⟨b,o+3,none⟩=some (.int .u8 m.e2.toNat)/\w.cell? ⟨b,o+4,none⟩=some (.int .u8 m.e3.toNat)/\w.cell? ⟨b,o+5,none⟩=some (.int .u8 m.e4.toNat)/\
 w.cell? ⟨b,o+6,none⟩=some (.int .u8 m.e5.toNat)
def jY (w:World)(A:Option Addr)(l:List Mono):Prop:=
 ∀k m,l[k]?=some m-> ∃b o,A=some ⟨b,o,none⟩/\b<w.heap.size/\fE w b (o+k*7) m
theorem fE.below{w w':World}{B b o:Nat}{m:Mono}(h:fE w b o m)(hb:Below B w w')(hB:b<B):fE w' b o m:=by
 obtain⟨h0,h1,h2,h3,h4,h5,h6⟩:=h
 exact⟨(hb.cell (p:=⟨b,o,none⟩) hB).trans h0,(hb.cell (p:=⟨b,o+1,none⟩) hB).trans h1,(hb.cell (p:=⟨b,o+2,none⟩) hB).trans h2,(hb.cell (p:=⟨b,o+3,none⟩) hB).trans h3,
  (hb.cell (p:=⟨b,o+4,none⟩) hB).trans h4,(hb.cell (p:=⟨b,o+5,none⟩) hB).trans h5,(hb.cell (p:=⟨b,o+6,none⟩) hB).trans h6⟩
theorem jY.below{w w':World}{A:Option Addr}{l:List Mono}(h:jY w A l)(hb:Below w.heap.size w w'):jY w' A l:=λk m hk=>by
 obtain⟨b,o,e,hB,hm⟩:=h k m hk;exact⟨b,o,e,Nat.lt_of_lt_of_le hB hb.size,hm.below hb hB⟩
theorem jY.nil{w:World}{A:Option Addr}:jY w A []:=λk m h=>by simp at h
def Mono.eqB(a b:Mono):Bool:=a.n==b.n&&(a.e0==b.e0&&(a.e1==b.e1&&(a.e2==b.e2&&(a.e3==b.e3&&(a.e4==b.e4&&a.e5==b.e5)))))
theorem Mono.eqB_iff(a b:Mono):a.eqB b=true↔a=b:=by
 obtain⟨n,a0,a1,a2,a3,a4,a5⟩:=a;obtain⟨n',b0,b1,b2,b3,b4,b5⟩:=b;simp[Mono.eqB]
def dI:Option Mono->List Mono->Bool
 |_,[]=>true
 |none,m::l=>gU m&&dI (some m) l
 |some a,m::l=>gU m&&(decide (ord a m<0)&&dI (some m) l)
def cL (p:List Mono):Bool:=decide (p.length<=48)&&dI none p
theorem lW{l:List Mono}{k:Nat}(h:k<l.length): ∃m,l[k]?=some m/\l.drop k=m::l.drop (k+1):=
 ⟨l[k],List.getElem?_eq_getElem h,List.drop_eq_getElem_cons h⟩
theorem fE.later{W:World}{b o:Nat}{m:Mono}(h:fE W b o m):(∀x:fN W,x.w.cell? ⟨b,o,none⟩=some (.int .i64 m.n))/\(∀x:fN W,x.w.cell? ⟨b,o+1,none⟩=some (.int .u8 m.e0.toNat))/\(∀x:fN W,x.w.cell? ⟨b,o+2,none⟩=some (.int .u8 m.e1.toNat))/\(∀x:fN W,x.w.cell? ⟨b,o+3,none⟩=some (.int .u8 m.e2.toNat))/\(∀x:fN W,x.w.cell? ⟨b,o+4,none⟩=some (.int .u8 m.e3.toNat))/\(∀x:fN W,x.w.cell? ⟨b,o+5,none⟩=some (.int .u8 m.e4.toNat))/\(∀x:fN W,x.w.cell? ⟨b,o+6,none⟩=some (.int .u8 m.e5.toNat)):=by
 obtain⟨h0,h1,h2,h3,h4,h5,h6⟩:=h;exact⟨fN.cell h0,fN.cell h1,fN.cell h2,fN.cell h3,fN.cell h4,fN.cell h5,fN.cell h6⟩
theorem fE.zero{W:World}{b:Nat}{m:Mono}(h:fE W b 0 m):W.cell? ⟨b,0,none⟩=some (.int .i64 m.n)/\W.cell? ⟨b,1,none⟩=some (.int .u8 m.e0.toNat)/\W.cell? ⟨b,2,none⟩=some (.int .u8 m.e1.toNat)/\W.cell? ⟨b,3,none⟩=some (.int .u8 m.e2.toNat)/\W.cell? ⟨b,4,none⟩=some (.int .u8 m.e3.toNat)/\W.cell? ⟨b,5,none⟩=some (.int .u8 m.e4.toNat)/\W.cell? ⟨b,6,none⟩=some (.int .u8 m.e5.toNat):=by simpa[fE]using h
theorem fE.later0{W:World}{b:Nat}{m:Mono}(h:fE W b 0 m):(∀x:fN W,x.w.cell? ⟨b,0,none⟩=some (.int .i64 m.n))/\(∀x:fN W,x.w.cell? ⟨b,1,none⟩=some (.int .u8 m.e0.toNat))/\(∀x:fN W,x.w.cell? ⟨b,2,none⟩=some (.int .u8 m.e1.toNat))/\(∀x:fN W,x.w.cell? ⟨b,3,none⟩=some (.int .u8 m.e2.toNat))/\(∀x:fN W,x.w.cell? ⟨b,4,none⟩=some (.int .u8 m.e3.toNat))/\(∀x:fN W,x.w.cell? ⟨b,5,none⟩=some (.int .u8 m.e4.toNat))/\(∀x:fN W,x.w.cell? ⟨b,6,none⟩=some (.int .u8 m.e5.toNat)):=by
 obtain⟨h0,h1,h2,h3,h4,h5,h6⟩:=h.zero;exact⟨fN.cell h0,fN.cell h1,fN.cell h2,fN.cell h3,fN.cell h4,fN.cell h5,fN.cell h6⟩
def sS (w:World)(b o:Nat):List UInt8->Prop
 |[]=>True
 |x::l=>w.cell? ⟨b,o,none⟩=some (.int .u8 x.toNat)/\sS w b (o+1) l
theorem push_append(acc:ByteArray)(x:UInt8)(l:List UInt8):((acc.push x).data++l.toArray)=acc.data++(x::l).toArray:=by
 apply Array.ext';simp[ByteArray.push]
theorem tG{P:Program}(w:World)(b:Nat): ∀(l:List UInt8) (o:Nat) (acc:ByteArray),sS w b o l->
  (Extern.Bytes.loadBytes ⟨b,o,none⟩ l.length acc).run P w= .ok ⟨acc.data++l.toArray⟩ w
 |[],o,acc,_=>by simp[Extern.Bytes.loadBytes]
 |x::l,o,acc,⟨h,t⟩=>by
  have ih:=tG (P:=P) w b l (o+1) (acc.push x) t;rw[push_append]at ih;simp only[Extern.Bytes.loadBytes,List.length_cons,Sem.run_bind];have hl:(load ⟨b,o,none⟩).run P w= .ok (.int .u8 x.toNat) w:=by simp[go_sem,h]
  rw[hl];simp only[Result.andThen_ok];have e:((x.toNat:Int)).toNat.toUInt8=x:=by simp
  rw[e];exact ih
theorem run_compare{P:Program}(w:World)(b c o p k k':Nat)(x y:List UInt8)(hx:sS w b o x)(hy:sS w c p y):
  (Extern.BytealgCompare.compare #[.slice (some ⟨b,o,none⟩) x.length k,.slice (some ⟨c,p,none⟩) y.length k']).run P w= .ok (.int .i64 (Lib.compareBytes x y)) w:=by
 change Sem.run P (do pure (goInt (Extern.BytealgCompare.cmp (<-Extern.Bytes.bytesOf (.slice (some ⟨b,o,none⟩) x.length k)) (<-Extern.Bytes.bytesOf (.slice (some ⟨c,p,none⟩) y.length k'))))) w=_;simp only[Extern.Bytes.bytesOf,Sem.run_bind,tG w b x o _ hx,tG w c y p _ hy,Result.andThen_ok,Sem.run_pure,Lib.cmp_eq];simp[goInt]
set_option maxHeartbeats 400000 in
theorem compare_any(b c o p:Nat)(k k':Nat)(x y:List UInt8)(w:World)(hx:sS w b o x)(hy:sS w c p y):
  Calls prog 169 #[.slice (some ⟨b,o,none⟩) x.length k,.slice (some ⟨c,p,none⟩) y.length k'] w λe w'=>e= .returned (.int .i64 (Lib.compareBytes x y))/\w=w':=by
 go_enter func169,ntmps169
 go_wp2
 rw[run_callFunc_extern func223 k8 k8 k8 (e:=Extern.BytealgCompare.compare) k8,run_compare w b c o p k k' x y hx hy];simp only[Result.andThen];rw[Oper.upon_value]
 go_wp2
 go_ret
 exact⟨rfl,rfl⟩
set_option maxHeartbeats 400000 in
theorem bQz(a b:Mono)(w:World):
  Calls prog 99 #[.agg #[.int .i64 a.n,.int .u8 a.e0.toNat,.int .u8 a.e1.toNat,.int .u8 a.e2.toNat,.int .u8 a.e3.toNat,.int .u8 a.e4.toNat,.int .u8 a.e5.toNat],.agg #[.int .i64 b.n,.int .u8 b.e0.toNat,.int .u8 b.e1.toNat,.int .u8 b.e2.toNat,.int .u8 b.e3.toNat,.int .u8 b.e4.toNat,.int .u8 b.e5.toNat]] w λe w'=>e= .returned (.int .i64 (ord a b))/\ ∃q o1 o2,w'=((w.alloc o1).alloc o2).drewN q:=by
 have hc:=λn=>compare_any (w.heap.size+1) w.heap.size 1 1 6 6 b.E a.E (((w.alloc (.cells #[.int .i64 a.n,.int .u8 a.e0.toNat,.int .u8 a.e1.toNat,.int .u8 a.e2.toNat,.int .u8 a.e3.toNat,.int .u8 a.e4.toNat,.int .u8 a.e5.toNat] 111)).alloc (.cells #[.int .i64 b.n,.int .u8 b.e0.toNat,.int .u8 b.e1.toNat,.int .u8 b.e2.toNat,.int .u8 b.e3.toNat,.int .u8 b.e4.toNat,.int .u8 b.e5.toNat] 111)).drewN n) (by simp[sS,Mono.E,go_sem]) (by simp[sS,Mono.E,go_sem]);have HC:=Lib.hid hc;clear hc
 go_enter func99,ntmps99
 go_wp2
 go_quiet ((go_at_call 169;exact Calls.quiet_of_same ((HC.out _).mono λ_ _ h=>⟨h.1,h.2.symm⟩)))
 go_wp2
 go_ret
 exact⟨rfl,_,_,_,rfl⟩
end
section
open Go.Proofs.Tryz
def num:List UInt8->Nat
 |[]=>0
 |a::l=>a.toNat*256^l.length+num l
theorem bKv: ∀l:List UInt8,num l<256^l.length
 |[]=>by simp[num]
 |a::l=>by
  have ih:=bKv l;have ha:=a.toNat_lt;have h:(a.toNat+1)*256^l.length<=256*256^l.length:=Nat.mul_le_mul_right _ k7;rw[Nat.add_mul,Nat.one_mul]at h;rw[num,List.length_cons,Nat.pow_succ,Nat.mul_comm (256^l.length) 256];omega
theorem cmp_num: ∀l m:List UInt8,l.length=m.length->Lib.compareBytes l m=if num m<num l then 1 else if num l<num m then-1 else 0
 |[],[],_=>by simp[num,Lib.compareBytes]
 |[],_::_,h=>by simp at h
 |_::_,[],h=>by simp at h
 |a::l,b::m,h=>by
  have hl:l.length=m.length:=by simpa using h
  have ih:=cmp_num l m hl;have nl:=bKv l;have nm:=bKv m;rw[xF,num,num,<-hl];rw[<-hl]at nm;generalize 256^l.length=p at*
  by_cases h1:b.toNat<a.toNat
  .have:(b.toNat+1)*p<=a.toNat*p:=Nat.mul_le_mul_right _ h1;rw[Nat.add_mul,Nat.one_mul]at this;rw[if_pos h1,if_pos k7]
  .rw[if_neg h1]
   by_cases h2:a.toNat<b.toNat
   .have:(a.toNat+1)*p<=b.toNat*p:=Nat.mul_le_mul_right _ h2;rw[Nat.add_mul,Nat.one_mul]at this;rw[if_pos h2,if_neg k7,if_pos k7]
   .have e:a.toNat=b.toNat:=k7
    rw[if_neg h2,ih,e];simp only[Nat.add_lt_add_iff_left]
def Mono.key(m:Mono):Nat:=num m.E
theorem ord_key(a b:Mono):ord a b=if a.key<b.key then 1 else if b.key<a.key then-1 else 0:=cmp_num b.E a.E rfl
theorem ord_lt(a b:Mono):ord a b<0↔b.key<a.key:=by
 rw[ord_key];split
 .constructor<;>intro h<;>omega
 .split<;>simp_all
theorem num_inj: ∀l m:List UInt8,l.length=m.length->num l=num m->l=m
 |[],[],_,_=>rfl
 |[],_::_,h,_=>by simp at h
 |_::_,[],h,_=>by simp at h
 |a::l,b::m,h,hn=>by
  have hl:l.length=m.length:=by simpa using h
  have nl:=bKv l;have nm:=bKv m;rw[num,num,<-hl]at hn;rw[<-hl]at nm
  have e:a.toNat=b.toNat:=by
   rcases Nat.lt_trichotomy a.toNat b.toNat with h1|h1|h1
   .have:(a.toNat+1)*256^l.length<=b.toNat*256^l.length:=Nat.mul_le_mul_right _ h1;rw[Nat.add_mul,Nat.one_mul]at this;omega
   .exact h1
   .have:(b.toNat+1)*256^l.length<=a.toNat*256^l.length:=Nat.mul_le_mul_right _ h1;rw[Nat.add_mul,Nat.one_mul]at this;omega
  rw[e]at hn;rw[UInt8.toNat_inj.1 e,num_inj l m hl k7]
theorem key_E{a b:Mono}:a.key=b.key↔a.E=b.E:=⟨λh=>num_inj _ _ rfl h,λh=>by unfold Mono.key;rw[h]⟩
theorem eq_of_key{a b:Mono}(h:a.key=b.key)(hn:a.n=b.n):a=b:=by
 have:=key_E.1 h;obtain⟨n,a0,a1,a2,a3,a4,a5⟩:=a;obtain⟨n',b0,b1,b2,b3,b4,b5⟩:=b;simp only[Mono.E,List.cons.injEq,and_true]at this;obtain⟨rfl,rfl,rfl,rfl,rfl,rfl⟩:=this;simp at hn;rw[hn]
def tY (l:List Mono):Prop:=l.Pairwise (λa b=>b.key<a.key)
def iQ (l:List Mono):Prop:=l.Pairwise (λa b=>a.key≠b.key)
theorem tY.apart{l:List Mono}(h:tY l):iQ l:=List.Pairwise.imp (λh=>by omega) h
theorem tY.ext: ∀{l m:List Mono},tY l->tY m->(∀x,x∈l↔x∈m)->l=m
 |[],[],_,_,_=>rfl
 |[],b::m,_,_,h=>absurd ((h b).2 m9) m9
 |a::l,[],_,_,h=>absurd ((h a).1 m9) m9
 |a::l,b::m,h1,h2,h=>by
  obtain⟨ha,hl⟩:=List.pairwise_cons.1 h1;obtain⟨hb,hm⟩:=List.pairwise_cons.1 h2
  have e:a=b:=by
   have i1:a∈b::m:=(h a).1 m9;have i2:b∈a::l:=(h b).2 m9
   rcases List.mem_cons.1 i1 with e|i1
   .exact e
   .rcases List.mem_cons.1 i2 with e|i2
    .exact e.symm
    .have:=hb a i1;have:=ha b i2;omega
  subst e;rw[tY.ext hl hm λx=>?_];constructor
  .intro hx;have:=(h x).1 s7
   rcases List.mem_cons.1 this with rfl|h'
   .have:=ha x hx;omega
   .exact h'
  .intro hx;have:=(h x).2 s7
   rcases List.mem_cons.1 this with rfl|h'
   .have:=hb x hx;omega
   .exact h'
def lP (L:List Mono):List Mono:=(L.filter (λm=>m.n !=0)).mergeSort (λa b=>decide (b.key<=a.key))
theorem bDv{L:List Mono}{x:Mono}:x∈lP L↔x∈L/\x.n≠0:=by
 unfold lP;rw[(List.mergeSort_perm _ _).mem_iff];simp
theorem falls_of{l:List Mono}(h1:l.Pairwise (λa b=>b.key<=a.key))(h2:iQ l):tY l:=
 List.Pairwise.imp (λ⟨a,b⟩=>by omega) (List.Pairwise.and h1 h2)
theorem iQ.perm{l m:List Mono}(h:iQ l)(hp:l.Perm m):iQ m:=hp.pairwise h (λh=>Ne.symm h)
theorem iQ.filter{l:List Mono}(p:Mono->Bool)(h:iQ l):iQ (l.filter p):=List.Pairwise.filter _ h
theorem wX{L:List Mono}(h:iQ L):tY (lP L):=by
 refine falls_of ?_ ((h.filter _).perm (List.mergeSort_perm _ _).symm);have:=List.pairwise_mergeSort (le:=λa b:Mono=>decide (b.key<=a.key)) o7 o7 (L.filter (λm=>m.n !=0));exact List.Pairwise.imp (λh=>by simpa using h) this
theorem canon_of{L S:List Mono}(h:iQ L)(hp:S.Perm (L.filter (λm=>m.n !=0)))(hs:S.Pairwise (λa b=>b.key<=a.key)):S=lP L:=
 tY.ext (falls_of hs ((h.filter _).perm hp.symm)) (wX h) λx=>by rw[hp.mem_iff,bDv];simp
end
section
open Go.RowKit Go.Sort Go.Proofs.Tryz
set_option maxRecDepth 100000
theorem bCf(a b:Mono):ltOf ord a b=decide (b.key<a.key):=by
 unfold ltOf;rw[decide_eq_decide];exact ord_lt a b
theorem swo_ord:SWO (ltOf ord) where
 irrefl x:=by rw[bCf];simp
 trans x y z h1 h2:=by rw[bCf]at*;simp at*;omega
 ntrans x y z h1 h2:=by rw[bCf]at*;simp at*;omega
theorem bOc(blk off size:Nat)(w:World):CmpLays prog 99 #[] Mono.cells 7 ord blk off size w:=
 λm os dk _ x y=>by
  show Calls prog 99 #[.agg #[.int .i64 x.n,.int .u8 x.e0.toNat,.int .u8 x.e1.toNat,.int .u8 x.e2.toNat,.int .u8 x.e3.toNat,.int .u8 x.e4.toNat,.int .u8 x.e5.toNat],.agg #[.int .i64 y.n,.int .u8 y.e0.toNat,.int .u8 y.e1.toNat,.int .u8 y.e2.toNat,.int .u8 y.e3.toNat,.int .u8 y.e4.toNat,.int .u8 y.e5.toNat]] _ _
  exact(bQz x y _).mono λ_ _ ⟨he,q,o1,o2,hw⟩=>⟨he,q,#[o1,o2],by rw[hw,alloc_eq_grow,alloc_eq_grow,grow_grow];rfl⟩
theorem bRp(x:Mono): ∀v∈x.cells,v.oneCell'=true:=λv hv=>by
 simp only[Mono.cells,List.mem_cons,List.not_mem_nil,or_false]at hv
 rcases hv with rfl|rfl|rfl|rfl|rfl|rfl|rfl<;>rfl
def Row (w:World)(g:Nat)(l:List Mono):Prop:=HoldsK Mono.cells 7 w g 0 l.toArray
theorem sort_any(g cap:Nat)(l:List Mono)(w:World)(hH:Row w g l)(hg:g<w.heap.size)(hl:l.length<4611686018427387904):
  Calls prog 218 #[.slice (some ⟨g,0,none⟩) l.length cap,.func (.func 99) #[] #[]] w λe w'=>
   e= .returned (.tuple #[])/\ ∃l':List Mono,l'.Perm l/\l'.Pairwise (λa b=>b.key<=a.key)/\Row w' g l'/\w.heap.size<=w'.heap.size/\w'.os=w.os/\w'.tape=w.tape/\w'.output=w.output/\(∀k,k<w.heap.size->k≠g->w'.heap[k]?=w.heap[k]?):=by
 have eg: ∀args w,(callFunc 99 args).run prog w= .ok (.enter 99 args) w:=enters_of func99 k8 rfl;have hcon:=AnyQ.slices_SortFunc Tryz.sortL 7 Tryz.isAgg111 Tryz.sizeOf111 Mono.cells (λ_=>rfl) bRp ord swo_ord 99 #[] g 0 cap l.toArray w eg (bOc _ _ _ _) hH hg (by simpa using hl);change Calls prog 218 #[.slice (some ⟨g,0,none⟩) l.length cap,.func (.func 99) #[] #[]] w _ at hcon;refine hcon.mono ?_;rintro e w' ⟨he,d',n,os,hp,hs,rfl⟩;obtain⟨hsz,_,hpm⟩:=hp;have hsz':d'.size=l.length:=by simpa using hsz
 refine⟨he,d'.toList,?_,?_,?_,?_,rfl,rfl,rfl,?_⟩
 .have e1:d'.extract 0 l.toArray.size=d':=by
   apply Array.extract_eq_self_of_le;rw[hsz];exact Nat.le_refl _
  have e2:l.toArray.extract 0 l.toArray.size=l.toArray:=Array.extract_eq_self_of_le (Nat.le_refl _);rw[e1,e2]at hpm;exact hpm
 .rw[List.pairwise_iff_getElem];intro i j hi hj hij;have hj':j<d'.size:=by simpa using hj
  have hi':i<d'.size:=by simpa using hi
  have h:=hs i j (Nat.zero_le _) hij (by rw[<-hsz];exact hj');rw[getElem!_pos d' j hj',getElem!_pos d' i hi',bCf]at h
  simpa using h
 .show HoldsK Mono.cells 7 _ g 0 d';refine holdsK_grow Mono.cells 7 _ os g 0 d' (by simp[putRowK,Sort.ahead];exact hg) ?_;exact holdsK_putRowK Mono.cells 7 _ g 0 l.toArray d' hH hsz
 .simp[sortWorldK,grow,putRowK,Sort.ahead]
 .intro k hk hne;have hk':k<(putRowK Mono.cells 7 (Sort.ahead w n) g 0 d').heap.size:=by simp[putRowK,Sort.ahead];exact hk
  simp only[sortWorldK,grow];rw[Array.getElem?_append_left hk'];simp only[putRowK,putRow,mapBlock,Sort.ahead];rw[Array.getElem?_modify,if_neg (Ne.symm hne)]
theorem sort_none(A:Option Addr)(cap:Nat)(w:World):
  Calls prog 218 #[.slice A 0 cap,.func (.func 99) #[] #[]] w λe w'=>e= .returned (.tuple #[])/\Below w.heap.size w w':=by
 have h:=AnyF.slices_SortFunc_none Tryz.sortL A cap (.func (.func 99) #[] #[]) w;change Calls prog 218 _ w _ at h
 exact h.mono λ_ _ ⟨he,hw⟩=>⟨he,by rw[hw];exact Below.refl _ _⟩
end
section
open Go.RowKit Go.Proofs.Tryz
set_option maxRecDepth 100000
theorem u8_eq(a b:UInt8):((a.toNat:Int)==(b.toNat:Int))=(a==b):=by
 rw[Bool.eq_iff_iff];simp only[beq_iff_eq];constructor
 .intro h;exact UInt8.toNat_inj.1 k7
 .rintro rfl;rfl
def Mono.sameE(a b:Mono):Bool:=a.e0==b.e0&&(a.e1==b.e1&&(a.e2==b.e2&&(a.e3==b.e3&&(a.e4==b.e4&&a.e5==b.e5))))
theorem bIi(a:Mono)(w:World):(part 5 #[.int .u8 a.e0.toNat,.int .u8 a.e1.toNat,.int .u8 a.e2.toNat,.int .u8 a.e3.toNat,.int .u8 a.e4.toNat,.int .u8 a.e5.toNat] (0*1)).run prog w= .ok (.int .u8 a.e0.toNat) w/\(part 5 #[.int .u8 a.e0.toNat,.int .u8 a.e1.toNat,.int .u8 a.e2.toNat,.int .u8 a.e3.toNat,.int .u8 a.e4.toNat,.int .u8 a.e5.toNat] (1*1)).run prog w= .ok (.int .u8 a.e1.toNat) w/\
  (part 5 #[.int .u8 a.e0.toNat,.int .u8 a.e1.toNat,.int .u8 a.e2.toNat,.int .u8 a.e3.toNat,.int .u8 a.e4.toNat,.int .u8 a.e5.toNat] (2*1)).run prog w= .ok (.int .u8 a.e2.toNat) w/\(part 5 #[.int .u8 a.e0.toNat,.int .u8 a.e1.toNat,.int .u8 a.e2.toNat,.int .u8 a.e3.toNat,.int .u8 a.e4.toNat,.int .u8 a.e5.toNat] (3*1)).run prog w= .ok (.int .u8 a.e3.toNat) w/\
  (part 5 #[.int .u8 a.e0.toNat,.int .u8 a.e1.toNat,.int .u8 a.e2.toNat,.int .u8 a.e3.toNat,.int .u8 a.e4.toNat,.int .u8 a.e5.toNat] (4*1)).run prog w= .ok (.int .u8 a.e4.toNat) w/\(part 5 #[.int .u8 a.e0.toNat,.int .u8 a.e1.toNat,.int .u8 a.e2.toNat,.int .u8 a.e3.toNat,.int .u8 a.e4.toNat,.int .u8 a.e5.toNat] (5*1)).run prog w= .ok (.int .u8 a.e5.toNat) w:=
 ⟨k8,k8,k8,k8,k8,k8⟩
theorem yZ(d:Nat)(a b:Mono)(w:World):(Op.equalIn (d+2) 109 (.agg #[.int .u8 a.e0.toNat,.int .u8 a.e1.toNat,.int .u8 a.e2.toNat,.int .u8 a.e3.toNat,.int .u8 a.e4.toNat,.int .u8 a.e5.toNat]) (.agg #[.int .u8 b.e0.toNat,.int .u8 b.e1.toNat,.int .u8 b.e2.toNat,.int .u8 b.e3.toNat,.int .u8 b.e4.toNat,.int .u8 b.e5.toNat])).run prog w= .ok (a.sameE b) w:=by
 obtain⟨i5,hi5⟩: ∃i,prog.info? 5=some i:=⟨_,rfl⟩
 have hc:prog.cellsOf 5=1:=k8
 obtain⟨p0,p1,p2,p3,p4,p5⟩:=bIi a w;obtain⟨q0,q1,q2,q3,q4,q5⟩:=bIi b w;rw[run_equalIn_array w (d+1) _ _ underlying109 hi5,hc];have hr:List.range 6=[0,1,2,3,4,5]:=rfl;rw[hr];simp only[Op.eqItems,Sem.run_bind,Sem.run_ite,Sem.run_pure,p0,p1,p2,p3,p4,p5,q0,q1,q2,q3,q4,q5,Result.andThen_ok,run_equalIn_int w d 5 .u8 .u8 _ _ underlying5,u8_eq];unfold Mono.sameE;cases a.e0==b.e0<;>cases a.e1==b.e1<;>cases a.e2==b.e2<;>cases a.e3==b.e3<;>cases a.e4==b.e4<;>cases a.e5==b.e5<;>rfl
theorem bEy(d:Nat)(a b:Mono)(w:World):(Op.equalIn (d+3) 111 (.agg #[.int .i64 a.n,.int .u8 a.e0.toNat,.int .u8 a.e1.toNat,.int .u8 a.e2.toNat,.int .u8 a.e3.toNat,.int .u8 a.e4.toNat,.int .u8 a.e5.toNat]) (.agg #[.int .i64 b.n,.int .u8 b.e0.toNat,.int .u8 b.e1.toNat,.int .u8 b.e2.toNat,.int .u8 b.e3.toNat,.int .u8 b.e4.toNat,.int .u8 b.e5.toNat])).run prog w= .ok (a.eqB b) w:=by
 have hS:prog.underlying 111=some (.struct (prog.fieldsOf 111)):=k8
 have hp:prog.stoodInHeld 111=false:=k8
 have hF:(prog.fieldsOf 111).toList=[⟨ "N",2,0,false, "", "",0⟩,⟨ "E",109,1,false, "", "",8⟩]:=k8
 have p0: ∀m:Mono,(part 2 #[.int .i64 m.n,.int .u8 m.e0.toNat,.int .u8 m.e1.toNat,.int .u8 m.e2.toNat,.int .u8 m.e3.toNat,.int .u8 m.e4.toNat,.int .u8 m.e5.toNat] 0).run prog w= .ok (.int .i64 m.n) w:=λm=>by kernel_rfl
 have p1: ∀m:Mono,(part 109 #[.int .i64 m.n,.int .u8 m.e0.toNat,.int .u8 m.e1.toNat,.int .u8 m.e2.toNat,.int .u8 m.e3.toNat,.int .u8 m.e4.toNat,.int .u8 m.e5.toNat] 1).run prog w= .ok (.agg #[.int .u8 m.e0.toNat,.int .u8 m.e1.toNat,.int .u8 m.e2.toNat,.int .u8 m.e3.toNat,.int .u8 m.e4.toNat,.int .u8 m.e5.toNat]) w:=λm=>by kernel_rfl
 rw[run_equalIn_agg w (d+2) 111 _ _ hS hp,hF];simp only[Op.eqFields,Sem.run_bind,Sem.run_ite,Sem.run_pure,p0,p1,Result.andThen_ok,run_equalIn_int w (d+1) 2 .i64 .i64 _ _ underlying2,yZ d a b w];have e:a.eqB b=(a.n==b.n&&a.sameE b):=rfl;rw[e];cases a.n==b.n<;>cases a.sameE b<;>simp
theorem run_neq_mono(a b:Mono)(w:World):(binOp .neq 111 (.agg #[.int .i64 a.n,.int .u8 a.e0.toNat,.int .u8 a.e1.toNat,.int .u8 a.e2.toNat,.int .u8 a.e3.toNat,.int .u8 a.e4.toNat,.int .u8 a.e5.toNat]) (.agg #[.int .i64 b.n,.int .u8 b.e0.toNat,.int .u8 b.e1.toNat,.int .u8 b.e2.toNat,.int .u8 b.e3.toNat,.int .u8 b.e4.toNat,.int .u8 b.e5.toNat])).run prog w= .ok (.bool (!a.eqB b)) w:=by
 rw[run_neq_struct,bEy 9997 a b w];rfl
end
section
open Go.RowKit Go.Proofs.Tryz
set_option maxRecDepth 100000
open Go.ChangeMaps (setBlock)
def kvM (m:Mono):Value×Value:=(.agg #[.int .u8 m.e0.toNat,.int .u8 m.e1.toNat,.int .u8 m.e2.toNat,.int .u8 m.e3.toNat,.int .u8 m.e4.toNat,.int .u8 m.e5.toNat],.int .i64 m.n)
def kvE (e:MapEntry):Value×Value:=(e.key,e.val)
def mC (w:World)(r:Nat)(L:List Mono):Prop:=
 ∃es clock,w.heap[r]?=some (.map es clock)/\es.toList.map kvE=L.map kvM/\(∀x∈es.toList,x.born<clock)/\(es.toList.map (·.born)).Nodup
def nO (k:Mono):List Mono->Int
 |[]=>0
 |m::l=>if k.sameE m then m.n else nO k l
def setTo (k:Mono)(x:Int):List Mono->List Mono
 |[]=>[{k with n:=x}]
 |m::l=>if k.sameE m then {k with n:=x}::l else m::setTo k x l
def findAt(k:Mono):List Mono->Nat->Option (Nat×Value)
 |[],_=>none
 |m::l,i=>if k.sameE m then some (i,.int .i64 m.n)else findAt k l (i+1)
theorem xD(k:Mono)(w:World): ∀(es:List MapEntry) (L:List Mono) (i:Nat),es.map kvE=L.map kvM->(Instr.findAsking 109 (.agg #[.int .u8 k.e0.toNat,.int .u8 k.e1.toNat,.int .u8 k.e2.toNat,.int .u8 k.e3.toNat,.int .u8 k.e4.toNat,.int .u8 k.e5.toNat]) es i).run prog w= .ok (findAt k L i) w
 |[],[],_,_=>by simp[Instr.findAsking,findAt]
 |[],_::_,_,h=>by simp at h
 |_::_,[],_,h=>by simp at h
 |e::es,m::L,i,h=>by
  simp only[List.map_cons,List.cons.injEq,kvE,kvM,Prod.mk.injEq]at h;obtain⟨⟨h1,h2⟩,h3⟩:=h;have ih:=xD k w es L (i+1) h3
  have he:(Op.equal 109 (.agg #[.int .u8 k.e0.toNat,.int .u8 k.e1.toNat,.int .u8 k.e2.toNat,.int .u8 k.e3.toNat,.int .u8 k.e4.toNat,.int .u8 k.e5.toNat]) e.key).run prog w= .ok (k.sameE m) w:=by
   rw[h1];exact yZ 9998 k m w
  simp only[Instr.findAsking,Sem.run_bind,Sem.run_ite,Sem.run_pure,he,Result.andThen_ok,findAt,h2];cases k.sameE m
  .simpa using ih
  .simp
theorem xI(k:Mono)(w:World)(es:List MapEntry)(L:List Mono)(h:es.map kvE=L.map kvM):(Instr.findKey 109 (.agg #[.int .u8 k.e0.toNat,.int .u8 k.e1.toNat,.int .u8 k.e2.toNat,.int .u8 k.e3.toNat,.int .u8 k.e4.toNat,.int .u8 k.e5.toNat]) es).run prog w= .ok (findAt k L 0) w:=by
 have hf:=xD k w es L 0 h;unfold Instr.findKey;simp only[Sem.run_bind,run_underlying underlying109,Result.andThen_ok]
 cases es with
 |nil=>
  cases L with
  |nil=>simp[Instr.findNow,findAt]
  |cons m L=>simp at h
 |cons e es=>simpa[Instr.findNow,Instr.sameNow]using hf
theorem uU(b:Bool)(k:Mono)(w:World):(Instr.checkKey b 10000 109 (.agg #[.int .u8 k.e0.toNat,.int .u8 k.e1.toNat,.int .u8 k.e2.toNat,.int .u8 k.e3.toNat,.int .u8 k.e4.toNat,.int .u8 k.e5.toNat])).run prog w= .ok () w:=by
 kernel_rfl
theorem run_stays(k:Mono)(w:World):(Instr.keyThatStays (.agg #[.int .u8 k.e0.toNat,.int .u8 k.e1.toNat,.int .u8 k.e2.toNat,.int .u8 k.e3.toNat,.int .u8 k.e4.toNat,.int .u8 k.e5.toNat]) (.agg #[.int .u8 k.e0.toNat,.int .u8 k.e1.toNat,.int .u8 k.e2.toNat,.int .u8 k.e3.toNat,.int .u8 k.e4.toNat,.int .u8 k.e5.toNat])).run prog w= .ok (.agg #[.int .u8 k.e0.toNat,.int .u8 k.e1.toNat,.int .u8 k.e2.toNat,.int .u8 k.e3.toNat,.int .u8 k.e4.toNat,.int .u8 k.e5.toNat]) w:=by
 unfold Instr.keyThatStays;simp[Instr.sameBits]
theorem findAt_none{k:Mono}{x:Int}: ∀{L:List Mono} {i:Nat},findAt k L i=none->nO k L=0/\setTo k x L=L++[{k with n:=x}]
 |[],_,_=>⟨rfl,rfl⟩
 |m::L,i,h=>by
  unfold findAt at h;cases hs:k.sameE m
  .rw[hs]at h;simp only[Bool.false_eq_true,if_false]at h;obtain⟨h1,h2⟩:=findAt_none (x:=x) h;simp[nO,setTo,hs,h1,h2]
  .rw[hs]at h;simp at h
theorem coef_app{k:Mono}: ∀{L:List Mono} {i:Nat},findAt k L i=none-> ∀M:List Mono,nO k (L++M)=nO k M
 |[],_,_,_=>rfl
 |m::L,i,h,M=>by
  unfold findAt at h;cases hs:k.sameE m
  .rw[hs]at h;simp only[Bool.false_eq_true,if_false]at h;simp[nO,hs,coef_app h M]
  .rw[hs]at h;simp at h
theorem sameE_self(k:Mono)(x:Int):k.sameE {k with n:=x}=true:=by simp[Mono.sameE]
theorem wI{k:Mono}{x:Int}{j:Nat}{v:Value}: ∀{L:List Mono} {i:Nat},findAt k L i=some (j,v)-> ∃d m,j=i+d/\L[d]?=some m/\k.sameE m=true/\v= .int .i64 m.n/\nO k L=m.n/\setTo k x L=L.set d {k with n:=x}
 |[],_,h=>by simp[findAt]at h
 |m::L,i,h=>by
  unfold findAt at h;cases hs:k.sameE m
  .rw[hs]at h;simp only[Bool.false_eq_true,if_false]at h;obtain⟨d,m',h1,h2,h3,h4,h5,h6⟩:=wI (x:=x) h;exact⟨d+1,m',k7,by simpa using h2,h3,h4,by simp[nO,hs,h5],by simp[setTo,hs,h6]⟩
  .rw[hs]at h;simp only[if_true,Option.some.injEq,Prod.mk.injEq]at h;exact⟨0,m,k7,rfl,hs,h.2.symm,by simp[nO,hs],by simp[setTo,hs]⟩
theorem lR(k:Mono){w:World}{r:Nat}{L:List Mono}(h:mC w r L):
  (Instr.lookup 282 (.map (some r)) (.agg #[.int .u8 k.e0.toNat,.int .u8 k.e1.toNat,.int .u8 k.e2.toNat,.int .u8 k.e3.toNat,.int .u8 k.e4.toNat,.int .u8 k.e5.toNat]) false).run prog w= .ok (.int .i64 (nO k L)) w:=by
 obtain⟨es,clock,hb,hkv,_,_⟩:=h;have hz:(zeroValue 2).run prog w= .ok (.int .i64 0) w:=k8
 unfold Instr.lookup;simp only[Sem.run_bind,run_underlying underlying282,Result.andThen_ok,MapKept.run_getObj_map hb,Sem.run_pure,uU,xI k w es.toList L hkv]
 cases hf:findAt k L 0 with
 |none=>simp[(findAt_none (x:=0) hf).1,hz]
 |some p=>
  obtain⟨j,v⟩:=p;obtain⟨d,m,_,_,_,rfl,h5,_⟩:=wI (x:=0) hf;simp[h5]
theorem bQu{k m:Mono}(h:k.sameE m=true):(Value.agg #[.int .u8 m.e0.toNat,.int .u8 m.e1.toNat,.int .u8 m.e2.toNat,.int .u8 m.e3.toNat,.int .u8 m.e4.toNat,.int .u8 m.e5.toNat])= .agg #[.int .u8 k.e0.toNat,.int .u8 k.e1.toNat,.int .u8 k.e2.toNat,.int .u8 k.e3.toNat,.int .u8 k.e4.toNat,.int .u8 k.e5.toNat]:=by
 simp only[Mono.sameE,Bool.and_eq_true,beq_iff_eq]at h;obtain⟨h0,h1,h2,h3,h4,h5⟩:=h;rw[h0,h1,h2,h3,h4,h5]
theorem map_set_kv{es:Array MapEntry}{L:List Mono}{d:Nat}{k m:Mono}{e:MapEntry}(hkv:es.toList.map kvE=L.map kvM)(hd:L[d]?=some m)(hs:k.sameE m=true)(he:es[d]?=some e)(x:Int):
  (es.modify d λe=>{e with val:= .int .i64 x}).toList.map kvE=(L.set d {k with n:=x}).map kvM:=by
 have hk:e.key= .agg #[.int .u8 k.e0.toNat,.int .u8 k.e1.toNat,.int .u8 k.e2.toNat,.int .u8 k.e3.toNat,.int .u8 k.e4.toNat,.int .u8 k.e5.toNat]:=by
  have h1:(es.toList.map kvE)[d]?=some (kvE e):=by simp[he]
  rw[hkv,List.getElem?_map,hd]at h1;simp only[Option.map_some,Option.some.injEq,kvE,kvM,Prod.mk.injEq]at h1;rw[<-h1.1];exact bQu hs
 have he':es.toList[d]?=some e:=by simpa using he
 rw[Array.toList_modify,ChangeMaps.modify_eq_set _ _ _ _ he',List.map_set,List.map_set,hkv]
 congr 1
 simp[kvE,kvM,hk]
theorem xE(k:Mono)(x:Int){w:World}{r:Nat}{L:List Mono}(h:mC w r L): ∃v0 st w1 w2,
  (Instr.mapEntry 282 (.map (some r)) (.agg #[.int .u8 k.e0.toNat,.int .u8 k.e1.toNat,.int .u8 k.e2.toNat,.int .u8 k.e3.toNat,.int .u8 k.e4.toNat,.int .u8 k.e5.toNat])).run prog w= .ok (.tuple #[v0,.int .i64 st]) w1/\
  (Instr.lookup 282 (.map (some r)) (.agg #[.int .u8 k.e0.toNat,.int .u8 k.e1.toNat,.int .u8 k.e2.toNat,.int .u8 k.e3.toNat,.int .u8 k.e4.toNat,.int .u8 k.e5.toNat]) false).run prog w1= .ok (.int .i64 (nO k L)) w1/\
  (Instr.entryStore 282 (.map (some r)) (.int .i64 st) (.int .i64 x)).run prog w1= .ok () w2/\
  mC w2 r (setTo k x L)/\ ∃o,w2=setBlock w r o:=by
 obtain⟨es,clock,hb,hkv,hlt,hnd⟩:=h;have hz:(zeroValue 2).run prog w= .ok (.int .i64 0) w:=k8
 cases hf:findAt k L 0 with
 |none=>
  obtain⟨hc,hset⟩:=findAt_none (x:=x) hf;obtain⟨_,hset0⟩:=findAt_none (x:=0) hf;have hb1:(setBlock w r (.map (es.push ⟨.agg #[.int .u8 k.e0.toNat,.int .u8 k.e1.toNat,.int .u8 k.e2.toNat,.int .u8 k.e3.toNat,.int .u8 k.e4.toNat,.int .u8 k.e5.toNat],.int .i64 0,clock⟩) (clock+1))).heap[r]?=some (.map (es.push ⟨.agg #[.int .u8 k.e0.toNat,.int .u8 k.e1.toNat,.int .u8 k.e2.toNat,.int .u8 k.e3.toNat,.int .u8 k.e4.toNat,.int .u8 k.e5.toNat],.int .i64 0,clock⟩) (clock+1)):=ChangeMaps.heap_setBlock_same hb _
  have hnd': ∀v,((es.push ⟨.agg #[.int .u8 k.e0.toNat,.int .u8 k.e1.toNat,.int .u8 k.e2.toNat,.int .u8 k.e3.toNat,.int .u8 k.e4.toNat,.int .u8 k.e5.toNat],v,clock⟩).toList.map (·.born)).Nodup:=λv=>by
   simp only[Array.toList_push,List.map_append,List.map_cons,List.map_nil];refine List.nodup_append.2 ⟨hnd,m9,λa ha c hc e1=>?_⟩;simp only[List.mem_singleton]at hc;obtain⟨y,hy,rfl⟩:=List.mem_map.1 ha;have:=hlt y hy;omega
  have hlt': ∀v,∀y∈(es.push ⟨.agg #[.int .u8 k.e0.toNat,.int .u8 k.e1.toNat,.int .u8 k.e2.toNat,.int .u8 k.e3.toNat,.int .u8 k.e4.toNat,.int .u8 k.e5.toNat],v,clock⟩).toList,y.born<clock+1:=λv y hy=>by
   simp only[Array.toList_push,List.mem_append,List.mem_singleton]at hy
   rcases hy with hy|rfl
   .have:=hlt y hy;omega
   .simp
  have hkv': ∀n:Int,(es.push ⟨.agg #[.int .u8 k.e0.toNat,.int .u8 k.e1.toNat,.int .u8 k.e2.toNat,.int .u8 k.e3.toNat,.int .u8 k.e4.toNat,.int .u8 k.e5.toNat],.int .i64 n,clock⟩).toList.map kvE=(L++[{k with n:=n}]).map kvM:=λn=>by
   simp[hkv,kvE,kvM]
  refine⟨.int .i64 0,clock,setBlock w r (.map (es.push ⟨.agg #[.int .u8 k.e0.toNat,.int .u8 k.e1.toNat,.int .u8 k.e2.toNat,.int .u8 k.e3.toNat,.int .u8 k.e4.toNat,.int .u8 k.e5.toNat],.int .i64 0,clock⟩) (clock+1)),setBlock w r (.map (es.push ⟨.agg #[.int .u8 k.e0.toNat,.int .u8 k.e1.toNat,.int .u8 k.e2.toNat,.int .u8 k.e3.toNat,.int .u8 k.e4.toNat,.int .u8 k.e5.toNat],.int .i64 x,clock⟩) (clock+1)),?_,?_,?_,?_,⟨_,rfl⟩⟩
  .unfold Instr.mapEntry;simp only[Sem.run_bind,run_underlying underlying282,Result.andThen_ok,MapKept.run_getObj_map hb,Sem.run_pure,uU,xI k w es.toList L hkv,hf,hz];simp[MapKept.run_setObj_map _ hb,Result.andThen,setBlock,goInt]
  .have hm:mC (setBlock w r (.map (es.push ⟨.agg #[.int .u8 k.e0.toNat,.int .u8 k.e1.toNat,.int .u8 k.e2.toNat,.int .u8 k.e3.toNat,.int .u8 k.e4.toNat,.int .u8 k.e5.toNat],.int .i64 0,clock⟩) (clock+1))) r (L++[{k with n:=0}]):=⟨_,_,hb1,hkv' 0,hlt' _,hnd' _⟩
   rw[lR k hm,hc,coef_app hf];simp[nO,sameE_self]
  .have hidx:(es.push ⟨.agg #[.int .u8 k.e0.toNat,.int .u8 k.e1.toNat,.int .u8 k.e2.toNat,.int .u8 k.e3.toNat,.int .u8 k.e4.toNat,.int .u8 k.e5.toNat],.int .i64 0,clock⟩).findIdx? (λe=>((e.born:Nat):Int)==((clock:Nat):Int))=some es.size:=by
    rw[WideElems.findIdx_arr];exact WideElems.findIdx_born (j:=es.size) (e0:=⟨.agg #[.int .u8 k.e0.toNat,.int .u8 k.e1.toNat,.int .u8 k.e2.toNat,.int .u8 k.e3.toNat,.int .u8 k.e4.toNat,.int .u8 k.e5.toNat],.int .i64 0,clock⟩) (hnd' _) m9
   have hmod:(es.push ⟨.agg #[.int .u8 k.e0.toNat,.int .u8 k.e1.toNat,.int .u8 k.e2.toNat,.int .u8 k.e3.toNat,.int .u8 k.e4.toNat,.int .u8 k.e5.toNat],.int .i64 0,clock⟩).modify es.size (λe=>{e with val:= .int .i64 x})=es.push ⟨.agg #[.int .u8 k.e0.toNat,.int .u8 k.e1.toNat,.int .u8 k.e2.toNat,.int .u8 k.e3.toNat,.int .u8 k.e4.toNat,.int .u8 k.e5.toNat],.int .i64 x,clock⟩:=by
    apply Array.ext';rw[Array.toList_modify,Array.toList_push,Array.toList_push,<-Array.length_toList,WideElems.modify_last]
   simp only[Instr.entryStore,Sem.run_bind,MapKept.run_getObj_map hb1,Result.andThen_ok,asInt,asIntOf,Sem.run_pure,hidx,hmod,MapKept.run_setObj_map _ hb1];simp[setBlock]
  .rw[hset];exact⟨_,_,ChangeMaps.heap_setBlock_same hb _,hkv' x,hlt' _,hnd' _⟩
 |some p=>
  obtain⟨j,v⟩:=p;obtain⟨d,m,hj,hd,hs,hv,hc,hset⟩:=wI (x:=x) hf;obtain rfl:j=d:=k7
  subst hv
  have hlen:es.size=L.length:=by
   have:=congrArg List.length hkv
   simpa using this
  have hjl:j<es.size:=by rw[hlen];exact(List.getElem?_eq_some_iff.1 hd).1
  obtain⟨e,he⟩: ∃e,es[j]?=some e:=⟨es[j],Array.getElem?_eq_getElem hjl⟩
  have hk:e.key= .agg #[.int .u8 k.e0.toNat,.int .u8 k.e1.toNat,.int .u8 k.e2.toNat,.int .u8 k.e3.toNat,.int .u8 k.e4.toNat,.int .u8 k.e5.toNat]:=by
   have h1:(es.toList.map kvE)[j]?=some (kvE e):=by simp[he]
   rw[hkv,List.getElem?_map,hd]at h1;simp only[Option.map_some,Option.some.injEq,kvE,kvM,Prod.mk.injEq]at h1;rw[<-h1.1];exact bQu hs
  have he':es.toList[j]?=some e:=by simpa using he
  have hsame:es.modify j (λe=>{e with key:= .agg #[.int .u8 k.e0.toNat,.int .u8 k.e1.toNat,.int .u8 k.e2.toNat,.int .u8 k.e3.toNat,.int .u8 k.e4.toNat,.int .u8 k.e5.toNat]})=es:=by
   apply Array.ext';rw[Array.toList_modify,ChangeMaps.modify_eq_set _ _ _ _ he',<-hk];exact WideElems.set_self _ _ _ he'
  have hb1:(setBlock w r (.map es clock)).heap[r]?=some (.map es clock):=ChangeMaps.heap_setBlock_same hb _;refine⟨.int .i64 m.n,e.born,setBlock w r (.map es clock),setBlock w r (.map (es.modify j λe=>{e with val:= .int .i64 x}) clock),?_,?_,?_,?_,⟨_,rfl⟩⟩
  .unfold Instr.mapEntry;simp only[Sem.run_bind,run_underlying underlying282,Result.andThen_ok,MapKept.run_getObj_map hb,Sem.run_pure,uU,xI k w es.toList L hkv,hf,he,Option.map_some,Option.getD_some,hk,run_stays];rw[hsame,MapKept.run_setObj_map _ hb];simp[setBlock,goInt]
  .exact lR k ⟨_,_,hb1,hkv,hlt,hnd⟩
  .have hidx:es.findIdx? (λe'=>((e'.born:Nat):Int)==((e.born:Nat):Int))=some j:=by
    rw[WideElems.findIdx_arr];exact WideElems.findIdx_born hnd he'
   simp only[Instr.entryStore,Sem.run_bind,MapKept.run_getObj_map hb1,Result.andThen_ok,asInt,asIntOf,Sem.run_pure,hidx,MapKept.run_setObj_map _ hb1];simp[setBlock]
  .rw[hset]
   have hborn:(es.modify j λe=>{e with val:= .int .i64 x}).toList.map (·.born)=es.toList.map (·.born):=by
    rw[Array.toList_modify,ChangeMaps.modify_eq_set _ _ _ _ he',List.map_set];exact WideElems.set_self _ _ _ (by simp[he'])
   refine⟨_,_,ChangeMaps.heap_setBlock_same hb _,map_set_kv hkv hd hs he x,λy hy=>?_,by rw[hborn];exact hnd⟩;have hy':y.born∈es.toList.map (·.born):=by rw[<-hborn];exact List.mem_map.2 ⟨y,hy,rfl⟩
   obtain⟨z,hz1,hz2⟩:=List.mem_map.1 hy';rw[<-hz2];exact hlt z hz1
end
section
open Go.RowKit Go.Sort Go.Proofs.Tryz
set_option maxRecDepth 100000
def flat (l:List Mono):List Value:=l.flatMap Mono.cells
theorem flat_snoc(l:List Mono)(m:Mono):flat (l++[m])=flat l++m.cells:=by simp[flat]
theorem flat_get: ∀(l:List Mono) (k j:Nat) (m:Mono),l[k]?=some m->j<7->(flat l)[k*7+j]?=m.cells[j]?
 |[],k,j,m,h,_=>by simp at h
 |a::l,0,j,m,h,hj=>by
  simp at h;subst h;simp only[flat,List.flatMap_cons,Nat.zero_mul,Nat.zero_add];exact List.getElem?_append_left (by rw[Mono.cells_length];exact hj)
 |a::l,k+1,j,m,h,hj=>by
  have ih:=flat_get l k j m aa7 hj;have e:flat (a::l)=a.cells++flat l:=by simp[flat]
  rw[e,List.getElem?_append_right (by rw[Mono.cells_length];omega),Mono.cells_length];rw[<-ih]
  congr 1
  omega
def bNj (w:World)(B:Nat)(v:Value)(l:List Mono):Prop:=w.ownsRow B 111 7 v l.length (flat l)
theorem bNj.row{w:World}{B g cap:Nat}{l:List Mono}(h:bNj w B (.slice (some ⟨g,0,none⟩) l.length cap) l):Row w g l:=λt ht=>by
 have ht':t<l.length*7:=by simpa using ht
 have hc:=World.ownsRow.cellAt h t ht';refine⟨?_,by simpa using World.ownsRow.frozenAt h t⟩;rw[get_flatK _ _ _ _ (by simpa using ht')];have hk:t/7<l.length:=k7
 have hg:=flat_get l (t/7) (t%7) l[t/7] (List.getElem?_eq_getElem hk) (Nat.mod_lt _ k7);have e:t/7*7+t%7=t:=k7
 rw[e]at hg;rw[Nat.zero_add,hc,hg];have e2:l.toArray[t/7]! =l[t/7]:=by simp[hk]
 rw[e2];have hj:t%7<(l[t/7]).cells.length:=by rw[Mono.cells_length];exact Nat.mod_lt _ k7
 rw[List.getElem?_eq_getElem hj,getElem!_pos (l[t/7]).cells (t%7) hj];rfl
theorem Row.monos{w:World}{g:Nat}{l:List Mono}(h:Row w g l):jY w (some ⟨g,0,none⟩) l:=λk m hk=>by
 have hkl:k<l.toArray.size:=by simpa using (List.getElem?_eq_some_iff.1 hk).1
 have hm:l.toArray[k]! =m:=by
  rw[getElem!_pos l.toArray k hkl];have:=(List.getElem?_eq_some_iff.1 hk).2
  simpa using this
 have c:=λj (hj:j<7)=>(HoldsK.cell h hkl hj).1;rw[hm]at c
 have hlt:g<w.heap.size:=by
  rcases Nat.lt_or_ge g w.heap.size with h'|h'
  .exact h'
  .have:=c 0 k7;simp[World.cell?,Array.getElem?_eq_none h']at this
 refine⟨g,0,rfl,hlt,?_⟩;exact⟨c 0 k7,c 1 k7,c 2 k7,c 3 k7,c 4 k7,c 5 k7,c 6 k7⟩
theorem Row.below{w w':World}{B g:Nat}{l:List Mono}(h:Row w g l)(hb:Below B w w')(hg:g<B):Row w' g l:=λt ht=>by
 obtain⟨h1,h2⟩:=h t ht;exact⟨(hb.cell (p:=⟨g,0+t,none⟩) hg).trans h1,(hb.frozen (p:=⟨g,0+t,none⟩) hg).trans h2⟩
theorem Row.lt{w:World}{g:Nat}{l:List Mono}(h:Row w g l)(hl:l≠[]):g<w.heap.size:=by
 cases l with
 |nil=>exact absurd rfl hl
 |cons m l=>
  obtain⟨b,o,e,hb,_⟩:=h.monos 0 m rfl;injection e with e
  injection e with e
  omega
def Res (B:Nat)(w:World)(v:Value)(l:List Mono):Prop:=
 ∃A c,v= .slice A l.length c/\(l=[]\/ ∃g,A=some ⟨g,0,none⟩/\B<=g/\Row w g l)
theorem Res.monos{B:Nat}{w:World}{A:Option Addr}{n c:Nat}{l:List Mono}(h:Res B w (.slice A n c) l):jY w A l/\n=l.length:=by
 obtain⟨A',c',e,h⟩:=h;injection e with e1 e2 e3
 subst e1 e2
 rcases h with rfl|⟨g,rfl,_,hr⟩
 .exact⟨jY.nil,rfl⟩
 .exact⟨hr.monos,rfl⟩
theorem Res.below{B:Nat}{w w':World}{v:Value}{l:List Mono}(h:Res B w v l)(hb:Below w.heap.size w w'):Res B w' v l:=by
 obtain⟨A,c,e,h⟩:=h;refine⟨A,c,e,?_⟩
 by_cases hl:l=[]
 .exact .inl hl
 .rcases h with h|⟨g,e1,e2,hr⟩
  .exact .inl h
  .exact .inr ⟨g,e1,e2,hr.below hb (hr.lt hl)⟩
theorem Res.mono{B B':Nat}{w:World}{v:Value}{l:List Mono}(h:Res B w v l)(hB:B'<=B):Res B' w v l:=by
 obtain⟨A,c,e,h⟩:=h;refine⟨A,c,e,?_⟩
 rcases h with h|⟨g,e1,e2,hr⟩
 .exact .inl h
 .exact .inr ⟨g,e1,Nat.le_trans hB e2,hr⟩
theorem Res.nil(B:Nat)(w:World)(c:Nat)(A:Option Addr):Res B w (.slice A 0 c) []:=⟨A,c,rfl,.inl rfl⟩
end
section
open Go.RowKit Go.Proofs.Tryz
set_option maxRecDepth 100000
set_option maxHeartbeats 400000 in
theorem bMc(m:Mono)(w:World):
  Calls prog 170 #[.agg #[.int .i64 m.n,.int .u8 m.e0.toNat,.int .u8 m.e1.toNat,.int .u8 m.e2.toNat,.int .u8 m.e3.toNat,.int .u8 m.e4.toNat,.int .u8 m.e5.toNat]] w λe w'=>e= .returned (.int .i64 m.deg)/\Below w.heap.size w w':=by
 have h0:=wA m.e0;have h1:=wA m.e1;have h2:=wA m.e2;have h3:=wA m.e3;have h4:=wA m.e4;have h5:=wA m.e5
 go_enter func170,ntmps170
 go_wp2
 go_rounds 7
 go_ret
 refine⟨?_,by go_grown⟩;simp[Mono.deg]
set_option maxHeartbeats 400000 in
theorem bDx(m:Mono)(w:World):
  Calls prog 98 #[.agg #[.int .i64 m.n,.int .u8 m.e0.toNat,.int .u8 m.e1.toNat,.int .u8 m.e2.toNat,.int .u8 m.e3.toNat,.int .u8 m.e4.toNat,.int .u8 m.e5.toNat]] w λe w'=>e= .returned (.bool (gU m))/\Below w.heap.size w w':=by
 have h0:=wA m.e0;have h1:=wA m.e1;have h2:=wA m.e2;have h3:=wA m.e3;have h4:=wA m.e4;have h5:=wA m.e5;have i0: ∀w,(Instr.index 109 (.agg #[.int .u8 m.e0.toNat,.int .u8 m.e1.toNat,.int .u8 m.e2.toNat,.int .u8 m.e3.toNat,.int .u8 m.e4.toNat,.int .u8 m.e5.toNat]) (.int .i64 0)).run prog w= .ok (.int .u8 m.e0.toNat) w:=λ_=>by kernel_rfl
 have i1: ∀w,(Instr.index 109 (.agg #[.int .u8 m.e0.toNat,.int .u8 m.e1.toNat,.int .u8 m.e2.toNat,.int .u8 m.e3.toNat,.int .u8 m.e4.toNat,.int .u8 m.e5.toNat]) (.int .i64 1)).run prog w= .ok (.int .u8 m.e1.toNat) w:=λ_=>by kernel_rfl
 have i2: ∀w,(Instr.index 109 (.agg #[.int .u8 m.e0.toNat,.int .u8 m.e1.toNat,.int .u8 m.e2.toNat,.int .u8 m.e3.toNat,.int .u8 m.e4.toNat,.int .u8 m.e5.toNat]) (.int .i64 2)).run prog w= .ok (.int .u8 m.e2.toNat) w:=λ_=>by kernel_rfl
 have i3: ∀w,(Instr.index 109 (.agg #[.int .u8 m.e0.toNat,.int .u8 m.e1.toNat,.int .u8 m.e2.toNat,.int .u8 m.e3.toNat,.int .u8 m.e4.toNat,.int .u8 m.e5.toNat]) (.int .i64 3)).run prog w= .ok (.int .u8 m.e3.toNat) w:=λ_=>by kernel_rfl
 have i4: ∀w,(Instr.index 109 (.agg #[.int .u8 m.e0.toNat,.int .u8 m.e1.toNat,.int .u8 m.e2.toNat,.int .u8 m.e3.toNat,.int .u8 m.e4.toNat,.int .u8 m.e5.toNat]) (.int .i64 4)).run prog w= .ok (.int .u8 m.e4.toNat) w:=λ_=>by kernel_rfl
 have i5: ∀w,(Instr.index 109 (.agg #[.int .u8 m.e0.toNat,.int .u8 m.e1.toNat,.int .u8 m.e2.toNat,.int .u8 m.e3.toNat,.int .u8 m.e4.toNat,.int .u8 m.e5.toNat]) (.int .i64 5)).run prog w= .ok (.int .u8 m.e5.toNat) w:=λ_=>by kernel_rfl
 go_enter func98,ntmps98
 go_wp2
 go_rounds 7
 all_goals go_ret
 all_goals refine⟨jB ?_,by go_grown⟩
 all_goals clear i0 i1 i2 i3 i4 i5
 all_goals go_light
 all_goals unfold gU Mono.deg
 all_goals try exact(decide_eq_false k7).symm
 have hn:(m.n !=0)=true:=by simpa using ‹¬m.n=0›
 rw[hn,Bool.true_and];exact decide_eq_decide.2 k7
end
section
open Go.RowKit Go.Proofs.Tryz
set_option maxRecDepth 100000
theorem order_below(a b:Mono)(w:World):
  Calls prog 99 #[.agg #[.int .i64 a.n,.int .u8 a.e0.toNat,.int .u8 a.e1.toNat,.int .u8 a.e2.toNat,.int .u8 a.e3.toNat,.int .u8 a.e4.toNat,.int .u8 a.e5.toNat],.agg #[.int .i64 b.n,.int .u8 b.e0.toNat,.int .u8 b.e1.toNat,.int .u8 b.e2.toNat,.int .u8 b.e3.toNat,.int .u8 b.e4.toNat,.int .u8 b.e5.toNat]] w λe w'=>e= .returned (.int .i64 (ord a b))/\Below w.heap.size w w':=
 (bQz a b w).mono λe w' ⟨he,q,o1,o2,hw⟩=>⟨he,by rw[hw];exact bFr (((Below.refl _ _).alloc (Nat.le_refl _) _).alloc m9 _) _⟩
set_option maxHeartbeats 1000000 in
theorem gA(A:Option Addr)(c:Nat)(xs:List Mono)(w:World)(ha:jY w A xs)(hx:xs.length<=140737488355328):
  Calls prog 43 #[.slice A xs.length c] w λe w'=>e= .returned (.bool (cL xs))/\Below w.heap.size w w':=by
 by_cases hl:xs.length<=48
 .have hl1:decide ((48:Int)<(xs.length:Int))=false:=by simp;omega
  have Ha:=Lib.hid ha;clear ha
  go_enter func43,ntmps43
  go_wp2
  go_loopw [10] (λi wr=> ∃k:Nat,k<=xs.length/\i= .int .i64 k/\Hid (cL xs=dI (if k=0 then none else xs[k-1]?) (xs.drop k))/\Below w.heap.size w wr) (λi _=>xs.length-(intOf i).toNat)
  case atStart=>exact⟨0,Nat.zero_le _,rfl,by show _=_;simp[cL,hl],Below.refl _ _⟩
  case round=>
   obtain⟨k,hk,rfl,hs,hbl⟩:=hrel
   by_cases hlt:k<xs.length
   .obtain⟨m,hm,dm⟩:=lW hlt;obtain⟨b,o,rfl,hB,c0,c1,c2,c3,c4,c5,c6⟩:=Ha.out.below hbl k m hm;have q0:fE (wr.alloc (.cells #[.int .i64 m.n,.int .u8 m.e0.toNat,.int .u8 m.e1.toNat,.int .u8 m.e2.toNat,.int .u8 m.e3.toNat,.int .u8 m.e4.toNat,.int .u8 m.e5.toNat] 111)) wr.heap.size 0 m:=by simp[fE,go_sem]
    have hb0:Below w.heap.size w (wr.alloc (.cells #[.int .i64 m.n,.int .u8 m.e0.toNat,.int .u8 m.e1.toNat,.int .u8 m.e2.toNat,.int .u8 m.e3.toNat,.int .u8 m.e4.toNat,.int .u8 m.e5.toNat] 111)):=hbl.alloc hbl.size _;have hz:wr.heap.size<(wr.alloc (.cells #[.int .i64 m.n,.int .u8 m.e0.toNat,.int .u8 m.e1.toNat,.int .u8 m.e2.toNat,.int .u8 m.e3.toNat,.int .u8 m.e4.toNat,.int .u8 m.e5.toNat] 111)).heap.size:=by simp
    have HB0:=Lib.hid hb0;have Q0:=Lib.hid q0;have Hz:=Lib.hid hz;have hm':=hm;clear q0 hb0 hz hm hB;cases hsb:gU m
    .have HS:=Lib.hid (show cL xs=false by rw[hs.out,dm];split<;>(try cases xs[k-1]?)<;>simp[dI,hsb]);clear dm hs
     go_wp2
     clear c0 c1 c2 c3 c4 c5 c6;generalize hb:wr.heap.size=B at Q0 Hz⊢;generalize wr.alloc (.cells #[.int .i64 m.n,.int .u8 m.e0.toNat,.int .u8 m.e1.toNat,.int .u8 m.e2.toNat,.int .u8 m.e3.toNat,.int .u8 m.e4.toNat,.int .u8 m.e5.toNat] 111)=W0 at Q0 HB0 Hz⊢;clear hb hbl;have Hsm:=Lib.hid (fN.calls (W0:=W0) λW _=>bDx m W);rw[hsb]at Hsm;obtain⟨r0,r1,r2,r3,r4,r5,r6⟩:=Q0.out.later0;clear Q0 Hz;refine kQ k8 k8 ?_
     repeat (go_big_quiet_step ((go_at_call 98;exact Hsm.out _)))
     refine wpQuiet_nil ?_;rintro _ ⟨x,rfl⟩
     go_wp2
     go_ret
     exact⟨jB HS.out.symm,HB0.out.trans (x.h.mono HB0.out.size)⟩
    .rcases Nat.eq_zero_or_pos k with hk0|hk0
     .have hk1:decide (0<k)=false:=by simp;omega
      have HS:=Lib.hid (show cL xs=dI (if k+1=0 then none else xs[k+1-1]?) (xs.drop (k+1)) by rw[hs.out,dm,if_pos hk0,if_neg k7,show k+1-1=k from rfl,hm'];simp[dI,hsb]);clear dm hs hk0 hm'
      go_wp2
      clear c0 c1 c2 c3 c4 c5 c6;generalize hb:wr.heap.size=B at Q0 Hz⊢;generalize wr.alloc (.cells #[.int .i64 m.n,.int .u8 m.e0.toNat,.int .u8 m.e1.toNat,.int .u8 m.e2.toNat,.int .u8 m.e3.toNat,.int .u8 m.e4.toNat,.int .u8 m.e5.toNat] 111)=W0 at Q0 HB0 Hz⊢;clear hb hbl;have Hsm:=Lib.hid (fN.calls (W0:=W0) λW _=>bDx m W);rw[hsb]at Hsm;obtain⟨r0,r1,r2,r3,r4,r5,r6⟩:=Q0.out.later0;clear Q0 Hz;refine kQ k8 k8 ?_
      repeat (go_big_quiet_step ((go_at_call 98;exact Hsm.out _)))
      refine wpQuiet_nil ?_;rintro _ ⟨x,rfl⟩
      go_wp2
      go_roundw
      case rel=>exact⟨k+1,k7,by go_num,HS,HB0.out.trans (x.h.mono HB0.out.size)⟩
      case measure=>simp[intOf];omega
     .have hk1:decide (0<k)=true:=by simp;omega
      obtain⟨j,rfl⟩: ∃j,k=j+1:=⟨k-1,k7⟩
      obtain⟨q,hq⟩: ∃q,xs[j]?=some q:=⟨xs[j]'k7,List.getElem?_eq_getElem _⟩
      have HS:=Lib.hid (show cL xs=(decide (ord q m<0)&&dI (some m) (xs.drop (j+1+1))) by rw[hs.out,dm,if_neg k7,show j+1-1=j from rfl,hq];simp[dI,hsb]);have HM:=Lib.hid hm'
      have p0:fE (wr.alloc (.cells #[.int .i64 m.n,.int .u8 m.e0.toNat,.int .u8 m.e1.toNat,.int .u8 m.e2.toNat,.int .u8 m.e3.toNat,.int .u8 m.e4.toNat,.int .u8 m.e5.toNat] 111)) b (o+j*7) q:=by
       obtain⟨b1,o1,e1,hB1,hm1⟩:=Ha.out.below hbl j q hq;injection e1 with e1
       injection e1 with e1 e2
       subst e1 e2;exact hm1.below ((Below.refl _ _).alloc (Nat.le_refl _) _) hB1
      have P0:=Lib.hid p0;clear dm hs hk0 hm' hq p0
      go_wp2
      clear c0 c1 c2 c3 c4 c5 c6;generalize hb:wr.heap.size=B at Q0 Hz⊢;generalize wr.alloc (.cells #[.int .i64 m.n,.int .u8 m.e0.toNat,.int .u8 m.e1.toNat,.int .u8 m.e2.toNat,.int .u8 m.e3.toNat,.int .u8 m.e4.toNat,.int .u8 m.e5.toNat] 111)=W0 at Q0 HB0 Hz P0⊢;clear hb hbl;have Hsm:=Lib.hid (fN.calls (W0:=W0) λW _=>bDx m W);rw[hsb]at Hsm;have Hor:=Lib.hid (fN.calls (W0:=W0) λW _=>order_below q m W);obtain⟨r0,r1,r2,r3,r4,r5,r6⟩:=Q0.out.later0;obtain⟨s0,s1,s2,s3,s4,s5,s6⟩:=P0.out.later;clear Q0 Hz P0;refine kQ k8 k8 ?_
      repeat (go_big_quiet_step ((first|(go_at_call 98;exact Hsm.out _)|(go_at_call 99;exact Hor.out _))))
      refine wpQuiet_nil ?_;rintro _ ⟨x,rfl⟩;clear r0 r1 r2 r3 r4 r5 r6 s0 s1 s2 s3 s4 s5 s6 Hsm Hor;have HBX:=Lib.hid (show Below w.heap.size w x.w from HB0.out.trans (x.h.mono HB0.out.size));clear HB0
      by_cases ho:ord q m<0
      .have ho1:decide ((0:Int)<=ord q m)=false:=by simp;omega
       go_wp2
       go_roundw
       case rel=>exact⟨j+1+1,k7,by go_num,r8,HBX.out⟩
       case measure=>simp[intOf];omega
      .have ho1:decide ((0:Int)<=ord q m)=true:=by simp;omega
       go_wp2
       go_ret
       exact⟨jB u5,HBX.out⟩
   .have hk':k=xs.length:=k7
    go_wp2
    go_ret
    refine⟨jB ?_,hbl⟩;rw[hs.out,List.drop_of_length_le k7];split<;>(try cases xs[k-1]?)<;>simp[dI]
 .have hl1:decide ((48:Int)<(xs.length:Int))=true:=by simp;omega
  go_enter func43,ntmps43
  go_wp2
  go_ret
  exact⟨jB (by simp[cL,hl]),Below.refl _ _⟩
end
section
open Go.RowKit Go.Sort Go.Proofs.Tryz
set_option maxRecDepth 100000
open Go.ChangeMaps (setBlock)
theorem bRb{α:Type}(f:α->Nat): ∀{l:List α},(l.map f).Nodup-> ∀p∈l,l.Perm (p::l.filter (λq=>f q !=f p))
 |[],_,p,hp=>by simp at hp
 |a::l,hn,p,hp=>by
  simp only[List.map_cons,List.nodup_cons]at hn
  rcases List.mem_cons.1 hp with rfl|hp'
  .have e:l.filter (λq=>f q !=f p)=l:=by
    rw[List.filter_eq_self];intro q hq;rw[bne_iff_ne];intro h;exact hn.1 (List.mem_map.2 ⟨q,hq,h⟩)
   simp[e]
  .have hne:f a≠f p:=λh=>hn.1 (List.mem_map.2 ⟨p,hp',h.symm⟩);rw[List.filter_cons_of_pos (by rw[bne_iff_ne];exact hne)];exact((bRb f hn.2 p hp').cons a).trans (List.Perm.swap _ _ _)
def vY (Z:List (MapEntry×Mono))(seen:Array Nat):List (MapEntry×Mono):=Z.filter λp=>!seen.contains p.1.born
def nz (m:Mono):Bool:=m.n !=0
theorem zip_mem{es:List MapEntry}{L:List Mono}(h:es.map kvE=L.map kvM){p:MapEntry×Mono}(hp:p∈es.zip L):kvE p.1=kvM p.2:=by
 induction es generalizing L with
 |nil=>simp at hp
 |cons e es ih=>
  cases L with
  |nil=>simp at hp
  |cons m L=>
   simp only[List.map_cons,List.cons.injEq]at h;simp only[List.zip_cons_cons,List.mem_cons]at hp
   rcases hp with rfl|hp
   .exact h.1
   .exact ih h.2 hp
theorem bEd{es:Array MapEntry}{L:List Mono}(hl:es.toList.length=L.length)(seen:Array Nat):(vY (es.toList.zip L) seen).map (·.1)=(leftOf es seen).toList:=by
 unfold vY leftOf;rw[Array.toList_filter];rw[show(es.toList.zip L).filter (λp=>!seen.contains p.1.born)=(es.toList.zip L).filter ((λe:MapEntry=>!seen.contains e.born)∘Prod.fst)from rfl];rw[<-List.filter_map,List.map_fst_zip k7]
theorem left_step{es:Array MapEntry}{L:List Mono}(hkv:es.toList.map kvE=L.map kvM)(hnd:(es.toList.map (·.born)).Nodup){seen:Array Nat}{e:MapEntry}(he:e∈(leftOf es seen).toList):
  ∃m,e.key= .agg #[.int .u8 m.e0.toNat,.int .u8 m.e1.toNat,.int .u8 m.e2.toNat,.int .u8 m.e3.toNat,.int .u8 m.e4.toNat,.int .u8 m.e5.toNat]/\e.val= .int .i64 m.n/\(vY (es.toList.zip L) seen).Perm ((e,m)::vY (es.toList.zip L) (seen.push e.born)):=by
 have hl:es.toList.length=L.length:=by simpa using congrArg List.length hkv
 rw[<-bEd hl]at he;obtain⟨⟨e',m⟩,hp,rfl⟩:=List.mem_map.1 he;have hz:=zip_mem hkv (List.mem_filter.1 hp).1;simp only[kvE,kvM,Prod.mk.injEq]at hz;refine⟨m,hz.1,hz.2,?_⟩
 have hnd':((vY (es.toList.zip L) seen).map λp=>p.1.born).Nodup:=by
  have h1:((es.toList.zip L).map λp=>p.1.born).Nodup:=by
   rw[show(λp:MapEntry×Mono=>p.1.born)=(·.born)∘Prod.fst from rfl,<-List.map_map,List.map_fst_zip k7];exact hnd
  exact h1.sublist (List.Sublist.map _ List.filter_sublist)
 have h:=bRb (λp:MapEntry×Mono=>p.1.born) hnd' (e',m) hp;refine h.trans (List.Perm.of_eq ?_)
 congr 1
 unfold vY;rw[List.filter_filter];apply List.filter_congr;intro p _;simp only[Array.contains_push,Bool.not_or];cases seen.contains p.1.born<;>simp[bne]
def gM (L:List Mono):List Mono×Int:=if cL (lP L)then (lP L,0)else ([],21)
def bGc (w:World)(r:List Mono×Int)(e:Ending)(w':World):Prop:=
 ∃v,e= .returned (.tuple #[v,.int .i64 r.2])/\Below w.heap.size w w'/\Res w.heap.size w' v r.1
theorem bGc.list{w w':World}{r:List Mono×Int}{e:Ending}(h:bGc w r e w'): ∃A c,e= .returned (.tuple #[.slice A r.1.length c,.int .i64 r.2])/\Below w.heap.size w w'/\jY w' A r.1:=by
 obtain⟨v,rfl,hb,A,c,rfl,hr⟩:=h;exact⟨A,c,rfl,hb,(Res.monos (B:=w.heap.size) ⟨A,c,rfl,hr⟩).1⟩
theorem bJc(m:Mono)(w:World):(Instr.build 111 #[(0,.int .i64 m.n),(1,.agg #[.int .u8 m.e0.toNat,.int .u8 m.e1.toNat,.int .u8 m.e2.toNat,.int .u8 m.e3.toNat,.int .u8 m.e4.toNat,.int .u8 m.e5.toNat])]).run prog w= .ok (.agg #[.int .i64 m.n,.int .u8 m.e0.toNat,.int .u8 m.e1.toNat,.int .u8 m.e2.toNat,.int .u8 m.e3.toNat,.int .u8 m.e4.toNat,.int .u8 m.e5.toNat]) w:=run_build w _ _ _ k8
theorem info_mono:(prog.info? 111).map (λi=>(i.zero,i.size,i.bytes))=some (some (.agg #[.int .i64 0,.int .u8 0,.int .u8 0,.int .u8 0,.int .u8 0,.int .u8 0,.int .u8 0]),7,16):=k8
theorem cells_at{W:World}{g:Nat}{t:TypeId}{m:Mono}(hb:W.heap[g]?=some (.cells #[.int .i64 m.n,.int .u8 m.e0.toNat,.int .u8 m.e1.toNat,.int .u8 m.e2.toNat,.int .u8 m.e3.toNat,.int .u8 m.e4.toNat,.int .u8 m.e5.toNat] t)): ∀j u,m.cells[j]?=some u->W.cell? ((⟨g,0,none⟩:Addr).add j)=some u:=λj u hu=>by
 have e:((⟨g,0,none⟩:Addr).add j)=⟨g,j,none⟩:=by
  unfold Addr.add;split<;>simp_all
 rw[e];unfold World.cell?;rw[hb]
 simpa[Mono.cells]using hu
theorem bIh{w w1:World}{r:Nat}(o:Obj)(h:w1=w\/w1=w.drew):w.grownBy (setBlock w1 r o) (some r):=by
 have hs: ∀h:Array Obj,h.size<=(h.setIfInBounds r o).size:=λh=>by simp
 have hk: ∀(h:Array Obj) (i:Nat),r≠i->(h.setIfInBounds r o)[i]?=h[i]?:=λh i hne=>by simp[hne]
 rcases h with rfl|rfl<;>exact⟨rfl,rfl,rfl,hs _,λi hi hne=>hk _ _ (λe=>hne (by rw[e]))⟩
theorem left_eq{W:World}{b r:Nat}{es:Array MapEntry}{L:List Mono}{c c' s:Nat}{x:Option Nat}{seen:Array Nat}(hl:es.toList.length=L.length)(h1:W.heap[b]?=some (.map es c))(h2:W.heap[r]?=some (.mapIter x s seen c')):
  W.rangeLeft b r=(vY (es.toList.zip L) seen).length:=by
 unfold World.rangeLeft;rw[h1,h2];show(leftOf es seen).size=_;rw[<-Array.length_toList,<-bEd hl,List.length_map]
theorem perm_skip{C F:List Mono}{Z Z':List (MapEntry×Mono)}{e:MapEntry}{m:Mono}(h:(C++(Z.map (·.2)).filter nz).Perm F)(hp:Z.Perm ((e,m)::Z'))(hm:nz m=false):(C++(Z'.map (·.2)).filter nz).Perm F:=by
 have h1:(Z.map (·.2)).Perm (m::Z'.map (·.2)):=by simpa using hp.map (·.2)
 have h2:=h1.filter nz;rw[List.filter_cons_of_neg (by rw[hm];simp)]at h2;exact(h2.symm.append_left C).trans h
theorem perm_take1{C F:List Mono}{Z Z':List (MapEntry×Mono)}{e:MapEntry}{m:Mono}(h:(C++(Z.map (·.2)).filter nz).Perm F)(hp:Z.Perm ((e,m)::Z'))(hm:nz m=true):(C++[m]++(Z'.map (·.2)).filter nz).Perm F:=by
 have h1:(Z.map (·.2)).Perm (m::Z'.map (·.2)):=by simpa using hp.map (·.2)
 have h2:=h1.filter nz;rw[List.filter_cons_of_pos hm]at h2;rw[List.append_assoc];exact(h2.symm.append_left C).trans h
theorem owns_far{w w':World}{B it:Nat}{v:Value}{C:List Mono}(h:bNj w B v C)(hg:w.grownBy w' (some it))(hit:it<B):bNj w' B v C:=by
 refine World.ownsRow.kept h hg ?_
 rcases h.2 with ⟨rfl,_⟩|⟨g,cap,cur,rfl,hb,_⟩
 .exact .inl rfl
 .refine .inr λe=>?_;simp[Value.ownBlock]at e;omega
theorem own_ne{w:World}{B it:Nat}{v:Value}{C:List Mono}(h:bNj w B v C)(hit:it<B):some it≠v.ownBlock:=by
 rcases h.2 with ⟨rfl,_⟩|⟨g,cap,cur,rfl,hb,_⟩
 .simp[Value.ownBlock]
 .intro e;simp[Value.ownBlock]at e;omega
theorem bFn{B:Nat}{a w w':World}{row:Option Nat}(h:Below B a w)(hg:w.grownBy w' row)(hB:B<=w.heap.size)(hr: ∀k,row=some k->B<=k):Below B a w':=h.grown hg hB hr
set_option maxHeartbeats 1000000 in
theorem bIl(r:Nat)(L:List Mono)(w:World)(hm:mC w r L)(hA:iQ L)(hL:L.length<=1000000):
  Calls prog 163 #[.map (some r)] w (bGc w (gM L)):=by
 obtain⟨es,clock,hb,hkv,hlt,hnd⟩:=hm;have hr:r<w.heap.size:=(Array.getElem?_eq_some_iff.1 hb).1
 have hrange:(Instr.range 282 (.map (some r))).run prog w= .ok (.pointer (some ⟨w.heap.size,0,none⟩)) (w.alloc (.mapIter (some r) clock #[] clock)):=by
  unfold Instr.range;simp only[Sem.run_bind,run_underlying underlying282,Result.andThen_ok,MapKept.run_getObj_map hb,Sem.run_pure];rfl
 have HA:=Lib.hid hA;have Hkv:=Lib.hid hkv;have Hnd:=Lib.hid hnd;have Hlt:=Lib.hid hlt;have Hb:=Lib.hid hb;clear hA hkv hnd hlt hb
 go_enter func163,ntmps163
 go_wp2
 go_loopw [4] (λv wr=> ∃(seen:Array Nat) (C:List Mono),wr.heap[w.heap.size]?=some (.mapIter (some r) clock seen clock)/\bNj wr (w.heap.size+1) v C/\Hid ((C++((vY (es.toList.zip L) seen).map (·.2)).filter nz).Perm (L.filter nz))/\Below w.heap.size w wr) (λ_ wr=>wr.rangeLeft r w.heap.size)
 case atStart=>
  refine⟨#[],[],heap_alloc_new _ _,World.ownsRow_nil _ _ _ _,?_,(Below.refl _ _).alloc (Nat.le_refl _) _⟩;show List.Perm _ _;have hl:es.toList.length=L.length:=by simpa using congrArg List.length Hkv.out
  have e:vY (es.toList.zip L) #[]=es.toList.zip L:=by simp[vY]
  rw[e,List.map_snd_zip k7];simp
 case round=>
  obtain⟨seen,C,hit,hown,hperm,hbl⟩:=hrel;have hbr:wr.heap[r]?=some (.map es clock):=(hbl.block r hr).trans Hb.out
  rcases run_next_at (P:=prog) wr 0 w.heap.size r clock clock seen es clock hit hbr Hlt.out (Nat.le_refl _)with ⟨h0,hn⟩|⟨e,he,w1,hw1,hn⟩
  .have hl:es.toList.length=L.length:=by simpa using congrArg List.length Hkv.out
   have hz:vY (es.toList.zip L) seen=[]:=by
    have h1:=bEd hl seen;rw[show(leftOf es seen).toList=[]from List.eq_nil_of_length_eq_zero (by simpa using h0)]at h1;exact List.map_eq_nil_iff.1 h1
   have hpm:C.Perm (L.filter nz):=by have:=hperm.out;rw[hz]at this;simpa using this
   have hCl:C.length<=1000000:=by
    have h1:=hpm.length_eq;have h2:=List.length_filter_le nz L;omega
   have HC:=Lib.hid (show ∀T:List Mono,T.Perm C->T.Pairwise (λa b=>b.key<=a.key)->T=lP L from λT h1 h2=>canon_of HA.out (h1.trans hpm) h2);have Hown:=Lib.hid hown;have HBL:=Lib.hid hbl;clear hit hbr hperm hpm hz hl h0 hown hbl
   rcases Hown.out.2 with ⟨hnil,hC⟩|⟨g,cap,cur,hv,hg,_⟩
   .go_wp2_with fail
    rw[hnil];refine(sort_none _ _ _).mono ?_;rintro e w1 ⟨rfl,hb1⟩;obtain rfl:C=[]:=List.eq_nil_of_length_eq_zero hC;have hcan:lP L=[]:=(HC.out [] (List.Perm.refl _) List.Pairwise.nil).symm;have Hcan:=Lib.hid hcan;clear hcan;have hb1':=Lib.hid hb1;clear hb1
    go_wp2_with fail
    refine(gA none 0 [] _ jY.nil m9).mono ?_;rintro e w2 ⟨rfl,hb2⟩;have hrb:cL []=true:=rfl;have HB2:=Lib.hid (show Below w.heap.size w w2 from (HBL.out.trans (hb1'.out.mono HBL.out.size)).trans (hb2.mono (by have:=HBL.out.size;have:=hb1'.out.size;omega)));clear hb2 hb1' HBL
    go_wp2
    go_ret2
    have e:gM L=([],0):=by unfold gM;rw[Hcan.out];rfl
    rw[e];exact⟨_,rfl,HB2.out,Res.nil _ _ _ _⟩
   .have hrow:Row wr g C:=by
     have h:=Hown.out;rw[hv]at h;exact bNj.row h
    have hgl:g<wr.heap.size:=(World.ownsRow.lt Hown.out g (by rw[hv];rfl)).2;have HG:=Lib.hid hg;have HR:=Lib.hid hrow;clear hrow hg
    go_wp2_with fail
    rw[hv];refine(sort_any g cap C wr HR.out hgl k7).mono ?_;rintro e w1 ⟨rfl,T,hTp,hTs,hTr,hsz,hos,htp,hou,hkeep⟩;have hT:T=lP L:=HC.out T hTp hTs;have hTl:T.length=C.length:=hTp.length_eq;have hb1:Below w.heap.size w w1:=HBL.out.trans ⟨hos,htp,hou,hsz,λk hk=>hkeep k (Nat.lt_of_lt_of_le hk HBL.out.size) (by have:=HG.out;omega)⟩;have HB1:=Lib.hid hb1;have hgl1:g<w1.heap.size:=Nat.lt_of_lt_of_le hgl hsz;have HTr:=Lib.hid hTr;have HT:=Lib.hid hT;have HTl:=Lib.hid hTl;clear hTp hTs hTr hsz hos htp hou hkeep hT hTl hb1 HR HBL
    go_wp2_with fail
    rw[<-HTl.out];refine(gA _ cap T _ HTr.out.monos (by rw[HTl.out];omega)).mono ?_;rintro e w2 ⟨rfl,hb2⟩;have HB2:=Lib.hid (show Below w.heap.size w w2 from HB1.out.trans (hb2.mono HB1.out.size));have HTr2:=Lib.hid (show Row w2 g T from HTr.out.below hb2 hgl1);clear hb2 HB1 HTr;cases hrb:cL T
    .go_wp2
     go_ret2
     have e:gM L=([],21):=by unfold gM;rw[<-HT.out,hrb];rfl
     rw[e];exact⟨_,rfl,HB2.out,Res.nil _ _ _ _⟩
    .go_wp2
     go_ret2
     have e:gM L=(T,0):=by unfold gM;rw[<-HT.out,hrb];rfl
     rw[e];refine⟨_,rfl,HB2.out,some ⟨g,0,none⟩,cap,?_,.inr ⟨g,rfl,by have:=HG.out;omega,HTr2.out⟩⟩;simp[HTl.out]
  .obtain⟨m,hk,hv,hp⟩:=left_step Hkv.out Hnd.out he;rw[hk,hv]at hn
   obtain⟨W1,hW1⟩: ∃W1,W1=setBlock w1 w.heap.size (.mapIter (some r) clock (seen.push e.born) clock):=⟨_,rfl⟩
   rw[<-hW1]at hn;have hg1:wr.grownBy W1 (some w.heap.size):=by rw[hW1];exact bIh _ hw1
   have hit1:W1.heap[w.heap.size]?=some (.mapIter (some r) clock (seen.push e.born) clock):=by
    rw[hW1]
    have hlt:w.heap.size<w1.heap.size:=by
     have:=(Array.getElem?_eq_some_iff.1 hit).1
     rcases hw1 with rfl|rfl<;>exact this
    simp[setBlock,hlt]
   have hbr1:W1.heap[r]?=some (.map es clock):=(hg1.block r (Array.getElem?_eq_some_iff.1 hbr).1 (by intro h;injection h with h;omega)).trans hbr
   have hen:(Instr.entry (.pointer (some ⟨w.heap.size,0,none⟩))).run prog W1= .ok (.tuple #[.agg #[.int .u8 m.e0.toNat,.int .u8 m.e1.toNat,.int .u8 m.e2.toNat,.int .u8 m.e3.toNat,.int .u8 m.e4.toNat,.int .u8 m.e5.toNat],.int .i64 m.n]) W1:=by
    have:=run_entry_at (P:=prog) W1 w.heap.size r clock seen es clock e hit1 hbr1 (by
     have:=he;unfold leftOf at this;rw[Array.toList_filter]at this
     exact(List.mem_filter.1 this).1) Hnd.out
    rw[hk,hv]at this;exact this
   have Hown:=Lib.hid (owns_far hown hg1 (Nat.lt_succ_self _));have HBL:=Lib.hid (bFn hbl hg1 hbl.size (λk hk=>by injection hk with hk;omega));have Hit:=Lib.hid hit1;have Hbr:=Lib.hid hbr1;have hl:es.toList.length=L.length:=by simpa using congrArg List.length Hkv.out
   have Hmes:=Lib.hid (show wr.rangeLeft r w.heap.size=(vY (es.toList.zip L) (seen.push e.born)).length+1 by rw[left_eq hl hbr hit,hp.length_eq];rfl);have Hl:=Lib.hid hl
   have hCl:C.length<=1000000:=by
    have h1:=hperm.out.length_eq;have h2:=List.length_filter_le nz L;simp only[List.length_append]at h1;omega
   have Hp:=Lib.hid hp;clear hl hp;clear hW1 hg1 hit1 hbr1 hit hbr hown hbl hw1 he hk hv;have hbu:=bJc m
   by_cases hz:m.n=0
   .have hz1:(m.n !=0)=false:=by simp[hz]
    have Hz:=Lib.hid hz;clear hz
    go_wp2
    have q1:(W1.alloc (.cells #[.int .u8 m.e0.toNat,.int .u8 m.e1.toNat,.int .u8 m.e2.toNat,.int .u8 m.e3.toNat,.int .u8 m.e4.toNat,.int .u8 m.e5.toNat] 109)).heap[w.heap.size]?=some (.mapIter (some r) clock (seen.push e.born) clock):=(Below.heap_alloc _ _ _ (Array.getElem?_eq_some_iff.1 Hit.out).1).trans Hit.out;have q2:(W1.alloc (.cells #[.int .u8 m.e0.toNat,.int .u8 m.e1.toNat,.int .u8 m.e2.toNat,.int .u8 m.e3.toNat,.int .u8 m.e4.toNat,.int .u8 m.e5.toNat] 109)).heap[r]?=some (.map es clock):=(Below.heap_alloc _ _ _ (Array.getElem?_eq_some_iff.1 Hbr.out).1).trans Hbr.out
    go_roundw
    case rel=>exact⟨seen.push e.born,C,q1,Hown.out.alloc _,perm_skip hperm.out Hp.out (by simp[nz,Hz.out]),HBL.out.alloc HBL.out.size _⟩
    case measure=>rw[left_eq Hl.out q2 q1,Hmes.out];omega
   .have hz1:(m.n !=0)=true:=by simp[hz]
    clear hz;obtain⟨i0,hi0,hi1,hi2,hi3⟩:=info_parts info_mono
    go_wp2_with (at_builtin;refine wpList_append_own_at _ rfl (.tmp 16) (.tmp 20) 43 rfl (w.heap.size+1) 111 i0 _ 7 16 underlying43 hi0 hi1 hi2 hi3 rfl m7 _ C.length (flat C) rfl ((Hown.out.alloc _).alloc _) ⟨W1.heap.size+1,0,none⟩ 1 1 m.cells rfl rfl ?hx ?h1 ?h2 ?h3 ?h4 ?_)
    case hx=>exact cells_at (by rw[<-World.size_alloc];exact heap_alloc_new _ _)
    case h1=>exact bRp m
    case h2=>unfold maxLen;omega
    case h3=>omega
    case h4=>have:=HBL.out.size;simp;omega
    intro v' w2 hown2 hgrow2 _ _;have hs2:=HBL.out.size
    have e1:((W1.alloc (.cells #[.int .u8 m.e0.toNat,.int .u8 m.e1.toNat,.int .u8 m.e2.toNat,.int .u8 m.e3.toNat,.int .u8 m.e4.toNat,.int .u8 m.e5.toNat] 109)).alloc (.cells #[.int .i64 m.n,.int .u8 m.e0.toNat,.int .u8 m.e1.toNat,.int .u8 m.e2.toNat,.int .u8 m.e3.toNat,.int .u8 m.e4.toNat,.int .u8 m.e5.toNat] 111)).heap[w.heap.size]?=some (.mapIter (some r) clock (seen.push e.born) clock):=by
     rw[Below.heap_alloc _ _ _ (by have:=(Array.getElem?_eq_some_iff.1 Hit.out).1;simp;omega),Below.heap_alloc _ _ _ (Array.getElem?_eq_some_iff.1 Hit.out).1];exact Hit.out
    have e2:((W1.alloc (.cells #[.int .u8 m.e0.toNat,.int .u8 m.e1.toNat,.int .u8 m.e2.toNat,.int .u8 m.e3.toNat,.int .u8 m.e4.toNat,.int .u8 m.e5.toNat] 109)).alloc (.cells #[.int .i64 m.n,.int .u8 m.e0.toNat,.int .u8 m.e1.toNat,.int .u8 m.e2.toNat,.int .u8 m.e3.toNat,.int .u8 m.e4.toNat,.int .u8 m.e5.toNat] 111)).heap[r]?=some (.map es clock):=by
     rw[Below.heap_alloc _ _ _ (by have:=(Array.getElem?_eq_some_iff.1 Hbr.out).1;simp;omega),Below.heap_alloc _ _ _ (Array.getElem?_eq_some_iff.1 Hbr.out).1];exact Hbr.out
    have q1:w2.heap[w.heap.size]?=some (.mapIter (some r) clock (seen.push e.born) clock):=(hgrow2.block _ (Array.getElem?_eq_some_iff.1 e1).1 (own_ne Hown.out (Nat.lt_succ_self _))).trans e1;have q2:w2.heap[r]?=some (.map es clock):=(hgrow2.block _ (Array.getElem?_eq_some_iff.1 e2).1 (own_ne Hown.out k7)).trans e2;have hb2:Below w.heap.size w ((W1.alloc (.cells #[.int .u8 m.e0.toNat,.int .u8 m.e1.toNat,.int .u8 m.e2.toNat,.int .u8 m.e3.toNat,.int .u8 m.e4.toNat,.int .u8 m.e5.toNat] 109)).alloc (.cells #[.int .i64 m.n,.int .u8 m.e0.toNat,.int .u8 m.e1.toNat,.int .u8 m.e2.toNat,.int .u8 m.e3.toNat,.int .u8 m.e4.toNat,.int .u8 m.e5.toNat] 111)):=(HBL.out.alloc hs2 _).alloc o7 _
    have hb3:Below w.heap.size w w2:=bFn hb2 hgrow2 hb2.size (λk hk=>by
     have:=(World.ownsRow.lt Hown.out k hk).1
     omega)
    have Q1:=Lib.hid q1;have Q2:=Lib.hid q2
    have HO2:=Lib.hid (show bNj w2 (w.heap.size+1) v' (C++[m]) by
     have:=hown2;unfold bNj;rw[flat_snoc,List.length_append]
     exact this)
    have HB3:=Lib.hid hb3;clear e1 e2 q1 q2 hb2 hb3 hown2 hgrow2 Hown HBL Hit Hbr hs2 hi0 hi1 hi2 hi3 hbu hen hn
    go_wp2
    go_roundw
    case rel=>exact⟨seen.push e.born,C++[m],Q1.out,HO2.out,perm_take1 hperm.out Hp.out hz1,HB3.out⟩
    case measure=>rw[left_eq Hl.out Q2.out Q1.out,Hmes.out];omega
end
section
open Go.RowKit Go.Sort Go.Proofs.Tryz
set_option maxRecDepth 100000
open Go.ChangeMaps (setBlock)
def sA (m:Mono)(v:Int)(L:List Mono):List Mono:=setTo m (wrap64 (nO m L+v)) L
def fS (g:Mono->Int):List Mono->List Mono->List Mono
 |L,[]=>L
 |L,m::p=>fS g (sA m (g m) L) p
def bothP (p q:List Mono)(s:Int):List Mono×Int:=if cL p&&cL q then gM (fS (λm=>wrap64 (s*m.n)) (fS Mono.n [] p) q)else ([],20)
theorem mC.alloc{w:World}{r:Nat}{L:List Mono}(h:mC w r L)(o:Obj):mC (w.alloc o) r L:=by
 obtain⟨es,clock,hb,h1,h2,h3⟩:=h;exact⟨es,clock,(Below.heap_alloc _ _ _ (Array.getElem?_eq_some_iff.1 hb).1).trans hb,h1,h2,h3⟩
theorem mC.drew{w:World}{r:Nat}{L:List Mono}(h:mC w r L):mC w.drew r L:=h
theorem mC.new(w:World):mC (w.alloc (.map #[] 0)) w.heap.size []:=⟨#[],0,heap_alloc_new _ _,rfl,m9,m9⟩
theorem sameE_E{k m:Mono}:k.sameE m=true↔k.key=m.key:=by
 rw[key_E];simp[Mono.sameE,Mono.E]
theorem yD{k y:Mono}{x:Int}: ∀{L:List Mono},y∈setTo k x L->y={k with n:=x}\/(y∈L)
 |[],h=>by simp[setTo]at h;exact .inl h
 |m::L,h=>by
  unfold setTo at h;split at h
  .rcases List.mem_cons.1 h with h|h
   .exact .inl h
   .exact .inr u4
  .rcases List.mem_cons.1 h with h|h
   .exact .inr u4
   .rcases yD h with h|h
    .exact .inl h
    .exact .inr u4
theorem wO(k:Mono)(x:Int): ∀{L:List Mono},iQ L->iQ (setTo k x L)
 |[],_=>by simp[setTo,iQ]
 |m::L,h=>by
  obtain⟨h1,h2⟩:=List.pairwise_cons.1 h;unfold setTo;split
  .rename_i hs;have e:k.key=m.key:=sameE_E.1 hs;refine List.pairwise_cons.2 ⟨λy hy=>?_,h2⟩;show k.key≠y.key;rw[e];exact h1 y hy
  .rename_i hs;refine List.pairwise_cons.2 ⟨λy hy=>?_,wO k x h2⟩
   rcases yD hy with rfl|hy
   .intro e;exact hs (sameE_E.2 e.symm)
   .exact h1 y hy
theorem kF(g:Mono->Int): ∀(p:List Mono) {L:List Mono},iQ L->iQ (fS g L p)
 |[],_,h=>h
 |m::p,_,h=>kF g p (wO m _ h)
theorem qP(k:Mono)(x:Int): ∀L:List Mono,(setTo k x L).length<=L.length+1
 |[]=>by simp[setTo]
 |m::L=>by
  unfold setTo;split
  .simp
  .have:=qP k x L;simp;omega
theorem rM{B:Nat}{a w:World}{r:Nat}(h:Below B a w)(hB:B<=r)(o:Obj):Below B a (setBlock w r o):=
 ⟨h.os,h.tape,h.output,by
  have:=h.size
  simpa[setBlock]using this,λi hi=>by
  have hne:r≠i:=k7
  have:=h.block i hi;rw[<-this]
  simp[setBlock,hne]⟩
set_option maxHeartbeats 1000000 in
theorem both_any(A B:Option Addr)(c d:Nat)(p q:List Mono)(s:Int)(w:World)(ha:jY w A p)(hb:jY w B q)(hp:p.length<=140737488355328)(hq:q.length<=140737488355328):
  Calls prog 167 #[.slice A p.length c,.slice B q.length d,.int .i64 s] w (bGc w (bothP p q s)):=by
 have Ha:=Lib.hid ha;have Hb:=Lib.hid hb;clear ha hb;cases hrp:cL p
 .have e:bothP p q s=([],20):=by unfold bothP;rw[hrp];rfl
  rw[e]
  go_enter func167,ntmps167
  go_wp2_with (go_at_call 43;refine(gA A c p _ Ha.out hp).mono ?_;rintro e w1 ⟨rfl,hb1⟩)
  go_ret2
  exact⟨_,rfl,hb1,Res.nil _ _ _ _⟩
 .cases hrq:cL q
  .have e:bothP p q s=([],20):=by unfold bothP;rw[hrp,hrq];rfl
   rw[e]
   go_enter func167,ntmps167
   go_wp2_with fail
   refine(gA A c p _ Ha.out hp).mono ?_;rintro e w1 ⟨rfl,hb1⟩;have H1:=Lib.hid hb1;clear hb1
   go_wp2_with fail
   refine(gA B d q _ (Hb.out.below H1.out) hq).mono ?_;rintro e w2 ⟨rfl,hb2⟩;have H2:=Lib.hid (show Below w.heap.size w w2 from H1.out.trans (hb2.mono H1.out.size));clear hb2
   go_wp2
   go_ret2
   exact⟨_,rfl,H2.out,Res.nil _ _ _ _⟩
  .have e:bothP p q s=gM (fS (λm=>wrap64 (s*m.n)) (fS Mono.n [] p) q):=by unfold bothP;rw[hrp,hrq];rfl
   rw[e]
   have hp48:p.length<=48:=by
    unfold cL at hrp;simp at hrp;exact hrp.1
   have hq48:q.length<=48:=by
    unfold cL at hrq;simp at hrq;exact hrq.1
   have hmm:= @run_makeMap prog
   go_enter func167,ntmps167
   go_wp2_with fail
   refine(gA A c p _ Ha.out hp).mono ?_;rintro e w1 ⟨rfl,hb1⟩;have H1:=Lib.hid hb1;clear hb1
   go_wp2_with fail
   refine(gA B d q _ (Hb.out.below H1.out) hq).mono ?_;rintro e w2 ⟨rfl,hb2⟩;have H2:=Lib.hid (show Below w.heap.size w w2 from H1.out.trans (hb2.mono H1.out.size));clear hb2 H1
   go_wp2
   generalize hr:w2.heap.size=r;have hrw:w.heap.size<=r:=by have:=H2.out.size;omega
   have hm0:mC (w2.alloc (.map #[] 0)) r []:=by rw[<-hr];exact mC.new _
   have hb0:Below w.heap.size w (w2.alloc (.map #[] 0)):=H2.out.alloc H2.out.size _;have HM0:=Lib.hid hm0;have HB0:=Lib.hid hb0;clear hm0 hb0 hr H2
   go_loopw [24] (λi wr=> ∃(k:Nat) (L:List Mono),k<=p.length/\i= .int .i64 k/\mC wr r L/\L.length<=k/\Hid (fS Mono.n [] p=fS Mono.n L (p.drop k))/\Below w.heap.size w wr) (λi _=>p.length-(intOf i).toNat)
   case atStart=>exact⟨0,[],Nat.zero_le _,rfl,HM0.out,m9,rfl,HB0.out⟩
   case round=>
    obtain⟨k,L,hk,rfl,hm,hLk,hL,hbl⟩:=hrel;have HM:=Lib.hid hm;clear hm
    by_cases hlt:k<p.length
    .obtain⟨m,hm,dm⟩:=lW hlt;obtain⟨b,o,rfl,hB,c0,c1,c2,c3,c4,c5,c6⟩:=Ha.out.below hbl k m hm;have q0:fE (wr.alloc (.cells #[.int .i64 m.n,.int .u8 m.e0.toNat,.int .u8 m.e1.toNat,.int .u8 m.e2.toNat,.int .u8 m.e3.toNat,.int .u8 m.e4.toNat,.int .u8 m.e5.toNat] 111)) wr.heap.size 0 m:=by simp[fE,go_sem]
     have Q0:=Lib.hid q0;have HM1:=Lib.hid (HM.out.alloc (.cells #[.int .i64 m.n,.int .u8 m.e0.toNat,.int .u8 m.e1.toNat,.int .u8 m.e2.toNat,.int .u8 m.e3.toNat,.int .u8 m.e4.toNat,.int .u8 m.e5.toNat] 111));have HB1:=Lib.hid (hbl.alloc hbl.size (.cells #[.int .i64 m.n,.int .u8 m.e0.toNat,.int .u8 m.e1.toNat,.int .u8 m.e2.toNat,.int .u8 m.e3.toNat,.int .u8 m.e4.toNat,.int .u8 m.e5.toNat] 111));have HL:=Lib.hid (show fS Mono.n [] p=fS Mono.n (sA m m.n L) (p.drop (k+1)) by rw[hL.out,dm,fS]);clear q0 hm dm hB HM hL
     go_wp2
     clear c0 c1 c2 c3 c4 c5 c6;generalize hb:wr.heap.size=X at Q0⊢;generalize wr.alloc (.cells #[.int .i64 m.n,.int .u8 m.e0.toNat,.int .u8 m.e1.toNat,.int .u8 m.e2.toNat,.int .u8 m.e3.toNat,.int .u8 m.e4.toNat,.int .u8 m.e5.toNat] 111)=W0 at Q0 HM1 HB1⊢;clear hb hbl;obtain⟨q0,q1,q2,q3,q4,q5,q6⟩:=Q0.out.zero;have hlk:=lR m HM1.out.drew;obtain⟨v0,st,w3,w4,hme,hlk1,hes,hm4,o4,hw4⟩:=xE m (wrap64 (nO m L+m.n)) HM1.out.drew;have HM4:=Lib.hid hm4;have HB4:=Lib.hid (show Below w.heap.size w w4 by rw[hw4];exact rM HB1.out.drew hrw _);clear hm4 hw4 HM1 HB1 Q0
     go_region
     clear hlk hme hlk1 hes q0 q1 q2 q3 q4 q5 q6
     go_wp2
     go_roundw
     case rel=>exact⟨k+1,sA m m.n L,k7,by go_num,HM4.out,Nat.le_trans (qP _ _ _) k7,HL,HB4.out⟩
     case measure=>simp[intOf];omega
    .have HL:=Lib.hid (show fS Mono.n [] p=L by rw[hL.out,List.drop_of_length_le k7,fS]);have hLk':L.length<=48:=k7
     have HBL:=Lib.hid hbl;clear hL hbl
     go_wp2
     go_loopw [40] (λi wr=> ∃(k:Nat) (T:List Mono),k<=q.length/\i= .int .i64 k/\mC wr r T/\T.length<=48+k/\Hid (fS (λm=>wrap64 (s*m.n)) L q=fS (λm=>wrap64 (s*m.n)) T (q.drop k))/\Below w.heap.size w wr) (λi _=>q.length-(intOf i).toNat)
     case atStart=>exact⟨0,L,Nat.zero_le _,rfl,HM.out,k7,rfl,HBL.out⟩
     case round=>
      obtain⟨j,T,hj,rfl,hm,hTk,hT,hbl⟩:=hrel;have HMT:=Lib.hid hm;clear hm HM HBL
      by_cases hlt2:j<q.length
      .obtain⟨m,hm,dm⟩:=lW hlt2;obtain⟨b,o,rfl,hB,c0,c1,c2,c3,c4,c5,c6⟩:=Hb.out.below hbl j m hm;have q0:fE (wr.alloc (.cells #[.int .i64 m.n,.int .u8 m.e0.toNat,.int .u8 m.e1.toNat,.int .u8 m.e2.toNat,.int .u8 m.e3.toNat,.int .u8 m.e4.toNat,.int .u8 m.e5.toNat] 111)) wr.heap.size 0 m:=by simp[fE,go_sem]
       have Q0:=Lib.hid q0;have HM1:=Lib.hid (HMT.out.alloc (.cells #[.int .i64 m.n,.int .u8 m.e0.toNat,.int .u8 m.e1.toNat,.int .u8 m.e2.toNat,.int .u8 m.e3.toNat,.int .u8 m.e4.toNat,.int .u8 m.e5.toNat] 111));have HB1:=Lib.hid (hbl.alloc hbl.size (.cells #[.int .i64 m.n,.int .u8 m.e0.toNat,.int .u8 m.e1.toNat,.int .u8 m.e2.toNat,.int .u8 m.e3.toNat,.int .u8 m.e4.toNat,.int .u8 m.e5.toNat] 111));have HT:=Lib.hid (show fS (λm=>wrap64 (s*m.n)) L q=fS (λm=>wrap64 (s*m.n)) (sA m (wrap64 (s*m.n)) T) (q.drop (j+1)) by rw[hT.out,dm,fS]);clear q0 hm dm hB HMT hT
       go_wp2
       clear c0 c1 c2 c3 c4 c5 c6;generalize hb:wr.heap.size=X at Q0⊢;generalize wr.alloc (.cells #[.int .i64 m.n,.int .u8 m.e0.toNat,.int .u8 m.e1.toNat,.int .u8 m.e2.toNat,.int .u8 m.e3.toNat,.int .u8 m.e4.toNat,.int .u8 m.e5.toNat] 111)=W0 at Q0 HM1 HB1⊢;clear hb hbl;obtain⟨q0,q1,q2,q3,q4,q5,q6⟩:=Q0.out.zero;have hlk:=lR m HM1.out.drew;obtain⟨v0,st,w3,w4,hme,hlk1,hes,hm4,o4,hw4⟩:=xE m (wrap64 (nO m T+wrap64 (s*m.n))) HM1.out.drew;have HM4:=Lib.hid hm4;have HB4:=Lib.hid (show Below w.heap.size w w4 by rw[hw4];exact rM HB1.out.drew hrw _);clear hm4 hw4 HM1 HB1 Q0
       go_region
       clear hlk hme hlk1 hes q0 q1 q2 q3 q4 q5 q6
       go_wp2
       go_roundw
       case rel=>exact⟨j+1,sA m (wrap64 (s*m.n)) T,k7,by go_num,HM4.out,Nat.le_trans (qP _ _ _) k7,HT,HB4.out⟩
       case measure=>simp[intOf];omega
      .have HT:=Lib.hid (show fS (λm=>wrap64 (s*m.n)) (fS Mono.n [] p) q=T by rw[HL.out,hT.out,List.drop_of_length_le k7,fS]);have HBL:=Lib.hid hbl;have hT96:T.length<=1000000:=k7
       clear hT hbl HL
       go_wp2_with fail
       refine(bIl r T _ HMT.out (by rw[<-HT.out];exact kF _ _ (kF _ _ List.Pairwise.nil)) hT96).mono ?_;rintro e w5 ⟨v,rfl,hb5,hv⟩;have HV:=Lib.hid (hv.mono HBL.out.size);have HB5:=Lib.hid (HBL.out.trans (hb5.mono HBL.out.size));clear hb5 hv
       go_wp2
       go_ret2
       rw[HT.out];exact⟨_,rfl,HB5.out,HV.out⟩
end
section
open Go.RowKit Go.Sort Go.Proofs.Tryz
set_option maxRecDepth 100000
open Go.ChangeMaps (setBlock)
def mulM (a b:Mono):Mono:=⟨wrap64 (a.n*b.n),a.e0+b.e0,a.e1+b.e1,a.e2+b.e2,a.e3+b.e3,a.e4+b.e4,a.e5+b.e5⟩
def kG (a:Mono):List Mono->List Mono->List Mono
 |L,[]=>L
 |L,b::q=>kG a (sA (mulM a b) (wrap64 (a.n*b.n)) L) q
def gV (q:List Mono):List Mono->List Mono->List Mono
 |L,[]=>L
 |L,a::p=>gV q (kG a L q) p
def mW (p q:List Mono):List Mono×Int:=if cL p&&cL q then gM (gV q [] p)else ([],20)
theorem bCm(a:Mono): ∀(q:List Mono) {L:List Mono},iQ L->iQ (kG a L q)
 |[],_,h=>h
 |_::q,_,h=>bCm a q (wO _ _ h)
theorem qU(q:List Mono): ∀(p:List Mono) {L:List Mono},iQ L->iQ (gV q L p)
 |[],_,h=>h
 |a::p,_,h=>qU q p (bCm a q h)
theorem fE.setBlock_far{w:World}{b o r:Nat}{m:Mono}(h:fE w b o m)(hne:b≠r)(x:Obj):fE (setBlock w r x) b o m:=by
 have hc: ∀o',(setBlock w r x).cell? ⟨b,o',none⟩=w.cell? ⟨b,o',none⟩:=λo'=>by
  have:(w.heap.setIfInBounds r x)[b]?=w.heap[b]?:=by simp[Ne.symm hne]
  simp only[World.cell?,setBlock,this]
 obtain⟨h0,h1,h2,h3,h4,h5,h6⟩:=h;exact⟨(hc _).trans h0,(hc _).trans h1,(hc _).trans h2,(hc _).trans h3,(hc _).trans h4,(hc _).trans h5,(hc _).trans h6⟩
theorem fE.lt{w:World}{b o:Nat}{m:Mono}(h:fE w b o m):b<w.heap.size:=by
 rcases Nat.lt_or_ge b w.heap.size with hlt|hge
 .exact hlt
 .have:=h.1;simp[World.cell?,Array.getElem?_eq_none hge]at this
theorem bEb(a b:UInt8):((a.toNat:Int)+(b.toNat:Int))%256=((a+b).toNat:Int):=by
 rw[UInt8.toNat_add];omega
def ExpAt (w:World)(b:Nat)(m:Mono):Prop:=
 w.cell? ⟨b,0,none⟩=some (.int .u8 m.e0.toNat)/\w.cell? ⟨b,1,none⟩=some (.int .u8 m.e1.toNat)/\w.cell? ⟨b,2,none⟩=some (.int .u8 m.e2.toNat)/\
 w.cell? ⟨b,3,none⟩=some (.int .u8 m.e3.toNat)/\w.cell? ⟨b,4,none⟩=some (.int .u8 m.e4.toNat)/\w.cell? ⟨b,5,none⟩=some (.int .u8 m.e5.toNat)
set_option maxHeartbeats 2000000 in
theorem mul_any(A B:Option Addr)(c d:Nat)(p q:List Mono)(w:World)(ha:jY w A p)(hb:jY w B q)(hp:p.length<=140737488355328)(hq:q.length<=140737488355328):
  Calls prog 94 #[.slice A p.length c,.slice B q.length d] w (bGc w (mW p q)):=by
 have Ha:=Lib.hid ha;have Hb:=Lib.hid hb;clear ha hb;cases hrp:cL p
 .have e:mW p q=([],20):=by unfold mW;rw[hrp];rfl
  rw[e]
  go_enter func94,ntmps94
  go_wp2_with (go_at_call 43;refine(gA A c p _ Ha.out hp).mono ?_;rintro e w1 ⟨rfl,hb1⟩)
  go_ret2
  exact⟨_,rfl,hb1,Res.nil _ _ _ _⟩
 .cases hrq:cL q
  .have e:mW p q=([],20):=by unfold mW;rw[hrp,hrq];rfl
   rw[e]
   go_enter func94,ntmps94
   go_wp2_with fail
   refine(gA A c p _ Ha.out hp).mono ?_;rintro e w1 ⟨rfl,hb1⟩;have H1:=Lib.hid hb1;clear hb1
   go_wp2_with fail
   refine(gA B d q _ (Hb.out.below H1.out) hq).mono ?_;rintro e w2 ⟨rfl,hb2⟩;have H2:=Lib.hid (show Below w.heap.size w w2 from H1.out.trans (hb2.mono H1.out.size));clear hb2
   go_wp2
   go_ret2
   exact⟨_,rfl,H2.out,Res.nil _ _ _ _⟩
  .have e:mW p q=gM (gV q [] p):=by unfold mW;rw[hrp,hrq];rfl
   rw[e]
   have hp48:p.length<=48:=by
    unfold cL at hrp;simp at hrp;exact hrp.1
   have hq48:q.length<=48:=by
    unfold cL at hrq;simp at hrq;exact hrq.1
   have hmm:= @run_makeMap prog
   go_enter func94,ntmps94
   go_wp2_with fail
   refine(gA A c p _ Ha.out hp).mono ?_;rintro e w1 ⟨rfl,hb1⟩;have H1:=Lib.hid hb1;clear hb1
   go_wp2_with fail
   refine(gA B d q _ (Hb.out.below H1.out) hq).mono ?_;rintro e w2 ⟨rfl,hb2⟩;have H2:=Lib.hid (show Below w.heap.size w w2 from H1.out.trans (hb2.mono H1.out.size));clear hb2 H1
   go_wp2
   generalize hr:w2.heap.size=r;have hrw:w.heap.size<=r:=by have:=H2.out.size;omega
   have hm0:mC (w2.alloc (.map #[] 0)) r []:=by rw[<-hr];exact mC.new _
   have hb0:Below w.heap.size w (w2.alloc (.map #[] 0)):=H2.out.alloc H2.out.size _;have HM0:=Lib.hid hm0;have HB0:=Lib.hid hb0;clear hm0 hb0 hr H2
   go_loopw [24] (λi wr=> ∃(k:Nat) (L:List Mono),k<=p.length/\i= .int .i64 k/\mC wr r L/\L.length<=k*48/\Hid (gV q [] p=gV q L (p.drop k))/\Below w.heap.size w wr) (λi _=>p.length-(intOf i).toNat)
   case atStart=>exact⟨0,[],Nat.zero_le _,rfl,HM0.out,m9,rfl,HB0.out⟩
   case round=>
    obtain⟨k,L,hk,rfl,hm,hLk,hL,hbl⟩:=hrel;have HM:=Lib.hid hm;clear hm
    by_cases hlt:k<p.length
    .obtain⟨a,hm,dm⟩:=lW hlt;obtain⟨b,o,rfl,hB,c0,c1,c2,c3,c4,c5,c6⟩:=Ha.out.below hbl k a hm;have q0:fE (wr.alloc (.cells #[.int .i64 a.n,.int .u8 a.e0.toNat,.int .u8 a.e1.toNat,.int .u8 a.e2.toNat,.int .u8 a.e3.toNat,.int .u8 a.e4.toNat,.int .u8 a.e5.toNat] 111)) wr.heap.size 0 a:=by simp[fE,go_sem]
     have hrx:r<wr.heap.size:=by obtain⟨es,cl,h,_⟩:=HM.out;exact(Array.getElem?_eq_some_iff.1 h).1
     have Q0:=Lib.hid q0;have HM1:=Lib.hid (HM.out.alloc (.cells #[.int .i64 a.n,.int .u8 a.e0.toNat,.int .u8 a.e1.toNat,.int .u8 a.e2.toNat,.int .u8 a.e3.toNat,.int .u8 a.e4.toNat,.int .u8 a.e5.toNat] 111));have HB1:=Lib.hid (hbl.alloc hbl.size (.cells #[.int .i64 a.n,.int .u8 a.e0.toNat,.int .u8 a.e1.toNat,.int .u8 a.e2.toNat,.int .u8 a.e3.toNat,.int .u8 a.e4.toNat,.int .u8 a.e5.toNat] 111));have HL:=Lib.hid (show gV q [] p=gV q (kG a L q) (p.drop (k+1)) by rw[hL.out,dm,gV]);clear q0 hm dm hB HM hL
     go_wp2
     clear c0 c1 c2 c3 c4 c5 c6;generalize wr.heap.size=X at Q0 hrx⊢;generalize wr.alloc (.cells #[.int .i64 a.n,.int .u8 a.e0.toNat,.int .u8 a.e1.toNat,.int .u8 a.e2.toNat,.int .u8 a.e3.toNat,.int .u8 a.e4.toNat,.int .u8 a.e5.toNat] 111)=W0 at Q0 HM1 HB1⊢;clear hbl
     go_loopw [30] (λi wi=> ∃(j:Nat) (T:List Mono),j<=q.length/\i= .int .i64 j/\mC wi r T/\T.length<=k*48+j/\Hid (kG a L q=kG a T (q.drop j))/\Below w.heap.size w wi/\fE wi X 0 a) (λi _=>q.length-(intOf i).toNat)
     case atStart=>exact⟨0,L,Nat.zero_le _,rfl,HM1.out,k7,rfl,HB1.out,Q0.out⟩
     case round=>
      obtain⟨j,T,hj,rfl,hm,hTk,hT,hbl,ha0⟩:=hrel;have HMT:=Lib.hid hm;have HA0:=Lib.hid ha0;clear hm ha0 HM1 HB1 Q0
      by_cases hlt2:j<q.length
      .obtain⟨b',hm,dm⟩:=lW hlt2;obtain⟨g,o',rfl,hB,d0,d1,d2,d3,d4,d5,d6⟩:=Hb.out.below hbl j b' hm;obtain⟨a0,a1,a2,a3,a4,a5,a6⟩:=HA0.out.zero;have hX:X<wr.heap.size:=fE.lt HA0.out
       obtain⟨t,ht⟩: ∃t,t=mulM a b':=⟨_,rfl⟩
       have HT:=Lib.hid (show kG a L q=kG a (sA t (wrap64 (a.n*b'.n)) T) (q.drop (j+1)) by rw[hT.out,dm,kG,ht]);have s0:((a.e0.toNat:Int)+(b'.e0.toNat:Int))%256=(t.e0.toNat:Int):=by rw[ht];exact bEb a.e0 b'.e0
       have s1:((a.e1.toNat:Int)+(b'.e1.toNat:Int))%256=(t.e1.toNat:Int):=by rw[ht];exact bEb a.e1 b'.e1
       have s2:((a.e2.toNat:Int)+(b'.e2.toNat:Int))%256=(t.e2.toNat:Int):=by rw[ht];exact bEb a.e2 b'.e2
       have s3:((a.e3.toNat:Int)+(b'.e3.toNat:Int))%256=(t.e3.toNat:Int):=by rw[ht];exact bEb a.e3 b'.e3
       have s4:((a.e4.toNat:Int)+(b'.e4.toNat:Int))%256=(t.e4.toNat:Int):=by rw[ht];exact bEb a.e4 b'.e4
       have s5:((a.e5.toNat:Int)+(b'.e5.toNat:Int))%256=(t.e5.toNat:Int):=by rw[ht];exact bEb a.e5 b'.e5
       have S0:=Lib.hid s0;have S1:=Lib.hid s1;have S2:=Lib.hid s2;have S3:=Lib.hid s3;have S4:=Lib.hid s4;have S5:=Lib.hid s5;have HBL:=Lib.hid hbl;clear hm dm hT ht s0 s1 s2 s3 s4 s5 hbl hB
       go_wp2
       clear d0 d1 d2 d3 d4 d5 d6;refine wp_loop_rounds 7 ?_;rw[rounds_succ]
       go_wp2
       go_region
       go_wp2
       rw[rounds_succ]
       go_wp2
       go_region
       go_wp2
       rw[rounds_succ]
       go_wp2
       go_region
       go_wp2
       rw[rounds_succ]
       go_wp2
       go_region
       go_wp2
       rw[rounds_succ]
       go_wp2
       go_region
       go_wp2
       rw[rounds_succ]
       go_wp2
       go_region
       go_wp2
       rw[rounds_succ]
       go_wp2
       rw[S0.out,S1.out,S2.out,S3.out,S4.out,S5.out];have kE:ExpAt ((wr.alloc (.cells #[.int .i64 b'.n,.int .u8 b'.e0.toNat,.int .u8 b'.e1.toNat,.int .u8 b'.e2.toNat,.int .u8 b'.e3.toNat,.int .u8 b'.e4.toNat,.int .u8 b'.e5.toNat] 111)).alloc (.cells #[.int .u8 t.e0.toNat,.int .u8 t.e1.toNat,.int .u8 t.e2.toNat,.int .u8 t.e3.toNat,.int .u8 t.e4.toNat,.int .u8 t.e5.toNat] 109)).drew.drew.drew.drew.drew.drew (wr.heap.size+1) t:=by simp[ExpAt,go_sem]
       have kB:fE ((wr.alloc (.cells #[.int .i64 b'.n,.int .u8 b'.e0.toNat,.int .u8 b'.e1.toNat,.int .u8 b'.e2.toNat,.int .u8 b'.e3.toNat,.int .u8 b'.e4.toNat,.int .u8 b'.e5.toNat] 111)).alloc (.cells #[.int .u8 t.e0.toNat,.int .u8 t.e1.toNat,.int .u8 t.e2.toNat,.int .u8 t.e3.toNat,.int .u8 t.e4.toNat,.int .u8 t.e5.toNat] 109)).drew.drew.drew.drew.drew.drew wr.heap.size 0 b':=by simp[fE,go_sem]
       have kX:Below wr.heap.size wr ((wr.alloc (.cells #[.int .i64 b'.n,.int .u8 b'.e0.toNat,.int .u8 b'.e1.toNat,.int .u8 b'.e2.toNat,.int .u8 b'.e3.toNat,.int .u8 b'.e4.toNat,.int .u8 b'.e5.toNat] 111)).alloc (.cells #[.int .u8 t.e0.toNat,.int .u8 t.e1.toNat,.int .u8 t.e2.toNat,.int .u8 t.e3.toNat,.int .u8 t.e4.toNat,.int .u8 t.e5.toNat] 109)).drew.drew.drew.drew.drew.drew:=by go_grown
       have kA:=HA0.out.below kX hX;have kM:mC ((wr.alloc (.cells #[.int .i64 b'.n,.int .u8 b'.e0.toNat,.int .u8 b'.e1.toNat,.int .u8 b'.e2.toNat,.int .u8 b'.e3.toNat,.int .u8 b'.e4.toNat,.int .u8 b'.e5.toNat] 111)).alloc (.cells #[.int .u8 t.e0.toNat,.int .u8 t.e1.toNat,.int .u8 t.e2.toNat,.int .u8 t.e3.toNat,.int .u8 t.e4.toNat,.int .u8 t.e5.toNat] 109)).drew.drew.drew.drew.drew.drew r T:=(HMT.out.alloc _).alloc _;have kW:=HBL.out.trans (kX.mono HBL.out.size);have KE:=Lib.hid kE;have KB:=Lib.hid kB;have KA:=Lib.hid kA;have KM:=Lib.hid kM;have KW:=Lib.hid kW;clear kE kB kX kA kM kW a0 a1 a2 a3 a4 a5 a6 S0 S1 S2 S3 S4 S5 HMT HBL HA0 hX;generalize ((wr.alloc (.cells #[.int .i64 b'.n,.int .u8 b'.e0.toNat,.int .u8 b'.e1.toNat,.int .u8 b'.e2.toNat,.int .u8 b'.e3.toNat,.int .u8 b'.e4.toNat,.int .u8 b'.e5.toNat] 111)).alloc (.cells #[.int .u8 t.e0.toNat,.int .u8 t.e1.toNat,.int .u8 t.e2.toNat,.int .u8 t.e3.toNat,.int .u8 t.e4.toNat,.int .u8 t.e5.toNat] 109)).drew.drew.drew.drew.drew.drew=W5 at KE KB KA KM KW⊢;generalize wr.heap.size=Y at KE KB⊢;obtain⟨x0,x1,x2,x3,x4,x5⟩:=KE.out;obtain⟨y0,y1,y2,y3,y4,y5,y6⟩:=KB.out.zero;obtain⟨z0,z1,z2,z3,z4,z5,z6⟩:=KA.out.zero;have hlk:=lR t KM.out.drew;obtain⟨v0,st,w3,w4,hme,hlk1,hes,hm4,o4,hw4⟩:=xE t (wrap64 (nO t T+wrap64 (a.n*b'.n))) KM.out.drew;have HM4:=Lib.hid hm4;have HB4:=Lib.hid (show Below w.heap.size w w4 by rw[hw4];exact rM KW.out.drew hrw _);have HA4:=Lib.hid (show fE w4 X 0 a by rw[hw4];exact fE.setBlock_far (show fE W5.drew X 0 a from KA.out) k7 _);clear hm4 hw4 KE KB KA KM KW
       go_region
       clear hlk hme hlk1 hes x0 x1 x2 x3 x4 x5 y0 y1 y2 y3 y4 y5 y6 z0 z1 z2 z3 z4 z5 z6
       go_wp2
       go_roundw
       case rel=>exact⟨j+1,sA t (wrap64 (a.n*b'.n)) T,k7,by go_num,HM4.out,Nat.le_trans (qP _ _ _) k7,HT,HB4.out,HA4.out⟩
       case measure=>simp[intOf];omega
      .have HT:=Lib.hid (show gV q [] p=gV q T (p.drop (k+1)) by rw[HL.out,hT.out,List.drop_of_length_le k7,kG]);have HBL:=Lib.hid hbl;have hT2:T.length<=(k+1)*48:=k7
       clear hT hbl HL HA0
       go_wp2
       go_roundw
       case rel=>exact⟨k+1,T,k7,by go_num,HMT.out,hT2,HT,HBL.out⟩
       case measure=>simp[intOf];omega
    .have HT:=Lib.hid (show gV q [] p=L by rw[hL.out,List.drop_of_length_le k7,gV]);have HBL:=Lib.hid hbl;have hT96:L.length<=1000000:=k7
     clear hL hbl
     go_wp2_with fail
     refine(bIl r L _ HM.out (by rw[<-HT.out];exact qU _ _ List.Pairwise.nil) hT96).mono ?_;rintro e w5 ⟨v,rfl,hb5,hv⟩;have HV:=Lib.hid (hv.mono HBL.out.size);have HB5:=Lib.hid (HBL.out.trans (hb5.mono HBL.out.size));clear hb5 hv
     go_wp2
     go_ret2
     rw[HT.out];exact⟨_,rfl,HB5.out,HV.out⟩
end
section
open Go.Proofs.Tryz
namespace X
open Go.RowKit Go.Proofs.Tryz
noncomputable section
def monoO (cs:List V):Option Mono:=match cs with
 |[n,a,b,c,d,e,f]=>asI n λk z=>gd (isI64 k) (ob (byteX a) λa=>ob (byteX b) λb=>ob (byteX c) λc=>ob (byteX d) λd=>ob (byteX e) λe=>ob (byteX f) λf=>some ⟨z,UInt8.ofNat a,UInt8.ofNat b,UInt8.ofNat c,UInt8.ofNat d,UInt8.ofNat e,UInt8.ofNat f⟩)
 |_=>none
def monoV (m:Mono):List V:=[.i .i64 m.n,.i .u8 m.e0.toNat,.i .u8 m.e1.toNat,.i .u8 m.e2.toNat,.i .u8 m.e3.toNat,.i .u8 m.e4.toNat,.i .u8 m.e5.toNat]
def insK (m:Mono):List Mono->List Mono
 |[]=>[m]
 |x::r=>sel (Nat.ble m.key x.key) (x::insK m r) (m::x::r)
def sortK:List Mono->List Mono
 |[]=>[]
 |m::r=>insK m (sortK r)
def bHr (L:List Mono):List Mono×Int:=(λc=>sel (cL c) (c,0) ([],21)) (sortK (L.filter λm=>m.n !=0))
def bothF (p q:List Mono)(s:Int):List Mono×Int:=sel (cL p&&cL q) (bHr (fS (λm=>wrap64 (s*m.n)) (fS Mono.n [] p) q)) ([],20)
def mulF (p q:List Mono):List Mono×Int:=sel (cL p&&cL q) (bHr (gV q [] p)) ([],20)
end
theorem bEm(m:Mono): ∀l:List Mono,(insK m l).Perm (m::l)
 |[]=> .refl _
 |x::r=>by
  unfold insK;rw[cJ];split
  .exact((bEm m r).cons x).trans (.swap m x r)
  .exact .refl _
theorem bFv(m:Mono): ∀l:List Mono,l.Pairwise (λa b=>b.key<=a.key)->(insK m l).Pairwise (λa b=>b.key<=a.key)
 |[],_=>by simp[insK]
 |x::r,h=>by
  obtain⟨h1,h2⟩:=List.pairwise_cons.1 h;unfold insK;rw[cJ];split
  .rename_i hk;refine List.pairwise_cons.2 ⟨λy hy=>?_,bFv m r h2⟩
   rcases List.mem_cons.1 ((bEm m r).mem_iff.1 hy)with rfl|hy
   .exact fI hk
   .exact h1 y hy
  .rename_i hk
   have hk:x.key<=m.key:=by
    rcases Nat.lt_or_ge m.key x.key with h|h
    .exact absurd (show Nat.ble m.key x.key=true by rw[Nat.ble_eq];exact Nat.le_of_lt h) hk
    .exact h
   refine List.pairwise_cons.2 ⟨λy hy=>?_,h⟩
   rcases List.mem_cons.1 hy with rfl|hy
   .exact hk
   .exact Nat.le_trans (h1 y hy) hk
theorem bJg: ∀l:List Mono,(sortK l).Perm l
 |[]=> .refl _
 |m::r=>(bEm m _).trans ((bJg r).cons m)
theorem bAy: ∀l:List Mono,(sortK l).Pairwise (λa b=>b.key<=a.key)
 |[]=> .nil
 |m::r=>bFv m _ (bAy r)
theorem bIx{L:List Mono}(h:iQ L):bHr L=gM L:=by
 unfold bHr gM;rw[canon_of h (bJg _) (bAy _)];show sel (cL (lP L)) (lP L,0) ([],21)=_;rw[cJ]
theorem bothF_eq(p q:List Mono)(s:Int):bothF p q s=bothP p q s:=by
 unfold bothF bothP;rw[cJ,bIx (kF _ _ (kF _ _ List.Pairwise.nil))]
theorem mulF_eq(p q:List Mono):mulF p q=mW p q:=by
 unfold mulF mW;rw[cJ,bIx (qU _ _ List.Pairwise.nil)]
section
variable [Ctx] {α : As} {s s' : St} {w w' : World}
omit [Ctx]in
theorem yK{v:V}{n:Nat}(h:byteX v=some n):v= .i .u8 (.ofNat n)/\n<256:=by
 unfold byteX at h;split at h
 .rename_i x;obtain⟨h1,h2⟩:=bL h;cases h2;exact⟨rfl,by simpa using h1⟩
 .cases h
omit [Ctx]in
theorem mono_is{cs:List V}{m:Mono}(h:monoO cs=some m):cs=monoV m:=by
 unfold monoO at h;split at h
 .rename_i n a b c d e f;obtain⟨k,z,rfl,h1⟩:=kT h;obtain⟨h2,h3⟩:=bL h1;obtain⟨a',ha,h3⟩:=bB h3;obtain⟨b',hb,h3⟩:=bB h3;obtain⟨c',hc,h3⟩:=bB h3;obtain⟨d',hd,h3⟩:=bB h3;obtain⟨e',he,h3⟩:=bB h3;obtain⟨f',hf,h3⟩:=bB h3;cases h3;obtain⟨rfl,la⟩:=yK ha;obtain⟨rfl,lb⟩:=yK hb;obtain⟨rfl,lc⟩:=yK hc;obtain⟨rfl,ld⟩:=yK hd;obtain⟨rfl,le⟩:=yK he;obtain⟨rfl,lf⟩:=yK hf;have u: ∀n:Nat,n<256->(UInt8.ofNat n).toNat=n:=λn hn=>by simp;omega
  have hk:k= .i64:=by cases k<;>first|rfl|cases h2
  subst hk;simp only[monoV,u _ la,u _ lb,u _ lc,u _ ld,u _ le,u _ lf];rfl
 .cases h
end
end X
end
section
open Go.Proofs.Tryz
namespace X
open Go.RowKit Go.Proofs.Tryz
noncomputable section
def upN (n0 d k:Nat):Nat:=sel (Nat.blt k n0) k (k+d)
def Cap.up(dc:Nat):Cap->Cap
 |.n c=> .n c
 |.s k d=> .s (k+dc) d
def upD (n0 d dc f:Nat):V->V:=Nat.rec (motive:=λ_=>V->V) (λv=>v) (λ_ ih v=>match v with
 |.p k o=> .p (upN n0 d k) o
 |.l k o n c=> .l (upN n0 d k) o n (c.up dc)
 |.z k o o' c=> .z (upN n0 d k) o o' (c+dc)
 |.y c=> .y (c+dc)
 |.m k=> .m (upN n0 d k)
 |.f fn a c=> .f fn (a.map ih) (c.map ih)
 |.e t v=> .e t (ih v)
 |.g cs=> .g (cs.map ih)
 |.t vs=> .t (vs.map ih)
 |v=>v) f
def V.up (n0 d dc:Nat)(v:V):V:=upD n0 d dc 5 v
def Blk.up(n0 d dc:Nat):Blk->Blk
 |.cells cs t ext ro=> .cells (cs.map (V.up n0 d dc)) t (ext.map λk=>k+dc) ro
 |.map es c=> .map (es.map λx=>(x.1.up n0 d dc,x.2.1.up n0 d dc,x.2.2)) c
 |.win cs=> .win (cs.map (V.up n0 d dc))
 |b=>b
def baseH (K:List (Nat×Nat)):T Blk:=List.rec .lf (λx _ ih=>ih.set (some (.know x.2)) fuelT x.1) K
def vT (D:List Nat)(s:St):Option (List (Nat×Blk)):=bHd (λk=>ob (s.h.get k) λx=>some (k,x)) D
section
variable [Ctx]
def baseS (K:List (Nat×Nat)):St:={h:=baseH K,n:=Ctx.n0,c:=0}
end
end
def As.up (α β:As)(n c d:Nat):As:={blk:=λk=>if k<n then α.blk k else β.blk (k-d),room:=λk=>if k<c then α.room k else β.room (k-c),place:=λk=>if k<c then α.place k else β.place (k-c)}
section
variable {α β : As} {n0 n c d n1 c1 : Nat}
theorem bEv: ∀{K:List (Nat×Nat)} {k:Nat} {x:Blk},(baseH K).get k=some x-> ∃m,(k,m)∈K/\x= .know m
 |[],_,_,h=>by cases h
 |y::K,k,x,h=>by
  have h:((baseH K).set (some (.know y.2)) fuelT y.1).get k=some x:=h
  rcases T.get_set_fuel _ _ _ _ _ _ h with ⟨rfl,e⟩|⟨_,h⟩
  .cases e;exact⟨y.2,List.mem_cons_self ..,rfl⟩
  .obtain⟨m,hm,h1⟩:=bEv h;exact⟨m,List.mem_cons_of_mem _ hm,h1⟩
end
section
variable [Ctx] {α β : As} {s : St} {w w' : World} {n0 n c d n1 c1 : Nat}
variable [Good]
theorem ran_true{f:FuncId}{N:Nat}{K:List (Nat×Nat)}{s':St}(h:callF f (zV N) [] (baseS K)=some (.b true,s'))(hs:Sim α (baseS K) w):
  (callFunc f #[]).run Ctx.P w= .ok (.enter f #[]) w/\Calls Ctx.P f #[] w λe w'=>e= .returned (.bool true)/\Below w.heap.size w w':=by
 obtain⟨h1,h2⟩:=bMy (run_ok N) hs h λx hx=>by cases hx
 refine⟨h1,h2.mono ?_⟩;rintro e w' ⟨u,rfl,β,rfl,hst⟩
 exact⟨rfl,hst.fr.os,hst.fr.tape,hst.fr.output,hst.fr.size,λb hb=>hst.fr.block b hb λk x hk hr=>by
  obtain⟨m,_,rfl⟩:=bEv hk
  cases hr⟩
end
end X
end
section
open Go.RowKit Go.Proofs.Tryz
inductive Tr where
 |nil
 |fl (k:Nat) (r:Tr)
 |op (k:Nat) (r:Tr)
 |two (k l:Nat) (r s:Tr)
def Tr.len:Tr->Nat
 |.nil=>0
 |.fl _ r=>r.len+1
 |.op _ r=>r.len+1
 |.two _ _ r _=>r.len+1
section
variable {P : Program} {ops : Array Oper} {md : Region.Mode} {C : World -> Prop} {Q : Exit -> Act -> World -> Prop}
def iU (P:Program)(ops:Array Oper)(C:World->Prop)(Q:Exit->Act->World->Prop):Tr->Act->World->Prop
 |.nil,a,w=>Q .normal a w
 |.fl k r,a,w=> ∃o v,ops[k]?=some o/\Fl P ops C o v a/\iU P ops C Q r (a.put o.dst v) w
 |.op k r,a,w=>fOp P ops k (λa w=>C w/\iU P ops C Q r a w) a w
 |.two k l r s,a,w=>fOp P ops k (λa w=>C w/\iU P ops C Q r a w) a w/\fOp P ops l (λa w=>C w/\iU P ops C Q s a w) a w
def iJ (md:Region.Mode)(ops:Array Oper):Tr->Array Bool->Bool
 |.nil,listed=>(Region.ready md ops listed).isEmpty
 |.fl k r,listed=>(Region.ready md ops listed).contains k&&Region.free md ops listed k&&iJ md ops r (listed.setIfInBounds k true)
 |.op k r,listed=>(Region.ready md ops listed==[k])&&iJ md ops r (listed.setIfInBounds k true)
 |.two k l r s,listed=>(Region.ready md ops listed==[k,l])&&Nat.beq r.len s.len&&iJ md ops r (listed.setIfInBounds k true)&&iJ md ops s (listed.setIfInBounds l true)
theorem pW(hs:Region.noSelect ops=true): ∀(l:Tr) (listed:Array Bool) (a:Act) (w:World),iJ md ops l listed=true->C w->iU P ops C Q l a w->bAh P md ops C Q l.len listed a w
 |.nil,listed,a,w,hB,hC,h=>⟨hC,by simpa[iJ]using hB,h⟩
 |.fl k r,listed,a,w,hB,hC,h=>by
  simp only[iJ,Bool.and_eq_true]at hB;obtain⟨o,v,ho,hy,hK⟩:=h;exact vP ho (Region.noSelect_spec hs) r.len listed a w (Region.free_spec ho hB.1.2) (by simpa using hB.1.1) hy (pW hs r _ _ _ hB.2 hC hK)
 |.op k r,listed,a,w,hB,hC,h=>by
  simp only[iJ,Bool.and_eq_true,beq_iff_eq]at hB;refine⟨hC,λh0=>t6,λi hi=>?_⟩;rw[hB.1]at hi;have:i=k:=by simpa using hi
  subst this;exact fR (λa' w' h'=>pW hs r _ _ _ hB.2 h'.1 h'.2) h
 |.two k l r s,listed,a,w,hB,hC,h=>by
  simp only[iJ,Bool.and_eq_true,beq_iff_eq]at hB;obtain⟨⟨⟨h1,h2⟩,h3⟩,h4⟩:=hB;refine⟨hC,λh0=>ab2,λi hi=>?_⟩;rw[h1]at hi;have hi:i=k\/i=l:=by simpa using hi
  rcases hi with rfl|rfl
  .exact fR (λa' w' h'=>pW hs r _ _ _ h3 h'.1 h'.2) h.1
  .have e:Tr.len (.two k i r s)=s.len+1:=by simp only[Tr.len,Nat.eq_of_beq_eq_true h2]
   have e':r.len=s.len:=Nat.eq_of_beq_eq_true h2;rw[e'];exact fR (λa' w' h'=>pW hs s _ _ _ h4 h'.1 h'.2) h.2
def xG (l:Tr)(ops:Array Oper):Bool:=Region.noSelect ops&&Nat.beq l.len ops.size&&iJ .any ops l (Array.replicate ops.size false)
end
section
variable {P : Program} {β : dC} {n : Nat} {Γ : Env} {H : List bD} {F : List bC} {Q : Exit -> Act -> World -> Prop} {Hk : List bD} {F0 : List bC} {ops : Array Oper}
theorem at_mixT{id:Nat}{l:List Oper}(Hk:List bD)(F0:List bC)(od:Tr)(hm:P.follows .mixedOrders=true)(hB:xG od l.toArray=true)(hH:Sel H Hk)(hF:bA F F0)
  (h:At β n Γ H F (iU P l.toArray (StF β Hk F0) Q od)):At β n Γ H F ((Code.region id l.toArray true).wp P Q):=λa w S f s k=>by
 simp only[xG,Bool.and_eq_true]at hB;have hw:=StF.drew ⟨S,s,k⟩;obtain⟨S',s',k'⟩:=hw;refine wp_region_any hm (oW (C:=StF β Hk F0) _ _ _ _ ?_);have:=pW (P:=P) (md:= .any) (C:=StF β Hk F0) (Q:=Q) hB.1.1 od (Array.replicate l.toArray.size false) a _ hB.2 (StF.sel hH hF ⟨S',s',k'⟩) (h a _ S' f s' k')
 rwa[Nat.eq_of_beq_eq_true hB.1.2]at this
theorem att_nil{C:World->Prop}(h:At β n Γ H F (Q .normal)):At β n Γ H F (iU P ops C Q .nil):=h
theorem bHh{r:Tr}{o:Oper}{k d:Nat}{v:Value}(hk:ops[k]?=some o)(hw:want ops Γ o=some true)(hd:o.dst=some d)(hn:Nat.blt d n=true)(h:Sti P β n Γ Hk F0 o v)
  (K:At β n ((d,v)::Γ) H F (iU P ops (StF β Hk F0) Q r)):At β n Γ H F (iU P ops (StF β Hk F0) Q (.fl k r)):=λa w S f s hF=>by
 refine⟨o,v,hk,.inl ⟨f.want hw,λw' ⟨S',s',k'⟩=>h a w' S' f s' k'⟩,?_⟩;rw[hd];exact K _ _ S (f.put l9 v) s hF
theorem sqT{r:Tr}{o:Oper}{k d:Nat}{v:Value}(hk:ops[k]?=some o)(h:Sti P β n Γ Hk F0 o v)(K:At β n ((d,v)::Γ) H F (iU P ops (StF β Hk F0) Q r))(hw:want ops Γ o=some true:=by exact rfl)(hd:o.dst=some d:=by exact rfl)(hn:Nat.blt d n=true:=by exact rfl):At β n Γ H F (iU P ops (StF β Hk F0) Q (.fl k r)):=bHh hk hw hd hn h K
theorem att_skipped{r:Tr}{o:Oper}{k d:Nat}{C:World->Prop}(hk:ops[k]?=some o)(hw:want ops Γ o=some false)(hd:o.dst=some d)(hn:Nat.blt d n=true)
  (K:At β n ((d,undef)::Γ) H F (iU P ops C Q r)):At β n Γ H F (iU P ops C Q (.fl k r)):=λa w S f s hF=>by
 refine⟨o,undef,hk,.inr ⟨f.want hw,rfl⟩,?_⟩;rw[hd];exact K _ _ S (f.put l9 undef) s hF
theorem vR{o:Oper}{k:Nat}{K:Act->World->Prop}(hk:ops[k]?=some o)(h:At β n Γ H F (wpList P ops (Nm K) [o])):At β n Γ H F (fOp P ops k K):=λa w S f s hF o' ho'=>by
 have:o'=o:=Option.some.inj (ho'.symm.trans hk);subst this;exact h a w S f s hF
theorem att_op{r:Tr}{o:Oper}{k:Nat}{C:World->Prop}(hk:ops[k]?=some o)(h:At β n Γ H F (wpList P ops (Nm λa w=>C w/\iU P ops C Q r a w) [o])):At β n Γ H F (iU P ops C Q (.op k r)):=vR hk h
theorem uL{r s:Tr}{o o':Oper}{k l:Nat}{C:World->Prop}(hk:ops[k]?=some o)(hl:ops[l]?=some o')(h:At β n Γ H F (wpList P ops (Nm λa w=>C w/\iU P ops C Q r a w) [o]))(h':At β n Γ H F (wpList P ops (Nm λa w=>C w/\iU P ops C Q s a w) [o'])):
  At β n Γ H F (iU P ops C Q (.two k l r s)):=λa w S f st hF=>⟨vR hk h a w S f st hF,vR hl h' a w S f st hF⟩
theorem att_go{r:Tr}(hH:Sel H Hk)(hF:bA F F0)(h:At β n Γ H F (iU P ops (StF β Hk F0) Q r)):At β n Γ H F (wpList P ops (Nm λa w=>StF β Hk F0 w/\iU P ops (StF β Hk F0) Q r a w) []):=λa w S f s k=>
 ⟨rfl,StF.sel hH hF ⟨S,s,k⟩,h a w S f s k⟩
end
end
end Go.Proofs.YtnfiadlonjediaaGreatDoor
