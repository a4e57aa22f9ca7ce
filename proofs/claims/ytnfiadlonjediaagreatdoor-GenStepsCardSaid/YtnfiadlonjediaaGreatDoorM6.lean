/- Texts of one proof, one behind the other: Mono, Order, Plain, Sort, Same, Map, Own, Small, Right, Listed, Both, Mul, RunI, RunN, MixT. -/
import Derived.Test.YtnfiadlonjediaaGreatDoorM1
import Derived.Test.YtnfiadlonjediaaGreatDoorRows
import Derived.WalkKit
import Derived.WalkSpells
import Derived.WalkLawsBesides
import Derived.Handy
import Derived.Deep.QuietTactic
import Derived.Deep.Light
import Derived.BigQuiet
import Derived.Test.YtnfiadlonjediaaGreatDoorShelfP
import Derived.Shelf.SlSortCmp.NoneTotal
import Derived.ChangeKeysEq
import Derived.MapKept
import Derived.ChangeMaps5
import Derived.WideKeyEntry
import Derived.Maps.RangeRun
import Derived.Maps.AppendAt
import Derived.Maps.Range
import Derived.Laws.OwnMore
import Derived.Laws.Tables
import Derived.RegionTactic
import Derived.BigRegion
import Derived.Test.YtnfiadlonjediaaGreatDoorM5
import Derived.Test.YtnfiadlonjediaaGreatDoorM2
set_option maxRecDepth 100000
namespace Go.Proofs.YtnfiadlonjediaaGreatDoor
open Lib renaming compareBytes->R0,hid->R1
open _root_.Nat renaming lt_of_lt_of_le->B6,mul_le_mul_right->C8,add_mul->C5,one_mul->C6,le_refl->B8,zero_le->P2,lt_or_ge->H3,le_trans->B9,lt_succ_self->J9,eq_of_beq_eq_true->B7
open _root_.List renaming getElem?_eq_getElem->D7,length_cons->E1,pairwise_cons->D2,mem_cons->C9,mergeSort_perm->R2,map_cons->I5,getElem?_map->I7,map_set->R3,mem_singleton->L1,mem_map->K7,length->R4,getElem?_eq_some_iff->D9,drop_of_length_le->R5,filter_cons_of_pos->R6,map_fst_zip->R7,mem_filter->R8,eq_nil_of_length_eq_zero->K9,length_filter_le->R9,length_append->E0
open _root_.Array renaming ext'->k7,extract_eq_self_of_le->S6,toList_modify->S7,toList_push->S8,length_toList->N8,getElem?_eq_none->j9,toList_filter->S9,getElem?_eq_some_iff->N6,replicate->A8
open Sem renaming run_bind->E6,run_pure->E7,run_ite->T0
open Result renaming andThen_ok->E8,andThen->T1
open _root_.UInt8 renaming toNat_inj->T2,ofNat->J0
open Instr renaming findAsking->T3,findKey->L7,findNow->L9,keyThatStays->M2,lookup->T4,mapEntry->M4,entryStore->T5,index->T6
open _root_.Bool renaming false_eq_true->G0,and_eq_true->G1
open MapKept renaming run_getObj_map->O4,run_setObj_map->O5
open _root_.Option renaming map_some->I2
open World renaming cell?->j7
open Region renaming ready->E3,noSelect->E5
section
open Go.RowKit Go.Proofs.Tryz
structure Mono where
 n:Int
 e0:UInt8
 e1:UInt8
 e2:UInt8
 e3:UInt8
 e4:UInt8
 e5:UInt8
instance : Inhabited Mono := ⟨⟨0, 0, 0, 0, 0, 0, 0⟩⟩
def Mono.E(m:Mono):List UInt8:=[m.e0,m.e1,m.e2,m.e3,m.e4,m.e5]
def Mono.cells(m:Mono):List Value:=
 [.int .i64 m.n,.int .u8 m.e0.toNat,.int .u8 m.e1.toNat,.int .u8 m.e2.toNat,.int .u8 m.e3.toNat,.int .u8 m.e4.toNat,.int .u8 m.e5.toNat]
def Mono.val(m:Mono):Value:=
 .agg #[.int .i64 m.n,.int .u8 m.e0.toNat,.int .u8 m.e1.toNat,.int .u8 m.e2.toNat,.int .u8 m.e3.toNat,.int .u8 m.e4.toNat,.int .u8 m.e5.toNat]
theorem Mono.cells_length(m:Mono):m.cells.length=7:=rfl
def Mono.deg(m:Mono):Nat:=m.e0.toNat+m.e1.toNat+m.e2.toNat+m.e3.toNat+m.e4.toNat+m.e5.toNat
def ord (a b:Mono):Int:=R0 b.E a.E
def gL (m:Mono):Bool:=decide (m.n≠0/\m.n<=16777216/\ -16777216<=m.n/\m.deg<=8)
theorem xN(e:UInt8):(e.toNat:Int)<256:=by have:=e.toNat_lt;omega
def bTh (a b:Mono):Int:=R0 a.E b.E
theorem yD(a b:UInt8)(l m:List UInt8):R0 (a::l) (b::m)=if b.toNat<a.toNat then 1 else if a.toNat<b.toNat then-1 else R0 l m:=by
 rw[R0];simp only[UInt8.lt_iff_toNat_lt]
 by_cases h:a.toNat<b.toNat
 .rw[if_pos h,if_neg k9,if_pos h]
 .rw[if_neg h]
  by_cases c:b.toNat<a.toNat
  .rw[if_pos c,if_pos c]
  .rw[if_neg c,if_neg c,if_neg h]
def dP (w:World)(b o:Nat)(m:Mono):Prop:=
 w.cell? ⟨b,o,none⟩=some (.int .i64 m.n)/\w.cell? ⟨b,o+1,none⟩=some (.int .u8 m.e0.toNat)/\w.cell? ⟨b,o+2,none⟩=some (.int .u8 m.e1.toNat)/\
 w.cell? ⟨b,o+3,none⟩=some (.int .u8 m.e2.toNat)/\w.cell? ⟨b,o+4,none⟩=some (.int .u8 m.e3.toNat)/\w.cell? ⟨b,o+5,none⟩=some (.int .u8 m.e4.toNat)/\
 w.cell? ⟨b,o+6,none⟩=some (.int .u8 m.e5.toNat)
def kK (w:World)(A:Option Addr)(l:List Mono):Prop:=
 ∀k m,l[k]?=some m-> ∃b o,A=some ⟨b,o,none⟩/\b<w.heap.size/\dP w b (o+k*7) m
theorem dP.below{w w':World}{B b o:Nat}{m:Mono}(h:dP w b o m)(hb:Below B w w')(hB:b<B):dP w' b o m:=by
 obtain⟨h0,h1,e,d,h4,c,a⟩:=h
 exact⟨(hb.cell (p:=⟨b,o,none⟩) hB).trans h0,(hb.cell (p:=⟨b,o+1,none⟩) hB).trans h1,(hb.cell (p:=⟨b,o+2,none⟩) hB).trans e,(hb.cell (p:=⟨b,o+3,none⟩) hB).trans d,
  (hb.cell (p:=⟨b,o+4,none⟩) hB).trans h4,(hb.cell (p:=⟨b,o+5,none⟩) hB).trans c,(hb.cell (p:=⟨b,o+6,none⟩) hB).trans a⟩
theorem kK.below{w w':World}{A:Option Addr}{l:List Mono}(h:kK w A l)(hb:Below w.heap.size w w'):kK w' A l:=λk m c=>by
 obtain⟨b,o,e,hB,a⟩:=h k m c;exact⟨b,o,e,B6 hB hb.size,a.below hb hB⟩
theorem kK.nil{w:World}{A:Option Addr}:kK w A []:=λk m h=>by simp at h
def Mono.eqB(a b:Mono):Bool:=a.n==b.n&&(a.e0==b.e0&&(a.e1==b.e1&&(a.e2==b.e2&&(a.e3==b.e3&&(a.e4==b.e4&&a.e5==b.e5)))))
theorem Mono.eqB_iff(a b:Mono):a.eqB b=true↔a=b:=by
 obtain⟨n,p,o,m,l,k,j⟩:=a;obtain⟨c,i,h,g,f,e,d⟩:=b;simp[Mono.eqB]
def dN:Option Mono->List Mono->Bool
 |_,[]=>true
 |none,m::l=>gL m&&dN (some m) l
 |some a,m::l=>gL m&&(decide (ord a m<0)&&dN (some m) l)
def cJ (p:List Mono):Bool:=decide (p.length<=48)&&dN none p
theorem mQ{l:List Mono}{k:Nat}(h:k<l.length): ∃m,l[k]?=some m/\l.drop k=m::l.drop (k+1):=
 ⟨l[k],D7 h,List.drop_eq_getElem_cons h⟩
theorem dP.later{W:World}{b o:Nat}{m:Mono}(h:dP W b o m):(∀x:fM W,x.w.cell? ⟨b,o,none⟩=some (j5 m.n))/\(∀x:fM W,x.w.cell? ⟨b,o+1,none⟩=some (j6 m.e0.toNat))/\(∀x:fM W,x.w.cell? ⟨b,o+2,none⟩=some (j6 m.e1.toNat))/\(∀x:fM W,x.w.cell? ⟨b,o+3,none⟩=some (j6 m.e2.toNat))/\(∀x:fM W,x.w.cell? ⟨b,o+4,none⟩=some (j6 m.e3.toNat))/\(∀x:fM W,x.w.cell? ⟨b,o+5,none⟩=some (j6 m.e4.toNat))/\(∀x:fM W,x.w.cell? ⟨b,o+6,none⟩=some (j6 m.e5.toNat)):=by
 obtain⟨h0,h1,e,d,h4,c,a⟩:=h;exact⟨fM.cell h0,fM.cell h1,fM.cell e,fM.cell d,fM.cell h4,fM.cell c,fM.cell a⟩
theorem dP.zero{W:World}{b:Nat}{m:Mono}(h:dP W b 0 m):W.cell? ⟨b,0,none⟩=some (j5 m.n)/\W.cell? ⟨b,1,none⟩=some (j6 m.e0.toNat)/\W.cell? ⟨b,2,none⟩=some (j6 m.e1.toNat)/\W.cell? ⟨b,3,none⟩=some (j6 m.e2.toNat)/\W.cell? ⟨b,4,none⟩=some (j6 m.e3.toNat)/\W.cell? ⟨b,5,none⟩=some (j6 m.e4.toNat)/\W.cell? ⟨b,6,none⟩=some (j6 m.e5.toNat):=by simpa[dP]using h
theorem dP.later0{W:World}{b:Nat}{m:Mono}(h:dP W b 0 m):(∀x:fM W,x.w.cell? ⟨b,0,none⟩=some (j5 m.n))/\(∀x:fM W,x.w.cell? ⟨b,1,none⟩=some (j6 m.e0.toNat))/\(∀x:fM W,x.w.cell? ⟨b,2,none⟩=some (j6 m.e1.toNat))/\(∀x:fM W,x.w.cell? ⟨b,3,none⟩=some (j6 m.e2.toNat))/\(∀x:fM W,x.w.cell? ⟨b,4,none⟩=some (j6 m.e3.toNat))/\(∀x:fM W,x.w.cell? ⟨b,5,none⟩=some (j6 m.e4.toNat))/\(∀x:fM W,x.w.cell? ⟨b,6,none⟩=some (j6 m.e5.toNat)):=by
 obtain⟨h0,h1,e,d,h4,c,a⟩:=h.zero;exact⟨fM.cell h0,fM.cell h1,fM.cell e,fM.cell d,fM.cell h4,fM.cell c,fM.cell a⟩
def tU (w:World)(b o:Nat):List UInt8->Prop
 |[]=>True
 |x::l=>w.cell? ⟨b,o,none⟩=some (.int .u8 x.toNat)/\tU w b (o+1) l
theorem push_append(acc:ByteArray)(x:UInt8)(l:List UInt8):((acc.push x).data++l.toArray)=acc.data++(x::l).toArray:=by
 apply k7;simp[ByteArray.push]
theorem uJ{P:Program}(w:World)(b:Nat): ∀(l:List UInt8) (o:Nat) (acc:ByteArray),tU w b o l->
  (Extern.Bytes.loadBytes ⟨b,o,none⟩ l.length acc).run P w= .ok ⟨acc.data++l.toArray⟩ w
 |[],o,acc,_=>by simp[Extern.Bytes.loadBytes]
 |x::l,o,acc,⟨h,t⟩=>by
  have ih:=uJ (P:=P) w b l (o+1) (acc.push x) t;rw[push_append]at ih;simp only[Extern.Bytes.loadBytes,E1,E6];have hl:(load ⟨b,o,none⟩).run P w= .ok (.int .u8 x.toNat) w:=by simp[go_sem,h]
  rw[hl];simp only[E8];have e:((x.toNat:Int)).toNat.toUInt8=x:=by simp
  rw[e];exact ih
theorem run_compare{P:Program}(w:World)(b c o p k k':Nat)(x y:List UInt8)(hx:tU w b o x)(hy:tU w c p y):
  (Extern.BytealgCompare.compare #[.slice (some ⟨b,o,none⟩) x.length k,.slice (some ⟨c,p,none⟩) y.length k']).run P w= .ok (j5 (R0 x y)) w:=by
 change Sem.run P (do pure (goInt (Extern.BytealgCompare.cmp (<-Extern.Bytes.bytesOf (.slice (some ⟨b,o,none⟩) x.length k)) (<-Extern.Bytes.bytesOf (.slice (some ⟨c,p,none⟩) y.length k'))))) w=_;simp only[Extern.Bytes.bytesOf,E6,uJ w b x o _ hx,uJ w c y p _ hy,E8,E7,Lib.cmp_eq];simp[goInt]
set_option maxHeartbeats 400000 in
theorem compare_any(b c o p:Nat)(k k':Nat)(x y:List UInt8)(w:World)(hx:tU w b o x)(hy:tU w c p y):
  Calls prog 169 #[.slice (some ⟨b,o,none⟩) x.length k,.slice (some ⟨c,p,none⟩) y.length k'] w λe w'=>e= .returned (j5 (R0 x y))/\w=w':=by
 go_enter func169,ntmps169
 go_wp2
 rw[run_callFunc_extern func223 l4 l4 l4 (e:=Extern.BytealgCompare.compare) l4,run_compare w b c o p k k' x y hx hy];simp only[T1];rw[Oper.upon_value]
 go_wp2
 go_ret
 exact⟨rfl,rfl⟩
set_option maxHeartbeats 400000 in
theorem bUm(a b:Mono)(w:World):
  Calls prog 99 #[.agg #[j5 a.n,j6 a.e0.toNat,j6 a.e1.toNat,j6 a.e2.toNat,j6 a.e3.toNat,j6 a.e4.toNat,j6 a.e5.toNat],.agg #[j5 b.n,j6 b.e0.toNat,j6 b.e1.toNat,j6 b.e2.toNat,j6 b.e3.toNat,j6 b.e4.toNat,j6 b.e5.toNat]] w λe w'=>e= .returned (j5 (ord a b))/\ ∃q o1 o2,w'=((w.alloc o1).alloc o2).drewN q:=by
 have hc:=λn=>compare_any (w.heap.size+1) w.heap.size 1 1 6 6 b.E a.E (((w.alloc (.cells #[.int .i64 a.n,.int .u8 a.e0.toNat,.int .u8 a.e1.toNat,.int .u8 a.e2.toNat,.int .u8 a.e3.toNat,.int .u8 a.e4.toNat,.int .u8 a.e5.toNat] 111)).alloc (.cells #[.int .i64 b.n,.int .u8 b.e0.toNat,.int .u8 b.e1.toNat,.int .u8 b.e2.toNat,.int .u8 b.e3.toNat,.int .u8 b.e4.toNat,.int .u8 b.e5.toNat] 111)).drewN n) (by simp[tU,Mono.E,go_sem]) (by simp[tU,Mono.E,go_sem]);have HC:=R1 hc;clear hc
 go_enter func99,ntmps99
 go_wp2
 go_quiet ((go_at_call 169;exact Calls.quiet_of_same ((HC.out _).mono λ_ _ h=>⟨h.1,h.2.symm⟩)))
 go_wp2
 go_ret
 exact⟨rfl,_,_,_,rfl⟩
end
section
open Go.Proofs.Tryz
def num:List UInt8->Nat
 |[]=>0
 |a::l=>a.toNat*256^l.length+num l
theorem bLy: ∀l:List UInt8,num l<256^l.length
 |[]=>by simp[num]
 |a::l=>by
  have b:=bLy l;have c:=a.toNat_lt;have h:(a.toNat+1)*256^l.length<=256*256^l.length:=C8 _ k9;rw[C5,C6]at h;rw[num,E1,Nat.pow_succ,Nat.mul_comm (256^l.length) 256];omega
theorem cmp_num: ∀l m:List UInt8,l.length=m.length->R0 l m=if num m<num l then 1 else if num l<num m then-1 else 0
 |[],[],_=>by simp[num,R0]
 |[],_::_,h=>by simp at h
 |_::_,[],h=>by simp at h
 |a::l,b::m,h=>by
  have hl:l.length=m.length:=by simpa using h
  have d:=cmp_num l m hl;have f:=bLy l;have nm:=bLy m;rw[yD,num,num,<-hl];rw[<-hl]at nm;generalize 256^l.length=p at*
  by_cases h1:b.toNat<a.toNat
  .have:(b.toNat+1)*p<=a.toNat*p:=C8 _ h1;rw[C5,C6]at this;rw[if_pos h1,if_pos k9]
  .rw[if_neg h1]
   by_cases c:a.toNat<b.toNat
   .have:(a.toNat+1)*p<=b.toNat*p:=C8 _ c;rw[C5,C6]at this;rw[if_pos c,if_neg k9,if_pos k9]
   .have e:a.toNat=b.toNat:=k9
    rw[if_neg c,d,e];simp only[Nat.add_lt_add_iff_left]
def Mono.key(m:Mono):Nat:=num m.E
theorem ord_key(a b:Mono):ord a b=if a.key<b.key then 1 else if b.key<a.key then-1 else 0:=cmp_num b.E a.E rfl
theorem ord_lt(a b:Mono):ord a b<0↔b.key<a.key:=by
 rw[ord_key];split
 .constructor<;>intro h<;>omega
 .split<;>simp_all
theorem num_inj: ∀l m:List UInt8,l.length=m.length->num l=num m->l=m
 |[],[],_,_=>rfl
 |[],_::_,h,_=>by simp at h
 |_::_,[],h,_=>by simp at h
 |a::l,b::m,h,hn=>by
  have hl:l.length=m.length:=by simpa using h
  have c:=bLy l;have nm:=bLy m;rw[num,num,<-hl]at hn;rw[<-hl]at nm
  have e:a.toNat=b.toNat:=by
   rcases Nat.lt_trichotomy a.toNat b.toNat with h1|h1|h1
   .have:(a.toNat+1)*256^l.length<=b.toNat*256^l.length:=C8 _ h1;rw[C5,C6]at this;omega
   .exact h1
   .have:(b.toNat+1)*256^l.length<=a.toNat*256^l.length:=C8 _ h1;rw[C5,C6]at this;omega
  rw[e]at hn;rw[T2.1 e,num_inj l m hl k9]
theorem key_E{a b:Mono}:a.key=b.key↔a.E=b.E:=⟨λh=>num_inj _ _ rfl h,λh=>by unfold Mono.key;rw[h]⟩
theorem eq_of_key{a b:Mono}(h:a.key=b.key)(hn:a.n=b.n):a=b:=by
 have:=key_E.1 h;obtain⟨n,q,p,o,m,l,k⟩:=a;obtain⟨c,j,i,g,f,e,d⟩:=b;simp only[Mono.E,List.cons.injEq,and_true]at this;obtain⟨rfl,rfl,rfl,rfl,rfl,rfl⟩:=this;simp at hn;rw[hn]
def vO (l:List Mono):Prop:=l.Pairwise (λa b=>b.key<a.key)
def iR (l:List Mono):Prop:=l.Pairwise (λa b=>a.key≠b.key)
theorem vO.apart{l:List Mono}(h:vO l):iR l:=List.Pairwise.imp (λh=>by omega) h
theorem vO.ext: ∀{l m:List Mono},vO l->vO m->(∀x,x∈l↔x∈m)->l=m
 |[],[],_,_,_=>rfl
 |[],b::m,_,_,h=>absurd ((h b).2 n4) n4
 |a::l,[],_,_,h=>absurd ((h a).1 n4) n4
 |a::l,b::m,h1,h2,h=>by
  obtain⟨g,hl⟩:=D2.1 h1;obtain⟨hb,i⟩:=D2.1 h2
  have e:a=b:=by
   have d:a∈b::m:=(h a).1 n4;have c:b∈a::l:=(h b).2 n4
   rcases C9.1 d with e|d
   .exact e
   .rcases C9.1 c with e|c
    .exact e.symm
    .have:=hb a d;have:=g b c;omega
  subst e;rw[vO.ext hl i λx=>?_];constructor
  .intro hx;have:=(h x).1 s8
   rcases C9.1 this with rfl|f
   .have:=g x hx;omega
   .exact f
  .intro hx;have:=(h x).2 s8
   rcases C9.1 this with rfl|f
   .have:=hb x hx;omega
   .exact f
def lZ (L:List Mono):List Mono:=(L.filter (λm=>m.n !=0)).mergeSort (λa b=>decide (b.key<=a.key))
theorem bHi{L:List Mono}{x:Mono}:x∈lZ L↔x∈L/\x.n≠0:=by
 unfold lZ;rw[(R2 _ _).mem_iff];simp
theorem falls_of{l:List Mono}(h1:l.Pairwise (λa b=>b.key<=a.key))(h2:iR l):vO l:=
 List.Pairwise.imp (λ⟨a,b⟩=>by omega) (List.Pairwise.and h1 h2)
theorem iR.perm{l m:List Mono}(h:iR l)(hp:l.Perm m):iR m:=hp.pairwise h (λh=>Ne.symm h)
theorem iR.filter{l:List Mono}(p:Mono->Bool)(h:iR l):iR (l.filter p):=List.Pairwise.filter _ h
theorem zE{L:List Mono}(h:iR L):vO (lZ L):=by
 refine falls_of ?_ ((h.filter _).perm (R2 _ _).symm);have:=List.pairwise_mergeSort (le:=λa b:Mono=>decide (b.key<=a.key)) n9 n9 (L.filter (λm=>m.n !=0));exact List.Pairwise.imp (λh=>by simpa using h) this
theorem canon_of{L S:List Mono}(h:iR L)(hp:S.Perm (L.filter (λm=>m.n !=0)))(hs:S.Pairwise (λa b=>b.key<=a.key)):S=lZ L:=
 vO.ext (falls_of hs ((h.filter _).perm hp.symm)) (zE h) λx=>by rw[hp.mem_iff,bHi];simp
end
section
open Go.RowKit Go.Sort Go.Proofs.Tryz
set_option maxRecDepth 100000
theorem bDu(a b:Mono):ltOf ord a b=decide (b.key<a.key):=by
 unfold ltOf;rw[decide_eq_decide];exact ord_lt a b
theorem swo_ord:SWO (ltOf ord) where
 irrefl x:=by rw[bDu];simp
 trans x y z h1 h2:=by rw[bDu]at*;simp at*;omega
 ntrans x y z h1 h2:=by rw[bDu]at*;simp at*;omega
theorem bRb(blk off size:Nat)(w:World):CmpLays prog 99 #[] Mono.cells 7 ord blk off size w:=
 λm e f _ x y=>by
  show Calls prog 99 #[.agg #[.int .i64 x.n,.int .u8 x.e0.toNat,.int .u8 x.e1.toNat,.int .u8 x.e2.toNat,.int .u8 x.e3.toNat,.int .u8 x.e4.toNat,.int .u8 x.e5.toNat],.agg #[.int .i64 y.n,.int .u8 y.e0.toNat,.int .u8 y.e1.toNat,.int .u8 y.e2.toNat,.int .u8 y.e3.toNat,.int .u8 y.e4.toNat,.int .u8 y.e5.toNat]] _ _
  exact(bUm x y _).mono λ_ _ ⟨d,q,b,a,c⟩=>⟨d,q,#[b,a],by rw[c,alloc_eq_grow,alloc_eq_grow,grow_grow];rfl⟩
theorem bUg(x:Mono): ∀v∈x.cells,v.oneCell'=true:=λv a=>by
 simp only[Mono.cells,C9,List.not_mem_nil,or_false]at a
 rcases a with rfl|rfl|rfl|rfl|rfl|rfl|rfl<;>rfl
def Row (w:World)(g:Nat)(l:List Mono):Prop:=HoldsK Mono.cells 7 w g 0 l.toArray
theorem sort_any(g cap:Nat)(l:List Mono)(w:World)(hH:Row w g l)(hg:g<w.heap.size)(hl:l.length<4611686018427387904):
  Calls prog 218 #[.slice (some ⟨g,0,none⟩) l.length cap,.func (.func 99) #[] #[]] w λe w'=>
   e= .returned (.tuple #[])/\ ∃l':List Mono,l'.Perm l/\l'.Pairwise (λa b=>b.key<=a.key)/\Row w' g l'/\w.heap.size<=w'.heap.size/\w'.os=w.os/\w'.tape=w.tape/\w'.output=w.output/\(∀k,k<w.heap.size->k≠g->w'.heap[k]?=w.heap[k]?):=by
 have B: ∀args w,(callFunc 99 args).run prog w= .ok (.enter 99 args) w:=enters_of func99 l4 rfl;have f:=AnyQ.slices_SortFunc Tryz.sortL 7 Tryz.isAgg111 Tryz.sizeOf111 Mono.cells (λ_=>rfl) bUg ord swo_ord 99 #[] g 0 cap l.toArray w B (bRb _ _ _ _) hH hg (by simpa using hl);change Calls prog 218 #[.slice (some ⟨g,0,none⟩) l.length cap,.func (.func 99) #[] #[]] w _ at f;refine f.mono ?_;rintro e w' ⟨A,c,n,os,v,u,rfl⟩;obtain⟨d,_,m⟩:=v;have t:c.size=l.length:=by simpa using d
 refine⟨A,c.toList,?_,?_,?_,?_,rfl,rfl,rfl,?_⟩
 .have D:c.extract 0 l.toArray.size=c:=by
   apply S6;rw[d];exact B8 _
  have C:l.toArray.extract 0 l.toArray.size=l.toArray:=S6 (B8 _);rw[D,C]at m;exact m
 .rw[List.pairwise_iff_getElem];intro i j z y r;have o:j<c.size:=by simpa using y
  have s:i<c.size:=by simpa using z
  have h:=u i j (P2 _) r (by rw[<-d];exact o);rw[getElem!_pos c j o,getElem!_pos c i s,bDu]at h
  simpa using h
 .show HoldsK Mono.cells 7 _ g 0 c;refine holdsK_grow Mono.cells 7 _ os g 0 c (by simp[putRowK,Sort.ahead];exact hg) ?_;exact holdsK_putRowK Mono.cells 7 _ g 0 l.toArray c hH d
 .simp[sortWorldK,grow,putRowK,Sort.ahead]
 .intro k x p;have q:k<(putRowK Mono.cells 7 (Sort.ahead w n) g 0 c).heap.size:=by simp[putRowK,Sort.ahead];exact x
  simp only[sortWorldK,grow];rw[Array.getElem?_append_left q];simp only[putRowK,putRow,mapBlock,Sort.ahead];rw[Array.getElem?_modify,if_neg (Ne.symm p)]
theorem sort_none(A:Option Addr)(cap:Nat)(w:World):
  Calls prog 218 #[.slice A 0 cap,.func (.func 99) #[] #[]] w λe w'=>e= .returned (.tuple #[])/\Below w.heap.size w w':=by
 have h:=AnyF.slices_SortFunc_none Tryz.sortL A cap (.func (.func 99) #[] #[]) w;change Calls prog 218 _ w _ at h
 exact h.mono λ_ _ ⟨b,a⟩=>⟨b,by rw[a];exact Below.refl _ _⟩
end
section
open Go.RowKit Go.Proofs.Tryz
set_option maxRecDepth 100000
theorem u8_eq(a b:UInt8):((a.toNat:Int)==(b.toNat:Int))=(a==b):=by
 rw[Bool.eq_iff_iff];simp only[beq_iff_eq];constructor
 .intro h;exact T2.1 k9
 .rintro rfl;rfl
def Mono.sameE(a b:Mono):Bool:=a.e0==b.e0&&(a.e1==b.e1&&(a.e2==b.e2&&(a.e3==b.e3&&(a.e4==b.e4&&a.e5==b.e5))))
theorem bOw(a:Mono)(w:World):(part 5 #[j6 a.e0.toNat,j6 a.e1.toNat,j6 a.e2.toNat,j6 a.e3.toNat,j6 a.e4.toNat,j6 a.e5.toNat] (0*1)).run prog w= .ok (j6 a.e0.toNat) w/\(part 5 #[j6 a.e0.toNat,j6 a.e1.toNat,j6 a.e2.toNat,j6 a.e3.toNat,j6 a.e4.toNat,j6 a.e5.toNat] (1*1)).run prog w= .ok (j6 a.e1.toNat) w/\
  (part 5 #[j6 a.e0.toNat,j6 a.e1.toNat,j6 a.e2.toNat,j6 a.e3.toNat,j6 a.e4.toNat,j6 a.e5.toNat] (2*1)).run prog w= .ok (j6 a.e2.toNat) w/\(part 5 #[j6 a.e0.toNat,j6 a.e1.toNat,j6 a.e2.toNat,j6 a.e3.toNat,j6 a.e4.toNat,j6 a.e5.toNat] (3*1)).run prog w= .ok (j6 a.e3.toNat) w/\
  (part 5 #[j6 a.e0.toNat,j6 a.e1.toNat,j6 a.e2.toNat,j6 a.e3.toNat,j6 a.e4.toNat,j6 a.e5.toNat] (4*1)).run prog w= .ok (j6 a.e4.toNat) w/\(part 5 #[j6 a.e0.toNat,j6 a.e1.toNat,j6 a.e2.toNat,j6 a.e3.toNat,j6 a.e4.toNat,j6 a.e5.toNat] (5*1)).run prog w= .ok (j6 a.e5.toNat) w:=
 ⟨l4,l4,l4,l4,l4,l4⟩
theorem bBf(d:Nat)(a b:Mono)(w:World):(Op.equalIn (d+2) 109 (.agg #[j6 a.e0.toNat,j6 a.e1.toNat,j6 a.e2.toNat,j6 a.e3.toNat,j6 a.e4.toNat,j6 a.e5.toNat]) (.agg #[j6 b.e0.toNat,j6 b.e1.toNat,j6 b.e2.toNat,j6 b.e3.toNat,j6 b.e4.toNat,j6 b.e5.toNat])).run prog w= .ok (a.sameE b) w:=by
 obtain⟨s,c⟩: ∃i,prog.info? 5=some i:=⟨_,rfl⟩
 have r:prog.cellsOf 5=1:=l4
 obtain⟨q,p,o,n,m,l⟩:=bOw a w;obtain⟨k,j,h,g,f,e⟩:=bOw b w;rw[run_equalIn_array w (d+1) _ _ underlying109 c,r];have hr:List.range 6=[0,1,2,3,4,5]:=rfl;rw[hr];simp only[Op.eqItems,E6,T0,E7,q,p,o,n,m,l,k,j,h,g,f,e,E8,run_equalIn_int w d 5 .u8 .u8 _ _ underlying5,u8_eq];unfold Mono.sameE;cases a.e0==b.e0<;>cases a.e1==b.e1<;>cases a.e2==b.e2<;>cases a.e3==b.e3<;>cases a.e4==b.e4<;>cases a.e5==b.e5<;>rfl
theorem bIo(d:Nat)(a b:Mono)(w:World):(Op.equalIn (d+3) 111 (.agg #[j5 a.n,j6 a.e0.toNat,j6 a.e1.toNat,j6 a.e2.toNat,j6 a.e3.toNat,j6 a.e4.toNat,j6 a.e5.toNat]) (.agg #[j5 b.n,j6 b.e0.toNat,j6 b.e1.toNat,j6 b.e2.toNat,j6 b.e3.toNat,j6 b.e4.toNat,j6 b.e5.toNat])).run prog w= .ok (a.eqB b) w:=by
 have h:prog.underlying 111=some (.struct (prog.fieldsOf 111)):=l4
 have g:prog.stoodInHeld 111=false:=l4
 have i:(prog.fieldsOf 111).toList=[⟨ "N",2,0,false, "", "",0⟩,⟨ "E",109,1,false, "", "",8⟩]:=l4
 have f: ∀m:Mono,(part 2 #[.int .i64 m.n,.int .u8 m.e0.toNat,.int .u8 m.e1.toNat,.int .u8 m.e2.toNat,.int .u8 m.e3.toNat,.int .u8 m.e4.toNat,.int .u8 m.e5.toNat] 0).run prog w= .ok (.int .i64 m.n) w:=λm=>by kernel_rfl
 have c: ∀m:Mono,(part 109 #[.int .i64 m.n,.int .u8 m.e0.toNat,.int .u8 m.e1.toNat,.int .u8 m.e2.toNat,.int .u8 m.e3.toNat,.int .u8 m.e4.toNat,.int .u8 m.e5.toNat] 1).run prog w= .ok (.agg #[.int .u8 m.e0.toNat,.int .u8 m.e1.toNat,.int .u8 m.e2.toNat,.int .u8 m.e3.toNat,.int .u8 m.e4.toNat,.int .u8 m.e5.toNat]) w:=λm=>by kernel_rfl
 rw[run_equalIn_agg w (d+2) 111 _ _ h g,i];simp only[Op.eqFields,E6,T0,E7,f,c,E8,run_equalIn_int w (d+1) 2 .i64 .i64 _ _ underlying2,bBf d a b w];have e:a.eqB b=(a.n==b.n&&a.sameE b):=rfl;rw[e];cases a.n==b.n<;>cases a.sameE b<;>simp
theorem run_neq_mono(a b:Mono)(w:World):(binOp .neq 111 (.agg #[j5 a.n,j6 a.e0.toNat,j6 a.e1.toNat,j6 a.e2.toNat,j6 a.e3.toNat,j6 a.e4.toNat,j6 a.e5.toNat]) (.agg #[j5 b.n,j6 b.e0.toNat,j6 b.e1.toNat,j6 b.e2.toNat,j6 b.e3.toNat,j6 b.e4.toNat,j6 b.e5.toNat])).run prog w= .ok (.bool (!a.eqB b)) w:=by
 rw[run_neq_struct,bIo 9997 a b w];rfl
end
section
open Go.RowKit Go.Proofs.Tryz
set_option maxRecDepth 100000
open Go.ChangeMaps (setBlock)
def kvM (m:Mono):Value×Value:=(.agg #[.int .u8 m.e0.toNat,.int .u8 m.e1.toNat,.int .u8 m.e2.toNat,.int .u8 m.e3.toNat,.int .u8 m.e4.toNat,.int .u8 m.e5.toNat],.int .i64 m.n)
def kvE (e:MapEntry):Value×Value:=(e.key,e.val)
def nA (w:World)(r:Nat)(L:List Mono):Prop:=
 ∃es clock,w.heap[r]?=some (.map es clock)/\es.toList.map kvE=L.map kvM/\(∀x∈es.toList,x.born<clock)/\(es.toList.map (·.born)).Nodup
def oO (k:Mono):List Mono->Int
 |[]=>0
 |m::l=>if k.sameE m then m.n else oO k l
def setTo (k:Mono)(x:Int):List Mono->List Mono
 |[]=>[{k with n:=x}]
 |m::l=>if k.sameE m then {k with n:=x}::l else m::setTo k x l
def findAt(k:Mono):List Mono->Nat->Option (Nat×Value)
 |[],_=>none
 |m::l,i=>if k.sameE m then some (i,.int .i64 m.n)else findAt k l (i+1)
theorem zI(k:Mono)(w:World): ∀(es:List MapEntry) (L:List Mono) (i:Nat),es.map kvE=L.map kvM->(T3 109 (.agg #[j6 k.e0.toNat,j6 k.e1.toNat,j6 k.e2.toNat,j6 k.e3.toNat,j6 k.e4.toNat,j6 k.e5.toNat]) es i).run prog w= .ok (findAt k L i) w
 |[],[],_,_=>by simp[T3,findAt]
 |[],_::_,_,h=>by simp at h
 |_::_,[],_,h=>by simp at h
 |e::es,m::L,i,h=>by
  simp only[I5,List.cons.injEq,kvE,kvM,Prod.mk.injEq]at h;obtain⟨⟨h1,d⟩,c⟩:=h;have a:=zI k w es L (i+1) c
  have b:(Op.equal 109 (.agg #[.int .u8 k.e0.toNat,.int .u8 k.e1.toNat,.int .u8 k.e2.toNat,.int .u8 k.e3.toNat,.int .u8 k.e4.toNat,.int .u8 k.e5.toNat]) e.key).run prog w= .ok (k.sameE m) w:=by
   rw[h1];exact bBf 9998 k m w
  simp only[T3,E6,T0,E7,b,E8,findAt,d];cases k.sameE m
  .simpa using a
  .simp
theorem zJ(k:Mono)(w:World)(es:List MapEntry)(L:List Mono)(h:es.map kvE=L.map kvM):(L7 109 (.agg #[j6 k.e0.toNat,j6 k.e1.toNat,j6 k.e2.toNat,j6 k.e3.toNat,j6 k.e4.toNat,j6 k.e5.toNat]) es).run prog w= .ok (findAt k L 0) w:=by
 have a:=zI k w es L 0 h;unfold L7;simp only[E6,run_underlying underlying109,E8]
 cases es with
 |nil=>
  cases L with
  |nil=>simp[L9,findAt]
  |cons m L=>simp at h
 |cons e es=>simpa[L9,Instr.sameNow]using a
theorem vW(b:Bool)(k:Mono)(w:World):(Instr.checkKey b 10000 109 (.agg #[j6 k.e0.toNat,j6 k.e1.toNat,j6 k.e2.toNat,j6 k.e3.toNat,j6 k.e4.toNat,j6 k.e5.toNat])).run prog w= .ok () w:=by
 kernel_rfl
theorem run_stays(k:Mono)(w:World):(M2 (.agg #[j6 k.e0.toNat,j6 k.e1.toNat,j6 k.e2.toNat,j6 k.e3.toNat,j6 k.e4.toNat,j6 k.e5.toNat]) (.agg #[j6 k.e0.toNat,j6 k.e1.toNat,j6 k.e2.toNat,j6 k.e3.toNat,j6 k.e4.toNat,j6 k.e5.toNat])).run prog w= .ok (.agg #[j6 k.e0.toNat,j6 k.e1.toNat,j6 k.e2.toNat,j6 k.e3.toNat,j6 k.e4.toNat,j6 k.e5.toNat]) w:=by
 unfold M2;simp[Instr.sameBits]
theorem findAt_none{k:Mono}{x:Int}: ∀{L:List Mono} {i:Nat},findAt k L i=none->oO k L=0/\setTo k x L=L++[{k with n:=x}]
 |[],_,_=>⟨rfl,rfl⟩
 |m::L,i,h=>by
  unfold findAt at h;cases a:k.sameE m
  .rw[a]at h;simp only[G0,if_false]at h;obtain⟨h1,b⟩:=findAt_none (x:=x) h;simp[oO,setTo,a,h1,b]
  .rw[a]at h;simp at h
theorem coef_app{k:Mono}: ∀{L:List Mono} {i:Nat},findAt k L i=none-> ∀M:List Mono,oO k (L++M)=oO k M
 |[],_,_,_=>rfl
 |m::L,i,h,M=>by
  unfold findAt at h;cases a:k.sameE m
  .rw[a]at h;simp only[G0,if_false]at h;simp[oO,a,coef_app h M]
  .rw[a]at h;simp at h
theorem sameE_self(k:Mono)(x:Int):k.sameE {k with n:=x}=true:=by simp[Mono.sameE]
theorem yU{k:Mono}{x:Int}{j:Nat}{v:Value}: ∀{L:List Mono} {i:Nat},findAt k L i=some (j,v)-> ∃d m,j=i+d/\L[d]?=some m/\k.sameE m=true/\v= j5 m.n/\oO k L=m.n/\setTo k x L=L.set d {k with n:=x}
 |[],_,h=>by simp[findAt]at h
 |m::L,i,h=>by
  unfold findAt at h;cases a:k.sameE m
  .rw[a]at h;simp only[G0,if_false]at h;obtain⟨d,b,h1,g,f,h4,e,c⟩:=yU (x:=x) h;exact⟨d+1,b,k9,by simpa using g,f,h4,by simp[oO,a,e],by simp[setTo,a,c]⟩
  .rw[a]at h;simp only[if_true,Option.some.injEq,Prod.mk.injEq]at h;exact⟨0,m,k9,rfl,a,h.2.symm,by simp[oO,a],by simp[setTo,a]⟩
theorem mA(k:Mono){w:World}{r:Nat}{L:List Mono}(h:nA w r L):
  (T4 282 (.map (some r)) (.agg #[j6 k.e0.toNat,j6 k.e1.toNat,j6 k.e2.toNat,j6 k.e3.toNat,j6 k.e4.toNat,j6 k.e5.toNat]) false).run prog w= .ok (j5 (oO k L)) w:=by
 obtain⟨f,b,hb,a,_,_⟩:=h;have hz:(zeroValue 2).run prog w= .ok (.int .i64 0) w:=l4
 unfold T4;simp only[E6,run_underlying underlying282,E8,O4 hb,E7,vW,zJ k w f.toList L a]
 cases c:findAt k L 0 with
 |none=>simp[(findAt_none (x:=0) c).1,hz]
 |some p=>
  obtain⟨j,v⟩:=p;obtain⟨d,m,_,_,_,rfl,e,_⟩:=yU (x:=0) c;simp[e]
theorem bSu{k m:Mono}(h:k.sameE m=true):(Value.agg #[j6 m.e0.toNat,j6 m.e1.toNat,j6 m.e2.toNat,j6 m.e3.toNat,j6 m.e4.toNat,j6 m.e5.toNat])= .agg #[j6 k.e0.toNat,j6 k.e1.toNat,j6 k.e2.toNat,j6 k.e3.toNat,j6 k.e4.toNat,j6 k.e5.toNat]:=by
 simp only[Mono.sameE,G1,beq_iff_eq]at h;obtain⟨h0,h1,c,b,h4,a⟩:=h;rw[h0,h1,c,b,h4,a]
theorem map_set_kv{es:Array MapEntry}{L:List Mono}{d:Nat}{k m:Mono}{e:MapEntry}(hkv:es.toList.map kvE=L.map kvM)(hd:L[d]?=some m)(hs:k.sameE m=true)(he:es[d]?=some e)(x:Int):
  (es.modify d λe=>{e with val:= j5 x}).toList.map kvE=(L.set d {k with n:=x}).map kvM:=by
 have b:e.key= .agg #[.int .u8 k.e0.toNat,.int .u8 k.e1.toNat,.int .u8 k.e2.toNat,.int .u8 k.e3.toNat,.int .u8 k.e4.toNat,.int .u8 k.e5.toNat]:=by
  have h1:(es.toList.map kvE)[d]?=some (kvE e):=by simp[he]
  rw[hkv,I7,hd]at h1;simp only[I2,Option.some.injEq,kvE,kvM,Prod.mk.injEq]at h1;rw[<-h1.1];exact bSu hs
 have a:es.toList[d]?=some e:=by simpa using he
 rw[S7,ChangeMaps.modify_eq_set _ _ _ _ a,R3,R3,hkv]
 congr 1
 simp[kvE,kvM,b]
theorem yL(k:Mono)(x:Int){w:World}{r:Nat}{L:List Mono}(h:nA w r L): ∃v0 st w1 w2,
  (M4 282 (.map (some r)) (.agg #[j6 k.e0.toNat,j6 k.e1.toNat,j6 k.e2.toNat,j6 k.e3.toNat,j6 k.e4.toNat,j6 k.e5.toNat])).run prog w= .ok (.tuple #[v0,j5 st]) w1/\
  (T4 282 (.map (some r)) (.agg #[j6 k.e0.toNat,j6 k.e1.toNat,j6 k.e2.toNat,j6 k.e3.toNat,j6 k.e4.toNat,j6 k.e5.toNat]) false).run prog w1= .ok (j5 (oO k L)) w1/\
  (T5 282 (.map (some r)) (j5 st) (j5 x)).run prog w1= .ok () w2/\
  nA w2 r (setTo k x L)/\ ∃o,w2=setBlock w r o:=by
 obtain⟨f,b,hb,g,hlt,A⟩:=h;have hz:(zeroValue 2).run prog w= .ok (.int .i64 0) w:=l4
 cases G:findAt k L 0 with
 |none=>
  obtain⟨M,l⟩:=findAt_none (x:=x) G;obtain⟨_,Q⟩:=findAt_none (x:=0) G;have i:(setBlock w r (.map (f.push ⟨.agg #[.int .u8 k.e0.toNat,.int .u8 k.e1.toNat,.int .u8 k.e2.toNat,.int .u8 k.e3.toNat,.int .u8 k.e4.toNat,.int .u8 k.e5.toNat],.int .i64 0,b⟩) (b+1))).heap[r]?=some (.map (f.push ⟨.agg #[.int .u8 k.e0.toNat,.int .u8 k.e1.toNat,.int .u8 k.e2.toNat,.int .u8 k.e3.toNat,.int .u8 k.e4.toNat,.int .u8 k.e5.toNat],.int .i64 0,b⟩) (b+1)):=ChangeMaps.heap_setBlock_same hb _
  have q: ∀v,((f.push ⟨.agg #[.int .u8 k.e0.toNat,.int .u8 k.e1.toNat,.int .u8 k.e2.toNat,.int .u8 k.e3.toNat,.int .u8 k.e4.toNat,.int .u8 k.e5.toNat],v,b⟩).toList.map (·.born)).Nodup:=λv=>by
   simp only[S8,List.map_append,I5,List.map_nil];refine List.nodup_append.2 ⟨A,n4,λa Y c M e1=>?_⟩;simp only[L1]at M;obtain⟨y,B,rfl⟩:=K7.1 Y;have:=hlt y B;omega
  have C: ∀v,∀y∈(f.push ⟨.agg #[.int .u8 k.e0.toNat,.int .u8 k.e1.toNat,.int .u8 k.e2.toNat,.int .u8 k.e3.toNat,.int .u8 k.e4.toNat,.int .u8 k.e5.toNat],v,b⟩).toList,y.born<b+1:=λv y B=>by
   simp only[S8,List.mem_append,L1]at B
   rcases B with B|rfl
   .have:=hlt y B;omega
   .simp
  have D: ∀n:Int,(f.push ⟨.agg #[.int .u8 k.e0.toNat,.int .u8 k.e1.toNat,.int .u8 k.e2.toNat,.int .u8 k.e3.toNat,.int .u8 k.e4.toNat,.int .u8 k.e5.toNat],.int .i64 n,b⟩).toList.map kvE=(L++[{k with n:=n}]).map kvM:=λn=>by
   simp[g,kvE,kvM]
  refine⟨.int .i64 0,b,setBlock w r (.map (f.push ⟨.agg #[.int .u8 k.e0.toNat,.int .u8 k.e1.toNat,.int .u8 k.e2.toNat,.int .u8 k.e3.toNat,.int .u8 k.e4.toNat,.int .u8 k.e5.toNat],.int .i64 0,b⟩) (b+1)),setBlock w r (.map (f.push ⟨.agg #[.int .u8 k.e0.toNat,.int .u8 k.e1.toNat,.int .u8 k.e2.toNat,.int .u8 k.e3.toNat,.int .u8 k.e4.toNat,.int .u8 k.e5.toNat],.int .i64 x,b⟩) (b+1)),?_,?_,?_,?_,⟨_,rfl⟩⟩
  .unfold M4;simp only[E6,run_underlying underlying282,E8,O4 hb,E7,vW,zJ k w f.toList L g,G,hz];simp[O5 _ hb,T1,setBlock,goInt]
  .have X:nA (setBlock w r (.map (f.push ⟨.agg #[.int .u8 k.e0.toNat,.int .u8 k.e1.toNat,.int .u8 k.e2.toNat,.int .u8 k.e3.toNat,.int .u8 k.e4.toNat,.int .u8 k.e5.toNat],.int .i64 0,b⟩) (b+1))) r (L++[{k with n:=0}]):=⟨_,_,i,D 0,C _,q _⟩
   rw[mA k X,M,coef_app G];simp[oO,sameE_self]
  .have s:(f.push ⟨.agg #[.int .u8 k.e0.toNat,.int .u8 k.e1.toNat,.int .u8 k.e2.toNat,.int .u8 k.e3.toNat,.int .u8 k.e4.toNat,.int .u8 k.e5.toNat],.int .i64 0,b⟩).findIdx? (λe=>((e.born:Nat):Int)==((b:Nat):Int))=some f.size:=by
    rw[WideElems.findIdx_arr];exact WideElems.findIdx_born (j:=f.size) (e0:=⟨.agg #[.int .u8 k.e0.toNat,.int .u8 k.e1.toNat,.int .u8 k.e2.toNat,.int .u8 k.e3.toNat,.int .u8 k.e4.toNat,.int .u8 k.e5.toNat],.int .i64 0,b⟩) (q _) n4
   have I:(f.push ⟨.agg #[.int .u8 k.e0.toNat,.int .u8 k.e1.toNat,.int .u8 k.e2.toNat,.int .u8 k.e3.toNat,.int .u8 k.e4.toNat,.int .u8 k.e5.toNat],.int .i64 0,b⟩).modify f.size (λe=>{e with val:= .int .i64 x})=f.push ⟨.agg #[.int .u8 k.e0.toNat,.int .u8 k.e1.toNat,.int .u8 k.e2.toNat,.int .u8 k.e3.toNat,.int .u8 k.e4.toNat,.int .u8 k.e5.toNat],.int .i64 x,b⟩:=by
    apply k7;rw[S7,S8,S8,<-N8,WideElems.modify_last]
   simp only[T5,E6,O4 i,E8,asInt,asIntOf,E7,s,I,O5 _ i];simp[setBlock]
  .rw[l];exact⟨_,_,ChangeMaps.heap_setBlock_same hb _,D x,C _,q _⟩
 |some p=>
  obtain⟨j,v⟩:=p;obtain⟨d,m,hj,hd,U,W,M,l⟩:=yU (x:=x) G;obtain rfl:j=d:=k9
  subst W
  have J:f.size=L.length:=by
   have:=congrArg R4 g
   simpa using this
  have R:j<f.size:=by rw[J];exact(D9.1 hd).1
  obtain⟨e,K⟩: ∃e,f[j]?=some e:=⟨f[j],Array.getElem?_eq_getElem R⟩
  have V:e.key= .agg #[.int .u8 k.e0.toNat,.int .u8 k.e1.toNat,.int .u8 k.e2.toNat,.int .u8 k.e3.toNat,.int .u8 k.e4.toNat,.int .u8 k.e5.toNat]:=by
   have h1:(f.toList.map kvE)[j]?=some (kvE e):=by simp[K]
   rw[g,I7,hd]at h1;simp only[I2,Option.some.injEq,kvE,kvM,Prod.mk.injEq]at h1;rw[<-h1.1];exact bSu U
  have t:f.toList[j]?=some e:=by simpa using K
  have E:f.modify j (λe=>{e with key:= .agg #[.int .u8 k.e0.toNat,.int .u8 k.e1.toNat,.int .u8 k.e2.toNat,.int .u8 k.e3.toNat,.int .u8 k.e4.toNat,.int .u8 k.e5.toNat]})=f:=by
   apply k7;rw[S7,ChangeMaps.modify_eq_set _ _ _ _ t,<-V];exact WideElems.set_self _ _ _ t
  have i:(setBlock w r (.map f b)).heap[r]?=some (.map f b):=ChangeMaps.heap_setBlock_same hb _;refine⟨.int .i64 m.n,e.born,setBlock w r (.map f b),setBlock w r (.map (f.modify j λe=>{e with val:= .int .i64 x}) b),?_,?_,?_,?_,⟨_,rfl⟩⟩
  .unfold M4;simp only[E6,run_underlying underlying282,E8,O4 hb,E7,vW,zJ k w f.toList L g,G,K,I2,Option.getD_some,V,run_stays];rw[E,O5 _ hb];simp[setBlock,goInt]
  .exact mA k ⟨_,_,i,g,hlt,A⟩
  .have s:f.findIdx? (λZ=>((Z.born:Nat):Int)==((e.born:Nat):Int))=some j:=by
    rw[WideElems.findIdx_arr];exact WideElems.findIdx_born A t
   simp only[T5,E6,O4 i,E8,asInt,asIntOf,E7,s,O5 _ i];simp[setBlock]
  .rw[l]
   have u:(f.modify j λe=>{e with val:= .int .i64 x}).toList.map (·.born)=f.toList.map (·.born):=by
    rw[S7,ChangeMaps.modify_eq_set _ _ _ _ t,R3];exact WideElems.set_self _ _ _ (by simp[t])
   refine⟨_,_,ChangeMaps.heap_setBlock_same hb _,map_set_kv g hd U K x,λy B=>?_,by rw[u];exact A⟩;have P:y.born∈f.toList.map (·.born):=by rw[<-u];exact K7.2 ⟨y,B,rfl⟩
   obtain⟨z,O,N⟩:=K7.1 P;rw[<-N];exact hlt z O
end
section
open Go.RowKit Go.Sort Go.Proofs.Tryz
set_option maxRecDepth 100000
def flat (l:List Mono):List Value:=l.flatMap Mono.cells
theorem flat_snoc(l:List Mono)(m:Mono):flat (l++[m])=flat l++m.cells:=by simp[flat]
theorem flat_get: ∀(l:List Mono) (k j:Nat) (m:Mono),l[k]?=some m->j<7->(flat l)[k*7+j]?=m.cells[j]?
 |[],k,j,m,h,_=>by simp at h
 |a::l,0,j,m,h,hj=>by
  simp at h;subst h;simp only[flat,List.flatMap_cons,Nat.zero_mul,Nat.zero_add];exact List.getElem?_append_left (by rw[Mono.cells_length];exact hj)
 |a::l,k+1,j,m,h,hj=>by
  have b:=flat_get l k j m ab0 hj;have e:flat (a::l)=a.cells++flat l:=by simp[flat]
  rw[e,List.getElem?_append_right (by rw[Mono.cells_length];omega),Mono.cells_length];rw[<-b]
  congr 1
  omega
def bRk (w:World)(B:Nat)(v:Value)(l:List Mono):Prop:=w.ownsRow B 111 7 v l.length (flat l)
theorem bRk.row{w:World}{B g cap:Nat}{l:List Mono}(h:bRk w B (.slice (some ⟨g,0,none⟩) l.length cap) l):Row w g l:=λt d=>by
 have a:t<l.length*7:=by simpa using d
 have f:=World.ownsRow.cellAt h t a;refine⟨?_,by simpa using World.ownsRow.frozenAt h t⟩;rw[get_flatK _ _ _ _ (by simpa using a)];have b:t/7<l.length:=k9
 have hg:=flat_get l (t/7) (t%7) l[t/7] (D7 b) (Nat.mod_lt _ k9);have e:t/7*7+t%7=t:=k9
 rw[e]at hg;rw[Nat.zero_add,f,hg];have i:l.toArray[t/7]! =l[t/7]:=by simp[b]
 rw[i];have c:t%7<(l[t/7]).cells.length:=by rw[Mono.cells_length];exact Nat.mod_lt _ k9
 rw[D7 c,getElem!_pos (l[t/7]).cells (t%7) c];rfl
theorem Row.monos{w:World}{g:Nat}{l:List Mono}(h:Row w g l):kK w (some ⟨g,0,none⟩) l:=λk m d=>by
 have a:k<l.toArray.size:=by simpa using (D9.1 d).1
 have e:l.toArray[k]! =m:=by
  rw[getElem!_pos l.toArray k a];have:=(D9.1 d).2
  simpa using this
 have c:=λj (f:j<7)=>(HoldsK.cell h a f).1;rw[e]at c
 have hlt:g<w.heap.size:=by
  rcases H3 g w.heap.size with b|b
  .exact b
  .have:=c 0 k9;simp[j7,j9 b]at this
 refine⟨g,0,rfl,hlt,?_⟩;exact⟨c 0 k9,c 1 k9,c 2 k9,c 3 k9,c 4 k9,c 5 k9,c 6 k9⟩
theorem Row.below{w w':World}{B g:Nat}{l:List Mono}(h:Row w g l)(hb:Below B w w')(hg:g<B):Row w' g l:=λt a=>by
 obtain⟨h1,b⟩:=h t a;exact⟨(hb.cell (p:=⟨g,0+t,none⟩) hg).trans h1,(hb.frozen (p:=⟨g,0+t,none⟩) hg).trans b⟩
theorem Row.lt{w:World}{g:Nat}{l:List Mono}(h:Row w g l)(hl:l≠[]):g<w.heap.size:=by
 cases l with
 |nil=>exact absurd rfl hl
 |cons m l=>
  obtain⟨b,o,e,hb,_⟩:=h.monos 0 m rfl;injection e with e
  injection e with e
  omega
def Res (B:Nat)(w:World)(v:Value)(l:List Mono):Prop:=
 ∃A c,v= .slice A l.length c/\(l=[]\/ ∃g,A=some ⟨g,0,none⟩/\B<=g/\Row w g l)
theorem Res.monos{B:Nat}{w:World}{A:Option Addr}{n c:Nat}{l:List Mono}(h:Res B w (.slice A n c) l):kK w A l/\n=l.length:=by
 obtain⟨b,a,e,h⟩:=h;injection e with e1 e2 e3
 subst e1 e2
 rcases h with rfl|⟨g,rfl,_,hr⟩
 .exact⟨kK.nil,rfl⟩
 .exact⟨hr.monos,rfl⟩
theorem Res.below{B:Nat}{w w':World}{v:Value}{l:List Mono}(h:Res B w v l)(hb:Below w.heap.size w w'):Res B w' v l:=by
 obtain⟨A,c,e,h⟩:=h;refine⟨A,c,e,?_⟩
 by_cases hl:l=[]
 .exact .inl hl
 .rcases h with h|⟨g,b,a,hr⟩
  .exact .inl h
  .exact .inr ⟨g,b,a,hr.below hb (hr.lt hl)⟩
theorem Res.mono{B B':Nat}{w:World}{v:Value}{l:List Mono}(h:Res B w v l)(hB:B'<=B):Res B' w v l:=by
 obtain⟨A,c,e,h⟩:=h;refine⟨A,c,e,?_⟩
 rcases h with h|⟨g,b,a,hr⟩
 .exact .inl h
 .exact .inr ⟨g,b,B9 hB a,hr⟩
theorem Res.nil(B:Nat)(w:World)(c:Nat)(A:Option Addr):Res B w (.slice A 0 c) []:=⟨A,c,rfl,.inl rfl⟩
end
section
open Go.RowKit Go.Proofs.Tryz
set_option maxRecDepth 100000
set_option maxHeartbeats 400000 in
theorem bMr(m:Mono)(w:World):
  Calls prog 170 #[.agg #[j5 m.n,j6 m.e0.toNat,j6 m.e1.toNat,j6 m.e2.toNat,j6 m.e3.toNat,j6 m.e4.toNat,j6 m.e5.toNat]] w λe w'=>e= .returned (j5 m.deg)/\Below w.heap.size w w':=by
 have h0:=xN m.e0;have h1:=xN m.e1;have h2:=xN m.e2;have h3:=xN m.e3;have h4:=xN m.e4;have h5:=xN m.e5
 go_enter func170,ntmps170
 go_wp2
 go_rounds 7
 go_ret
 refine⟨?_,by go_grown⟩;simp[Mono.deg]
set_option maxHeartbeats 400000 in
theorem bIp(m:Mono)(w:World):
  Calls prog 98 #[.agg #[j5 m.n,j6 m.e0.toNat,j6 m.e1.toNat,j6 m.e2.toNat,j6 m.e3.toNat,j6 m.e4.toNat,j6 m.e5.toNat]] w λe w'=>e= .returned (.bool (gL m))/\Below w.heap.size w w':=by
 have h0:=xN m.e0;have h1:=xN m.e1;have h2:=xN m.e2;have h3:=xN m.e3;have h4:=xN m.e4;have h5:=xN m.e5;have i0: ∀w,(T6 109 (.agg #[.int .u8 m.e0.toNat,.int .u8 m.e1.toNat,.int .u8 m.e2.toNat,.int .u8 m.e3.toNat,.int .u8 m.e4.toNat,.int .u8 m.e5.toNat]) (.int .i64 0)).run prog w= .ok (.int .u8 m.e0.toNat) w:=λ_=>by kernel_rfl
 have i1: ∀w,(T6 109 (.agg #[.int .u8 m.e0.toNat,.int .u8 m.e1.toNat,.int .u8 m.e2.toNat,.int .u8 m.e3.toNat,.int .u8 m.e4.toNat,.int .u8 m.e5.toNat]) (.int .i64 1)).run prog w= .ok (.int .u8 m.e1.toNat) w:=λ_=>by kernel_rfl
 have i2: ∀w,(T6 109 (.agg #[.int .u8 m.e0.toNat,.int .u8 m.e1.toNat,.int .u8 m.e2.toNat,.int .u8 m.e3.toNat,.int .u8 m.e4.toNat,.int .u8 m.e5.toNat]) (.int .i64 2)).run prog w= .ok (.int .u8 m.e2.toNat) w:=λ_=>by kernel_rfl
 have i3: ∀w,(T6 109 (.agg #[.int .u8 m.e0.toNat,.int .u8 m.e1.toNat,.int .u8 m.e2.toNat,.int .u8 m.e3.toNat,.int .u8 m.e4.toNat,.int .u8 m.e5.toNat]) (.int .i64 3)).run prog w= .ok (.int .u8 m.e3.toNat) w:=λ_=>by kernel_rfl
 have i4: ∀w,(T6 109 (.agg #[.int .u8 m.e0.toNat,.int .u8 m.e1.toNat,.int .u8 m.e2.toNat,.int .u8 m.e3.toNat,.int .u8 m.e4.toNat,.int .u8 m.e5.toNat]) (.int .i64 4)).run prog w= .ok (.int .u8 m.e4.toNat) w:=λ_=>by kernel_rfl
 have i5: ∀w,(T6 109 (.agg #[.int .u8 m.e0.toNat,.int .u8 m.e1.toNat,.int .u8 m.e2.toNat,.int .u8 m.e3.toNat,.int .u8 m.e4.toNat,.int .u8 m.e5.toNat]) (.int .i64 5)).run prog w= .ok (.int .u8 m.e5.toNat) w:=λ_=>by kernel_rfl
 go_enter func98,ntmps98
 go_wp2
 go_rounds 7
 all_goals go_ret
 all_goals refine⟨lC ?_,by go_grown⟩
 all_goals clear i0 i1 i2 i3 i4 i5
 all_goals go_light
 all_goals unfold gL Mono.deg
 all_goals try exact(decide_eq_false k9).symm
 have hn:(m.n !=0)=true:=by simpa using ‹¬m.n=0›
 rw[hn,Bool.true_and];exact decide_eq_decide.2 k9
end
section
open Go.RowKit Go.Proofs.Tryz
set_option maxRecDepth 100000
theorem order_below(a b:Mono)(w:World):
  Calls prog 99 #[.agg #[j5 a.n,j6 a.e0.toNat,j6 a.e1.toNat,j6 a.e2.toNat,j6 a.e3.toNat,j6 a.e4.toNat,j6 a.e5.toNat],.agg #[j5 b.n,j6 b.e0.toNat,j6 b.e1.toNat,j6 b.e2.toNat,j6 b.e3.toNat,j6 b.e4.toNat,j6 b.e5.toNat]] w λe w'=>e= .returned (j5 (ord a b))/\Below w.heap.size w w':=
 (bUm a b w).mono λe w' ⟨d,q,g,f,c⟩=>⟨d,by rw[c];exact bKj (((Below.refl _ _).alloc (B8 _) _).alloc n4 _) _⟩
set_option maxHeartbeats 1000000 in
theorem fY(A:Option Addr)(c:Nat)(xs:List Mono)(w:World)(ha:kK w A xs)(hx:xs.length<=140737488355328):
  Calls prog 43 #[.slice A xs.length c] w λe w'=>e= .returned (.bool (cJ xs))/\Below w.heap.size w w':=by
 by_cases hl:xs.length<=48
 .have hl1:decide ((48:Int)<(xs.length:Int))=false:=by simp;omega
  have Ha:=R1 ha;clear ha
  go_enter func43,ntmps43
  go_wp2
  go_loopw [10] (λi wr=> ∃k:Nat,k<=xs.length/\i= .int .i64 k/\Hid (cJ xs=dN (if k=0 then none else xs[k-1]?) (xs.drop k))/\Below w.heap.size w wr) (λi _=>xs.length-(intOf i).toNat)
  case atStart=>exact⟨0,P2 _,rfl,by show _=_;simp[cJ,hl],Below.refl _ _⟩
  case round=>
   obtain⟨k,hk,rfl,hs,hbl⟩:=hrel
   by_cases hlt:k<xs.length
   .obtain⟨m,hm,dm⟩:=mQ hlt;obtain⟨b,o,rfl,hB,c0,c1,c2,c3,c4,c5,c6⟩:=Ha.out.below hbl k m hm;have q0:dP (wr.alloc (.cells #[.int .i64 m.n,.int .u8 m.e0.toNat,.int .u8 m.e1.toNat,.int .u8 m.e2.toNat,.int .u8 m.e3.toNat,.int .u8 m.e4.toNat,.int .u8 m.e5.toNat] 111)) wr.heap.size 0 m:=by simp[dP,go_sem]
    have hb0:Below w.heap.size w (wr.alloc (.cells #[.int .i64 m.n,.int .u8 m.e0.toNat,.int .u8 m.e1.toNat,.int .u8 m.e2.toNat,.int .u8 m.e3.toNat,.int .u8 m.e4.toNat,.int .u8 m.e5.toNat] 111)):=hbl.alloc hbl.size _;have hz:wr.heap.size<(wr.alloc (.cells #[.int .i64 m.n,.int .u8 m.e0.toNat,.int .u8 m.e1.toNat,.int .u8 m.e2.toNat,.int .u8 m.e3.toNat,.int .u8 m.e4.toNat,.int .u8 m.e5.toNat] 111)).heap.size:=by simp
    have HB0:=R1 hb0;have Q0:=R1 q0;have Hz:=R1 hz;have hm':=hm;clear q0 hb0 hz hm hB;cases hsb:gL m
    .have HS:=R1 (show cJ xs=false by rw[hs.out,dm];split<;>(try cases xs[k-1]?)<;>simp[dN,hsb]);clear dm hs
     go_wp2
     clear c0 c1 c2 c3 c4 c5 c6;generalize hb:wr.heap.size=B at Q0 Hz⊢;generalize wr.alloc (.cells #[.int .i64 m.n,.int .u8 m.e0.toNat,.int .u8 m.e1.toNat,.int .u8 m.e2.toNat,.int .u8 m.e3.toNat,.int .u8 m.e4.toNat,.int .u8 m.e5.toNat] 111)=W0 at Q0 HB0 Hz⊢;clear hb hbl;have Hsm:=R1 (fM.calls (W0:=W0) λW _=>bIp m W);rw[hsb]at Hsm;obtain⟨r0,r1,r2,r3,r4,r5,r6⟩:=Q0.out.later0;clear Q0 Hz;refine lD l4 l4 ?_
     repeat (go_big_quiet_step ((go_at_call 98;exact Hsm.out _)))
     refine wpQuiet_nil ?_;rintro _ ⟨x,rfl⟩
     go_wp2
     go_ret
     exact⟨lC HS.out.symm,HB0.out.trans (x.h.mono HB0.out.size)⟩
    .rcases Nat.eq_zero_or_pos k with hk0|hk0
     .have hk1:decide (0<k)=false:=by simp;omega
      have HS:=R1 (show cJ xs=dN (if k+1=0 then none else xs[k+1-1]?) (xs.drop (k+1)) by rw[hs.out,dm,if_pos hk0,if_neg k9,show k+1-1=k from rfl,hm'];simp[dN,hsb]);clear dm hs hk0 hm'
      go_wp2
      clear c0 c1 c2 c3 c4 c5 c6;generalize hb:wr.heap.size=B at Q0 Hz⊢;generalize wr.alloc (.cells #[.int .i64 m.n,.int .u8 m.e0.toNat,.int .u8 m.e1.toNat,.int .u8 m.e2.toNat,.int .u8 m.e3.toNat,.int .u8 m.e4.toNat,.int .u8 m.e5.toNat] 111)=W0 at Q0 HB0 Hz⊢;clear hb hbl;have Hsm:=R1 (fM.calls (W0:=W0) λW _=>bIp m W);rw[hsb]at Hsm;obtain⟨r0,r1,r2,r3,r4,r5,r6⟩:=Q0.out.later0;clear Q0 Hz;refine lD l4 l4 ?_
      repeat (go_big_quiet_step ((go_at_call 98;exact Hsm.out _)))
      refine wpQuiet_nil ?_;rintro _ ⟨x,rfl⟩
      go_wp2
      go_roundw
      case rel=>exact⟨k+1,k9,by go_num,HS,HB0.out.trans (x.h.mono HB0.out.size)⟩
      case measure=>simp[intOf];omega
     .have hk1:decide (0<k)=true:=by simp;omega
      obtain⟨j,rfl⟩: ∃j,k=j+1:=⟨k-1,k9⟩
      obtain⟨q,hq⟩: ∃q,xs[j]?=some q:=⟨xs[j]'k9,D7 _⟩
      have HS:=R1 (show cJ xs=(decide (ord q m<0)&&dN (some m) (xs.drop (j+1+1))) by rw[hs.out,dm,if_neg k9,show j+1-1=j from rfl,hq];simp[dN,hsb]);have HM:=R1 hm'
      have p0:dP (wr.alloc (.cells #[.int .i64 m.n,.int .u8 m.e0.toNat,.int .u8 m.e1.toNat,.int .u8 m.e2.toNat,.int .u8 m.e3.toNat,.int .u8 m.e4.toNat,.int .u8 m.e5.toNat] 111)) b (o+j*7) q:=by
       obtain⟨b1,o1,e1,hB1,hm1⟩:=Ha.out.below hbl j q hq;injection e1 with e1
       injection e1 with e1 e2
       subst e1 e2;exact hm1.below ((Below.refl _ _).alloc (B8 _) _) hB1
      have P0:=R1 p0;clear dm hs hk0 hm' hq p0
      go_wp2
      clear c0 c1 c2 c3 c4 c5 c6;generalize hb:wr.heap.size=B at Q0 Hz⊢;generalize wr.alloc (.cells #[.int .i64 m.n,.int .u8 m.e0.toNat,.int .u8 m.e1.toNat,.int .u8 m.e2.toNat,.int .u8 m.e3.toNat,.int .u8 m.e4.toNat,.int .u8 m.e5.toNat] 111)=W0 at Q0 HB0 Hz P0⊢;clear hb hbl;have Hsm:=R1 (fM.calls (W0:=W0) λW _=>bIp m W);rw[hsb]at Hsm;have Hor:=R1 (fM.calls (W0:=W0) λW _=>order_below q m W);obtain⟨r0,r1,r2,r3,r4,r5,r6⟩:=Q0.out.later0;obtain⟨s0,s1,s2,s3,s4,s5,s6⟩:=P0.out.later;clear Q0 Hz P0;refine lD l4 l4 ?_
      repeat (go_big_quiet_step ((first|(go_at_call 98;exact Hsm.out _)|(go_at_call 99;exact Hor.out _))))
      refine wpQuiet_nil ?_;rintro _ ⟨x,rfl⟩;clear r0 r1 r2 r3 r4 r5 r6 s0 s1 s2 s3 s4 s5 s6 Hsm Hor;have HBX:=R1 (show Below w.heap.size w x.w from HB0.out.trans (x.h.mono HB0.out.size));clear HB0
      by_cases ho:ord q m<0
      .have ho1:decide ((0:Int)<=ord q m)=false:=by simp;omega
       go_wp2
       go_roundw
       case rel=>exact⟨j+1+1,k9,by go_num,q9,HBX.out⟩
       case measure=>simp[intOf];omega
      .have ho1:decide ((0:Int)<=ord q m)=true:=by simp;omega
       go_wp2
       go_ret
       exact⟨lC w9,HBX.out⟩
   .have hk':k=xs.length:=k9
    go_wp2
    go_ret
    refine⟨lC ?_,hbl⟩;rw[hs.out,R5 k9];split<;>(try cases xs[k-1]?)<;>simp[dN]
 .have hl1:decide ((48:Int)<(xs.length:Int))=true:=by simp;omega
  go_enter func43,ntmps43
  go_wp2
  go_ret
  exact⟨lC (by simp[cJ,hl]),Below.refl _ _⟩
end
section
open Go.RowKit Go.Sort Go.Proofs.Tryz
set_option maxRecDepth 100000
open Go.ChangeMaps (setBlock)
theorem bTr{α:Type}(f:α->Nat): ∀{l:List α},(l.map f).Nodup-> ∀p∈l,l.Perm (p::l.filter (λq=>f q !=f p))
 |[],_,p,hp=>by simp at hp
 |a::l,hn,p,hp=>by
  simp only[I5,List.nodup_cons]at hn
  rcases C9.1 hp with rfl|b
  .have e:l.filter (λq=>f q !=f p)=l:=by
    rw[List.filter_eq_self];intro q hq;rw[bne_iff_ne];intro h;exact hn.1 (K7.2 ⟨q,hq,h⟩)
   simp[e]
  .have c:f a≠f p:=λh=>hn.1 (K7.2 ⟨p,b,h.symm⟩);rw[R6 (by rw[bne_iff_ne];exact c)];exact((bTr f hn.2 p b).cons a).trans (List.Perm.swap _ _ _)
def xL (Z:List (MapEntry×Mono))(seen:Array Nat):List (MapEntry×Mono):=Z.filter λp=>!seen.contains p.1.born
def nz (m:Mono):Bool:=m.n !=0
theorem zip_mem{es:List MapEntry}{L:List Mono}(h:es.map kvE=L.map kvM){p:MapEntry×Mono}(hp:p∈es.zip L):kvE p.1=kvM p.2:=by
 induction es generalizing L with
 |nil=>simp at hp
 |cons e es ih=>
  cases L with
  |nil=>simp at hp
  |cons m L=>
   simp only[I5,List.cons.injEq]at h;simp only[List.zip_cons_cons,C9]at hp
   rcases hp with rfl|hp
   .exact h.1
   .exact ih h.2 hp
theorem bGh{es:Array MapEntry}{L:List Mono}(hl:es.toList.length=L.length)(seen:Array Nat):(xL (es.toList.zip L) seen).map (·.1)=(leftOf es seen).toList:=by
 unfold xL leftOf;rw[S9];rw[show(es.toList.zip L).filter (λp=>!seen.contains p.1.born)=(es.toList.zip L).filter ((λe:MapEntry=>!seen.contains e.born)∘Prod.fst)from rfl];rw[<-List.filter_map,R7 k9]
theorem left_step{es:Array MapEntry}{L:List Mono}(hkv:es.toList.map kvE=L.map kvM)(hnd:(es.toList.map (·.born)).Nodup){seen:Array Nat}{e:MapEntry}(he:e∈(leftOf es seen).toList):
  ∃m,e.key= .agg #[j6 m.e0.toNat,j6 m.e1.toNat,j6 m.e2.toNat,j6 m.e3.toNat,j6 m.e4.toNat,j6 m.e5.toNat]/\e.val= j5 m.n/\(xL (es.toList.zip L) seen).Perm ((e,m)::xL (es.toList.zip L) (seen.push e.born)):=by
 have hl:es.toList.length=L.length:=by simpa using congrArg R4 hkv
 rw[<-bGh hl]at he;obtain⟨⟨c,m⟩,b,rfl⟩:=K7.1 he;have hz:=zip_mem hkv (R8.1 b).1;simp only[kvE,kvM,Prod.mk.injEq]at hz;refine⟨m,hz.1,hz.2,?_⟩
 have a:((xL (es.toList.zip L) seen).map λp=>p.1.born).Nodup:=by
  have h1:((es.toList.zip L).map λp=>p.1.born).Nodup:=by
   rw[show(λp:MapEntry×Mono=>p.1.born)=(·.born)∘Prod.fst from rfl,<-List.map_map,R7 k9];exact hnd
  exact h1.sublist (List.Sublist.map _ List.filter_sublist)
 have h:=bTr (λp:MapEntry×Mono=>p.1.born) a (c,m) b;refine h.trans (List.Perm.of_eq ?_)
 congr 1
 unfold xL;rw[List.filter_filter];apply List.filter_congr;intro p _;simp only[Array.contains_push,Bool.not_or];cases seen.contains p.1.born<;>simp[bne]
def gM (L:List Mono):List Mono×Int:=if cJ (lZ L)then (lZ L,0)else ([],21)
def bJm (w:World)(r:List Mono×Int)(e:Ending)(w':World):Prop:=
 ∃v,e= .returned (.tuple #[v,.int .i64 r.2])/\Below w.heap.size w w'/\Res w.heap.size w' v r.1
theorem bJm.list{w w':World}{r:List Mono×Int}{e:Ending}(h:bJm w r e w'): ∃A c,e= .returned (.tuple #[.slice A r.1.length c,j5 r.2])/\Below w.heap.size w w'/\kK w' A r.1:=by
 obtain⟨v,rfl,hb,A,c,rfl,hr⟩:=h;exact⟨A,c,rfl,hb,(Res.monos (B:=w.heap.size) ⟨A,c,rfl,hr⟩).1⟩
theorem bQu(m:Mono)(w:World):(Instr.build 111 #[(0,j5 m.n),(1,.agg #[j6 m.e0.toNat,j6 m.e1.toNat,j6 m.e2.toNat,j6 m.e3.toNat,j6 m.e4.toNat,j6 m.e5.toNat])]).run prog w= .ok (.agg #[j5 m.n,j6 m.e0.toNat,j6 m.e1.toNat,j6 m.e2.toNat,j6 m.e3.toNat,j6 m.e4.toNat,j6 m.e5.toNat]) w:=run_build w _ _ _ l4
theorem info_mono:(prog.info? 111).map (λi=>(i.zero,i.size,i.bytes))=some (some (.agg #[j5 0,j6 0,j6 0,j6 0,j6 0,j6 0,j6 0]),7,16):=l4
theorem cells_at{W:World}{g:Nat}{t:TypeId}{m:Mono}(hb:W.heap[g]?=some (.cells #[j5 m.n,j6 m.e0.toNat,j6 m.e1.toNat,j6 m.e2.toNat,j6 m.e3.toNat,j6 m.e4.toNat,j6 m.e5.toNat] t)): ∀j u,m.cells[j]?=some u->W.cell? ((⟨g,0,none⟩:Addr).add j)=some u:=λj u hu=>by
 have e:((⟨g,0,none⟩:Addr).add j)=⟨g,j,none⟩:=by
  unfold Addr.add;split<;>simp_all
 rw[e];unfold j7;rw[hb]
 simpa[Mono.cells]using hu
theorem bOv{w w1:World}{r:Nat}(o:Obj)(h:w1=w\/w1=w.drew):w.grownBy (setBlock w1 r o) (some r):=by
 have b: ∀h:Array Obj,h.size<=(h.setIfInBounds r o).size:=λh=>by simp
 have c: ∀(h:Array Obj) (i:Nat),r≠i->(h.setIfInBounds r o)[i]?=h[i]?:=λh i a=>by simp[a]
 rcases h with rfl|rfl<;>exact⟨rfl,rfl,rfl,b _,λi d a=>c _ _ (λe=>a (by rw[e]))⟩
theorem left_eq{W:World}{b r:Nat}{es:Array MapEntry}{L:List Mono}{c c' s:Nat}{x:Option Nat}{seen:Array Nat}(hl:es.toList.length=L.length)(h1:W.heap[b]?=some (.map es c))(h2:W.heap[r]?=some (.mapIter x s seen c')):
  W.rangeLeft b r=(xL (es.toList.zip L) seen).length:=by
 unfold World.rangeLeft;rw[h1,h2];show(leftOf es seen).size=_;rw[<-N8,<-bGh hl,List.length_map]
theorem perm_skip{C F:List Mono}{Z Z':List (MapEntry×Mono)}{e:MapEntry}{m:Mono}(h:(C++(Z.map (·.2)).filter nz).Perm F)(hp:Z.Perm ((e,m)::Z'))(hm:nz m=false):(C++(Z'.map (·.2)).filter nz).Perm F:=by
 have h1:(Z.map (·.2)).Perm (m::Z'.map (·.2)):=by simpa using hp.map (·.2)
 have a:=h1.filter nz;rw[List.filter_cons_of_neg (by rw[hm];simp)]at a;exact(a.symm.append_left C).trans h
theorem perm_take1{C F:List Mono}{Z Z':List (MapEntry×Mono)}{e:MapEntry}{m:Mono}(h:(C++(Z.map (·.2)).filter nz).Perm F)(hp:Z.Perm ((e,m)::Z'))(hm:nz m=true):(C++[m]++(Z'.map (·.2)).filter nz).Perm F:=by
 have h1:(Z.map (·.2)).Perm (m::Z'.map (·.2)):=by simpa using hp.map (·.2)
 have a:=h1.filter nz;rw[R6 hm]at a;rw[List.append_assoc];exact(a.symm.append_left C).trans h
theorem owns_far{w w':World}{B it:Nat}{v:Value}{C:List Mono}(h:bRk w B v C)(hg:w.grownBy w' (some it))(hit:it<B):bRk w' B v C:=by
 refine World.ownsRow.kept h hg ?_
 rcases h.2 with ⟨rfl,_⟩|⟨g,b,a,rfl,hb,_⟩
 .exact .inl rfl
 .refine .inr λe=>?_;simp[Value.ownBlock]at e;omega
theorem own_ne{w:World}{B it:Nat}{v:Value}{C:List Mono}(h:bRk w B v C)(hit:it<B):some it≠v.ownBlock:=by
 rcases h.2 with ⟨rfl,_⟩|⟨g,b,a,rfl,hb,_⟩
 .simp[Value.ownBlock]
 .intro e;simp[Value.ownBlock]at e;omega
theorem bKk{B:Nat}{a w w':World}{row:Option Nat}(h:Below B a w)(hg:w.grownBy w' row)(hB:B<=w.heap.size)(hr: ∀k,row=some k->B<=k):Below B a w':=h.grown hg hB hr
set_option maxHeartbeats 1000000 in
theorem bLw(r:Nat)(L:List Mono)(w:World)(hm:nA w r L)(hA:iR L)(hL:L.length<=1000000):
  Calls prog 163 #[.map (some r)] w (bJm w (gM L)):=by
 obtain⟨es,clock,hb,hkv,hlt,hnd⟩:=hm;have hr:r<w.heap.size:=(N6.1 hb).1
 have hrange:(Instr.range 282 (.map (some r))).run prog w= .ok (.pointer (some ⟨w.heap.size,0,none⟩)) (w.alloc (.mapIter (some r) clock #[] clock)):=by
  unfold Instr.range;simp only[E6,run_underlying underlying282,E8,O4 hb,E7];rfl
 have HA:=R1 hA;have Hkv:=R1 hkv;have Hnd:=R1 hnd;have Hlt:=R1 hlt;have Hb:=R1 hb;clear hA hkv hnd hlt hb
 go_enter func163,ntmps163
 go_wp2
 go_loopw [4] (λv wr=> ∃(seen:Array Nat) (C:List Mono),wr.heap[w.heap.size]?=some (.mapIter (some r) clock seen clock)/\bRk wr (w.heap.size+1) v C/\Hid ((C++((xL (es.toList.zip L) seen).map (·.2)).filter nz).Perm (L.filter nz))/\Below w.heap.size w wr) (λ_ wr=>wr.rangeLeft r w.heap.size)
 case atStart=>
  refine⟨#[],[],heap_alloc_new _ _,World.ownsRow_nil _ _ _ _,?_,(Below.refl _ _).alloc (B8 _) _⟩;show List.Perm _ _;have hl:es.toList.length=L.length:=by simpa using congrArg R4 Hkv.out
  have e:xL (es.toList.zip L) #[]=es.toList.zip L:=by simp[xL]
  rw[e,List.map_snd_zip k9];simp
 case round=>
  obtain⟨seen,C,hit,hown,hperm,hbl⟩:=hrel;have hbr:wr.heap[r]?=some (.map es clock):=(hbl.block r hr).trans Hb.out
  rcases run_next_at (P:=prog) wr 0 w.heap.size r clock clock seen es clock hit hbr Hlt.out (B8 _)with ⟨h0,hn⟩|⟨e,he,w1,hw1,hn⟩
  .have hl:es.toList.length=L.length:=by simpa using congrArg R4 Hkv.out
   have hz:xL (es.toList.zip L) seen=[]:=by
    have h1:=bGh hl seen;rw[show(leftOf es seen).toList=[]from K9 (by simpa using h0)]at h1;exact List.map_eq_nil_iff.1 h1
   have hpm:C.Perm (L.filter nz):=by have:=hperm.out;rw[hz]at this;simpa using this
   have hCl:C.length<=1000000:=by
    have h1:=hpm.length_eq;have h2:=R9 nz L;omega
   have HC:=R1 (show ∀T:List Mono,T.Perm C->T.Pairwise (λa b=>b.key<=a.key)->T=lZ L from λT h1 h2=>canon_of HA.out (h1.trans hpm) h2);have Hown:=R1 hown;have HBL:=R1 hbl;clear hit hbr hperm hpm hz hl h0 hown hbl
   rcases Hown.out.2 with ⟨hnil,hC⟩|⟨g,cap,cur,hv,hg,_⟩
   .go_wp2_with fail
    rw[hnil];refine(sort_none _ _ _).mono ?_;rintro e w1 ⟨rfl,hb1⟩;obtain rfl:C=[]:=K9 hC;have hcan:lZ L=[]:=(HC.out [] (List.Perm.refl _) List.Pairwise.nil).symm;have Hcan:=R1 hcan;clear hcan;have hb1':=R1 hb1;clear hb1
    go_wp2_with fail
    refine(fY none 0 [] _ kK.nil n4).mono ?_;rintro e w2 ⟨rfl,hb2⟩;have hrb:cJ []=true:=rfl;have HB2:=R1 (show Below w.heap.size w w2 from (HBL.out.trans (hb1'.out.mono HBL.out.size)).trans (hb2.mono (by have:=HBL.out.size;have:=hb1'.out.size;omega)));clear hb2 hb1' HBL
    go_wp2
    go_ret2
    have e:gM L=([],0):=by unfold gM;rw[Hcan.out];rfl
    rw[e];exact⟨_,rfl,HB2.out,Res.nil _ _ _ _⟩
   .have hrow:Row wr g C:=by
     have h:=Hown.out;rw[hv]at h;exact bRk.row h
    have hgl:g<wr.heap.size:=(World.ownsRow.lt Hown.out g (by rw[hv];rfl)).2;have HG:=R1 hg;have HR:=R1 hrow;clear hrow hg
    go_wp2_with fail
    rw[hv];refine(sort_any g cap C wr HR.out hgl k9).mono ?_;rintro e w1 ⟨rfl,T,hTp,hTs,hTr,hsz,hos,htp,hou,hkeep⟩;have hT:T=lZ L:=HC.out T hTp hTs;have hTl:T.length=C.length:=hTp.length_eq;have hb1:Below w.heap.size w w1:=HBL.out.trans ⟨hos,htp,hou,hsz,λk hk=>hkeep k (B6 hk HBL.out.size) (by have:=HG.out;omega)⟩;have HB1:=R1 hb1;have hgl1:g<w1.heap.size:=B6 hgl hsz;have HTr:=R1 hTr;have HT:=R1 hT;have HTl:=R1 hTl;clear hTp hTs hTr hsz hos htp hou hkeep hT hTl hb1 HR HBL
    go_wp2_with fail
    rw[<-HTl.out];refine(fY _ cap T _ HTr.out.monos (by rw[HTl.out];omega)).mono ?_;rintro e w2 ⟨rfl,hb2⟩;have HB2:=R1 (show Below w.heap.size w w2 from HB1.out.trans (hb2.mono HB1.out.size));have HTr2:=R1 (show Row w2 g T from HTr.out.below hb2 hgl1);clear hb2 HB1 HTr;cases hrb:cJ T
    .go_wp2
     go_ret2
     have e:gM L=([],21):=by unfold gM;rw[<-HT.out,hrb];rfl
     rw[e];exact⟨_,rfl,HB2.out,Res.nil _ _ _ _⟩
    .go_wp2
     go_ret2
     have e:gM L=(T,0):=by unfold gM;rw[<-HT.out,hrb];rfl
     rw[e];refine⟨_,rfl,HB2.out,some ⟨g,0,none⟩,cap,?_,.inr ⟨g,rfl,by have:=HG.out;omega,HTr2.out⟩⟩;simp[HTl.out]
  .obtain⟨m,hk,hv,hp⟩:=left_step Hkv.out Hnd.out he;rw[hk,hv]at hn
   obtain⟨W1,hW1⟩: ∃W1,W1=setBlock w1 w.heap.size (.mapIter (some r) clock (seen.push e.born) clock):=⟨_,rfl⟩
   rw[<-hW1]at hn;have hg1:wr.grownBy W1 (some w.heap.size):=by rw[hW1];exact bOv _ hw1
   have hit1:W1.heap[w.heap.size]?=some (.mapIter (some r) clock (seen.push e.born) clock):=by
    rw[hW1]
    have hlt:w.heap.size<w1.heap.size:=by
     have:=(N6.1 hit).1
     rcases hw1 with rfl|rfl<;>exact this
    simp[setBlock,hlt]
   have hbr1:W1.heap[r]?=some (.map es clock):=(hg1.block r (N6.1 hbr).1 (by intro h;injection h with h;omega)).trans hbr
   have hen:(Instr.entry (.pointer (some ⟨w.heap.size,0,none⟩))).run prog W1= .ok (.tuple #[.agg #[.int .u8 m.e0.toNat,.int .u8 m.e1.toNat,.int .u8 m.e2.toNat,.int .u8 m.e3.toNat,.int .u8 m.e4.toNat,.int .u8 m.e5.toNat],.int .i64 m.n]) W1:=by
    have:=run_entry_at (P:=prog) W1 w.heap.size r clock seen es clock e hit1 hbr1 (by
     have:=he;unfold leftOf at this;rw[S9]at this
     exact(R8.1 this).1) Hnd.out
    rw[hk,hv]at this;exact this
   have Hown:=R1 (owns_far hown hg1 (J9 _));have HBL:=R1 (bKk hbl hg1 hbl.size (λk hk=>by injection hk with hk;omega));have Hit:=R1 hit1;have Hbr:=R1 hbr1;have hl:es.toList.length=L.length:=by simpa using congrArg R4 Hkv.out
   have Hmes:=R1 (show wr.rangeLeft r w.heap.size=(xL (es.toList.zip L) (seen.push e.born)).length+1 by rw[left_eq hl hbr hit,hp.length_eq];rfl);have Hl:=R1 hl
   have hCl:C.length<=1000000:=by
    have h1:=hperm.out.length_eq;have h2:=R9 nz L;simp only[E0]at h1;omega
   have Hp:=R1 hp;clear hl hp;clear hW1 hg1 hit1 hbr1 hit hbr hown hbl hw1 he hk hv;have hbu:=bQu m
   by_cases hz:m.n=0
   .have hz1:(m.n !=0)=false:=by simp[hz]
    have Hz:=R1 hz;clear hz
    go_wp2
    have q1:(W1.alloc (.cells #[.int .u8 m.e0.toNat,.int .u8 m.e1.toNat,.int .u8 m.e2.toNat,.int .u8 m.e3.toNat,.int .u8 m.e4.toNat,.int .u8 m.e5.toNat] 109)).heap[w.heap.size]?=some (.mapIter (some r) clock (seen.push e.born) clock):=(Below.heap_alloc _ _ _ (N6.1 Hit.out).1).trans Hit.out;have q2:(W1.alloc (.cells #[.int .u8 m.e0.toNat,.int .u8 m.e1.toNat,.int .u8 m.e2.toNat,.int .u8 m.e3.toNat,.int .u8 m.e4.toNat,.int .u8 m.e5.toNat] 109)).heap[r]?=some (.map es clock):=(Below.heap_alloc _ _ _ (N6.1 Hbr.out).1).trans Hbr.out
    go_roundw
    case rel=>exact⟨seen.push e.born,C,q1,Hown.out.alloc _,perm_skip hperm.out Hp.out (by simp[nz,Hz.out]),HBL.out.alloc HBL.out.size _⟩
    case measure=>rw[left_eq Hl.out q2 q1,Hmes.out];omega
   .have hz1:(m.n !=0)=true:=by simp[hz]
    clear hz;obtain⟨i0,hi0,hi1,hi2,hi3⟩:=info_parts info_mono
    go_wp2_with (at_builtin;refine wpList_append_own_at _ rfl (.tmp 16) (.tmp 20) 43 rfl (w.heap.size+1) 111 i0 _ 7 16 underlying43 hi0 hi1 hi2 hi3 rfl l5 _ C.length (flat C) rfl ((Hown.out.alloc _).alloc _) ⟨W1.heap.size+1,0,none⟩ 1 1 m.cells rfl rfl ?hx ?h1 ?h2 ?h3 ?h4 ?_)
    case hx=>exact cells_at (by rw[<-World.size_alloc];exact heap_alloc_new _ _)
    case h1=>exact bUg m
    case h2=>unfold maxLen;omega
    case h3=>omega
    case h4=>have:=HBL.out.size;simp;omega
    intro v' w2 hown2 hgrow2 _ _;have hs2:=HBL.out.size
    have e1:((W1.alloc (.cells #[.int .u8 m.e0.toNat,.int .u8 m.e1.toNat,.int .u8 m.e2.toNat,.int .u8 m.e3.toNat,.int .u8 m.e4.toNat,.int .u8 m.e5.toNat] 109)).alloc (.cells #[.int .i64 m.n,.int .u8 m.e0.toNat,.int .u8 m.e1.toNat,.int .u8 m.e2.toNat,.int .u8 m.e3.toNat,.int .u8 m.e4.toNat,.int .u8 m.e5.toNat] 111)).heap[w.heap.size]?=some (.mapIter (some r) clock (seen.push e.born) clock):=by
     rw[Below.heap_alloc _ _ _ (by have:=(N6.1 Hit.out).1;simp;omega),Below.heap_alloc _ _ _ (N6.1 Hit.out).1];exact Hit.out
    have e2:((W1.alloc (.cells #[.int .u8 m.e0.toNat,.int .u8 m.e1.toNat,.int .u8 m.e2.toNat,.int .u8 m.e3.toNat,.int .u8 m.e4.toNat,.int .u8 m.e5.toNat] 109)).alloc (.cells #[.int .i64 m.n,.int .u8 m.e0.toNat,.int .u8 m.e1.toNat,.int .u8 m.e2.toNat,.int .u8 m.e3.toNat,.int .u8 m.e4.toNat,.int .u8 m.e5.toNat] 111)).heap[r]?=some (.map es clock):=by
     rw[Below.heap_alloc _ _ _ (by have:=(N6.1 Hbr.out).1;simp;omega),Below.heap_alloc _ _ _ (N6.1 Hbr.out).1];exact Hbr.out
    have q1:w2.heap[w.heap.size]?=some (.mapIter (some r) clock (seen.push e.born) clock):=(hgrow2.block _ (N6.1 e1).1 (own_ne Hown.out (J9 _))).trans e1;have q2:w2.heap[r]?=some (.map es clock):=(hgrow2.block _ (N6.1 e2).1 (own_ne Hown.out k9)).trans e2;have hb2:Below w.heap.size w ((W1.alloc (.cells #[.int .u8 m.e0.toNat,.int .u8 m.e1.toNat,.int .u8 m.e2.toNat,.int .u8 m.e3.toNat,.int .u8 m.e4.toNat,.int .u8 m.e5.toNat] 109)).alloc (.cells #[.int .i64 m.n,.int .u8 m.e0.toNat,.int .u8 m.e1.toNat,.int .u8 m.e2.toNat,.int .u8 m.e3.toNat,.int .u8 m.e4.toNat,.int .u8 m.e5.toNat] 111)):=(HBL.out.alloc hs2 _).alloc n9 _
    have hb3:Below w.heap.size w w2:=bKk hb2 hgrow2 hb2.size (λk hk=>by
     have:=(World.ownsRow.lt Hown.out k hk).1
     omega)
    have Q1:=R1 q1;have Q2:=R1 q2
    have HO2:=R1 (show bRk w2 (w.heap.size+1) v' (C++[m]) by
     have:=hown2;unfold bRk;rw[flat_snoc,E0]
     exact this)
    have HB3:=R1 hb3;clear e1 e2 q1 q2 hb2 hb3 hown2 hgrow2 Hown HBL Hit Hbr hs2 hi0 hi1 hi2 hi3 hbu hen hn
    go_wp2
    go_roundw
    case rel=>exact⟨seen.push e.born,C++[m],Q1.out,HO2.out,perm_take1 hperm.out Hp.out hz1,HB3.out⟩
    case measure=>rw[left_eq Hl.out Q2.out Q1.out,Hmes.out];omega
end
section
open Go.RowKit Go.Sort Go.Proofs.Tryz
set_option maxRecDepth 100000
open Go.ChangeMaps (setBlock)
def tD (m:Mono)(v:Int)(L:List Mono):List Mono:=setTo m (wrap64 (oO m L+v)) L
def fR (g:Mono->Int):List Mono->List Mono->List Mono
 |L,[]=>L
 |L,m::p=>fR g (tD m (g m) L) p
def bothP (p q:List Mono)(s:Int):List Mono×Int:=if cJ p&&cJ q then gM (fR (λm=>wrap64 (s*m.n)) (fR Mono.n [] p) q)else ([],20)
theorem nA.alloc{w:World}{r:Nat}{L:List Mono}(h:nA w r L)(o:Obj):nA (w.alloc o) r L:=by
 obtain⟨d,a,hb,h1,c,b⟩:=h;exact⟨d,a,(Below.heap_alloc _ _ _ (N6.1 hb).1).trans hb,h1,c,b⟩
theorem nA.drew{w:World}{r:Nat}{L:List Mono}(h:nA w r L):nA w.drew r L:=h
theorem nA.new(w:World):nA (w.alloc (.map #[] 0)) w.heap.size []:=⟨#[],0,heap_alloc_new _ _,rfl,n4,n4⟩
theorem sameE_E{k m:Mono}:k.sameE m=true↔k.key=m.key:=by
 rw[key_E];simp[Mono.sameE,Mono.E]
theorem bAh{k y:Mono}{x:Int}: ∀{L:List Mono},y∈setTo k x L->y={k with n:=x}\/(y∈L)
 |[],h=>by simp[setTo]at h;exact .inl h
 |m::L,h=>by
  unfold setTo at h;split at h
  .rcases C9.1 h with h|h
   .exact .inl h
   .exact .inr w8
  .rcases C9.1 h with h|h
   .exact .inr w8
   .rcases bAh h with h|h
    .exact .inl h
    .exact .inr w8
theorem yE(k:Mono)(x:Int): ∀{L:List Mono},iR L->iR (setTo k x L)
 |[],_=>by simp[setTo,iR]
 |m::L,h=>by
  obtain⟨h1,c⟩:=D2.1 h;unfold setTo;split
  .rename_i b;have e:k.key=m.key:=sameE_E.1 b;refine D2.2 ⟨λy a=>?_,c⟩;show k.key≠y.key;rw[e];exact h1 y a
  .rename_i b;refine D2.2 ⟨λy a=>?_,yE k x c⟩
   rcases bAh a with rfl|a
   .intro e;exact b (sameE_E.2 e.symm)
   .exact h1 y a
theorem kR(g:Mono->Int): ∀(p:List Mono) {L:List Mono},iR L->iR (fR g L p)
 |[],_,h=>h
 |m::p,_,h=>kR g p (yE m _ h)
theorem rU(k:Mono)(x:Int): ∀L:List Mono,(setTo k x L).length<=L.length+1
 |[]=>by simp[setTo]
 |m::L=>by
  unfold setTo;split
  .simp
  .have:=rU k x L;simp;omega
theorem tK{B:Nat}{a w:World}{r:Nat}(h:Below B a w)(hB:B<=r)(o:Obj):Below B a (setBlock w r o):=
 ⟨h.os,h.tape,h.output,by
  have:=h.size
  simpa[setBlock]using this,λi c=>by
  have b:r≠i:=k9
  have:=h.block i c;rw[<-this]
  simp[setBlock,b]⟩
set_option maxHeartbeats 1000000 in
theorem both_any(A B:Option Addr)(c d:Nat)(p q:List Mono)(s:Int)(w:World)(ha:kK w A p)(hb:kK w B q)(hp:p.length<=140737488355328)(hq:q.length<=140737488355328):
  Calls prog 167 #[.slice A p.length c,.slice B q.length d,j5 s] w (bJm w (bothP p q s)):=by
 have Ha:=R1 ha;have Hb:=R1 hb;clear ha hb;cases hrp:cJ p
 .have e:bothP p q s=([],20):=by unfold bothP;rw[hrp];rfl
  rw[e]
  go_enter func167,ntmps167
  go_wp2_with (go_at_call 43;refine(fY A c p _ Ha.out hp).mono ?_;rintro e w1 ⟨rfl,hb1⟩)
  go_ret2
  exact⟨_,rfl,hb1,Res.nil _ _ _ _⟩
 .cases hrq:cJ q
  .have e:bothP p q s=([],20):=by unfold bothP;rw[hrp,hrq];rfl
   rw[e]
   go_enter func167,ntmps167
   go_wp2_with fail
   refine(fY A c p _ Ha.out hp).mono ?_;rintro e w1 ⟨rfl,hb1⟩;have H1:=R1 hb1;clear hb1
   go_wp2_with fail
   refine(fY B d q _ (Hb.out.below H1.out) hq).mono ?_;rintro e w2 ⟨rfl,hb2⟩;have H2:=R1 (show Below w.heap.size w w2 from H1.out.trans (hb2.mono H1.out.size));clear hb2
   go_wp2
   go_ret2
   exact⟨_,rfl,H2.out,Res.nil _ _ _ _⟩
  .have e:bothP p q s=gM (fR (λm=>wrap64 (s*m.n)) (fR Mono.n [] p) q):=by unfold bothP;rw[hrp,hrq];rfl
   rw[e]
   have hp48:p.length<=48:=by
    unfold cJ at hrp;simp at hrp;exact hrp.1
   have hq48:q.length<=48:=by
    unfold cJ at hrq;simp at hrq;exact hrq.1
   have hmm:= @run_makeMap prog
   go_enter func167,ntmps167
   go_wp2_with fail
   refine(fY A c p _ Ha.out hp).mono ?_;rintro e w1 ⟨rfl,hb1⟩;have H1:=R1 hb1;clear hb1
   go_wp2_with fail
   refine(fY B d q _ (Hb.out.below H1.out) hq).mono ?_;rintro e w2 ⟨rfl,hb2⟩;have H2:=R1 (show Below w.heap.size w w2 from H1.out.trans (hb2.mono H1.out.size));clear hb2 H1
   go_wp2
   generalize hr:w2.heap.size=r;have hrw:w.heap.size<=r:=by have:=H2.out.size;omega
   have hm0:nA (w2.alloc (.map #[] 0)) r []:=by rw[<-hr];exact nA.new _
   have hb0:Below w.heap.size w (w2.alloc (.map #[] 0)):=H2.out.alloc H2.out.size _;have HM0:=R1 hm0;have HB0:=R1 hb0;clear hm0 hb0 hr H2
   go_loopw [24] (λi wr=> ∃(k:Nat) (L:List Mono),k<=p.length/\i= .int .i64 k/\nA wr r L/\L.length<=k/\Hid (fR Mono.n [] p=fR Mono.n L (p.drop k))/\Below w.heap.size w wr) (λi _=>p.length-(intOf i).toNat)
   case atStart=>exact⟨0,[],P2 _,rfl,HM0.out,n4,rfl,HB0.out⟩
   case round=>
    obtain⟨k,L,hk,rfl,hm,hLk,hL,hbl⟩:=hrel;have HM:=R1 hm;clear hm
    by_cases hlt:k<p.length
    .obtain⟨m,hm,dm⟩:=mQ hlt;obtain⟨b,o,rfl,hB,c0,c1,c2,c3,c4,c5,c6⟩:=Ha.out.below hbl k m hm;have q0:dP (wr.alloc (.cells #[.int .i64 m.n,.int .u8 m.e0.toNat,.int .u8 m.e1.toNat,.int .u8 m.e2.toNat,.int .u8 m.e3.toNat,.int .u8 m.e4.toNat,.int .u8 m.e5.toNat] 111)) wr.heap.size 0 m:=by simp[dP,go_sem]
     have Q0:=R1 q0;have HM1:=R1 (HM.out.alloc (.cells #[.int .i64 m.n,.int .u8 m.e0.toNat,.int .u8 m.e1.toNat,.int .u8 m.e2.toNat,.int .u8 m.e3.toNat,.int .u8 m.e4.toNat,.int .u8 m.e5.toNat] 111));have HB1:=R1 (hbl.alloc hbl.size (.cells #[.int .i64 m.n,.int .u8 m.e0.toNat,.int .u8 m.e1.toNat,.int .u8 m.e2.toNat,.int .u8 m.e3.toNat,.int .u8 m.e4.toNat,.int .u8 m.e5.toNat] 111));have HL:=R1 (show fR Mono.n [] p=fR Mono.n (tD m m.n L) (p.drop (k+1)) by rw[hL.out,dm,fR]);clear q0 hm dm hB HM hL
     go_wp2
     clear c0 c1 c2 c3 c4 c5 c6;generalize hb:wr.heap.size=X at Q0⊢;generalize wr.alloc (.cells #[.int .i64 m.n,.int .u8 m.e0.toNat,.int .u8 m.e1.toNat,.int .u8 m.e2.toNat,.int .u8 m.e3.toNat,.int .u8 m.e4.toNat,.int .u8 m.e5.toNat] 111)=W0 at Q0 HM1 HB1⊢;clear hb hbl;obtain⟨q0,q1,q2,q3,q4,q5,q6⟩:=Q0.out.zero;have hlk:=mA m HM1.out.drew;obtain⟨v0,st,w3,w4,hme,hlk1,hes,hm4,o4,hw4⟩:=yL m (wrap64 (oO m L+m.n)) HM1.out.drew;have HM4:=R1 hm4;have HB4:=R1 (show Below w.heap.size w w4 by rw[hw4];exact tK HB1.out.drew hrw _);clear hm4 hw4 HM1 HB1 Q0
     go_region
     clear hlk hme hlk1 hes q0 q1 q2 q3 q4 q5 q6
     go_wp2
     go_roundw
     case rel=>exact⟨k+1,tD m m.n L,k9,by go_num,HM4.out,B9 (rU _ _ _) k9,HL,HB4.out⟩
     case measure=>simp[intOf];omega
    .have HL:=R1 (show fR Mono.n [] p=L by rw[hL.out,R5 k9,fR]);have hLk':L.length<=48:=k9
     have HBL:=R1 hbl;clear hL hbl
     go_wp2
     go_loopw [40] (λi wr=> ∃(k:Nat) (T:List Mono),k<=q.length/\i= .int .i64 k/\nA wr r T/\T.length<=48+k/\Hid (fR (λm=>wrap64 (s*m.n)) L q=fR (λm=>wrap64 (s*m.n)) T (q.drop k))/\Below w.heap.size w wr) (λi _=>q.length-(intOf i).toNat)
     case atStart=>exact⟨0,L,P2 _,rfl,HM.out,k9,rfl,HBL.out⟩
     case round=>
      obtain⟨j,T,hj,rfl,hm,hTk,hT,hbl⟩:=hrel;have HMT:=R1 hm;clear hm HM HBL
      by_cases hlt2:j<q.length
      .obtain⟨m,hm,dm⟩:=mQ hlt2;obtain⟨b,o,rfl,hB,c0,c1,c2,c3,c4,c5,c6⟩:=Hb.out.below hbl j m hm;have q0:dP (wr.alloc (.cells #[.int .i64 m.n,.int .u8 m.e0.toNat,.int .u8 m.e1.toNat,.int .u8 m.e2.toNat,.int .u8 m.e3.toNat,.int .u8 m.e4.toNat,.int .u8 m.e5.toNat] 111)) wr.heap.size 0 m:=by simp[dP,go_sem]
       have Q0:=R1 q0;have HM1:=R1 (HMT.out.alloc (.cells #[.int .i64 m.n,.int .u8 m.e0.toNat,.int .u8 m.e1.toNat,.int .u8 m.e2.toNat,.int .u8 m.e3.toNat,.int .u8 m.e4.toNat,.int .u8 m.e5.toNat] 111));have HB1:=R1 (hbl.alloc hbl.size (.cells #[.int .i64 m.n,.int .u8 m.e0.toNat,.int .u8 m.e1.toNat,.int .u8 m.e2.toNat,.int .u8 m.e3.toNat,.int .u8 m.e4.toNat,.int .u8 m.e5.toNat] 111));have HT:=R1 (show fR (λm=>wrap64 (s*m.n)) L q=fR (λm=>wrap64 (s*m.n)) (tD m (wrap64 (s*m.n)) T) (q.drop (j+1)) by rw[hT.out,dm,fR]);clear q0 hm dm hB HMT hT
       go_wp2
       clear c0 c1 c2 c3 c4 c5 c6;generalize hb:wr.heap.size=X at Q0⊢;generalize wr.alloc (.cells #[.int .i64 m.n,.int .u8 m.e0.toNat,.int .u8 m.e1.toNat,.int .u8 m.e2.toNat,.int .u8 m.e3.toNat,.int .u8 m.e4.toNat,.int .u8 m.e5.toNat] 111)=W0 at Q0 HM1 HB1⊢;clear hb hbl;obtain⟨q0,q1,q2,q3,q4,q5,q6⟩:=Q0.out.zero;have hlk:=mA m HM1.out.drew;obtain⟨v0,st,w3,w4,hme,hlk1,hes,hm4,o4,hw4⟩:=yL m (wrap64 (oO m T+wrap64 (s*m.n))) HM1.out.drew;have HM4:=R1 hm4;have HB4:=R1 (show Below w.heap.size w w4 by rw[hw4];exact tK HB1.out.drew hrw _);clear hm4 hw4 HM1 HB1 Q0
       go_region
       clear hlk hme hlk1 hes q0 q1 q2 q3 q4 q5 q6
       go_wp2
       go_roundw
       case rel=>exact⟨j+1,tD m (wrap64 (s*m.n)) T,k9,by go_num,HM4.out,B9 (rU _ _ _) k9,HT,HB4.out⟩
       case measure=>simp[intOf];omega
      .have HT:=R1 (show fR (λm=>wrap64 (s*m.n)) (fR Mono.n [] p) q=T by rw[HL.out,hT.out,R5 k9,fR]);have HBL:=R1 hbl;have hT96:T.length<=1000000:=k9
       clear hT hbl HL
       go_wp2_with fail
       refine(bLw r T _ HMT.out (by rw[<-HT.out];exact kR _ _ (kR _ _ List.Pairwise.nil)) hT96).mono ?_;rintro e w5 ⟨v,rfl,hb5,hv⟩;have HV:=R1 (hv.mono HBL.out.size);have HB5:=R1 (HBL.out.trans (hb5.mono HBL.out.size));clear hb5 hv
       go_wp2
       go_ret2
       rw[HT.out];exact⟨_,rfl,HB5.out,HV.out⟩
end
section
open Go.RowKit Go.Sort Go.Proofs.Tryz
set_option maxRecDepth 100000
open Go.ChangeMaps (setBlock)
def mulM (a b:Mono):Mono:=⟨wrap64 (a.n*b.n),a.e0+b.e0,a.e1+b.e1,a.e2+b.e2,a.e3+b.e3,a.e4+b.e4,a.e5+b.e5⟩
def kU (a:Mono):List Mono->List Mono->List Mono
 |L,[]=>L
 |L,b::q=>kU a (tD (mulM a b) (wrap64 (a.n*b.n)) L) q
def gU (q:List Mono):List Mono->List Mono->List Mono
 |L,[]=>L
 |L,a::p=>gU q (kU a L q) p
def nW (p q:List Mono):List Mono×Int:=if cJ p&&cJ q then gM (gU q [] p)else ([],20)
theorem bFz(a:Mono): ∀(q:List Mono) {L:List Mono},iR L->iR (kU a L q)
 |[],_,h=>h
 |_::q,_,h=>bFz a q (yE _ _ h)
theorem rX(q:List Mono): ∀(p:List Mono) {L:List Mono},iR L->iR (gU q L p)
 |[],_,h=>h
 |a::p,_,h=>rX q p (bFz a q h)
theorem dP.setBlock_far{w:World}{b o r:Nat}{m:Mono}(h:dP w b o m)(hne:b≠r)(x:Obj):dP (setBlock w r x) b o m:=by
 have a: ∀c,(setBlock w r x).cell? ⟨b,c,none⟩=w.cell? ⟨b,c,none⟩:=λc=>by
  have:(w.heap.setIfInBounds r x)[b]?=w.heap[b]?:=by simp[Ne.symm hne]
  simp only[j7,setBlock,this]
 obtain⟨h0,h1,g,f,h4,e,d⟩:=h;exact⟨(a _).trans h0,(a _).trans h1,(a _).trans g,(a _).trans f,(a _).trans h4,(a _).trans e,(a _).trans d⟩
theorem dP.lt{w:World}{b o:Nat}{m:Mono}(h:dP w b o m):b<w.heap.size:=by
 rcases H3 b w.heap.size with hlt|a
 .exact hlt
 .have:=h.1;simp[j7,j9 a]at this
theorem bGu(a b:UInt8):((a.toNat:Int)+(b.toNat:Int))%256=((a+b).toNat:Int):=by
 rw[UInt8.toNat_add];omega
def ExpAt (w:World)(b:Nat)(m:Mono):Prop:=
 w.cell? ⟨b,0,none⟩=some (.int .u8 m.e0.toNat)/\w.cell? ⟨b,1,none⟩=some (.int .u8 m.e1.toNat)/\w.cell? ⟨b,2,none⟩=some (.int .u8 m.e2.toNat)/\
 w.cell? ⟨b,3,none⟩=some (.int .u8 m.e3.toNat)/\w.cell? ⟨b,4,none⟩=some (.int .u8 m.e4.toNat)/\w.cell? ⟨b,5,none⟩=some (.int .u8 m.e5.toNat)
set_option maxHeartbeats 2000000 in
theorem mul_any(A B:Option Addr)(c d:Nat)(p q:List Mono)(w:World)(ha:kK w A p)(hb:kK w B q)(hp:p.length<=140737488355328)(hq:q.length<=140737488355328):
  Calls prog 94 #[.slice A p.length c,.slice B q.length d] w (bJm w (nW p q)):=by
 have Ha:=R1 ha;have Hb:=R1 hb;clear ha hb;cases hrp:cJ p
 .have e:nW p q=([],20):=by unfold nW;rw[hrp];rfl
  rw[e]
  go_enter func94,ntmps94
  go_wp2_with (go_at_call 43;refine(fY A c p _ Ha.out hp).mono ?_;rintro e w1 ⟨rfl,hb1⟩)
  go_ret2
  exact⟨_,rfl,hb1,Res.nil _ _ _ _⟩
 .cases hrq:cJ q
  .have e:nW p q=([],20):=by unfold nW;rw[hrp,hrq];rfl
   rw[e]
   go_enter func94,ntmps94
   go_wp2_with fail
   refine(fY A c p _ Ha.out hp).mono ?_;rintro e w1 ⟨rfl,hb1⟩;have H1:=R1 hb1;clear hb1
   go_wp2_with fail
   refine(fY B d q _ (Hb.out.below H1.out) hq).mono ?_;rintro e w2 ⟨rfl,hb2⟩;have H2:=R1 (show Below w.heap.size w w2 from H1.out.trans (hb2.mono H1.out.size));clear hb2
   go_wp2
   go_ret2
   exact⟨_,rfl,H2.out,Res.nil _ _ _ _⟩
  .have e:nW p q=gM (gU q [] p):=by unfold nW;rw[hrp,hrq];rfl
   rw[e]
   have hp48:p.length<=48:=by
    unfold cJ at hrp;simp at hrp;exact hrp.1
   have hq48:q.length<=48:=by
    unfold cJ at hrq;simp at hrq;exact hrq.1
   have hmm:= @run_makeMap prog
   go_enter func94,ntmps94
   go_wp2_with fail
   refine(fY A c p _ Ha.out hp).mono ?_;rintro e w1 ⟨rfl,hb1⟩;have H1:=R1 hb1;clear hb1
   go_wp2_with fail
   refine(fY B d q _ (Hb.out.below H1.out) hq).mono ?_;rintro e w2 ⟨rfl,hb2⟩;have H2:=R1 (show Below w.heap.size w w2 from H1.out.trans (hb2.mono H1.out.size));clear hb2 H1
   go_wp2
   generalize hr:w2.heap.size=r;have hrw:w.heap.size<=r:=by have:=H2.out.size;omega
   have hm0:nA (w2.alloc (.map #[] 0)) r []:=by rw[<-hr];exact nA.new _
   have hb0:Below w.heap.size w (w2.alloc (.map #[] 0)):=H2.out.alloc H2.out.size _;have HM0:=R1 hm0;have HB0:=R1 hb0;clear hm0 hb0 hr H2
   go_loopw [24] (λi wr=> ∃(k:Nat) (L:List Mono),k<=p.length/\i= .int .i64 k/\nA wr r L/\L.length<=k*48/\Hid (gU q [] p=gU q L (p.drop k))/\Below w.heap.size w wr) (λi _=>p.length-(intOf i).toNat)
   case atStart=>exact⟨0,[],P2 _,rfl,HM0.out,n4,rfl,HB0.out⟩
   case round=>
    obtain⟨k,L,hk,rfl,hm,hLk,hL,hbl⟩:=hrel;have HM:=R1 hm;clear hm
    by_cases hlt:k<p.length
    .obtain⟨a,hm,dm⟩:=mQ hlt;obtain⟨b,o,rfl,hB,c0,c1,c2,c3,c4,c5,c6⟩:=Ha.out.below hbl k a hm;have q0:dP (wr.alloc (.cells #[.int .i64 a.n,.int .u8 a.e0.toNat,.int .u8 a.e1.toNat,.int .u8 a.e2.toNat,.int .u8 a.e3.toNat,.int .u8 a.e4.toNat,.int .u8 a.e5.toNat] 111)) wr.heap.size 0 a:=by simp[dP,go_sem]
     have hrx:r<wr.heap.size:=by obtain⟨es,cl,h,_⟩:=HM.out;exact(N6.1 h).1
     have Q0:=R1 q0;have HM1:=R1 (HM.out.alloc (.cells #[.int .i64 a.n,.int .u8 a.e0.toNat,.int .u8 a.e1.toNat,.int .u8 a.e2.toNat,.int .u8 a.e3.toNat,.int .u8 a.e4.toNat,.int .u8 a.e5.toNat] 111));have HB1:=R1 (hbl.alloc hbl.size (.cells #[.int .i64 a.n,.int .u8 a.e0.toNat,.int .u8 a.e1.toNat,.int .u8 a.e2.toNat,.int .u8 a.e3.toNat,.int .u8 a.e4.toNat,.int .u8 a.e5.toNat] 111));have HL:=R1 (show gU q [] p=gU q (kU a L q) (p.drop (k+1)) by rw[hL.out,dm,gU]);clear q0 hm dm hB HM hL
     go_wp2
     clear c0 c1 c2 c3 c4 c5 c6;generalize wr.heap.size=X at Q0 hrx⊢;generalize wr.alloc (.cells #[.int .i64 a.n,.int .u8 a.e0.toNat,.int .u8 a.e1.toNat,.int .u8 a.e2.toNat,.int .u8 a.e3.toNat,.int .u8 a.e4.toNat,.int .u8 a.e5.toNat] 111)=W0 at Q0 HM1 HB1⊢;clear hbl
     go_loopw [30] (λi wi=> ∃(j:Nat) (T:List Mono),j<=q.length/\i= .int .i64 j/\nA wi r T/\T.length<=k*48+j/\Hid (kU a L q=kU a T (q.drop j))/\Below w.heap.size w wi/\dP wi X 0 a) (λi _=>q.length-(intOf i).toNat)
     case atStart=>exact⟨0,L,P2 _,rfl,HM1.out,k9,rfl,HB1.out,Q0.out⟩
     case round=>
      obtain⟨j,T,hj,rfl,hm,hTk,hT,hbl,ha0⟩:=hrel;have HMT:=R1 hm;have HA0:=R1 ha0;clear hm ha0 HM1 HB1 Q0
      by_cases hlt2:j<q.length
      .obtain⟨b',hm,dm⟩:=mQ hlt2;obtain⟨g,o',rfl,hB,d0,d1,d2,d3,d4,d5,d6⟩:=Hb.out.below hbl j b' hm;obtain⟨a0,a1,a2,a3,a4,a5,a6⟩:=HA0.out.zero;have hX:X<wr.heap.size:=dP.lt HA0.out
       obtain⟨t,ht⟩: ∃t,t=mulM a b':=⟨_,rfl⟩
       have HT:=R1 (show kU a L q=kU a (tD t (wrap64 (a.n*b'.n)) T) (q.drop (j+1)) by rw[hT.out,dm,kU,ht]);have s0:((a.e0.toNat:Int)+(b'.e0.toNat:Int))%256=(t.e0.toNat:Int):=by rw[ht];exact bGu a.e0 b'.e0
       have s1:((a.e1.toNat:Int)+(b'.e1.toNat:Int))%256=(t.e1.toNat:Int):=by rw[ht];exact bGu a.e1 b'.e1
       have s2:((a.e2.toNat:Int)+(b'.e2.toNat:Int))%256=(t.e2.toNat:Int):=by rw[ht];exact bGu a.e2 b'.e2
       have s3:((a.e3.toNat:Int)+(b'.e3.toNat:Int))%256=(t.e3.toNat:Int):=by rw[ht];exact bGu a.e3 b'.e3
       have s4:((a.e4.toNat:Int)+(b'.e4.toNat:Int))%256=(t.e4.toNat:Int):=by rw[ht];exact bGu a.e4 b'.e4
       have s5:((a.e5.toNat:Int)+(b'.e5.toNat:Int))%256=(t.e5.toNat:Int):=by rw[ht];exact bGu a.e5 b'.e5
       have S0:=R1 s0;have S1:=R1 s1;have S2:=R1 s2;have S3:=R1 s3;have S4:=R1 s4;have S5:=R1 s5;have HBL:=R1 hbl;clear hm dm hT ht s0 s1 s2 s3 s4 s5 hbl hB
       go_wp2
       clear d0 d1 d2 d3 d4 d5 d6;refine wp_loop_rounds 7 ?_;rw[rounds_succ]
       go_wp2
       go_region
       go_wp2
       rw[rounds_succ]
       go_wp2
       go_region
       go_wp2
       rw[rounds_succ]
       go_wp2
       go_region
       go_wp2
       rw[rounds_succ]
       go_wp2
       go_region
       go_wp2
       rw[rounds_succ]
       go_wp2
       go_region
       go_wp2
       rw[rounds_succ]
       go_wp2
       go_region
       go_wp2
       rw[rounds_succ]
       go_wp2
       rw[S0.out,S1.out,S2.out,S3.out,S4.out,S5.out];have kE:ExpAt ((wr.alloc (.cells #[.int .i64 b'.n,.int .u8 b'.e0.toNat,.int .u8 b'.e1.toNat,.int .u8 b'.e2.toNat,.int .u8 b'.e3.toNat,.int .u8 b'.e4.toNat,.int .u8 b'.e5.toNat] 111)).alloc (.cells #[.int .u8 t.e0.toNat,.int .u8 t.e1.toNat,.int .u8 t.e2.toNat,.int .u8 t.e3.toNat,.int .u8 t.e4.toNat,.int .u8 t.e5.toNat] 109)).drew.drew.drew.drew.drew.drew (wr.heap.size+1) t:=by simp[ExpAt,go_sem]
       have kB:dP ((wr.alloc (.cells #[.int .i64 b'.n,.int .u8 b'.e0.toNat,.int .u8 b'.e1.toNat,.int .u8 b'.e2.toNat,.int .u8 b'.e3.toNat,.int .u8 b'.e4.toNat,.int .u8 b'.e5.toNat] 111)).alloc (.cells #[.int .u8 t.e0.toNat,.int .u8 t.e1.toNat,.int .u8 t.e2.toNat,.int .u8 t.e3.toNat,.int .u8 t.e4.toNat,.int .u8 t.e5.toNat] 109)).drew.drew.drew.drew.drew.drew wr.heap.size 0 b':=by simp[dP,go_sem]
       have kX:Below wr.heap.size wr ((wr.alloc (.cells #[.int .i64 b'.n,.int .u8 b'.e0.toNat,.int .u8 b'.e1.toNat,.int .u8 b'.e2.toNat,.int .u8 b'.e3.toNat,.int .u8 b'.e4.toNat,.int .u8 b'.e5.toNat] 111)).alloc (.cells #[.int .u8 t.e0.toNat,.int .u8 t.e1.toNat,.int .u8 t.e2.toNat,.int .u8 t.e3.toNat,.int .u8 t.e4.toNat,.int .u8 t.e5.toNat] 109)).drew.drew.drew.drew.drew.drew:=by go_grown
       have kA:=HA0.out.below kX hX;have kM:nA ((wr.alloc (.cells #[.int .i64 b'.n,.int .u8 b'.e0.toNat,.int .u8 b'.e1.toNat,.int .u8 b'.e2.toNat,.int .u8 b'.e3.toNat,.int .u8 b'.e4.toNat,.int .u8 b'.e5.toNat] 111)).alloc (.cells #[.int .u8 t.e0.toNat,.int .u8 t.e1.toNat,.int .u8 t.e2.toNat,.int .u8 t.e3.toNat,.int .u8 t.e4.toNat,.int .u8 t.e5.toNat] 109)).drew.drew.drew.drew.drew.drew r T:=(HMT.out.alloc _).alloc _;have kW:=HBL.out.trans (kX.mono HBL.out.size);have KE:=R1 kE;have KB:=R1 kB;have KA:=R1 kA;have KM:=R1 kM;have KW:=R1 kW;clear kE kB kX kA kM kW a0 a1 a2 a3 a4 a5 a6 S0 S1 S2 S3 S4 S5 HMT HBL HA0 hX;generalize ((wr.alloc (.cells #[.int .i64 b'.n,.int .u8 b'.e0.toNat,.int .u8 b'.e1.toNat,.int .u8 b'.e2.toNat,.int .u8 b'.e3.toNat,.int .u8 b'.e4.toNat,.int .u8 b'.e5.toNat] 111)).alloc (.cells #[.int .u8 t.e0.toNat,.int .u8 t.e1.toNat,.int .u8 t.e2.toNat,.int .u8 t.e3.toNat,.int .u8 t.e4.toNat,.int .u8 t.e5.toNat] 109)).drew.drew.drew.drew.drew.drew=W5 at KE KB KA KM KW⊢;generalize wr.heap.size=Y at KE KB⊢;obtain⟨x0,x1,x2,x3,x4,x5⟩:=KE.out;obtain⟨y0,y1,y2,y3,y4,y5,y6⟩:=KB.out.zero;obtain⟨z0,z1,z2,z3,z4,z5,z6⟩:=KA.out.zero;have hlk:=mA t KM.out.drew;obtain⟨v0,st,w3,w4,hme,hlk1,hes,hm4,o4,hw4⟩:=yL t (wrap64 (oO t T+wrap64 (a.n*b'.n))) KM.out.drew;have HM4:=R1 hm4;have HB4:=R1 (show Below w.heap.size w w4 by rw[hw4];exact tK KW.out.drew hrw _);have HA4:=R1 (show dP w4 X 0 a by rw[hw4];exact dP.setBlock_far (show dP W5.drew X 0 a from KA.out) k9 _);clear hm4 hw4 KE KB KA KM KW
       go_region
       clear hlk hme hlk1 hes x0 x1 x2 x3 x4 x5 y0 y1 y2 y3 y4 y5 y6 z0 z1 z2 z3 z4 z5 z6
       go_wp2
       go_roundw
       case rel=>exact⟨j+1,tD t (wrap64 (a.n*b'.n)) T,k9,by go_num,HM4.out,B9 (rU _ _ _) k9,HT,HB4.out,HA4.out⟩
       case measure=>simp[intOf];omega
      .have HT:=R1 (show gU q [] p=gU q T (p.drop (k+1)) by rw[HL.out,hT.out,R5 k9,kU]);have HBL:=R1 hbl;have hT2:T.length<=(k+1)*48:=k9
       clear hT hbl HL HA0
       go_wp2
       go_roundw
       case rel=>exact⟨k+1,T,k9,by go_num,HMT.out,hT2,HT,HBL.out⟩
       case measure=>simp[intOf];omega
    .have HT:=R1 (show gU q [] p=L by rw[hL.out,R5 k9,gU]);have HBL:=R1 hbl;have hT96:L.length<=1000000:=k9
     clear hL hbl
     go_wp2_with fail
     refine(bLw r L _ HM.out (by rw[<-HT.out];exact rX _ _ List.Pairwise.nil) hT96).mono ?_;rintro e w5 ⟨v,rfl,hb5,hv⟩;have HV:=R1 (hv.mono HBL.out.size);have HB5:=R1 (HBL.out.trans (hb5.mono HBL.out.size));clear hb5 hv
     go_wp2
     go_ret2
     rw[HT.out];exact⟨_,rfl,HB5.out,HV.out⟩
end
section
open Go.Proofs.Tryz
namespace X
open Go.RowKit Go.Proofs.Tryz
noncomputable section
def monoO (cs:List V):Option Mono:=match cs with
 |[n,a,b,c,d,e,f]=>asI n λk z=>gd (isI64 k) (ob (byteX a) λa=>ob (byteX b) λb=>ob (byteX c) λc=>ob (byteX d) λd=>ob (byteX e) λe=>ob (byteX f) λf=>some ⟨z,J0 a,J0 b,J0 c,J0 d,J0 e,J0 f⟩)
 |_=>none
def monoV (m:Mono):List V:=[.i .i64 m.n,.i .u8 m.e0.toNat,.i .u8 m.e1.toNat,.i .u8 m.e2.toNat,.i .u8 m.e3.toNat,.i .u8 m.e4.toNat,.i .u8 m.e5.toNat]
def insK (m:Mono):List Mono->List Mono
 |[]=>[m]
 |x::r=>sel (Nat.ble m.key x.key) (x::insK m r) (m::x::r)
def sortK:List Mono->List Mono
 |[]=>[]
 |m::r=>insK m (sortK r)
def bLg (L:List Mono):List Mono×Int:=(λc=>sel (cJ c) (c,0) ([],21)) (sortK (L.filter λm=>m.n !=0))
def bothF (p q:List Mono)(s:Int):List Mono×Int:=sel (cJ p&&cJ q) (bLg (fR (λm=>wrap64 (s*m.n)) (fR Mono.n [] p) q)) ([],20)
def mulF (p q:List Mono):List Mono×Int:=sel (cJ p&&cJ q) (bLg (gU q [] p)) ([],20)
end
theorem bGz(m:Mono): ∀l:List Mono,(insK m l).Perm (m::l)
 |[]=> .refl _
 |x::r=>by
  unfold insK;rw[cF];split
  .exact((bGz m r).cons x).trans (.swap m x r)
  .exact .refl _
theorem bKq(m:Mono): ∀l:List Mono,l.Pairwise (λa b=>b.key<=a.key)->(insK m l).Pairwise (λa b=>b.key<=a.key)
 |[],_=>by simp[insK]
 |x::r,h=>by
  obtain⟨h1,e⟩:=D2.1 h;unfold insK;rw[cF];split
  .rename_i d;refine D2.2 ⟨λy c=>?_,bKq m r e⟩
   rcases C9.1 ((bGz m r).mem_iff.1 c)with rfl|c
   .exact fH d
   .exact h1 y c
  .rename_i d
   have d:x.key<=m.key:=by
    rcases H3 m.key x.key with h|h
    .exact absurd (show Nat.ble m.key x.key=true by rw[Nat.ble_eq];exact Nat.le_of_lt h) d
    .exact h
   refine D2.2 ⟨λy c=>?_,h⟩
   rcases C9.1 c with rfl|c
   .exact d
   .exact B9 (h1 y c) d
theorem bNm: ∀l:List Mono,(sortK l).Perm l
 |[]=> .refl _
 |m::r=>(bGz m _).trans ((bNm r).cons m)
theorem bDq: ∀l:List Mono,(sortK l).Pairwise (λa b=>b.key<=a.key)
 |[]=> .nil
 |m::r=>bKq m _ (bDq r)
theorem bMj{L:List Mono}(h:iR L):bLg L=gM L:=by
 unfold bLg gM;rw[canon_of h (bNm _) (bDq _)];show sel (cJ (lZ L)) (lZ L,0) ([],21)=_;rw[cF]
theorem bothF_eq(p q:List Mono)(s:Int):bothF p q s=bothP p q s:=by
 unfold bothF bothP;rw[cF,bMj (kR _ _ (kR _ _ List.Pairwise.nil))]
theorem mulF_eq(p q:List Mono):mulF p q=nW p q:=by
 unfold mulF nW;rw[cF,bMj (rX _ _ List.Pairwise.nil)]
section
variable [Ctx] {α : As} {s s' : St} {w w' : World}
omit [Ctx]in
theorem bAm{v:V}{n:Nat}(h:byteX v=some n):v= .i .u8 (.ofNat n)/\n<256:=by
 unfold byteX at h;split at h
 .rename_i x;obtain⟨h1,a⟩:=bN h;cases a;exact⟨rfl,by simpa using h1⟩
 .cases h
omit [Ctx]in
theorem mono_is{cs:List V}{m:Mono}(h:monoO cs=some m):cs=monoV m:=by
 unfold monoO at h;split at h
 .rename_i n a b c d e f;obtain⟨k,z,rfl,h1⟩:=lG h;obtain⟨v,g⟩:=bN h1;obtain⟨C,t,g⟩:=bB g;obtain⟨B,hb,g⟩:=bB g;obtain⟨A,s,g⟩:=bB g;obtain⟨y,hd,g⟩:=bB g;obtain⟨x,r,g⟩:=bB g;obtain⟨w,q,g⟩:=bB g;cases g;obtain⟨rfl,o⟩:=bAm t;obtain⟨rfl,l⟩:=bAm hb;obtain⟨rfl,lc⟩:=bAm s;obtain⟨rfl,j⟩:=bAm hd;obtain⟨rfl,le⟩:=bAm r;obtain⟨rfl,i⟩:=bAm q;have u: ∀n:Nat,n<256->(J0 n).toNat=n:=λn hn=>by simp;omega
  have p:k= .i64:=by cases k<;>first|rfl|cases v
  subst p;simp only[monoV,u _ o,u _ l,u _ lc,u _ j,u _ le,u _ i];rfl
 .cases h
end
end X
end
section
open Go.Proofs.Tryz
namespace X
open Go.RowKit Go.Proofs.Tryz
noncomputable section
def upN (n0 d k:Nat):Nat:=sel (Nat.blt k n0) k (k+d)
def Cap.up(dc:Nat):Cap->Cap
 |.n c=> .n c
 |.s k d=> .s (k+dc) d
def upD (n0 d dc f:Nat):V->V:=Nat.rec (motive:=λ_=>V->V) (λv=>v) (λ_ ih v=>match v with
 |.p k o=> .p (upN n0 d k) o
 |.l k o n c=> .l (upN n0 d k) o n (c.up dc)
 |.z k o o' c=> .z (upN n0 d k) o o' (c+dc)
 |.y c=> .y (c+dc)
 |.m k=> .m (upN n0 d k)
 |.f fn a c=> .f fn (a.map ih) (c.map ih)
 |.e t v=> .e t (ih v)
 |.g cs=> .g (cs.map ih)
 |.t vs=> .t (vs.map ih)
 |v=>v) f
def V.up (n0 d dc:Nat)(v:V):V:=upD n0 d dc 5 v
def Blk.up(n0 d dc:Nat):Blk->Blk
 |.cells cs t ext ro=> .cells (cs.map (V.up n0 d dc)) t (ext.map λk=>k+dc) ro
 |.map es c=> .map (es.map λx=>(x.1.up n0 d dc,x.2.1.up n0 d dc,x.2.2)) c
 |.win cs=> .win (cs.map (V.up n0 d dc))
 |b=>b
def baseH (K:List (Nat×Nat)):T Blk:=List.rec .lf (λx _ ih=>ih.set (some (.know x.2)) fuelT x.1) K
def xO (D:List Nat)(s:St):Option (List (Nat×Blk)):=bKw (λk=>ob (s.h.get k) λx=>some (k,x)) D
section
variable [Ctx]
def baseS (K:List (Nat×Nat)):St:={h:=baseH K,n:=Ctx.n0,c:=0}
end
end
def As.up (α β:As)(n c d:Nat):As:={blk:=λk=>if k<n then α.blk k else β.blk (k-d),room:=λk=>if k<c then α.room k else β.room (k-c),place:=λk=>if k<c then α.place k else β.place (k-c)}
section
variable {α β : As} {n0 n c d n1 c1 : Nat}
theorem bHu: ∀{K:List (Nat×Nat)} {k:Nat} {x:Blk},(baseH K).get k=some x-> ∃m,(k,m)∈K/\x= .know m
 |[],_,_,h=>by cases h
 |y::K,k,x,h=>by
  have h:((baseH K).set (some (.know y.2)) fuelT y.1).get k=some x:=h
  rcases T.get_set_fuel _ _ _ _ _ _ h with ⟨rfl,e⟩|⟨_,h⟩
  .cases e;exact⟨y.2,List.mem_cons_self ..,rfl⟩
  .obtain⟨m,a,h1⟩:=bHu h;exact⟨m,List.mem_cons_of_mem _ a,h1⟩
end
section
variable [Ctx] {α β : As} {s : St} {w w' : World} {n0 n c d n1 c1 : Nat}
variable [Good]
theorem ran_true{f:FuncId}{N:Nat}{K:List (Nat×Nat)}{s':St}(h:callF f (bDj N) [] (baseS K)=some (.b true,s'))(hs:Sim α (baseS K) w):
  (callFunc f #[]).run Ctx.P w= .ok (.enter f #[]) w/\Calls Ctx.P f #[] w λe w'=>e= .returned (.bool true)/\Below w.heap.size w w':=by
 obtain⟨h1,d⟩:=bOt (run_ok N) hs h λx hx=>by cases hx
 refine⟨h1,d.mono ?_⟩;rintro e w' ⟨u,rfl,β,rfl,a⟩
 exact⟨rfl,a.fr.os,a.fr.tape,a.fr.output,a.fr.size,λb hb=>a.fr.block b hb λk x c hr=>by
  obtain⟨m,_,rfl⟩:=bHu c
  cases hr⟩
end
end X
end
section
open Go.RowKit Go.Proofs.Tryz
inductive Tr where
 |nil
 |fl (k:Nat) (r:Tr)
 |op (k:Nat) (r:Tr)
 |two (k l:Nat) (r s:Tr)
def Tr.len:Tr->Nat
 |.nil=>0
 |.fl _ r=>r.len+1
 |.op _ r=>r.len+1
 |.two _ _ r _=>r.len+1
section
variable {P : Program} {ops : Array Oper} {md : Region.Mode} {C : World -> Prop} {Q : Exit -> Act -> World -> Prop}
def jP (P:Program)(ops:Array Oper)(C:World->Prop)(Q:Exit->Act->World->Prop):Tr->Act->World->Prop
 |.nil,a,w=>Q .normal a w
 |.fl k r,a,w=> ∃o v,ops[k]?=some o/\Fl P ops C o v a/\jP P ops C Q r (a.put o.dst v) w
 |.op k r,a,w=>fOp P ops k (λa w=>C w/\jP P ops C Q r a w) a w
 |.two k l r s,a,w=>fOp P ops k (λa w=>C w/\jP P ops C Q r a w) a w/\fOp P ops l (λa w=>C w/\jP P ops C Q s a w) a w
def iM (md:Region.Mode)(ops:Array Oper):Tr->Array Bool->Bool
 |.nil,listed=>(E3 md ops listed).isEmpty
 |.fl k r,listed=>(E3 md ops listed).contains k&&Region.free md ops listed k&&iM md ops r (listed.setIfInBounds k true)
 |.op k r,listed=>(E3 md ops listed==[k])&&iM md ops r (listed.setIfInBounds k true)
 |.two k l r s,listed=>(E3 md ops listed==[k,l])&&Nat.beq r.len s.len&&iM md ops r (listed.setIfInBounds k true)&&iM md ops s (listed.setIfInBounds l true)
theorem rB(hs:E5 ops=true): ∀(l:Tr) (listed:Array Bool) (a:Act) (w:World),iM md ops l listed=true->C w->jP P ops C Q l a w->bBu P md ops C Q l.len listed a w
 |.nil,listed,a,w,hB,hC,h=>⟨hC,by simpa[iM]using hB,h⟩
 |.fl k r,listed,a,w,hB,hC,h=>by
  simp only[iM,G1]at hB;obtain⟨o,v,ho,g,j⟩:=h;exact xH ho (Region.noSelect_spec hs) r.len listed a w (Region.free_spec ho hB.1.2) (by simpa using hB.1.1) g (rB hs r _ _ _ hB.2 hC j)
 |.op k r,listed,a,w,hB,hC,h=>by
  simp only[iM,G1,beq_iff_eq]at hB;refine⟨hC,λh0=>t8,λi c=>?_⟩;rw[hB.1]at c;have:i=k:=by simpa using c
  subst this;exact fQ (λf w' b=>rB hs r _ _ _ hB.2 b.1 b.2) h
 |.two k l r s,listed,a,w,hB,hC,h=>by
  simp only[iM,G1,beq_iff_eq]at hB;obtain⟨⟨⟨h1,d⟩,m⟩,h4⟩:=hB;refine⟨hC,λh0=>ab3,λi c=>?_⟩;rw[h1]at c;have c:i=k\/i=l:=by simpa using c
  rcases c with rfl|rfl
  .exact fQ (λf w' b=>rB hs r _ _ _ m b.1 b.2) h.1
  .have e:Tr.len (.two k i r s)=s.len+1:=by simp only[Tr.len,B7 d]
   have n:r.len=s.len:=B7 d;rw[n];exact fQ (λf w' b=>rB hs s _ _ _ h4 b.1 b.2) h.2
def yG (l:Tr)(ops:Array Oper):Bool:=E5 ops&&Nat.beq l.len ops.size&&iM .any ops l (A8 ops.size false)
end
section
variable {P : Program} {β : dE} {n : Nat} {Γ : Env} {H : List bC} {F : List bE} {Q : Exit -> Act -> World -> Prop} {Hk : List bC} {F0 : List bE} {ops : Array Oper}
theorem at_mixT{id:Nat}{l:List Oper}(Hk:List bC)(F0:List bE)(od:Tr)(hm:P.follows .mixedOrders=true)(hB:yG od l.toArray=true)(hH:Sel H Hk)(hF:bA F F0)
  (h:At β n Γ H F (jP P l.toArray (StF β Hk F0) Q od)):At β n Γ H F ((Code.region id l.toArray true).wp P Q):=λa w S f s k=>by
 simp only[yG,G1]at hB;have d:=StF.drew ⟨S,s,k⟩;obtain⟨c,s',b⟩:=d;refine wp_region_any hm (qC (C:=StF β Hk F0) _ _ _ _ ?_);have:=rB (P:=P) (md:= .any) (C:=StF β Hk F0) (Q:=Q) hB.1.1 od (A8 l.toArray.size false) a _ hB.2 (StF.sel hH hF ⟨c,s',b⟩) (h a _ c f s' b)
 rwa[B7 hB.1.2]at this
theorem att_nil{C:World->Prop}(h:At β n Γ H F (Q .normal)):At β n Γ H F (jP P ops C Q .nil):=h
theorem bLu{r:Tr}{o:Oper}{k d:Nat}{v:Value}(hk:ops[k]?=some o)(hw:want ops Γ o=some true)(hd:o.dst=some d)(hn:Nat.blt d n=true)(h:Sti P β n Γ Hk F0 o v)
  (K:At β n ((d,v)::Γ) H F (jP P ops (StF β Hk F0) Q r)):At β n Γ H F (jP P ops (StF β Hk F0) Q (.fl k r)):=λa w S f s c=>by
 refine⟨o,v,hk,.inl ⟨f.want hw,λw' ⟨e,s',b⟩=>h a w' e f s' b⟩,?_⟩;rw[hd];exact K _ _ S (f.put m9 v) s c
theorem sqT{r:Tr}{o:Oper}{k d:Nat}{v:Value}(hk:ops[k]?=some o)(h:Sti P β n Γ Hk F0 o v)(K:At β n ((d,v)::Γ) H F (jP P ops (StF β Hk F0) Q r))(hw:want ops Γ o=some true:=by exact rfl)(hd:o.dst=some d:=by exact rfl)(hn:Nat.blt d n=true:=by exact rfl):At β n Γ H F (jP P ops (StF β Hk F0) Q (.fl k r)):=bLu hk hw hd hn h K
theorem att_skipped{r:Tr}{o:Oper}{k d:Nat}{C:World->Prop}(hk:ops[k]?=some o)(hw:want ops Γ o=some false)(hd:o.dst=some d)(hn:Nat.blt d n=true)
  (K:At β n ((d,undef)::Γ) H F (jP P ops C Q r)):At β n Γ H F (jP P ops C Q (.fl k r)):=λa w S f s b=>by
 refine⟨o,undef,hk,.inr ⟨f.want hw,rfl⟩,?_⟩;rw[hd];exact K _ _ S (f.put m9 undef) s b
theorem wM{o:Oper}{k:Nat}{K:Act->World->Prop}(hk:ops[k]?=some o)(h:At β n Γ H F (wpList P ops (Nm K) [o])):At β n Γ H F (fOp P ops k K):=λa w S f s d c b=>by
 have:c=o:=Option.some.inj (b.symm.trans hk);subst this;exact h a w S f s d
theorem att_op{r:Tr}{o:Oper}{k:Nat}{C:World->Prop}(hk:ops[k]?=some o)(h:At β n Γ H F (wpList P ops (Nm λa w=>C w/\jP P ops C Q r a w) [o])):At β n Γ H F (jP P ops C Q (.op k r)):=wM hk h
theorem wC{r s:Tr}{o o':Oper}{k l:Nat}{C:World->Prop}(hk:ops[k]?=some o)(hl:ops[l]?=some o')(h:At β n Γ H F (wpList P ops (Nm λa w=>C w/\jP P ops C Q r a w) [o]))(h':At β n Γ H F (wpList P ops (Nm λa w=>C w/\jP P ops C Q s a w) [o'])):
  At β n Γ H F (jP P ops C Q (.two k l r s)):=λa w S f st b=>⟨wM hk h a w S f st b,wM hl h' a w S f st b⟩
theorem att_go{r:Tr}(hH:Sel H Hk)(hF:bA F F0)(h:At β n Γ H F (jP P ops (StF β Hk F0) Q r)):At β n Γ H F (wpList P ops (Nm λa w=>StF β Hk F0 w/\jP P ops (StF β Hk F0) Q r a w) []):=λa w S f s k=>
 ⟨rfl,StF.sel hH hF ⟨S,s,k⟩,h a w S f s k⟩
end
end
end Go.Proofs.YtnfiadlonjediaaGreatDoor
