/- A part of one proof. -/
import Derived.Test.YtioekpienlhcgaaGreatDoorShelfP
import Derived.Shelf.SlSortCmp.NoneTotal
import Derived.Test.YtioekpienlhcgaaGreatDoorM4
import Derived.RangeFuncBound
import Derived.OwnWalkIn
import Derived.TacticsInMore
import Derived.LoopNIn
import Derived.LoopIn
import Derived.RangeFuncNested
set_option maxRecDepth 100000
namespace Go.Proofs.YtioekpienlhcgaaGreatDoor
open Lib renaming compareBytes->S6,hid->S7
open _root_.Nat renaming lt_of_lt_of_le->l5,mul_le_mul_right->C8,add_mul->C5,one_mul->C6,le_refl->B0,zero_le->C4,le_trans->B1,eq_zero_or_pos->S8,lt_succ_self->S9,blt->B2
open _root_.List renaming getElem?_eq_getElem->F1,length_cons->F5,pairwise_cons->E5,mem_cons->E2,mergeSort_perm->T0,drop_of_length_le->K3,map_cons->N7,getElem?_map->K1,map_set->T1,mem_singleton->K7,mem_map->R2,length->Q8,getElem?_eq_some_iff->F3,filter_cons_of_pos->T2,map_fst_zip->T3,mem_filter->T4,length_map->O4,filter_cons_of_neg->T5,eq_nil_of_length_eq_zero->F7,length_filter_le->T6,length_append->F4,getElem?_set_self->T7,getElem?_set_ne->T8,getElem?_eq_none->L0,nil_append->K5
open _root_.Array renaming ext'->D4,extract_eq_self_of_le->T9,toList_modify->U0,toList_push->U1,length_toList->U2,getElem?_eq_none->D2,toList_filter->U3,getElem?_eq_some_iff->U4
open Sem renaming run_bind->G9,run_pure->H3,run_ite->U5
open Result renaming andThen_ok->H6,andThen->U6
open _root_.UInt8 renaming toNat_inj->L8,add_comm->U7
open _root_.Bool renaming true_and->U8,false_eq_true->J2,and_eq_true->J3
open Instr renaming findAsking->U9,findKey->P2,findNow->P1,keyThatStays->P4,lookup->Q7,mapEntry->V0,entryStore->V1,index->V3,build->V4
open MapKept renaming run_getObj_map->P7,run_setObj_map->P8
open _root_.Option renaming map_some->J8
open World renaming cell?->D0,size_alloc->V5
open _root_.Int renaming add_zero->V6,mul_comm->V7
section
open Go.RowKit Go.Proofs.Tryz
structure Mono where
 n:Int
 U:UInt8
 T:UInt8
 R:UInt8
 Q:UInt8
 O:UInt8
 N:UInt8
instance : Inhabited Mono := ⟨⟨0, 0, 0, 0, 0, 0, 0⟩⟩
def Mono.E(m:Mono):List UInt8:=[m.U,m.T,m.R,m.Q,m.O,m.N]
def Mono.cells(m:Mono):List Value:=
 [.int .i64 m.n,.int .u8 m.U.toNat,.int .u8 m.T.toNat,.int .u8 m.R.toNat,.int .u8 m.Q.toNat,.int .u8 m.O.toNat,.int .u8 m.N.toNat]
def Mono.val(m:Mono):Value:=
 .agg #[.int .i64 m.n,.int .u8 m.U.toNat,.int .u8 m.T.toNat,.int .u8 m.R.toNat,.int .u8 m.Q.toNat,.int .u8 m.O.toNat,.int .u8 m.N.toNat]
theorem Mono.cells_length(m:Mono):m.cells.length=7:=rfl
def Mono.deg(m:Mono):Nat:=m.U.toNat+m.T.toNat+m.R.toNat+m.Q.toNat+m.O.toNat+m.N.toNat
def ord (a b:Mono):Int:=S6 b.E a.E
def mH (m:Mono):Bool:=decide (m.n≠0/\m.n<=16777216/\ -16777216<=m.n/\m.deg<=8)
theorem bAz(e:UInt8):(e.toNat:Int)<256:=by have:=e.toNat_lt;omega
def bFi (a b:Mono):Int:=S6 a.E b.E
theorem bBi(a b:UInt8)(l m:List UInt8):S6 (a::l) (b::m)=if b.toNat<a.toNat then 1 else if a.toNat<b.toNat then-1 else S6 l m:=by
 rw[S6];simp only[UInt8.lt_iff_toNat_lt]
 by_cases h:a.toNat<b.toNat
 .rw[if_pos h,if_neg l7,if_pos h]
 .rw[if_neg h]
  by_cases c:b.toNat<a.toNat
  .rw[if_pos c,if_pos c]
  .rw[if_neg c,if_neg c,if_neg h]
def iZ (w:World)(b o:Nat)(m:Mono):Prop:=
 w.cell? ⟨b,o,none⟩=some (.int .i64 m.n)/\w.cell? ⟨b,o+1,none⟩=some (.int .u8 m.U.toNat)/\w.cell? ⟨b,o+2,none⟩=some (.int .u8 m.T.toNat)/\
 w.cell? ⟨b,o+3,none⟩=some (.int .u8 m.R.toNat)/\w.cell? ⟨b,o+4,none⟩=some (.int .u8 m.Q.toNat)/\w.cell? ⟨b,o+5,none⟩=some (.int .u8 m.O.toNat)/\
 w.cell? ⟨b,o+6,none⟩=some (.int .u8 m.N.toNat)
def mC (w:World)(A:Option Addr)(l:List Mono):Prop:=
 ∀k m,l[k]?=some m-> ∃b o,A=some ⟨b,o,none⟩/\b<w.heap.size/\iZ w b (o+k*7) m
theorem iZ.below{w w':World}{B b o:Nat}{m:Mono}(h:iZ w b o m)(hb:Below B w w')(hB:b<B):iZ w' b o m:=by
 obtain⟨h0,h1,h2,d,h4,c,a⟩:=h
 exact⟨(hb.cell (p:=⟨b,o,none⟩) hB).trans h0,(hb.cell (p:=⟨b,o+1,none⟩) hB).trans h1,(hb.cell (p:=⟨b,o+2,none⟩) hB).trans h2,(hb.cell (p:=⟨b,o+3,none⟩) hB).trans d,
  (hb.cell (p:=⟨b,o+4,none⟩) hB).trans h4,(hb.cell (p:=⟨b,o+5,none⟩) hB).trans c,(hb.cell (p:=⟨b,o+6,none⟩) hB).trans a⟩
theorem mC.below{w w':World}{A:Option Addr}{l:List Mono}(h:mC w A l)(hb:Below w.heap.size w w'):mC w' A l:=λk m c=>by obtain⟨b,o,e,hB,a⟩:=h k m c;exact⟨b,o,e,l5 hB hb.size,a.below hb hB⟩
theorem mC.nil{w:World}{A:Option Addr}:mC w A []:=λk m h=>by simp at h
def Mono.eqB(a b:Mono):Bool:=a.n==b.n&&(a.U==b.U&&(a.T==b.T&&(a.R==b.R&&(a.Q==b.Q&&(a.O==b.O&&a.N==b.N)))))
theorem Mono.eqB_iff(a b:Mono):a.eqB b=true↔a=b:=by obtain⟨n,p,o,m,l,k,j⟩:=a;obtain⟨c,i,h,g,f,e,d⟩:=b;simp[Mono.eqB]
def vJ:List Mono->List Mono->Bool
 |[],[]=>true
 |a::l,b::m=>a.eqB b&&vJ l m
 |_,_=>false
theorem cAm: ∀l m:List Mono,vJ l m=true↔l=m
 |[],[]=>by simp[vJ]
 |[],b::m=>by simp[vJ]
 |a::l,[]=>by simp[vJ]
 |a::l,b::m=>by simp[vJ,Mono.eqB_iff,cAm l m]
def gH:Option Mono->List Mono->Bool
 |_,[]=>true
 |none,m::l=>mH m&&gH (some m) l
 |some a,m::l=>mH m&&(decide (ord a m<0)&&gH (some m) l)
def dE (p:List Mono):Bool:=decide (p.length<=48)&&gH none p
theorem nY{l:List Mono}{k:Nat}(h:k<l.length): ∃m,l[k]?=some m/\l.drop k=m::l.drop (k+1):=
 ⟨l[k],F1 h,List.drop_eq_getElem_cons h⟩
theorem iZ.later{W:World}{b o:Nat}{m:Mono}(h:iZ W b o m):(∀x:iU W,x.w.cell? ⟨b,o,none⟩=some (k6 m.n))/\(∀x:iU W,x.w.cell? ⟨b,o+1,none⟩=some (k7 m.U.toNat))/\(∀x:iU W,x.w.cell? ⟨b,o+2,none⟩=some (k7 m.T.toNat))/\(∀x:iU W,x.w.cell? ⟨b,o+3,none⟩=some (k7 m.R.toNat))/\(∀x:iU W,x.w.cell? ⟨b,o+4,none⟩=some (k7 m.Q.toNat))/\(∀x:iU W,x.w.cell? ⟨b,o+5,none⟩=some (k7 m.O.toNat))/\(∀x:iU W,x.w.cell? ⟨b,o+6,none⟩=some (k7 m.N.toNat)):=by obtain⟨h0,h1,h2,d,h4,c,a⟩:=h;exact⟨iU.cell h0,iU.cell h1,iU.cell h2,iU.cell d,iU.cell h4,iU.cell c,iU.cell a⟩
theorem iZ.zero{W:World}{b:Nat}{m:Mono}(h:iZ W b 0 m):W.cell? ⟨b,0,none⟩=some (k6 m.n)/\W.cell? ⟨b,1,none⟩=some (k7 m.U.toNat)/\W.cell? ⟨b,2,none⟩=some (k7 m.T.toNat)/\W.cell? ⟨b,3,none⟩=some (k7 m.R.toNat)/\W.cell? ⟨b,4,none⟩=some (k7 m.Q.toNat)/\W.cell? ⟨b,5,none⟩=some (k7 m.O.toNat)/\W.cell? ⟨b,6,none⟩=some (k7 m.N.toNat):=by simpa[iZ]using h
theorem iZ.later0{W:World}{b:Nat}{m:Mono}(h:iZ W b 0 m):(∀x:iU W,x.w.cell? ⟨b,0,none⟩=some (k6 m.n))/\(∀x:iU W,x.w.cell? ⟨b,1,none⟩=some (k7 m.U.toNat))/\(∀x:iU W,x.w.cell? ⟨b,2,none⟩=some (k7 m.T.toNat))/\(∀x:iU W,x.w.cell? ⟨b,3,none⟩=some (k7 m.R.toNat))/\(∀x:iU W,x.w.cell? ⟨b,4,none⟩=some (k7 m.Q.toNat))/\(∀x:iU W,x.w.cell? ⟨b,5,none⟩=some (k7 m.O.toNat))/\(∀x:iU W,x.w.cell? ⟨b,6,none⟩=some (k7 m.N.toNat)):=by obtain⟨h0,h1,h2,d,h4,c,a⟩:=h.zero;exact⟨iU.cell h0,iU.cell h1,iU.cell h2,iU.cell d,iU.cell h4,iU.cell c,iU.cell a⟩
def wX (w:World)(b o:Nat):List UInt8->Prop
 |[]=>True
 |x::l=>w.cell? ⟨b,o,none⟩=some (.int .u8 x.toNat)/\wX w b (o+1) l
theorem push_append(acc:ByteArray)(x:UInt8)(l:List UInt8):((acc.push x).data++l.toArray)=acc.data++(x::l).toArray:=by apply D4;simp[ByteArray.push]
theorem xO{P:Program}(w:World)(b:Nat): ∀(l:List UInt8) (o:Nat) (acc:ByteArray),wX w b o l->
  (Extern.Bytes.loadBytes ⟨b,o,none⟩ l.length acc).run P w= .ok ⟨acc.data++l.toArray⟩ w
 |[],o,acc,_=>by simp[Extern.Bytes.loadBytes]
 |x::l,o,acc,⟨h,t⟩=>by
  have ih:=xO (P:=P) w b l (o+1) (acc.push x) t;rw[push_append]at ih;simp only[Extern.Bytes.loadBytes,F5,G9];have hl:(load ⟨b,o,none⟩).run P w= .ok (.int .u8 x.toNat) w:=by simp[go_sem,h]
  rw[hl];simp only[H6];have e:((x.toNat:Int)).toNat.toUInt8=x:=by simp
  rw[e];exact ih
theorem run_compare{P:Program}(w:World)(b c o p k k':Nat)(x y:List UInt8)(hx:wX w b o x)(hy:wX w c p y):
  (Extern.BytealgCompare.compare #[.slice (some ⟨b,o,none⟩) x.length k,.slice (some ⟨c,p,none⟩) y.length k']).run P w= .ok (k6 (S6 x y)) w:=by change Sem.run P (do pure (goInt (Extern.BytealgCompare.cmp (<-Extern.Bytes.bytesOf (.slice (some ⟨b,o,none⟩) x.length k)) (<-Extern.Bytes.bytesOf (.slice (some ⟨c,p,none⟩) y.length k'))))) w=_;simp only[Extern.Bytes.bytesOf,G9,xO w b x o _ hx,xO w c y p _ hy,H6,H3,Lib.cmp_eq];simp[goInt]
set_option maxHeartbeats 400000 in
theorem compare_any(b c o p:Nat)(k k':Nat)(x y:List UInt8)(w:World)(hx:wX w b o x)(hy:wX w c p y):
  Calls prog 48 #[.slice (some ⟨b,o,none⟩) x.length k,.slice (some ⟨c,p,none⟩) y.length k'] w λe w'=>e= .returned (k6 (S6 x y))/\w=w':=by
 go_enter func48,ntmps48
 go_wp2
 rw[run_callFunc_extern func79 m0 m0 m0 (e:=Extern.BytealgCompare.compare) m0,run_compare w b c o p k k' x y hx hy];simp only[U6];rw[Oper.upon_value]
 go_wp2
 go_ret
 exact⟨rfl,rfl⟩
set_option maxHeartbeats 400000 in
theorem bZu(a b:Mono)(w:World):
  Calls prog 26 #[.agg #[k6 a.n,k7 a.U.toNat,k7 a.T.toNat,k7 a.R.toNat,k7 a.Q.toNat,k7 a.O.toNat,k7 a.N.toNat],.agg #[k6 b.n,k7 b.U.toNat,k7 b.T.toNat,k7 b.R.toNat,k7 b.Q.toNat,k7 b.O.toNat,k7 b.N.toNat]] w λe w'=>e= .returned (k6 (ord a b))/\ ∃q o1 o2,w'=((w.alloc o1).alloc o2).drewN q:=by
 have hc:=λn=>compare_any (w.heap.size+1) w.heap.size 1 1 6 6 b.E a.E (((w.alloc (.cells #[.int .i64 a.n,.int .u8 a.U.toNat,.int .u8 a.T.toNat,.int .u8 a.R.toNat,.int .u8 a.Q.toNat,.int .u8 a.O.toNat,.int .u8 a.N.toNat] 43)).alloc (.cells #[.int .i64 b.n,.int .u8 b.U.toNat,.int .u8 b.T.toNat,.int .u8 b.R.toNat,.int .u8 b.Q.toNat,.int .u8 b.O.toNat,.int .u8 b.N.toNat] 43)).drewN n) (by simp[wX,Mono.E,go_sem]) (by simp[wX,Mono.E,go_sem]);have HC:=S7 hc;clear hc
 go_enter func26,ntmps26
 go_wp2
 go_quiet ((go_at_call 48;exact Calls.quiet_of_same ((HC.out _).mono λ_ _ h=>⟨h.1,h.2.symm⟩)))
 go_wp2
 go_ret
 exact⟨rfl,_,_,_,rfl⟩
end
section
open Go.Proofs.Tryz
def num:List UInt8->Nat
 |[]=>0
 |a::l=>a.toNat*256^l.length+num l
theorem bSq: ∀l:List UInt8,num l<256^l.length
 |[]=>by simp[num]
 |a::l=>by have b:=bSq l;have c:=a.toNat_lt;have h:(a.toNat+1)*256^l.length<=256*256^l.length:=C8 _ l7;rw[C5,C6]at h;rw[num,F5,Nat.pow_succ,Nat.mul_comm (256^l.length) 256];omega
theorem cmp_num: ∀l m:List UInt8,l.length=m.length->S6 l m=if num m<num l then 1 else if num l<num m then-1 else 0
 |[],[],_=>by simp[num,S6]
 |[],_::_,h=>by simp at h
 |_::_,[],h=>by simp at h
 |a::l,b::m,h=>by
  have c:l.length=m.length:=by simpa using h
  have f:=cmp_num l m c;have g:=bSq l;have d:=bSq m;rw[bBi,num,num,<-c];rw[<-c]at d;generalize 256^l.length=p at*
  by_cases h1:b.toNat<a.toNat
  .have:(b.toNat+1)*p<=a.toNat*p:=C8 _ h1;rw[C5,C6]at this;rw[if_pos h1,if_pos l7]
  .rw[if_neg h1]
   by_cases h2:a.toNat<b.toNat
   .have:(a.toNat+1)*p<=b.toNat*p:=C8 _ h2;rw[C5,C6]at this;rw[if_pos h2,if_neg l7,if_pos l7]
   .have e:a.toNat=b.toNat:=l7
    rw[if_neg h2,f,e];simp only[Nat.add_lt_add_iff_left]
def Mono.key(m:Mono):Nat:=num m.E
theorem ord_key(a b:Mono):ord a b=if a.key<b.key then 1 else if b.key<a.key then-1 else 0:=cmp_num b.E a.E rfl
theorem bXf(a b:Mono):bFi a b=if b.key<a.key then 1 else if a.key<b.key then-1 else 0:=cmp_num a.E b.E rfl
theorem ord_lt(a b:Mono):ord a b<0↔b.key<a.key:=by
 rw[ord_key];split
 .constructor<;>intro h<;>omega
 .split<;>simp_all
theorem num_inj: ∀l m:List UInt8,l.length=m.length->num l=num m->l=m
 |[],[],_,_=>rfl
 |[],_::_,h,_=>by simp at h
 |_::_,[],h,_=>by simp at h
 |a::l,b::m,h,hn=>by
  have c:l.length=m.length:=by simpa using h
  have f:=bSq l;have d:=bSq m;rw[num,num,<-c]at hn;rw[<-c]at d
  have e:a.toNat=b.toNat:=by
   rcases Nat.lt_trichotomy a.toNat b.toNat with h1|h1|h1
   .have:(a.toNat+1)*256^l.length<=b.toNat*256^l.length:=C8 _ h1;rw[C5,C6]at this;omega
   .exact h1
   .have:(b.toNat+1)*256^l.length<=a.toNat*256^l.length:=C8 _ h1;rw[C5,C6]at this;omega
  rw[e]at hn;rw[L8.1 e,num_inj l m c l7]
theorem key_E{a b:Mono}:a.key=b.key↔a.E=b.E:=⟨λh=>num_inj _ _ rfl h,λh=>by unfold Mono.key;rw[h]⟩
theorem eq_of_key{a b:Mono}(h:a.key=b.key)(hn:a.n=b.n):a=b:=by have:=key_E.1 h;obtain⟨n,q,p,o,m,l,k⟩:=a;obtain⟨c,j,i,g,f,e,d⟩:=b;simp only[Mono.E,List.cons.injEq,and_true]at this;obtain⟨rfl,rfl,rfl,rfl,rfl,rfl⟩:=this;simp at hn;rw[hn]
def rQ (l:List Mono):Prop:=l.Pairwise (λa b=>b.key<a.key)
def lX (l:List Mono):Prop:=l.Pairwise (λa b=>a.key≠b.key)
theorem rQ.apart{l:List Mono}(h:rQ l):lX l:=List.Pairwise.imp (λh=>by omega) h
theorem rQ.ext: ∀{l m:List Mono},rQ l->rQ m->(∀x,x∈l↔x∈m)->l=m
 |[],[],_,_,_=>rfl
 |[],b::m,_,_,h=>absurd ((h b).2 m9) m9
 |a::l,[],_,_,h=>absurd ((h a).1 m9) m9
 |a::l,b::m,h1,h2,h=>by
  obtain⟨i,k⟩:=E5.1 h1;obtain⟨g,j⟩:=E5.1 h2
  have e:a=b:=by
   have d:a∈b::m:=(h a).1 m9;have c:b∈a::l:=(h b).2 m9
   rcases E2.1 d with e|d
   .exact e
   .rcases E2.1 c with e|c
    .exact e.symm
    .have:=g a d;have:=i b c;omega
  subst e;rw[rQ.ext k j λx=>?_];constructor
  .intro hx;have:=(h x).1 af5
   rcases E2.1 this with rfl|f
   .have:=i x hx;omega
   .exact f
  .intro hx;have:=(h x).2 af5
   rcases E2.1 this with rfl|f
   .have:=g x hx;omega
   .exact f
def nU (L:List Mono):List Mono:=(L.filter (λm=>m.n !=0)).mergeSort (λa b=>decide (b.key<=a.key))
theorem bEb{L:List Mono}{x:Mono}:x∈nU L↔x∈L/\x.n≠0:=by unfold nU;rw[(T0 _ _).mem_iff];simp
theorem falls_of{l:List Mono}(h1:l.Pairwise (λa b=>b.key<=a.key))(h2:lX l):rQ l:=
 List.Pairwise.imp (λ⟨a,b⟩=>by omega) (List.Pairwise.and h1 h2)
theorem lX.perm{l m:List Mono}(h:lX l)(hp:l.Perm m):lX m:=hp.pairwise h (λh=>Ne.symm h)
theorem lX.filter{l:List Mono}(p:Mono->Bool)(h:lX l):lX (l.filter p):=List.Pairwise.filter _ h
theorem bBn{L:List Mono}(h:lX L):rQ (nU L):=by refine falls_of ?_ ((h.filter _).perm (T0 _ _).symm);have:=List.pairwise_mergeSort (le:=λa b:Mono=>decide (b.key<=a.key)) q9 q9 (L.filter (λm=>m.n !=0));exact List.Pairwise.imp (λh=>by simpa using h) this
theorem canon_of{L S:List Mono}(h:lX L)(hp:S.Perm (L.filter (λm=>m.n !=0)))(hs:S.Pairwise (λa b=>b.key<=a.key)):S=nU L:=
 rQ.ext (falls_of hs ((h.filter _).perm hp.symm)) (bBn h) λx=>by rw[hp.mem_iff,bEb];simp
end
section
open Go.RowKit Go.Sort Go.Proofs.Tryz
set_option maxRecDepth 100000
theorem bJz(a b:Mono):ltOf ord a b=decide (b.key<a.key):=by unfold ltOf;rw[decide_eq_decide];exact ord_lt a b
theorem swo_ord:SWO (ltOf ord) where
 irrefl x:=by rw[bJz];simp
 trans x y z h1 h2:=by rw[bJz]at*;simp at*;omega
 ntrans x y z h1 h2:=by rw[bJz]at*;simp at*;omega
theorem bWd(blk off size:Nat)(w:World):CmpLays prog 26 #[] Mono.cells 7 ord blk off size w:=
 λm d e _ x y=>by
  show Calls prog 26 #[.agg #[.int .i64 x.n,.int .u8 x.U.toNat,.int .u8 x.T.toNat,.int .u8 x.R.toNat,.int .u8 x.Q.toNat,.int .u8 x.O.toNat,.int .u8 x.N.toNat],.agg #[.int .i64 y.n,.int .u8 y.U.toNat,.int .u8 y.T.toNat,.int .u8 y.R.toNat,.int .u8 y.Q.toNat,.int .u8 y.O.toNat,.int .u8 y.N.toNat]] _ _
  exact(bZu x y _).mono λ_ _ ⟨he,q,b,a,c⟩=>⟨he,q,#[b,a],by rw[c,alloc_eq_grow,alloc_eq_grow,grow_grow];rfl⟩
theorem bYj(x:Mono): ∀v∈x.cells,v.oneCell'=true:=λv a=>by
 simp only[Mono.cells,E2,List.not_mem_nil,or_false]at a
 rcases a with rfl|rfl|rfl|rfl|rfl|rfl|rfl<;>rfl
def Row (w:World)(g:Nat)(l:List Mono):Prop:=HoldsK Mono.cells 7 w g 0 l.toArray
theorem sort_any(g cap:Nat)(l:List Mono)(w:World)(hH:Row w g l)(hg:g<w.heap.size)(hl:l.length<4611686018427387904):
  Calls prog 133 #[.slice (some ⟨g,0,none⟩) l.length cap,.func (.func 26) #[] #[]] w λe w'=>
   e= .returned (.tuple #[])/\ ∃l':List Mono,l'.Perm l/\l'.Pairwise (λa b=>b.key<=a.key)/\Row w' g l'/\w.heap.size<=w'.heap.size/\w'.os=w.os/\w'.tape=w.tape/\w'.output=w.output/\(∀k,k<w.heap.size->k≠g->w'.heap[k]?=w.heap[k]?):=by
 have y: ∀args w,(callFunc 26 args).run prog w= .ok (.enter 26 args) w:=enters_of func26 m0 rfl;have f:=AnyQ.slices_SortFunc Tryz.sortL 7 Tryz.isAgg43 Tryz.sizeOf43 Mono.cells (λ_=>rfl) bYj ord swo_ord 26 #[] g 0 cap l.toArray w y (bWd _ _ _ _) hH hg (by simpa using hl);change Calls prog 133 #[.slice (some ⟨g,0,none⟩) l.length cap,.func (.func 26) #[] #[]] w _ at f;refine f.mono ?_;rintro e w' ⟨he,c,n,os,u,hs,rfl⟩;obtain⟨d,_,m⟩:=u;have t:c.size=l.length:=by simpa using d
 refine⟨he,c.toList,?_,?_,?_,?_,rfl,rfl,rfl,?_⟩
 .have A:c.extract 0 l.toArray.size=c:=by apply T9;rw[d];exact B0 _
  have z:l.toArray.extract 0 l.toArray.size=l.toArray:=T9 (B0 _);rw[A,z]at m;exact m
 .rw[List.pairwise_iff_getElem];intro i j hi x r;have o:j<c.size:=by simpa using x
  have s:i<c.size:=by simpa using hi
  have h:=hs i j (C4 _) r (by rw[<-d];exact o);rw[getElem!_pos c j o,getElem!_pos c i s,bJz]at h
  simpa using h
 .show HoldsK Mono.cells 7 _ g 0 c;refine holdsK_grow Mono.cells 7 _ os g 0 c (by simp[putRowK,Sort.ahead];exact hg) ?_;exact holdsK_putRowK Mono.cells 7 _ g 0 l.toArray c hH d
 .simp[sortWorldK,grow,putRowK,Sort.ahead]
 .intro k v p;have q:k<(putRowK Mono.cells 7 (Sort.ahead w n) g 0 c).heap.size:=by simp[putRowK,Sort.ahead];exact v
  simp only[sortWorldK,grow];rw[Array.getElem?_append_left q];simp only[putRowK,putRow,mapBlock,Sort.ahead];rw[Array.getElem?_modify,if_neg (Ne.symm p)]
theorem sort_none(A:Option Addr)(cap:Nat)(w:World):
  Calls prog 133 #[.slice A 0 cap,.func (.func 26) #[] #[]] w λe w'=>e= .returned (.tuple #[])/\Below w.heap.size w w':=by
 have h:=AnyF.slices_SortFunc_none Tryz.sortL A cap (.func (.func 26) #[] #[]) w;change Calls prog 133 _ w _ at h
 exact h.mono λ_ _ ⟨he,a⟩=>⟨he,by rw[a];exact Below.refl _ _⟩
end
section
open Go.RowKit Go.Proofs.Tryz
set_option maxRecDepth 100000
theorem u8_eq(a b:UInt8):((a.toNat:Int)==(b.toNat:Int))=(a==b):=by
 rw[Bool.eq_iff_iff];simp only[beq_iff_eq];constructor
 .intro h;exact L8.1 l7
 .rintro rfl;rfl
def Mono.sameE(a b:Mono):Bool:=a.U==b.U&&(a.T==b.T&&(a.R==b.R&&(a.Q==b.Q&&(a.O==b.O&&a.N==b.N))))
theorem bRs(a:Mono)(w:World):(part 5 #[k7 a.U.toNat,k7 a.T.toNat,k7 a.R.toNat,k7 a.Q.toNat,k7 a.O.toNat,k7 a.N.toNat] (0*1)).run prog w= .ok (k7 a.U.toNat) w/\(part 5 #[k7 a.U.toNat,k7 a.T.toNat,k7 a.R.toNat,k7 a.Q.toNat,k7 a.O.toNat,k7 a.N.toNat] (1*1)).run prog w= .ok (k7 a.T.toNat) w/\
  (part 5 #[k7 a.U.toNat,k7 a.T.toNat,k7 a.R.toNat,k7 a.Q.toNat,k7 a.O.toNat,k7 a.N.toNat] (2*1)).run prog w= .ok (k7 a.R.toNat) w/\(part 5 #[k7 a.U.toNat,k7 a.T.toNat,k7 a.R.toNat,k7 a.Q.toNat,k7 a.O.toNat,k7 a.N.toNat] (3*1)).run prog w= .ok (k7 a.Q.toNat) w/\
  (part 5 #[k7 a.U.toNat,k7 a.T.toNat,k7 a.R.toNat,k7 a.Q.toNat,k7 a.O.toNat,k7 a.N.toNat] (4*1)).run prog w= .ok (k7 a.O.toNat) w/\(part 5 #[k7 a.U.toNat,k7 a.T.toNat,k7 a.R.toNat,k7 a.Q.toNat,k7 a.O.toNat,k7 a.N.toNat] (5*1)).run prog w= .ok (k7 a.N.toNat) w:=
 ⟨m0,m0,m0,m0,m0,m0⟩
theorem tL(d:Nat)(a b:Mono)(w:World):(Op.equalIn (d+2) 41 (.agg #[k7 a.U.toNat,k7 a.T.toNat,k7 a.R.toNat,k7 a.Q.toNat,k7 a.O.toNat,k7 a.N.toNat]) (.agg #[k7 b.U.toNat,k7 b.T.toNat,k7 b.R.toNat,k7 b.Q.toNat,k7 b.O.toNat,k7 b.N.toNat])).run prog w= .ok (a.sameE b) w:=by
 obtain⟨r,c⟩: ∃i,prog.info? 5=some i:=⟨_,rfl⟩
 have q:prog.cellsOf 5=1:=m0
 obtain⟨p,o,n,m,l,k⟩:=bRs a w;obtain⟨j,q1,h,g,f,e⟩:=bRs b w;rw[run_equalIn_array w (d+1) _ _ underlying41 c,q];have hr:List.range 6=[0,1,2,3,4,5]:=rfl;rw[hr];simp only[Op.eqItems,G9,U5,H3,p,o,n,m,l,k,j,q1,h,g,f,e,H6,run_equalIn_int w d 5 .u8 .u8 _ _ underlying5,u8_eq];unfold Mono.sameE;cases a.U==b.U<;>cases a.T==b.T<;>cases a.R==b.R<;>cases a.Q==b.Q<;>cases a.O==b.O<;>cases a.N==b.N<;>rfl
theorem bMu(d:Nat)(a b:Mono)(w:World):(Op.equalIn (d+3) 43 (.agg #[k6 a.n,k7 a.U.toNat,k7 a.T.toNat,k7 a.R.toNat,k7 a.Q.toNat,k7 a.O.toNat,k7 a.N.toNat]) (.agg #[k6 b.n,k7 b.U.toNat,k7 b.T.toNat,k7 b.R.toNat,k7 b.Q.toNat,k7 b.O.toNat,k7 b.N.toNat])).run prog w= .ok (a.eqB b) w:=by
 have h:prog.underlying 43=some (.struct (prog.fieldsOf 43)):=m0
 have g:prog.stoodInHeld 43=false:=m0
 have i:(prog.fieldsOf 43).toList=[⟨ "N",2,0,false, "", "",0⟩,⟨ "E",41,1,false, "", "",8⟩]:=m0
 have f: ∀m:Mono,(part 2 #[.int .i64 m.n,.int .u8 m.U.toNat,.int .u8 m.T.toNat,.int .u8 m.R.toNat,.int .u8 m.Q.toNat,.int .u8 m.O.toNat,.int .u8 m.N.toNat] 0).run prog w= .ok (.int .i64 m.n) w:=λm=>by kernel_rfl
 have c: ∀m:Mono,(part 41 #[.int .i64 m.n,.int .u8 m.U.toNat,.int .u8 m.T.toNat,.int .u8 m.R.toNat,.int .u8 m.Q.toNat,.int .u8 m.O.toNat,.int .u8 m.N.toNat] 1).run prog w= .ok (.agg #[.int .u8 m.U.toNat,.int .u8 m.T.toNat,.int .u8 m.R.toNat,.int .u8 m.Q.toNat,.int .u8 m.O.toNat,.int .u8 m.N.toNat]) w:=λm=>by kernel_rfl
 rw[run_equalIn_agg w (d+2) 43 _ _ h g,i];simp only[Op.eqFields,G9,U5,H3,f,c,H6,run_equalIn_int w (d+1) 2 .i64 .i64 _ _ underlying2,tL d a b w];have e:a.eqB b=(a.n==b.n&&a.sameE b):=rfl;rw[e];cases a.n==b.n<;>cases a.sameE b<;>simp
theorem bIv(a b:Mono)(w:World):(binOp .neq 43 (.agg #[k6 a.n,k7 a.U.toNat,k7 a.T.toNat,k7 a.R.toNat,k7 a.Q.toNat,k7 a.O.toNat,k7 a.N.toNat]) (.agg #[k6 b.n,k7 b.U.toNat,k7 b.T.toNat,k7 b.R.toNat,k7 b.Q.toNat,k7 b.O.toNat,k7 b.N.toNat])).run prog w= .ok (.bool (!a.eqB b)) w:=by rw[run_neq_struct,bMu 9997 a b w];rfl
theorem bYq: ∀(l m:List Mono),l.length≠m.length->vJ l m=false
 |[],[],h=>absurd rfl h
 |[],_::_,_=>rfl
 |_::_,[],_=>rfl
 |a::l,b::m,h=>by rw[vJ,bYq l m ad3,Bool.and_false]
set_option maxHeartbeats 1000000 in
theorem same_any(A B:Option Addr)(c d:Nat)(xs ys:List Mono)(w:World)(ha:mC w A xs)(hb:mC w B ys)(hx:xs.length<=140737488355328):
  Calls prog 78 #[.slice A xs.length c,.slice B ys.length d] w λe w'=>e= .returned (.bool (vJ xs ys))/\Below w.heap.size w w':=by
 by_cases hl:xs.length=ys.length
 .have hneq:=bIv;have Hl:=S7 hl;have Ha:=S7 ha;have Hb:=S7 hb;have hl1:((xs.length:Int) !=(ys.length:Int))=false:=by simp[hl]
  clear hl ha hb
  go_enter func78,ntmps78
  go_wp2
  go_loopw [5] (λi wr=> ∃k:Nat,k<=xs.length/\i= .int .i64 k/\Hid (vJ xs ys=vJ (xs.drop k) (ys.drop k))/\Below w.heap.size w wr) (λi _=>xs.length-(intOf i).toNat)
  case atStart=>exact⟨0,C4 _,rfl,rfl,Below.refl _ _⟩
  case round=>
   obtain⟨k,hk,rfl,hs,hbl⟩:=hrel
   by_cases hlt:k<xs.length
   .obtain⟨m,hm,dm⟩:=nY hlt;obtain⟨m',hm',dm'⟩:=nY (show k<ys.length by rw[<-Hl.out];exact hlt);obtain⟨b,o,rfl,hB,c0,c1,c2,c3,c4,c5,c6⟩:=Ha.out.below hbl k m hm;obtain⟨b',o',rfl,hB',d0,d1,d2,d3,d4,d5,d6⟩:=Hb.out.below hbl k m' hm';have hlt':k<ys.length:=by rw[<-Hl.out];exact hlt
    have HS:=S7 (show vJ xs ys=(m.eqB m'&&vJ (xs.drop (k+1)) (ys.drop (k+1))) by rw[hs.out,dm,dm',vJ]);clear dm dm' hm hm' hB hB' hs;cases hf:m.eqB m'
    .go_wp2
     go_quiet (fail)
     go_wp2
     go_ret
     refine⟨gW ?_,wQ hbl _⟩;rw[HS.out,hf,Bool.false_and]
    .go_wp2
     go_quiet (fail)
     go_wp2
     go_roundw
     case rel=>exact⟨k+1,l7,by go_num,(by show _=_;rw[HS.out,hf,U8]),wQ hbl _⟩
     case measure=>simp[intOf];omega
   .have hk':k=xs.length:=l7
    go_wp2
    go_ret
    refine⟨gW ?_,hbl⟩;rw[hs.out,K3 l7,K3 (by rw[<-Hl.out];omega)];rfl
 .have hl1:((xs.length:Int) !=(ys.length:Int))=true:=by rw[bne_iff_ne];omega
  go_enter func78,ntmps78
  go_wp2
  go_ret
  exact⟨gW (bYq _ _ hl).symm,Below.refl _ _⟩
end
section
open Go.RowKit Go.Proofs.Tryz
set_option maxRecDepth 100000
open Go.ChangeMaps (setBlock)
def kvM (m:Mono):Value×Value:=(.agg #[.int .u8 m.U.toNat,.int .u8 m.T.toNat,.int .u8 m.R.toNat,.int .u8 m.Q.toNat,.int .u8 m.O.toNat,.int .u8 m.N.toNat],.int .i64 m.n)
def kvE (e:MapEntry):Value×Value:=(e.key,e.val)
def pS (w:World)(r:Nat)(L:List Mono):Prop:=
 ∃es clock,w.heap[r]?=some (.map es clock)/\es.toList.map kvE=L.map kvM/\(∀x∈es.toList,x.born<clock)/\(es.toList.map (·.born)).Nodup
def rT (k:Mono):List Mono->Int
 |[]=>0
 |m::l=>if k.sameE m then m.n else rT k l
def setTo (k:Mono)(x:Int):List Mono->List Mono
 |[]=>[{k with n:=x}]
 |m::l=>if k.sameE m then {k with n:=x}::l else m::setTo k x l
def findAt(k:Mono):List Mono->Nat->Option (Nat×Value)
 |[],_=>none
 |m::l,i=>if k.sameE m then some (i,.int .i64 m.n)else findAt k l (i+1)
theorem bCn(k:Mono)(w:World): ∀(es:List MapEntry) (L:List Mono) (i:Nat),es.map kvE=L.map kvM->(U9 41 (.agg #[k7 k.U.toNat,k7 k.T.toNat,k7 k.R.toNat,k7 k.Q.toNat,k7 k.O.toNat,k7 k.N.toNat]) es i).run prog w= .ok (findAt k L i) w
 |[],[],_,_=>by simp[U9,findAt]
 |[],_::_,_,h=>by simp at h
 |_::_,[],_,h=>by simp at h
 |e::es,m::L,i,h=>by
  simp only[N7,List.cons.injEq,kvE,kvM,Prod.mk.injEq]at h;obtain⟨⟨h1,h2⟩,b⟩:=h;have a:=bCn k w es L (i+1) b
  have he:(Op.equal 41 (.agg #[.int .u8 k.U.toNat,.int .u8 k.T.toNat,.int .u8 k.R.toNat,.int .u8 k.Q.toNat,.int .u8 k.O.toNat,.int .u8 k.N.toNat]) e.key).run prog w= .ok (k.sameE m) w:=by rw[h1];exact tL 9998 k m w
  simp only[U9,G9,U5,H3,he,H6,findAt,h2];cases k.sameE m
  .simpa using a
  .simp
theorem bBo(k:Mono)(w:World)(es:List MapEntry)(L:List Mono)(h:es.map kvE=L.map kvM):(P2 41 (.agg #[k7 k.U.toNat,k7 k.T.toNat,k7 k.R.toNat,k7 k.Q.toNat,k7 k.O.toNat,k7 k.N.toNat]) es).run prog w= .ok (findAt k L 0) w:=by
 have hf:=bCn k w es L 0 h;unfold P2;simp only[G9,run_underlying underlying41,H6]
 cases es with
 |nil=>
  cases L with
  |nil=>simp[P1,findAt]
  |cons m L=>simp at h
 |cons e es=>simpa[P1,Instr.sameNow]using hf
theorem bAf(b:Bool)(k:Mono)(w:World):(Instr.checkKey b 10000 41 (.agg #[k7 k.U.toNat,k7 k.T.toNat,k7 k.R.toNat,k7 k.Q.toNat,k7 k.O.toNat,k7 k.N.toNat])).run prog w= .ok () w:=by kernel_rfl
theorem run_stays(k:Mono)(w:World):(P4 (.agg #[k7 k.U.toNat,k7 k.T.toNat,k7 k.R.toNat,k7 k.Q.toNat,k7 k.O.toNat,k7 k.N.toNat]) (.agg #[k7 k.U.toNat,k7 k.T.toNat,k7 k.R.toNat,k7 k.Q.toNat,k7 k.O.toNat,k7 k.N.toNat])).run prog w= .ok (.agg #[k7 k.U.toNat,k7 k.T.toNat,k7 k.R.toNat,k7 k.Q.toNat,k7 k.O.toNat,k7 k.N.toNat]) w:=by unfold P4;simp[Instr.sameBits]
theorem findAt_none{k:Mono}{x:Int}: ∀{L:List Mono} {i:Nat},findAt k L i=none->rT k L=0/\setTo k x L=L++[{k with n:=x}]
 |[],_,_=>⟨rfl,rfl⟩
 |m::L,i,h=>by
  unfold findAt at h;cases hs:k.sameE m
  .rw[hs]at h;simp only[J2,if_false]at h;obtain⟨h1,h2⟩:=findAt_none (x:=x) h;simp[rT,setTo,hs,h1,h2]
  .rw[hs]at h;simp at h
theorem coef_app{k:Mono}: ∀{L:List Mono} {i:Nat},findAt k L i=none-> ∀M:List Mono,rT k (L++M)=rT k M
 |[],_,_,_=>rfl
 |m::L,i,h,M=>by
  unfold findAt at h;cases hs:k.sameE m
  .rw[hs]at h;simp only[J2,if_false]at h;simp[rT,hs,coef_app h M]
  .rw[hs]at h;simp at h
theorem sameE_self(k:Mono)(x:Int):k.sameE {k with n:=x}=true:=by simp[Mono.sameE]
theorem bBk{k:Mono}{x:Int}{j:Nat}{v:Value}: ∀{L:List Mono} {i:Nat},findAt k L i=some (j,v)-> ∃d m,j=i+d/\L[d]?=some m/\k.sameE m=true/\v= k6 m.n/\rT k L=m.n/\setTo k x L=L.set d {k with n:=x}
 |[],_,h=>by simp[findAt]at h
 |m::L,i,h=>by
  unfold findAt at h;cases hs:k.sameE m
  .rw[hs]at h;simp only[J2,if_false]at h;obtain⟨d,a,h1,h2,e,h4,c,b⟩:=bBk (x:=x) h;exact⟨d+1,a,l7,by simpa using h2,e,h4,by simp[rT,hs,c],by simp[setTo,hs,b]⟩
  .rw[hs]at h;simp only[if_true,Option.some.injEq,Prod.mk.injEq]at h;exact⟨0,m,l7,rfl,hs,h.2.symm,by simp[rT,hs],by simp[setTo,hs]⟩
theorem oW(k:Mono){w:World}{r:Nat}{L:List Mono}(h:pS w r L):
  (Q7 154 (.map (some r)) (.agg #[k7 k.U.toNat,k7 k.T.toNat,k7 k.R.toNat,k7 k.Q.toNat,k7 k.O.toNat,k7 k.N.toNat]) false).run prog w= .ok (k6 (rT k L)) w:=by
 obtain⟨g,b,e,a,_,_⟩:=h;have c:(zeroValue 2).run prog w= .ok (.int .i64 0) w:=m0
 unfold Q7;simp only[G9,run_underlying underlying154,H6,P7 e,H3,bAf,bBo k w g.toList L a]
 cases hf:findAt k L 0 with
 |none=>simp[(findAt_none (x:=0) hf).1,c]
 |some p=>
  obtain⟨j,v⟩:=p;obtain⟨d,m,_,_,_,rfl,f,_⟩:=bBk (x:=0) hf;simp[f]
theorem bZt{k m:Mono}(h:k.sameE m=true):(Value.agg #[k7 m.U.toNat,k7 m.T.toNat,k7 m.R.toNat,k7 m.Q.toNat,k7 m.O.toNat,k7 m.N.toNat])= .agg #[k7 k.U.toNat,k7 k.T.toNat,k7 k.R.toNat,k7 k.Q.toNat,k7 k.O.toNat,k7 k.N.toNat]:=by simp only[Mono.sameE,J3,beq_iff_eq]at h;obtain⟨h0,h1,h2,b,h4,a⟩:=h;rw[h0,h1,h2,b,h4,a]
theorem map_set_kv{es:Array MapEntry}{L:List Mono}{d:Nat}{k m:Mono}{e:MapEntry}(hkv:es.toList.map kvE=L.map kvM)(hd:L[d]?=some m)(hs:k.sameE m=true)(he:es[d]?=some e)(x:Int):
  (es.modify d λe=>{e with val:= k6 x}).toList.map kvE=(L.set d {k with n:=x}).map kvM:=by
 have b:e.key= .agg #[.int .u8 k.U.toNat,.int .u8 k.T.toNat,.int .u8 k.R.toNat,.int .u8 k.Q.toNat,.int .u8 k.O.toNat,.int .u8 k.N.toNat]:=by
  have h1:(es.toList.map kvE)[d]?=some (kvE e):=by simp[he]
  rw[hkv,K1,hd]at h1;simp only[J8,Option.some.injEq,kvE,kvM,Prod.mk.injEq]at h1;rw[<-h1.1];exact bZt hs
 have a:es.toList[d]?=some e:=by simpa using he
 rw[U0,ChangeMaps.modify_eq_set _ _ _ _ a,T1,T1,hkv]
 congr 1
 simp[kvE,kvM,b]
theorem bCs(k:Mono)(x:Int){w:World}{r:Nat}{L:List Mono}(h:pS w r L): ∃v0 st w1 w2,
  (V0 154 (.map (some r)) (.agg #[k7 k.U.toNat,k7 k.T.toNat,k7 k.R.toNat,k7 k.Q.toNat,k7 k.O.toNat,k7 k.N.toNat])).run prog w= .ok (.tuple #[v0,k6 st]) w1/\
  (Q7 154 (.map (some r)) (.agg #[k7 k.U.toNat,k7 k.T.toNat,k7 k.R.toNat,k7 k.Q.toNat,k7 k.O.toNat,k7 k.N.toNat]) false).run prog w1= .ok (k6 (rT k L)) w1/\
  (V1 154 (.map (some r)) (k6 st) (k6 x)).run prog w1= .ok () w2/\
  pS w2 r (setTo k x L)/\ ∃o,w2=setBlock w r o:=by
 obtain⟨f,b,E,g,B,A⟩:=h;have V:(zeroValue 2).run prog w= .ok (.int .i64 0) w:=m0
 cases hf:findAt k L 0 with
 |none=>
  obtain⟨K,l⟩:=findAt_none (x:=x) hf;obtain⟨_,P⟩:=findAt_none (x:=0) hf;have i:(setBlock w r (.map (f.push ⟨.agg #[.int .u8 k.U.toNat,.int .u8 k.T.toNat,.int .u8 k.R.toNat,.int .u8 k.Q.toNat,.int .u8 k.O.toNat,.int .u8 k.N.toNat],.int .i64 0,b⟩) (b+1))).heap[r]?=some (.map (f.push ⟨.agg #[.int .u8 k.U.toNat,.int .u8 k.T.toNat,.int .u8 k.R.toNat,.int .u8 k.Q.toNat,.int .u8 k.O.toNat,.int .u8 k.N.toNat],.int .i64 0,b⟩) (b+1)):=ChangeMaps.heap_setBlock_same E _
  have q: ∀v,((f.push ⟨.agg #[.int .u8 k.U.toNat,.int .u8 k.T.toNat,.int .u8 k.R.toNat,.int .u8 k.Q.toNat,.int .u8 k.O.toNat,.int .u8 k.N.toNat],v,b⟩).toList.map (·.born)).Nodup:=λv=>by simp only[U1,List.map_append,N7,List.map_nil];refine List.nodup_append.2 ⟨A,m9,λa Y c K e1=>?_⟩;simp only[K7]at K;obtain⟨y,hy,rfl⟩:=R2.1 Y;have:=B y hy;omega
  have C: ∀v,∀y∈(f.push ⟨.agg #[.int .u8 k.U.toNat,.int .u8 k.T.toNat,.int .u8 k.R.toNat,.int .u8 k.Q.toNat,.int .u8 k.O.toNat,.int .u8 k.N.toNat],v,b⟩).toList,y.born<b+1:=λv y hy=>by
   simp only[U1,List.mem_append,K7]at hy
   rcases hy with hy|rfl
   .have:=B y hy;omega
   .simp
  have D: ∀n:Int,(f.push ⟨.agg #[.int .u8 k.U.toNat,.int .u8 k.T.toNat,.int .u8 k.R.toNat,.int .u8 k.Q.toNat,.int .u8 k.O.toNat,.int .u8 k.N.toNat],.int .i64 n,b⟩).toList.map kvE=(L++[{k with n:=n}]).map kvM:=λn=>by simp[g,kvE,kvM]
  refine⟨.int .i64 0,b,setBlock w r (.map (f.push ⟨.agg #[.int .u8 k.U.toNat,.int .u8 k.T.toNat,.int .u8 k.R.toNat,.int .u8 k.Q.toNat,.int .u8 k.O.toNat,.int .u8 k.N.toNat],.int .i64 0,b⟩) (b+1)),setBlock w r (.map (f.push ⟨.agg #[.int .u8 k.U.toNat,.int .u8 k.T.toNat,.int .u8 k.R.toNat,.int .u8 k.Q.toNat,.int .u8 k.O.toNat,.int .u8 k.N.toNat],.int .i64 x,b⟩) (b+1)),?_,?_,?_,?_,⟨_,rfl⟩⟩
  .unfold V0;simp only[G9,run_underlying underlying154,H6,P7 E,H3,bAf,bBo k w f.toList L g,hf,V];simp[P8 _ E,U6,setBlock,goInt]
  .have X:pS (setBlock w r (.map (f.push ⟨.agg #[.int .u8 k.U.toNat,.int .u8 k.T.toNat,.int .u8 k.R.toNat,.int .u8 k.Q.toNat,.int .u8 k.O.toNat,.int .u8 k.N.toNat],.int .i64 0,b⟩) (b+1))) r (L++[{k with n:=0}]):=⟨_,_,i,D 0,C _,q _⟩
   rw[oW k X,K,coef_app hf];simp[rT,sameE_self]
  .have s:(f.push ⟨.agg #[.int .u8 k.U.toNat,.int .u8 k.T.toNat,.int .u8 k.R.toNat,.int .u8 k.Q.toNat,.int .u8 k.O.toNat,.int .u8 k.N.toNat],.int .i64 0,b⟩).findIdx? (λe=>((e.born:Nat):Int)==((b:Nat):Int))=some f.size:=by rw[WideElems.findIdx_arr];exact WideElems.findIdx_born (j:=f.size) (e0:=⟨.agg #[.int .u8 k.U.toNat,.int .u8 k.T.toNat,.int .u8 k.R.toNat,.int .u8 k.Q.toNat,.int .u8 k.O.toNat,.int .u8 k.N.toNat],.int .i64 0,b⟩) (q _) m9
   have I:(f.push ⟨.agg #[.int .u8 k.U.toNat,.int .u8 k.T.toNat,.int .u8 k.R.toNat,.int .u8 k.Q.toNat,.int .u8 k.O.toNat,.int .u8 k.N.toNat],.int .i64 0,b⟩).modify f.size (λe=>{e with val:= .int .i64 x})=f.push ⟨.agg #[.int .u8 k.U.toNat,.int .u8 k.T.toNat,.int .u8 k.R.toNat,.int .u8 k.Q.toNat,.int .u8 k.O.toNat,.int .u8 k.N.toNat],.int .i64 x,b⟩:=by apply D4;rw[U0,U1,U1,<-U2,WideElems.modify_last]
   simp only[V1,G9,P7 i,H6,asInt,asIntOf,H3,s,I,P8 _ i];simp[setBlock]
  .rw[l];exact⟨_,_,ChangeMaps.heap_setBlock_same E _,D x,C _,q _⟩
 |some p=>
  obtain⟨j,v⟩:=p;obtain⟨d,m,hj,R,hs,W,K,l⟩:=bBk (x:=x) hf;obtain rfl:j=d:=l7
  subst W
  have J:f.size=L.length:=by
   have:=congrArg Q8 g
   simpa using this
  have Q:j<f.size:=by rw[J];exact(F3.1 R).1
  obtain⟨e,he⟩: ∃e,f[j]?=some e:=⟨f[j],Array.getElem?_eq_getElem Q⟩
  have U:e.key= .agg #[.int .u8 k.U.toNat,.int .u8 k.T.toNat,.int .u8 k.R.toNat,.int .u8 k.Q.toNat,.int .u8 k.O.toNat,.int .u8 k.N.toNat]:=by
   have h1:(f.toList.map kvE)[j]?=some (kvE e):=by simp[he]
   rw[g,K1,R]at h1;simp only[J8,Option.some.injEq,kvE,kvM,Prod.mk.injEq]at h1;rw[<-h1.1];exact bZt hs
  have t:f.toList[j]?=some e:=by simpa using he
  have G:f.modify j (λe=>{e with key:= .agg #[.int .u8 k.U.toNat,.int .u8 k.T.toNat,.int .u8 k.R.toNat,.int .u8 k.Q.toNat,.int .u8 k.O.toNat,.int .u8 k.N.toNat]})=f:=by apply D4;rw[U0,ChangeMaps.modify_eq_set _ _ _ _ t,<-U];exact WideElems.set_self _ _ _ t
  have i:(setBlock w r (.map f b)).heap[r]?=some (.map f b):=ChangeMaps.heap_setBlock_same E _;refine⟨.int .i64 m.n,e.born,setBlock w r (.map f b),setBlock w r (.map (f.modify j λe=>{e with val:= .int .i64 x}) b),?_,?_,?_,?_,⟨_,rfl⟩⟩
  .unfold V0;simp only[G9,run_underlying underlying154,H6,P7 E,H3,bAf,bBo k w f.toList L g,hf,he,J8,Option.getD_some,U,run_stays];rw[G,P8 _ E];simp[setBlock,goInt]
  .exact oW k ⟨_,_,i,g,B,A⟩
  .have s:f.findIdx? (λZ=>((Z.born:Nat):Int)==((e.born:Nat):Int))=some j:=by rw[WideElems.findIdx_arr];exact WideElems.findIdx_born A t
   simp only[V1,G9,P7 i,H6,asInt,asIntOf,H3,s,P8 _ i];simp[setBlock]
  .rw[l]
   have u:(f.modify j λe=>{e with val:= .int .i64 x}).toList.map (·.born)=f.toList.map (·.born):=by rw[U0,ChangeMaps.modify_eq_set _ _ _ _ t,T1];exact WideElems.set_self _ _ _ (by simp[t])
   refine⟨_,_,ChangeMaps.heap_setBlock_same E _,map_set_kv g R hs he x,λy hy=>?_,by rw[u];exact A⟩;have O:y.born∈f.toList.map (·.born):=by rw[<-u];exact R2.2 ⟨y,hy,rfl⟩
   obtain⟨z,N,M⟩:=R2.1 O;rw[<-M];exact B z N
end
section
open Go.RowKit Go.Sort Go.Proofs.Tryz
set_option maxRecDepth 100000
def flat (l:List Mono):List Value:=l.flatMap Mono.cells
theorem flat_snoc(l:List Mono)(m:Mono):flat (l++[m])=flat l++m.cells:=by simp[flat]
theorem flat_get: ∀(l:List Mono) (k j:Nat) (m:Mono),l[k]?=some m->j<7->(flat l)[k*7+j]?=m.cells[j]?
 |[],k,j,m,h,_=>by simp at h
 |a::l,0,j,m,h,hj=>by
  simp at h;subst h;simp only[flat,List.flatMap_cons,Nat.zero_mul,Nat.zero_add];exact List.getElem?_append_left (by rw[Mono.cells_length];exact hj)
 |a::l,k+1,j,m,h,hj=>by
  have b:=flat_get l k j m ad3 hj;have e:flat (a::l)=a.cells++flat l:=by simp[flat]
  rw[e,List.getElem?_append_right (by rw[Mono.cells_length];omega),Mono.cells_length];rw[<-b]
  congr 1
  omega
def bTj (w:World)(B:Nat)(v:Value)(l:List Mono):Prop:=w.ownsRow B 43 7 v l.length (flat l)
theorem bTj.row{w:World}{B g cap:Nat}{l:List Mono}(h:bTj w B (.slice (some ⟨g,0,none⟩) l.length cap) l):Row w g l:=λt ht=>by
 have a:t<l.length*7:=by simpa using ht
 have d:=World.ownsRow.cellAt h t a;refine⟨?_,by simpa using World.ownsRow.frozenAt h t⟩;rw[get_flatK _ _ _ _ (by simpa using a)];have b:t/7<l.length:=l7
 have hg:=flat_get l (t/7) (t%7) l[t/7] (F1 b) (Nat.mod_lt _ l7);have e:t/7*7+t%7=t:=l7
 rw[e]at hg;rw[Nat.zero_add,d,hg];have f:l.toArray[t/7]! =l[t/7]:=by simp[b]
 rw[f];have c:t%7<(l[t/7]).cells.length:=by rw[Mono.cells_length];exact Nat.mod_lt _ l7
 rw[F1 c,getElem!_pos (l[t/7]).cells (t%7) c];rfl
theorem Row.monos{w:World}{g:Nat}{l:List Mono}(h:Row w g l):mC w (some ⟨g,0,none⟩) l:=λk m d=>by
 have hkl:k<l.toArray.size:=by simpa using (F3.1 d).1
 have e:l.toArray[k]! =m:=by
  rw[getElem!_pos l.toArray k hkl];have:=(F3.1 d).2
  simpa using this
 have c:=λj (f:j<7)=>(HoldsK.cell h hkl f).1;rw[e]at c
 have a:g<w.heap.size:=by
  rcases Nat.lt_or_ge g w.heap.size with b|b
  .exact b
  .have:=c 0 l7;simp[D0,D2 b]at this
 refine⟨g,0,rfl,a,?_⟩;exact⟨c 0 l7,c 1 l7,c 2 l7,c 3 l7,c 4 l7,c 5 l7,c 6 l7⟩
theorem Row.below{w w':World}{B g:Nat}{l:List Mono}(h:Row w g l)(hb:Below B w w')(hg:g<B):Row w' g l:=λt ht=>by obtain⟨h1,h2⟩:=h t ht;exact⟨(hb.cell (p:=⟨g,0+t,none⟩) hg).trans h1,(hb.frozen (p:=⟨g,0+t,none⟩) hg).trans h2⟩
theorem Row.lt{w:World}{g:Nat}{l:List Mono}(h:Row w g l)(hl:l≠[]):g<w.heap.size:=by
 cases l with
 |nil=>exact absurd rfl hl
 |cons m l=>
  obtain⟨b,o,e,a,_⟩:=h.monos 0 m rfl;injection e with e
  injection e with e
  omega
def Res (B:Nat)(w:World)(v:Value)(l:List Mono):Prop:=
 ∃A c,v= .slice A l.length c/\(l=[]\/ ∃g,A=some ⟨g,0,none⟩/\B<=g/\Row w g l)
theorem Res.monos{B:Nat}{w:World}{A:Option Addr}{n c:Nat}{l:List Mono}(h:Res B w (.slice A n c) l):mC w A l/\n=l.length:=by
 obtain⟨b,a,e,h⟩:=h;injection e with e1 e2 e3
 subst e1 e2
 rcases h with rfl|⟨g,rfl,_,hr⟩
 .exact⟨mC.nil,rfl⟩
 .exact⟨hr.monos,rfl⟩
theorem Res.below{B:Nat}{w w':World}{v:Value}{l:List Mono}(h:Res B w v l)(hb:Below w.heap.size w w'):Res B w' v l:=by
 obtain⟨A,c,e,h⟩:=h;refine⟨A,c,e,?_⟩
 by_cases a:l=[]
 .exact .inl a
 .rcases h with h|⟨g,d,b,hr⟩
  .exact .inl h
  .exact .inr ⟨g,d,b,hr.below hb (hr.lt a)⟩
theorem Res.mono{B B':Nat}{w:World}{v:Value}{l:List Mono}(h:Res B w v l)(hB:B'<=B):Res B' w v l:=by
 obtain⟨A,c,e,h⟩:=h;refine⟨A,c,e,?_⟩
 rcases h with h|⟨g,b,a,hr⟩
 .exact .inl h
 .exact .inr ⟨g,b,B1 hB a,hr⟩
theorem Res.nil(B:Nat)(w:World)(c:Nat)(A:Option Addr):Res B w (.slice A 0 c) []:=⟨A,c,rfl,.inl rfl⟩
end
section
open Go.RowKit Go.Proofs.Tryz
set_option maxRecDepth 100000
set_option maxHeartbeats 400000 in
theorem bGd(m:Mono)(w:World):
  Calls prog 142 #[.agg #[k6 m.n,k7 m.U.toNat,k7 m.T.toNat,k7 m.R.toNat,k7 m.Q.toNat,k7 m.O.toNat,k7 m.N.toNat]] w λe w'=>e= .returned (k6 m.deg)/\Below w.heap.size w w':=by
 have h0:=bAz m.U;have h1:=bAz m.T;have h2:=bAz m.R;have h3:=bAz m.Q;have h4:=bAz m.O;have h5:=bAz m.N
 go_enter func142,ntmps142
 go_wp2
 go_rounds 7
 go_ret
 refine⟨?_,by go_grown⟩;simp[Mono.deg]
set_option maxHeartbeats 400000 in
theorem bNc(m:Mono)(w:World):
  Calls prog 25 #[.agg #[k6 m.n,k7 m.U.toNat,k7 m.T.toNat,k7 m.R.toNat,k7 m.Q.toNat,k7 m.O.toNat,k7 m.N.toNat]] w λe w'=>e= .returned (.bool (mH m))/\Below w.heap.size w w':=by
 have h0:=bAz m.U;have h1:=bAz m.T;have h2:=bAz m.R;have h3:=bAz m.Q;have h4:=bAz m.O;have h5:=bAz m.N;have i0: ∀w,(V3 41 (.agg #[.int .u8 m.U.toNat,.int .u8 m.T.toNat,.int .u8 m.R.toNat,.int .u8 m.Q.toNat,.int .u8 m.O.toNat,.int .u8 m.N.toNat]) (.int .i64 0)).run prog w= .ok (.int .u8 m.U.toNat) w:=λ_=>by kernel_rfl
 have i1: ∀w,(V3 41 (.agg #[.int .u8 m.U.toNat,.int .u8 m.T.toNat,.int .u8 m.R.toNat,.int .u8 m.Q.toNat,.int .u8 m.O.toNat,.int .u8 m.N.toNat]) (.int .i64 1)).run prog w= .ok (.int .u8 m.T.toNat) w:=λ_=>by kernel_rfl
 have i2: ∀w,(V3 41 (.agg #[.int .u8 m.U.toNat,.int .u8 m.T.toNat,.int .u8 m.R.toNat,.int .u8 m.Q.toNat,.int .u8 m.O.toNat,.int .u8 m.N.toNat]) (.int .i64 2)).run prog w= .ok (.int .u8 m.R.toNat) w:=λ_=>by kernel_rfl
 have i3: ∀w,(V3 41 (.agg #[.int .u8 m.U.toNat,.int .u8 m.T.toNat,.int .u8 m.R.toNat,.int .u8 m.Q.toNat,.int .u8 m.O.toNat,.int .u8 m.N.toNat]) (.int .i64 3)).run prog w= .ok (.int .u8 m.Q.toNat) w:=λ_=>by kernel_rfl
 have i4: ∀w,(V3 41 (.agg #[.int .u8 m.U.toNat,.int .u8 m.T.toNat,.int .u8 m.R.toNat,.int .u8 m.Q.toNat,.int .u8 m.O.toNat,.int .u8 m.N.toNat]) (.int .i64 4)).run prog w= .ok (.int .u8 m.O.toNat) w:=λ_=>by kernel_rfl
 have i5: ∀w,(V3 41 (.agg #[.int .u8 m.U.toNat,.int .u8 m.T.toNat,.int .u8 m.R.toNat,.int .u8 m.Q.toNat,.int .u8 m.O.toNat,.int .u8 m.N.toNat]) (.int .i64 5)).run prog w= .ok (.int .u8 m.N.toNat) w:=λ_=>by kernel_rfl
 go_enter func25,ntmps25
 go_wp2
 go_rounds 7
 all_goals go_ret
 all_goals refine⟨gW ?_,by go_grown⟩
 all_goals clear i0 i1 i2 i3 i4 i5
 all_goals go_light
 all_goals unfold mH Mono.deg
 all_goals try exact(decide_eq_false l7).symm
 have hn:(m.n !=0)=true:=by simpa using ‹¬m.n=0›
 rw[hn,U8];exact decide_eq_decide.2 l7
end
section
open Go.RowKit Go.Proofs.Tryz
set_option maxRecDepth 100000
theorem order_below(a b:Mono)(w:World):
  Calls prog 26 #[.agg #[k6 a.n,k7 a.U.toNat,k7 a.T.toNat,k7 a.R.toNat,k7 a.Q.toNat,k7 a.O.toNat,k7 a.N.toNat],.agg #[k6 b.n,k7 b.U.toNat,k7 b.T.toNat,k7 b.R.toNat,k7 b.Q.toNat,k7 b.O.toNat,k7 b.N.toNat]] w λe w'=>e= .returned (k6 (ord a b))/\Below w.heap.size w w':=
 (bZu a b w).mono λe w' ⟨he,q,f,d,c⟩=>⟨he,by rw[c];exact wQ (((Below.refl _ _).alloc (B0 _) _).alloc m9 _) _⟩
set_option maxHeartbeats 1000000 in
theorem kN(A:Option Addr)(c:Nat)(xs:List Mono)(w:World)(ha:mC w A xs)(hx:xs.length<=140737488355328):
  Calls prog 10 #[.slice A xs.length c] w λe w'=>e= .returned (.bool (dE xs))/\Below w.heap.size w w':=by
 by_cases hl:xs.length<=48
 .have hl1:decide ((48:Int)<(xs.length:Int))=false:=by simp;omega
  have Ha:=S7 ha;clear ha
  go_enter func10,ntmps10
  go_wp2
  go_loopw [10] (λi wr=> ∃k:Nat,k<=xs.length/\i= .int .i64 k/\Hid (dE xs=gH (if k=0 then none else xs[k-1]?) (xs.drop k))/\Below w.heap.size w wr) (λi _=>xs.length-(intOf i).toNat)
  case atStart=>exact⟨0,C4 _,rfl,by show _=_;simp[dE,hl],Below.refl _ _⟩
  case round=>
   obtain⟨k,hk,rfl,hs,hbl⟩:=hrel
   by_cases hlt:k<xs.length
   .obtain⟨m,hm,dm⟩:=nY hlt;obtain⟨b,o,rfl,hB,c0,c1,c2,c3,c4,c5,c6⟩:=Ha.out.below hbl k m hm;have q0:iZ (wr.alloc (.cells #[.int .i64 m.n,.int .u8 m.U.toNat,.int .u8 m.T.toNat,.int .u8 m.R.toNat,.int .u8 m.Q.toNat,.int .u8 m.O.toNat,.int .u8 m.N.toNat] 43)) wr.heap.size 0 m:=by simp[iZ,go_sem]
    have hb0:Below w.heap.size w (wr.alloc (.cells #[.int .i64 m.n,.int .u8 m.U.toNat,.int .u8 m.T.toNat,.int .u8 m.R.toNat,.int .u8 m.Q.toNat,.int .u8 m.O.toNat,.int .u8 m.N.toNat] 43)):=hbl.alloc hbl.size _;have hz:wr.heap.size<(wr.alloc (.cells #[.int .i64 m.n,.int .u8 m.U.toNat,.int .u8 m.T.toNat,.int .u8 m.R.toNat,.int .u8 m.Q.toNat,.int .u8 m.O.toNat,.int .u8 m.N.toNat] 43)).heap.size:=by simp
    have HB0:=S7 hb0;have Q0:=S7 q0;have Hz:=S7 hz;have hm':=hm;clear q0 hb0 hz hm hB;cases hsb:mH m
    .have HS:=S7 (show dE xs=false by rw[hs.out,dm];split<;>(try cases xs[k-1]?)<;>simp[gH,hsb]);clear dm hs
     go_wp2
     clear c0 c1 c2 c3 c4 c5 c6;generalize hb:wr.heap.size=B at Q0 Hz⊢;generalize wr.alloc (.cells #[.int .i64 m.n,.int .u8 m.U.toNat,.int .u8 m.T.toNat,.int .u8 m.R.toNat,.int .u8 m.Q.toNat,.int .u8 m.O.toNat,.int .u8 m.N.toNat] 43)=W0 at Q0 HB0 Hz⊢;clear hb hbl;have Hsm:=S7 (iU.calls (W0:=W0) λW _=>bNc m W);rw[hsb]at Hsm;obtain⟨r0,r1,r2,r3,r4,r5,r6⟩:=Q0.out.later0;clear Q0 Hz;refine nN m0 m0 ?_
     repeat (go_big_quiet_step ((go_at_call 25;exact Hsm.out _)))
     refine wpQuiet_nil ?_;rintro _ ⟨x,rfl⟩
     go_wp2
     go_ret
     exact⟨gW HS.out.symm,HB0.out.trans (x.h.mono HB0.out.size)⟩
    .rcases S8 k with hk0|hk0
     .have hk1:decide (0<k)=false:=by simp;omega
      have HS:=S7 (show dE xs=gH (if k+1=0 then none else xs[k+1-1]?) (xs.drop (k+1)) by rw[hs.out,dm,if_pos hk0,if_neg l7,show k+1-1=k from rfl,hm'];simp[gH,hsb]);clear dm hs hk0 hm'
      go_wp2
      clear c0 c1 c2 c3 c4 c5 c6;generalize hb:wr.heap.size=B at Q0 Hz⊢;generalize wr.alloc (.cells #[.int .i64 m.n,.int .u8 m.U.toNat,.int .u8 m.T.toNat,.int .u8 m.R.toNat,.int .u8 m.Q.toNat,.int .u8 m.O.toNat,.int .u8 m.N.toNat] 43)=W0 at Q0 HB0 Hz⊢;clear hb hbl;have Hsm:=S7 (iU.calls (W0:=W0) λW _=>bNc m W);rw[hsb]at Hsm;obtain⟨r0,r1,r2,r3,r4,r5,r6⟩:=Q0.out.later0;clear Q0 Hz;refine nN m0 m0 ?_
      repeat (go_big_quiet_step ((go_at_call 25;exact Hsm.out _)))
      refine wpQuiet_nil ?_;rintro _ ⟨x,rfl⟩
      go_wp2
      go_roundw
      case rel=>exact⟨k+1,l7,by go_num,HS,HB0.out.trans (x.h.mono HB0.out.size)⟩
      case measure=>simp[intOf];omega
     .have hk1:decide (0<k)=true:=by simp;omega
      obtain⟨j,rfl⟩: ∃j,k=j+1:=⟨k-1,l7⟩
      obtain⟨q,hq⟩: ∃q,xs[j]?=some q:=⟨xs[j]'l7,F1 _⟩
      have HS:=S7 (show dE xs=(decide (ord q m<0)&&gH (some m) (xs.drop (j+1+1))) by rw[hs.out,dm,if_neg l7,show j+1-1=j from rfl,hq];simp[gH,hsb]);have HM:=S7 hm'
      have p0:iZ (wr.alloc (.cells #[.int .i64 m.n,.int .u8 m.U.toNat,.int .u8 m.T.toNat,.int .u8 m.R.toNat,.int .u8 m.Q.toNat,.int .u8 m.O.toNat,.int .u8 m.N.toNat] 43)) b (o+j*7) q:=by
       obtain⟨b1,o1,e1,hB1,hm1⟩:=Ha.out.below hbl j q hq;injection e1 with e1
       injection e1 with e1 e2
       subst e1 e2;exact hm1.below ((Below.refl _ _).alloc (B0 _) _) hB1
      have P0:=S7 p0;clear dm hs hk0 hm' hq p0
      go_wp2
      clear c0 c1 c2 c3 c4 c5 c6;generalize hb:wr.heap.size=B at Q0 Hz⊢;generalize wr.alloc (.cells #[.int .i64 m.n,.int .u8 m.U.toNat,.int .u8 m.T.toNat,.int .u8 m.R.toNat,.int .u8 m.Q.toNat,.int .u8 m.O.toNat,.int .u8 m.N.toNat] 43)=W0 at Q0 HB0 Hz P0⊢;clear hb hbl;have Hsm:=S7 (iU.calls (W0:=W0) λW _=>bNc m W);rw[hsb]at Hsm;have Hor:=S7 (iU.calls (W0:=W0) λW _=>order_below q m W);obtain⟨r0,r1,r2,r3,r4,r5,r6⟩:=Q0.out.later0;obtain⟨s0,s1,s2,s3,s4,s5,s6⟩:=P0.out.later;clear Q0 Hz P0;refine nN m0 m0 ?_
      repeat (go_big_quiet_step ((first|(go_at_call 25;exact Hsm.out _)|(go_at_call 26;exact Hor.out _))))
      refine wpQuiet_nil ?_;rintro _ ⟨x,rfl⟩;clear r0 r1 r2 r3 r4 r5 r6 s0 s1 s2 s3 s4 s5 s6 Hsm Hor;have HBX:=S7 (show Below w.heap.size w x.w from HB0.out.trans (x.h.mono HB0.out.size));clear HB0
      by_cases ho:ord q m<0
      .have ho1:decide ((0:Int)<=ord q m)=false:=by simp;omega
       go_wp2
       go_roundw
       case rel=>exact⟨j+1+1,l7,by go_num,ah3,HBX.out⟩
       case measure=>simp[intOf];omega
      .have ho1:decide ((0:Int)<=ord q m)=true:=by simp;omega
       go_wp2
       go_ret
       exact⟨gW ak4,HBX.out⟩
   .have hk':k=xs.length:=l7
    go_wp2
    go_ret
    refine⟨gW ?_,hbl⟩;rw[hs.out,K3 l7];split<;>(try cases xs[k-1]?)<;>simp[gH]
 .have hl1:decide ((48:Int)<(xs.length:Int))=true:=by simp;omega
  go_enter func10,ntmps10
  go_wp2
  go_ret
  exact⟨gW (by simp[dE,hl]),Below.refl _ _⟩
end
section
open Go.RowKit Go.Sort Go.Proofs.Tryz
set_option maxRecDepth 100000
open Go.ChangeMaps (setBlock)
theorem cAc{α:Type}(f:α->Nat): ∀{l:List α},(l.map f).Nodup-> ∀p∈l,l.Perm (p::l.filter (λq=>f q !=f p))
 |[],_,p,hp=>by simp at hp
 |a::l,hn,p,hp=>by
  simp only[N7,List.nodup_cons]at hn
  rcases E2.1 hp with rfl|b
  .have e:l.filter (λq=>f q !=f p)=l:=by rw[List.filter_eq_self];intro q hq;rw[bne_iff_ne];intro h;exact hn.1 (R2.2 ⟨q,hq,h⟩)
   simp[e]
  .have c:f a≠f p:=λh=>hn.1 (R2.2 ⟨p,b,h.symm⟩);rw[T2 (by rw[bne_iff_ne];exact c)];exact((cAc f hn.2 p b).cons a).trans (List.Perm.swap _ _ _)
def bAw (Z:List (MapEntry×Mono))(seen:Array Nat):List (MapEntry×Mono):=Z.filter λp=>!seen.contains p.1.born
def nz (m:Mono):Bool:=m.n !=0
theorem zip_mem{es:List MapEntry}{L:List Mono}(h:es.map kvE=L.map kvM){p:MapEntry×Mono}(hp:p∈es.zip L):kvE p.1=kvM p.2:=by
 induction es generalizing L with
 |nil=>simp at hp
 |cons e es ih=>
  cases L with
  |nil=>simp at hp
  |cons m L=>
   simp only[N7,List.cons.injEq]at h;simp only[List.zip_cons_cons,E2]at hp
   rcases hp with rfl|hp
   .exact h.1
   .exact ih h.2 hp
theorem bLz{es:Array MapEntry}{L:List Mono}(hl:es.toList.length=L.length)(seen:Array Nat):(bAw (es.toList.zip L) seen).map (·.1)=(leftOf es seen).toList:=by unfold bAw leftOf;rw[U3];rw[show(es.toList.zip L).filter (λp=>!seen.contains p.1.born)=(es.toList.zip L).filter ((λe:MapEntry=>!seen.contains e.born)∘Prod.fst)from rfl];rw[<-List.filter_map,T3 l7]
theorem left_step{es:Array MapEntry}{L:List Mono}(hkv:es.toList.map kvE=L.map kvM)(hnd:(es.toList.map (·.born)).Nodup){seen:Array Nat}{e:MapEntry}(he:e∈(leftOf es seen).toList):
  ∃m,e.key= .agg #[k7 m.U.toNat,k7 m.T.toNat,k7 m.R.toNat,k7 m.Q.toNat,k7 m.O.toNat,k7 m.N.toNat]/\e.val= k6 m.n/\(bAw (es.toList.zip L) seen).Perm ((e,m)::bAw (es.toList.zip L) (seen.push e.born)):=by
 have d:es.toList.length=L.length:=by simpa using congrArg Q8 hkv
 rw[<-bLz d]at he;obtain⟨⟨f,m⟩,c,rfl⟩:=R2.1 he;have b:=zip_mem hkv (T4.1 c).1;simp only[kvE,kvM,Prod.mk.injEq]at b;refine⟨m,b.1,b.2,?_⟩
 have a:((bAw (es.toList.zip L) seen).map λp=>p.1.born).Nodup:=by
  have h1:((es.toList.zip L).map λp=>p.1.born).Nodup:=by rw[show(λp:MapEntry×Mono=>p.1.born)=(·.born)∘Prod.fst from rfl,<-List.map_map,T3 l7];exact hnd
  exact h1.sublist (List.Sublist.map _ List.filter_sublist)
 have h:=cAc (λp:MapEntry×Mono=>p.1.born) a (f,m) c;refine h.trans (List.Perm.of_eq ?_)
 congr 1
 unfold bAw;rw[List.filter_filter];apply List.filter_congr;intro p _;simp only[Array.contains_push,Bool.not_or];cases seen.contains p.1.born<;>simp[bne]
def jU (L:List Mono):List Mono×Int:=if dE (nU L)then (nU L,0)else ([],21)
def bAy (w:World)(r:List Mono×Int)(e:Ending)(w':World):Prop:=
 ∃v,e= .returned (.tuple #[v,.int .i64 r.2])/\Below w.heap.size w w'/\Res w.heap.size w' v r.1
theorem bAy.A{w w':World}{r:List Mono×Int}{e:Ending}(h:bAy w r e w'): ∃A c,e= .returned (.tuple #[.slice A r.1.length c,k6 r.2])/\Below w.heap.size w w'/\mC w' A r.1:=by obtain⟨v,rfl,a,A,c,rfl,hr⟩:=h;exact⟨A,c,rfl,a,(Res.monos (B:=w.heap.size) ⟨A,c,rfl,hr⟩).1⟩
theorem bRi(m:Mono)(w:World):(V4 43 #[(0,k6 m.n),(1,.agg #[k7 m.U.toNat,k7 m.T.toNat,k7 m.R.toNat,k7 m.Q.toNat,k7 m.O.toNat,k7 m.N.toNat])]).run prog w= .ok (.agg #[k6 m.n,k7 m.U.toNat,k7 m.T.toNat,k7 m.R.toNat,k7 m.Q.toNat,k7 m.O.toNat,k7 m.N.toNat]) w:=run_build w _ _ _ m0
theorem info_mono:(prog.info? 43).map (λi=>(i.zero,i.size,i.bytes))=some (some (.agg #[k6 0,k7 0,k7 0,k7 0,k7 0,k7 0,k7 0]),7,16):=m0
theorem cells_at{W:World}{g:Nat}{t:TypeId}{m:Mono}(hb:W.heap[g]?=some (.cells #[k6 m.n,k7 m.U.toNat,k7 m.T.toNat,k7 m.R.toNat,k7 m.Q.toNat,k7 m.O.toNat,k7 m.N.toNat] t)): ∀j u,m.cells[j]?=some u->W.cell? ((⟨g,0,none⟩:Addr).add j)=some u:=λj u hu=>by
 have e:((⟨g,0,none⟩:Addr).add j)=⟨g,j,none⟩:=by unfold Addr.add;split<;>simp_all
 rw[e];unfold D0;rw[hb]
 simpa[Mono.cells]using hu
theorem bVj{w w1:World}{r:Nat}(o:Obj)(h:w1=w\/w1=w.drew):w.grownBy (setBlock w1 r o) (some r):=by
 have hs: ∀h:Array Obj,h.size<=(h.setIfInBounds r o).size:=λh=>by simp
 have b: ∀(h:Array Obj) (i:Nat),r≠i->(h.setIfInBounds r o)[i]?=h[i]?:=λh i a=>by simp[a]
 rcases h with rfl|rfl<;>exact⟨rfl,rfl,rfl,hs _,λi hi a=>b _ _ (λe=>a (by rw[e]))⟩
theorem left_eq{W:World}{b r:Nat}{es:Array MapEntry}{L:List Mono}{c c' s:Nat}{x:Option Nat}{seen:Array Nat}(hl:es.toList.length=L.length)(h1:W.heap[b]?=some (.map es c))(h2:W.heap[r]?=some (.mapIter x s seen c')):
  W.rangeLeft b r=(bAw (es.toList.zip L) seen).length:=by unfold World.rangeLeft;rw[h1,h2];show(leftOf es seen).size=_;rw[<-U2,<-bLz hl,O4]
theorem perm_skip{C F:List Mono}{Z Z':List (MapEntry×Mono)}{e:MapEntry}{m:Mono}(h:(C++(Z.map (·.2)).filter nz).Perm F)(hp:Z.Perm ((e,m)::Z'))(hm:nz m=false):(C++(Z'.map (·.2)).filter nz).Perm F:=by
 have h1:(Z.map (·.2)).Perm (m::Z'.map (·.2)):=by simpa using hp.map (·.2)
 have h2:=h1.filter nz;rw[T5 (by rw[hm];simp)]at h2;exact(h2.symm.append_left C).trans h
theorem perm_take1{C F:List Mono}{Z Z':List (MapEntry×Mono)}{e:MapEntry}{m:Mono}(h:(C++(Z.map (·.2)).filter nz).Perm F)(hp:Z.Perm ((e,m)::Z'))(hm:nz m=true):(C++[m]++(Z'.map (·.2)).filter nz).Perm F:=by
 have h1:(Z.map (·.2)).Perm (m::Z'.map (·.2)):=by simpa using hp.map (·.2)
 have h2:=h1.filter nz;rw[T2 hm]at h2;rw[List.append_assoc];exact(h2.symm.append_left C).trans h
theorem owns_far{w w':World}{B it:Nat}{v:Value}{C:List Mono}(h:bTj w B v C)(hg:w.grownBy w' (some it))(hit:it<B):bTj w' B v C:=by
 refine World.ownsRow.kept h hg ?_
 rcases h.2 with ⟨rfl,_⟩|⟨g,a,cur,rfl,b,_⟩
 .exact .inl rfl
 .refine .inr λe=>?_;simp[Value.ownBlock]at e;omega
theorem own_ne{w:World}{B it:Nat}{v:Value}{C:List Mono}(h:bTj w B v C)(hit:it<B):some it≠v.ownBlock:=by
 rcases h.2 with ⟨rfl,_⟩|⟨g,a,cur,rfl,b,_⟩
 .simp[Value.ownBlock]
 .intro e;simp[Value.ownBlock]at e;omega
theorem bNj{B:Nat}{a w w':World}{row:Option Nat}(h:Below B a w)(hg:w.grownBy w' row)(hB:B<=w.heap.size)(hr: ∀k,row=some k->B<=k):Below B a w':=h.grown hg hB hr
set_option maxHeartbeats 1000000 in
theorem bQk(r:Nat)(L:List Mono)(w:World)(hm:pS w r L)(hA:lX L)(hL:L.length<=1000000):
  Calls prog 93 #[.map (some r)] w (bAy w (jU L)):=by
 obtain⟨es,clock,hb,hkv,hlt,hnd⟩:=hm;have hr:r<w.heap.size:=(U4.1 hb).1
 have hrange:(Instr.range 154 (.map (some r))).run prog w= .ok (.pointer (some ⟨w.heap.size,0,none⟩)) (w.alloc (.mapIter (some r) clock #[] clock)):=by unfold Instr.range;simp only[G9,run_underlying underlying154,H6,P7 hb,H3];rfl
 have HA:=S7 hA;have Hkv:=S7 hkv;have Hnd:=S7 hnd;have Hlt:=S7 hlt;have Hb:=S7 hb;clear hA hkv hnd hlt hb
 go_enter func93,ntmps93
 go_wp2
 go_loopw [4] (λv wr=> ∃(seen:Array Nat) (C:List Mono),wr.heap[w.heap.size]?=some (.mapIter (some r) clock seen clock)/\bTj wr (w.heap.size+1) v C/\Hid ((C++((bAw (es.toList.zip L) seen).map (·.2)).filter nz).Perm (L.filter nz))/\Below w.heap.size w wr) (λ_ wr=>wr.rangeLeft r w.heap.size)
 case atStart=>
  refine⟨#[],[],heap_alloc_new _ _,World.ownsRow_nil _ _ _ _,?_,(Below.refl _ _).alloc (B0 _) _⟩;show List.Perm _ _;have hl:es.toList.length=L.length:=by simpa using congrArg Q8 Hkv.out
  have e:bAw (es.toList.zip L) #[]=es.toList.zip L:=by simp[bAw]
  rw[e,List.map_snd_zip l7];simp
 case round=>
  obtain⟨seen,C,hit,hown,hperm,hbl⟩:=hrel;have hbr:wr.heap[r]?=some (.map es clock):=(hbl.block r hr).trans Hb.out
  rcases run_next_at (P:=prog) wr 0 w.heap.size r clock clock seen es clock hit hbr Hlt.out (B0 _)with ⟨h0,hn⟩|⟨e,he,w1,hw1,hn⟩
  .have hl:es.toList.length=L.length:=by simpa using congrArg Q8 Hkv.out
   have hz:bAw (es.toList.zip L) seen=[]:=by have h1:=bLz hl seen;rw[show(leftOf es seen).toList=[]from F7 (by simpa using h0)]at h1;exact List.map_eq_nil_iff.1 h1
   have hpm:C.Perm (L.filter nz):=by have:=hperm.out;rw[hz]at this;simpa using this
   have hCl:C.length<=1000000:=by have h1:=hpm.length_eq;have h2:=T6 nz L;omega
   have HC:=S7 (show ∀T:List Mono,T.Perm C->T.Pairwise (λa b=>b.key<=a.key)->T=nU L from λT h1 h2=>canon_of HA.out (h1.trans hpm) h2);have Hown:=S7 hown;have HBL:=S7 hbl;clear hit hbr hperm hpm hz hl h0 hown hbl
   rcases Hown.out.2 with ⟨hnil,hC⟩|⟨g,cap,cur,hv,hg,_⟩
   .go_wp2_with fail
    rw[hnil];refine(sort_none _ _ _).mono ?_;rintro e w1 ⟨rfl,hb1⟩;obtain rfl:C=[]:=F7 hC;have hcan:nU L=[]:=(HC.out [] (List.Perm.refl _) List.Pairwise.nil).symm;have Hcan:=S7 hcan;clear hcan;have hb1':=S7 hb1;clear hb1
    go_wp2_with fail
    refine(kN none 0 [] _ mC.nil m9).mono ?_;rintro e w2 ⟨rfl,hb2⟩;have hrb:dE []=true:=rfl;have HB2:=S7 (show Below w.heap.size w w2 from (HBL.out.trans (hb1'.out.mono HBL.out.size)).trans (hb2.mono (by have:=HBL.out.size;have:=hb1'.out.size;omega)));clear hb2 hb1' HBL
    go_wp2
    go_ret2
    have e:jU L=([],0):=by unfold jU;rw[Hcan.out];rfl
    rw[e];exact⟨_,rfl,HB2.out,Res.nil _ _ _ _⟩
   .have hrow:Row wr g C:=by have h:=Hown.out;rw[hv]at h;exact bTj.row h
    have hgl:g<wr.heap.size:=(World.ownsRow.lt Hown.out g (by rw[hv];rfl)).2;have HG:=S7 hg;have HR:=S7 hrow;clear hrow hg
    go_wp2_with fail
    rw[hv];refine(sort_any g cap C wr HR.out hgl l7).mono ?_;rintro e w1 ⟨rfl,T,hTp,hTs,hTr,hsz,hos,htp,hou,hkeep⟩;have hT:T=nU L:=HC.out T hTp hTs;have hTl:T.length=C.length:=hTp.length_eq;have hb1:Below w.heap.size w w1:=HBL.out.trans ⟨hos,htp,hou,hsz,λk hk=>hkeep k (l5 hk HBL.out.size) (by have:=HG.out;omega)⟩;have HB1:=S7 hb1;have hgl1:g<w1.heap.size:=l5 hgl hsz;have HTr:=S7 hTr;have HT:=S7 hT;have HTl:=S7 hTl;clear hTp hTs hTr hsz hos htp hou hkeep hT hTl hb1 HR HBL
    go_wp2_with fail
    rw[<-HTl.out];refine(kN _ cap T _ HTr.out.monos (by rw[HTl.out];omega)).mono ?_;rintro e w2 ⟨rfl,hb2⟩;have HB2:=S7 (show Below w.heap.size w w2 from HB1.out.trans (hb2.mono HB1.out.size));have HTr2:=S7 (show Row w2 g T from HTr.out.below hb2 hgl1);clear hb2 HB1 HTr;cases hrb:dE T
    .go_wp2
     go_ret2
     have e:jU L=([],21):=by unfold jU;rw[<-HT.out,hrb];rfl
     rw[e];exact⟨_,rfl,HB2.out,Res.nil _ _ _ _⟩
    .go_wp2
     go_ret2
     have e:jU L=(T,0):=by unfold jU;rw[<-HT.out,hrb];rfl
     rw[e];refine⟨_,rfl,HB2.out,some ⟨g,0,none⟩,cap,?_,.inr ⟨g,rfl,by have:=HG.out;omega,HTr2.out⟩⟩;simp[HTl.out]
  .obtain⟨m,hk,hv,hp⟩:=left_step Hkv.out Hnd.out he;rw[hk,hv]at hn
   obtain⟨W1,hW1⟩: ∃W1,W1=setBlock w1 w.heap.size (.mapIter (some r) clock (seen.push e.born) clock):=⟨_,rfl⟩
   rw[<-hW1]at hn;have hg1:wr.grownBy W1 (some w.heap.size):=by rw[hW1];exact bVj _ hw1
   have hit1:W1.heap[w.heap.size]?=some (.mapIter (some r) clock (seen.push e.born) clock):=by
    rw[hW1]
    have hlt:w.heap.size<w1.heap.size:=by
     have:=(U4.1 hit).1
     rcases hw1 with rfl|rfl<;>exact this
    simp[setBlock,hlt]
   have hbr1:W1.heap[r]?=some (.map es clock):=(hg1.block r (U4.1 hbr).1 (by intro h;injection h with h;omega)).trans hbr
   have hen:(Instr.entry (.pointer (some ⟨w.heap.size,0,none⟩))).run prog W1= .ok (.tuple #[.agg #[.int .u8 m.U.toNat,.int .u8 m.T.toNat,.int .u8 m.R.toNat,.int .u8 m.Q.toNat,.int .u8 m.O.toNat,.int .u8 m.N.toNat],.int .i64 m.n]) W1:=by
    have:=run_entry_at (P:=prog) W1 w.heap.size r clock seen es clock e hit1 hbr1 (by
     have:=he;unfold leftOf at this;rw[U3]at this
     exact(T4.1 this).1) Hnd.out
    rw[hk,hv]at this;exact this
   have Hown:=S7 (owns_far hown hg1 (S9 _));have HBL:=S7 (bNj hbl hg1 hbl.size (λk hk=>by injection hk with hk;omega));have Hit:=S7 hit1;have Hbr:=S7 hbr1;have hl:es.toList.length=L.length:=by simpa using congrArg Q8 Hkv.out
   have Hmes:=S7 (show wr.rangeLeft r w.heap.size=(bAw (es.toList.zip L) (seen.push e.born)).length+1 by rw[left_eq hl hbr hit,hp.length_eq];rfl);have Hl:=S7 hl
   have hCl:C.length<=1000000:=by have h1:=hperm.out.length_eq;have h2:=T6 nz L;simp only[F4]at h1;omega
   have Hp:=S7 hp;clear hl hp;clear hW1 hg1 hit1 hbr1 hit hbr hown hbl hw1 he hk hv;have hbu:=bRi m
   by_cases hz:m.n=0
   .have hz1:(m.n !=0)=false:=by simp[hz]
    have Hz:=S7 hz;clear hz
    go_wp2
    have q1:(W1.alloc (.cells #[.int .u8 m.U.toNat,.int .u8 m.T.toNat,.int .u8 m.R.toNat,.int .u8 m.Q.toNat,.int .u8 m.O.toNat,.int .u8 m.N.toNat] 41)).heap[w.heap.size]?=some (.mapIter (some r) clock (seen.push e.born) clock):=(Below.heap_alloc _ _ _ (U4.1 Hit.out).1).trans Hit.out;have q2:(W1.alloc (.cells #[.int .u8 m.U.toNat,.int .u8 m.T.toNat,.int .u8 m.R.toNat,.int .u8 m.Q.toNat,.int .u8 m.O.toNat,.int .u8 m.N.toNat] 41)).heap[r]?=some (.map es clock):=(Below.heap_alloc _ _ _ (U4.1 Hbr.out).1).trans Hbr.out
    go_roundw
    case rel=>exact⟨seen.push e.born,C,q1,Hown.out.alloc _,perm_skip hperm.out Hp.out (by simp[nz,Hz.out]),HBL.out.alloc HBL.out.size _⟩
    case measure=>rw[left_eq Hl.out q2 q1,Hmes.out];omega
   .have hz1:(m.n !=0)=true:=by simp[hz]
    clear hz;obtain⟨i0,hi0,hi1,hi2,hi3⟩:=info_parts info_mono
    go_wp2_with (at_builtin;refine wpList_append_own_at _ rfl (.tmp 16) (.tmp 20) 40 rfl (w.heap.size+1) 43 i0 _ 7 16 underlying40 hi0 hi1 hi2 hi3 rfl m6 _ C.length (flat C) rfl ((Hown.out.alloc _).alloc _) ⟨W1.heap.size+1,0,none⟩ 1 1 m.cells rfl rfl ?hx ?h1 ?h2 ?h3 ?h4 ?_)
    case hx=>exact cells_at (by rw[<-V5];exact heap_alloc_new _ _)
    case h1=>exact bYj m
    case h2=>unfold maxLen;omega
    case h3=>omega
    case h4=>have:=HBL.out.size;simp;omega
    intro v' w2 hown2 hgrow2 _ _;have hs2:=HBL.out.size
    have e1:((W1.alloc (.cells #[.int .u8 m.U.toNat,.int .u8 m.T.toNat,.int .u8 m.R.toNat,.int .u8 m.Q.toNat,.int .u8 m.O.toNat,.int .u8 m.N.toNat] 41)).alloc (.cells #[.int .i64 m.n,.int .u8 m.U.toNat,.int .u8 m.T.toNat,.int .u8 m.R.toNat,.int .u8 m.Q.toNat,.int .u8 m.O.toNat,.int .u8 m.N.toNat] 43)).heap[w.heap.size]?=some (.mapIter (some r) clock (seen.push e.born) clock):=by rw[Below.heap_alloc _ _ _ (by have:=(U4.1 Hit.out).1;simp;omega),Below.heap_alloc _ _ _ (U4.1 Hit.out).1];exact Hit.out
    have e2:((W1.alloc (.cells #[.int .u8 m.U.toNat,.int .u8 m.T.toNat,.int .u8 m.R.toNat,.int .u8 m.Q.toNat,.int .u8 m.O.toNat,.int .u8 m.N.toNat] 41)).alloc (.cells #[.int .i64 m.n,.int .u8 m.U.toNat,.int .u8 m.T.toNat,.int .u8 m.R.toNat,.int .u8 m.Q.toNat,.int .u8 m.O.toNat,.int .u8 m.N.toNat] 43)).heap[r]?=some (.map es clock):=by rw[Below.heap_alloc _ _ _ (by have:=(U4.1 Hbr.out).1;simp;omega),Below.heap_alloc _ _ _ (U4.1 Hbr.out).1];exact Hbr.out
    have q1:w2.heap[w.heap.size]?=some (.mapIter (some r) clock (seen.push e.born) clock):=(hgrow2.block _ (U4.1 e1).1 (own_ne Hown.out (S9 _))).trans e1;have q2:w2.heap[r]?=some (.map es clock):=(hgrow2.block _ (U4.1 e2).1 (own_ne Hown.out l7)).trans e2;have hb2:Below w.heap.size w ((W1.alloc (.cells #[.int .u8 m.U.toNat,.int .u8 m.T.toNat,.int .u8 m.R.toNat,.int .u8 m.Q.toNat,.int .u8 m.O.toNat,.int .u8 m.N.toNat] 41)).alloc (.cells #[.int .i64 m.n,.int .u8 m.U.toNat,.int .u8 m.T.toNat,.int .u8 m.R.toNat,.int .u8 m.Q.toNat,.int .u8 m.O.toNat,.int .u8 m.N.toNat] 43)):=(HBL.out.alloc hs2 _).alloc q9 _
    have hb3:Below w.heap.size w w2:=bNj hb2 hgrow2 hb2.size (λk hk=>by
     have:=(World.ownsRow.lt Hown.out k hk).1
     omega)
    have Q1:=S7 q1;have Q2:=S7 q2
    have HO2:=S7 (show bTj w2 (w.heap.size+1) v' (C++[m]) by
     have:=hown2;unfold bTj;rw[flat_snoc,F4]
     exact this)
    have HB3:=S7 hb3;clear e1 e2 q1 q2 hb2 hb3 hown2 hgrow2 Hown HBL Hit Hbr hs2 hi0 hi1 hi2 hi3 hbu hen hn
    go_wp2
    go_roundw
    case rel=>exact⟨seen.push e.born,C++[m],Q1.out,HO2.out,perm_take1 hperm.out Hp.out hz1,HB3.out⟩
    case measure=>rw[left_eq Hl.out Q2.out Q1.out,Hmes.out];omega
end
section
open Go.RowKit Go.Sort Go.Proofs.Tryz
set_option maxRecDepth 100000
open Go.ChangeMaps (setBlock)
def vM (m:Mono)(v:Int)(L:List Mono):List Mono:=setTo m (wrap64 (rT m L+v)) L
def jD (g:Mono->Int):List Mono->List Mono->List Mono
 |L,[]=>L
 |L,m::p=>jD g (vM m (g m) L) p
def cD (p q:List Mono)(s:Int):List Mono×Int:=if dE p&&dE q then jU (jD (λm=>wrap64 (s*m.n)) (jD Mono.n [] p) q)else ([],20)
theorem pS.alloc{w:World}{r:Nat}{L:List Mono}(h:pS w r L)(o:Obj):pS (w.alloc o) r L:=by obtain⟨d,a,b,h1,h2,c⟩:=h;exact⟨d,a,(Below.heap_alloc _ _ _ (U4.1 b).1).trans b,h1,h2,c⟩
theorem pS.drew{w:World}{r:Nat}{L:List Mono}(h:pS w r L):pS w.drew r L:=h
theorem pS.new(w:World):pS (w.alloc (.map #[] 0)) w.heap.size []:=⟨#[],0,heap_alloc_new _ _,rfl,m9,m9⟩
theorem bPi{k m:Mono}:k.sameE m=true↔k.key=m.key:=by rw[key_E];simp[Mono.sameE,Mono.E]
theorem yV{k y:Mono}{x:Int}: ∀{L:List Mono},y∈setTo k x L->y={k with n:=x}\/(y∈L)
 |[],h=>by simp[setTo]at h;exact .inl h
 |m::L,h=>by
  unfold setTo at h;split at h
  .rcases E2.1 h with h|h
   .exact .inl h
   .exact .inr al5
  .rcases E2.1 h with h|h
   .exact .inr al5
   .rcases yV h with h|h
    .exact .inl h
    .exact .inr al5
theorem bBl(k:Mono)(x:Int): ∀{L:List Mono},lX L->lX (setTo k x L)
 |[],_=>by simp[setTo,lX]
 |m::L,h=>by
  obtain⟨h1,h2⟩:=E5.1 h;unfold setTo;split
  .rename_i hs;have e:k.key=m.key:=bPi.1 hs;refine E5.2 ⟨λy hy=>?_,h2⟩;show k.key≠y.key;rw[e];exact h1 y hy
  .rename_i hs;refine E5.2 ⟨λy hy=>?_,bBl k x h2⟩
   rcases yV hy with rfl|hy
   .intro e;exact hs (bPi.2 e.symm)
   .exact h1 y hy
theorem sJ(g:Mono->Int): ∀(p:List Mono) {L:List Mono},lX L->lX (jD g L p)
 |[],_,h=>h
 |m::p,_,h=>sJ g p (bBl m _ h)
theorem uZ(k:Mono)(x:Int): ∀L:List Mono,(setTo k x L).length<=L.length+1
 |[]=>by simp[setTo]
 |m::L=>by
  unfold setTo;split
  .simp
  .have:=uZ k x L;simp;omega
theorem vN{B:Nat}{a w:World}{r:Nat}(h:Below B a w)(hB:B<=r)(o:Obj):Below B a (setBlock w r o):=
 ⟨h.os,h.tape,h.output,by
  have:=h.size
  simpa[setBlock]using this,λi hi=>by
  have b:r≠i:=l7
  have:=h.block i hi;rw[<-this]
  simp[setBlock,b]⟩
set_option maxHeartbeats 1000000 in
theorem both_any(A B:Option Addr)(c d:Nat)(p q:List Mono)(s:Int)(w:World)(ha:mC w A p)(hb:mC w B q)(hp:p.length<=140737488355328)(hq:q.length<=140737488355328):
  Calls prog 97 #[.slice A p.length c,.slice B q.length d,k6 s] w (bAy w (cD p q s)):=by
 have Ha:=S7 ha;have Hb:=S7 hb;clear ha hb;cases hrp:dE p
 .have e:cD p q s=([],20):=by unfold cD;rw[hrp];rfl
  rw[e]
  go_enter func97,ntmps97
  go_wp2_with (go_at_call 10;refine(kN A c p _ Ha.out hp).mono ?_;rintro e w1 ⟨rfl,hb1⟩)
  go_ret2
  exact⟨_,rfl,hb1,Res.nil _ _ _ _⟩
 .cases hrq:dE q
  .have e:cD p q s=([],20):=by unfold cD;rw[hrp,hrq];rfl
   rw[e]
   go_enter func97,ntmps97
   go_wp2_with fail
   refine(kN A c p _ Ha.out hp).mono ?_;rintro e w1 ⟨rfl,hb1⟩;have H1:=S7 hb1;clear hb1
   go_wp2_with fail
   refine(kN B d q _ (Hb.out.below H1.out) hq).mono ?_;rintro e w2 ⟨rfl,hb2⟩;have H2:=S7 (show Below w.heap.size w w2 from H1.out.trans (hb2.mono H1.out.size));clear hb2
   go_wp2
   go_ret2
   exact⟨_,rfl,H2.out,Res.nil _ _ _ _⟩
  .have e:cD p q s=jU (jD (λm=>wrap64 (s*m.n)) (jD Mono.n [] p) q):=by unfold cD;rw[hrp,hrq];rfl
   rw[e]
   have hp48:p.length<=48:=by unfold dE at hrp;simp at hrp;exact hrp.1
   have hq48:q.length<=48:=by unfold dE at hrq;simp at hrq;exact hrq.1
   have hmm:= @run_makeMap prog
   go_enter func97,ntmps97
   go_wp2_with fail
   refine(kN A c p _ Ha.out hp).mono ?_;rintro e w1 ⟨rfl,hb1⟩;have H1:=S7 hb1;clear hb1
   go_wp2_with fail
   refine(kN B d q _ (Hb.out.below H1.out) hq).mono ?_;rintro e w2 ⟨rfl,hb2⟩;have H2:=S7 (show Below w.heap.size w w2 from H1.out.trans (hb2.mono H1.out.size));clear hb2 H1
   go_wp2
   generalize hr:w2.heap.size=r;have hrw:w.heap.size<=r:=by have:=H2.out.size;omega
   have hm0:pS (w2.alloc (.map #[] 0)) r []:=by rw[<-hr];exact pS.new _
   have hb0:Below w.heap.size w (w2.alloc (.map #[] 0)):=H2.out.alloc H2.out.size _;have HM0:=S7 hm0;have HB0:=S7 hb0;clear hm0 hb0 hr H2
   go_loopw [24] (λi wr=> ∃(k:Nat) (L:List Mono),k<=p.length/\i= .int .i64 k/\pS wr r L/\L.length<=k/\Hid (jD Mono.n [] p=jD Mono.n L (p.drop k))/\Below w.heap.size w wr) (λi _=>p.length-(intOf i).toNat)
   case atStart=>exact⟨0,[],C4 _,rfl,HM0.out,m9,rfl,HB0.out⟩
   case round=>
    obtain⟨k,L,hk,rfl,hm,hLk,hL,hbl⟩:=hrel;have HM:=S7 hm;clear hm
    by_cases hlt:k<p.length
    .obtain⟨m,hm,dm⟩:=nY hlt;obtain⟨b,o,rfl,hB,c0,c1,c2,c3,c4,c5,c6⟩:=Ha.out.below hbl k m hm;have q0:iZ (wr.alloc (.cells #[.int .i64 m.n,.int .u8 m.U.toNat,.int .u8 m.T.toNat,.int .u8 m.R.toNat,.int .u8 m.Q.toNat,.int .u8 m.O.toNat,.int .u8 m.N.toNat] 43)) wr.heap.size 0 m:=by simp[iZ,go_sem]
     have Q0:=S7 q0;have HM1:=S7 (HM.out.alloc (.cells #[.int .i64 m.n,.int .u8 m.U.toNat,.int .u8 m.T.toNat,.int .u8 m.R.toNat,.int .u8 m.Q.toNat,.int .u8 m.O.toNat,.int .u8 m.N.toNat] 43));have HB1:=S7 (hbl.alloc hbl.size (.cells #[.int .i64 m.n,.int .u8 m.U.toNat,.int .u8 m.T.toNat,.int .u8 m.R.toNat,.int .u8 m.Q.toNat,.int .u8 m.O.toNat,.int .u8 m.N.toNat] 43));have HL:=S7 (show jD Mono.n [] p=jD Mono.n (vM m m.n L) (p.drop (k+1)) by rw[hL.out,dm,jD]);clear q0 hm dm hB HM hL
     go_wp2
     clear c0 c1 c2 c3 c4 c5 c6;generalize hb:wr.heap.size=X at Q0⊢;generalize wr.alloc (.cells #[.int .i64 m.n,.int .u8 m.U.toNat,.int .u8 m.T.toNat,.int .u8 m.R.toNat,.int .u8 m.Q.toNat,.int .u8 m.O.toNat,.int .u8 m.N.toNat] 43)=W0 at Q0 HM1 HB1⊢;clear hb hbl;obtain⟨q0,q1,q2,q3,q4,q5,q6⟩:=Q0.out.zero;have hlk:=oW m HM1.out.drew;obtain⟨v0,st,w3,w4,hme,hlk1,hes,hm4,o4,hw4⟩:=bCs m (wrap64 (rT m L+m.n)) HM1.out.drew;have HM4:=S7 hm4;have HB4:=S7 (show Below w.heap.size w w4 by rw[hw4];exact vN HB1.out.drew hrw _);clear hm4 hw4 HM1 HB1 Q0
     go_region
     clear hlk hme hlk1 hes q0 q1 q2 q3 q4 q5 q6
     go_wp2
     go_roundw
     case rel=>exact⟨k+1,vM m m.n L,l7,by go_num,HM4.out,B1 (uZ _ _ _) l7,HL,HB4.out⟩
     case measure=>simp[intOf];omega
    .have HL:=S7 (show jD Mono.n [] p=L by rw[hL.out,K3 l7,jD]);have hLk':L.length<=48:=l7
     have HBL:=S7 hbl;clear hL hbl
     go_wp2
     go_loopw [40] (λi wr=> ∃(k:Nat) (T:List Mono),k<=q.length/\i= .int .i64 k/\pS wr r T/\T.length<=48+k/\Hid (jD (λm=>wrap64 (s*m.n)) L q=jD (λm=>wrap64 (s*m.n)) T (q.drop k))/\Below w.heap.size w wr) (λi _=>q.length-(intOf i).toNat)
     case atStart=>exact⟨0,L,C4 _,rfl,HM.out,l7,rfl,HBL.out⟩
     case round=>
      obtain⟨j,T,hj,rfl,hm,hTk,hT,hbl⟩:=hrel;have HMT:=S7 hm;clear hm HM HBL
      by_cases hlt2:j<q.length
      .obtain⟨m,hm,dm⟩:=nY hlt2;obtain⟨b,o,rfl,hB,c0,c1,c2,c3,c4,c5,c6⟩:=Hb.out.below hbl j m hm;have q0:iZ (wr.alloc (.cells #[.int .i64 m.n,.int .u8 m.U.toNat,.int .u8 m.T.toNat,.int .u8 m.R.toNat,.int .u8 m.Q.toNat,.int .u8 m.O.toNat,.int .u8 m.N.toNat] 43)) wr.heap.size 0 m:=by simp[iZ,go_sem]
       have Q0:=S7 q0;have HM1:=S7 (HMT.out.alloc (.cells #[.int .i64 m.n,.int .u8 m.U.toNat,.int .u8 m.T.toNat,.int .u8 m.R.toNat,.int .u8 m.Q.toNat,.int .u8 m.O.toNat,.int .u8 m.N.toNat] 43));have HB1:=S7 (hbl.alloc hbl.size (.cells #[.int .i64 m.n,.int .u8 m.U.toNat,.int .u8 m.T.toNat,.int .u8 m.R.toNat,.int .u8 m.Q.toNat,.int .u8 m.O.toNat,.int .u8 m.N.toNat] 43));have HT:=S7 (show jD (λm=>wrap64 (s*m.n)) L q=jD (λm=>wrap64 (s*m.n)) (vM m (wrap64 (s*m.n)) T) (q.drop (j+1)) by rw[hT.out,dm,jD]);clear q0 hm dm hB HMT hT
       go_wp2
       clear c0 c1 c2 c3 c4 c5 c6;generalize hb:wr.heap.size=X at Q0⊢;generalize wr.alloc (.cells #[.int .i64 m.n,.int .u8 m.U.toNat,.int .u8 m.T.toNat,.int .u8 m.R.toNat,.int .u8 m.Q.toNat,.int .u8 m.O.toNat,.int .u8 m.N.toNat] 43)=W0 at Q0 HM1 HB1⊢;clear hb hbl;obtain⟨q0,q1,q2,q3,q4,q5,q6⟩:=Q0.out.zero;have hlk:=oW m HM1.out.drew;obtain⟨v0,st,w3,w4,hme,hlk1,hes,hm4,o4,hw4⟩:=bCs m (wrap64 (rT m T+wrap64 (s*m.n))) HM1.out.drew;have HM4:=S7 hm4;have HB4:=S7 (show Below w.heap.size w w4 by rw[hw4];exact vN HB1.out.drew hrw _);clear hm4 hw4 HM1 HB1 Q0
       go_region
       clear hlk hme hlk1 hes q0 q1 q2 q3 q4 q5 q6
       go_wp2
       go_roundw
       case rel=>exact⟨j+1,vM m (wrap64 (s*m.n)) T,l7,by go_num,HM4.out,B1 (uZ _ _ _) l7,HT,HB4.out⟩
       case measure=>simp[intOf];omega
      .have HT:=S7 (show jD (λm=>wrap64 (s*m.n)) (jD Mono.n [] p) q=T by rw[HL.out,hT.out,K3 l7,jD]);have HBL:=S7 hbl;have hT96:T.length<=1000000:=l7
       clear hT hbl HL
       go_wp2_with fail
       refine(bQk r T _ HMT.out (by rw[<-HT.out];exact sJ _ _ (sJ _ _ List.Pairwise.nil)) hT96).mono ?_;rintro e w5 ⟨v,rfl,hb5,hv⟩;have HV:=S7 (hv.mono HBL.out.size);have HB5:=S7 (HBL.out.trans (hb5.mono HBL.out.size));clear hb5 hv
       go_wp2
       go_ret2
       rw[HT.out];exact⟨_,rfl,HB5.out,HV.out⟩
end
section
open Go.RowKit Go.Sort Go.Proofs.Tryz
set_option maxRecDepth 100000
open Go.ChangeMaps (setBlock)
def mulM (a b:Mono):Mono:=⟨wrap64 (a.n*b.n),a.U+b.U,a.T+b.T,a.R+b.R,a.Q+b.Q,a.O+b.O,a.N+b.N⟩
def mQ (a:Mono):List Mono->List Mono->List Mono
 |L,[]=>L
 |L,b::q=>mQ a (vM (mulM a b) (wrap64 (a.n*b.n)) L) q
def kL (q:List Mono):List Mono->List Mono->List Mono
 |L,[]=>L
 |L,a::p=>kL q (mQ a L q) p
def mF (p q:List Mono):List Mono×Int:=if dE p&&dE q then jU (kL q [] p)else ([],20)
theorem bHx(a:Mono): ∀(q:List Mono) {L:List Mono},lX L->lX (mQ a L q)
 |[],_,h=>h
 |_::q,_,h=>bHx a q (bBl _ _ h)
theorem zA(q:List Mono): ∀(p:List Mono) {L:List Mono},lX L->lX (kL q L p)
 |[],_,h=>h
 |a::p,_,h=>zA q p (bHx a q h)
theorem iZ.setBlock_far{w:World}{b o r:Nat}{m:Mono}(h:iZ w b o m)(hne:b≠r)(x:Obj):iZ (setBlock w r x) b o m:=by
 have a: ∀c,(setBlock w r x).cell? ⟨b,c,none⟩=w.cell? ⟨b,c,none⟩:=λc=>by
  have:(w.heap.setIfInBounds r x)[b]?=w.heap[b]?:=by simp[Ne.symm hne]
  simp only[D0,setBlock,this]
 obtain⟨h0,h1,h2,f,h4,e,d⟩:=h;exact⟨(a _).trans h0,(a _).trans h1,(a _).trans h2,(a _).trans f,(a _).trans h4,(a _).trans e,(a _).trans d⟩
theorem iZ.lt{w:World}{b o:Nat}{m:Mono}(h:iZ w b o m):b<w.heap.size:=by
 rcases Nat.lt_or_ge b w.heap.size with a|c
 .exact a
 .have:=h.1;simp[D0,D2 c]at this
theorem bMo(a b:UInt8):((a.toNat:Int)+(b.toNat:Int))%256=((a+b).toNat:Int):=by rw[UInt8.toNat_add];omega
def ExpAt (w:World)(b:Nat)(m:Mono):Prop:=
 w.cell? ⟨b,0,none⟩=some (.int .u8 m.U.toNat)/\w.cell? ⟨b,1,none⟩=some (.int .u8 m.T.toNat)/\w.cell? ⟨b,2,none⟩=some (.int .u8 m.R.toNat)/\
 w.cell? ⟨b,3,none⟩=some (.int .u8 m.Q.toNat)/\w.cell? ⟨b,4,none⟩=some (.int .u8 m.O.toNat)/\w.cell? ⟨b,5,none⟩=some (.int .u8 m.N.toNat)
set_option maxHeartbeats 2000000 in
theorem mul_any(A B:Option Addr)(c d:Nat)(p q:List Mono)(w:World)(ha:mC w A p)(hb:mC w B q)(hp:p.length<=140737488355328)(hq:q.length<=140737488355328):
  Calls prog 55 #[.slice A p.length c,.slice B q.length d] w (bAy w (mF p q)):=by
 have Ha:=S7 ha;have Hb:=S7 hb;clear ha hb;cases hrp:dE p
 .have e:mF p q=([],20):=by unfold mF;rw[hrp];rfl
  rw[e]
  go_enter func55,ntmps55
  go_wp2_with (go_at_call 10;refine(kN A c p _ Ha.out hp).mono ?_;rintro e w1 ⟨rfl,hb1⟩)
  go_ret2
  exact⟨_,rfl,hb1,Res.nil _ _ _ _⟩
 .cases hrq:dE q
  .have e:mF p q=([],20):=by unfold mF;rw[hrp,hrq];rfl
   rw[e]
   go_enter func55,ntmps55
   go_wp2_with fail
   refine(kN A c p _ Ha.out hp).mono ?_;rintro e w1 ⟨rfl,hb1⟩;have H1:=S7 hb1;clear hb1
   go_wp2_with fail
   refine(kN B d q _ (Hb.out.below H1.out) hq).mono ?_;rintro e w2 ⟨rfl,hb2⟩;have H2:=S7 (show Below w.heap.size w w2 from H1.out.trans (hb2.mono H1.out.size));clear hb2
   go_wp2
   go_ret2
   exact⟨_,rfl,H2.out,Res.nil _ _ _ _⟩
  .have e:mF p q=jU (kL q [] p):=by unfold mF;rw[hrp,hrq];rfl
   rw[e]
   have hp48:p.length<=48:=by unfold dE at hrp;simp at hrp;exact hrp.1
   have hq48:q.length<=48:=by unfold dE at hrq;simp at hrq;exact hrq.1
   have hmm:= @run_makeMap prog
   go_enter func55,ntmps55
   go_wp2_with fail
   refine(kN A c p _ Ha.out hp).mono ?_;rintro e w1 ⟨rfl,hb1⟩;have H1:=S7 hb1;clear hb1
   go_wp2_with fail
   refine(kN B d q _ (Hb.out.below H1.out) hq).mono ?_;rintro e w2 ⟨rfl,hb2⟩;have H2:=S7 (show Below w.heap.size w w2 from H1.out.trans (hb2.mono H1.out.size));clear hb2 H1
   go_wp2
   generalize hr:w2.heap.size=r;have hrw:w.heap.size<=r:=by have:=H2.out.size;omega
   have hm0:pS (w2.alloc (.map #[] 0)) r []:=by rw[<-hr];exact pS.new _
   have hb0:Below w.heap.size w (w2.alloc (.map #[] 0)):=H2.out.alloc H2.out.size _;have HM0:=S7 hm0;have HB0:=S7 hb0;clear hm0 hb0 hr H2
   go_loopw [24] (λi wr=> ∃(k:Nat) (L:List Mono),k<=p.length/\i= .int .i64 k/\pS wr r L/\L.length<=k*48/\Hid (kL q [] p=kL q L (p.drop k))/\Below w.heap.size w wr) (λi _=>p.length-(intOf i).toNat)
   case atStart=>exact⟨0,[],C4 _,rfl,HM0.out,m9,rfl,HB0.out⟩
   case round=>
    obtain⟨k,L,hk,rfl,hm,hLk,hL,hbl⟩:=hrel;have HM:=S7 hm;clear hm
    by_cases hlt:k<p.length
    .obtain⟨a,hm,dm⟩:=nY hlt;obtain⟨b,o,rfl,hB,c0,c1,c2,c3,c4,c5,c6⟩:=Ha.out.below hbl k a hm;have q0:iZ (wr.alloc (.cells #[.int .i64 a.n,.int .u8 a.U.toNat,.int .u8 a.T.toNat,.int .u8 a.R.toNat,.int .u8 a.Q.toNat,.int .u8 a.O.toNat,.int .u8 a.N.toNat] 43)) wr.heap.size 0 a:=by simp[iZ,go_sem]
     have hrx:r<wr.heap.size:=by obtain⟨es,cl,h,_⟩:=HM.out;exact(U4.1 h).1
     have Q0:=S7 q0;have HM1:=S7 (HM.out.alloc (.cells #[.int .i64 a.n,.int .u8 a.U.toNat,.int .u8 a.T.toNat,.int .u8 a.R.toNat,.int .u8 a.Q.toNat,.int .u8 a.O.toNat,.int .u8 a.N.toNat] 43));have HB1:=S7 (hbl.alloc hbl.size (.cells #[.int .i64 a.n,.int .u8 a.U.toNat,.int .u8 a.T.toNat,.int .u8 a.R.toNat,.int .u8 a.Q.toNat,.int .u8 a.O.toNat,.int .u8 a.N.toNat] 43));have HL:=S7 (show kL q [] p=kL q (mQ a L q) (p.drop (k+1)) by rw[hL.out,dm,kL]);clear q0 hm dm hB HM hL
     go_wp2
     clear c0 c1 c2 c3 c4 c5 c6;generalize wr.heap.size=X at Q0 hrx⊢;generalize wr.alloc (.cells #[.int .i64 a.n,.int .u8 a.U.toNat,.int .u8 a.T.toNat,.int .u8 a.R.toNat,.int .u8 a.Q.toNat,.int .u8 a.O.toNat,.int .u8 a.N.toNat] 43)=W0 at Q0 HM1 HB1⊢;clear hbl
     go_loopw [30] (λi wi=> ∃(j:Nat) (T:List Mono),j<=q.length/\i= .int .i64 j/\pS wi r T/\T.length<=k*48+j/\Hid (mQ a L q=mQ a T (q.drop j))/\Below w.heap.size w wi/\iZ wi X 0 a) (λi _=>q.length-(intOf i).toNat)
     case atStart=>exact⟨0,L,C4 _,rfl,HM1.out,l7,rfl,HB1.out,Q0.out⟩
     case round=>
      obtain⟨j,T,hj,rfl,hm,hTk,hT,hbl,ha0⟩:=hrel;have HMT:=S7 hm;have HA0:=S7 ha0;clear hm ha0 HM1 HB1 Q0
      by_cases hlt2:j<q.length
      .obtain⟨b',hm,dm⟩:=nY hlt2;obtain⟨g,o',rfl,hB,d0,d1,d2,d3,d4,d5,d6⟩:=Hb.out.below hbl j b' hm;obtain⟨a0,a1,a2,a3,a4,a5,a6⟩:=HA0.out.zero;have hX:X<wr.heap.size:=iZ.lt HA0.out
       obtain⟨t,ht⟩: ∃t,t=mulM a b':=⟨_,rfl⟩
       have HT:=S7 (show mQ a L q=mQ a (vM t (wrap64 (a.n*b'.n)) T) (q.drop (j+1)) by rw[hT.out,dm,mQ,ht]);have s0:((a.U.toNat:Int)+(b'.U.toNat:Int))%256=(t.U.toNat:Int):=by rw[ht];exact bMo a.U b'.U
       have s1:((a.T.toNat:Int)+(b'.T.toNat:Int))%256=(t.T.toNat:Int):=by rw[ht];exact bMo a.T b'.T
       have s2:((a.R.toNat:Int)+(b'.R.toNat:Int))%256=(t.R.toNat:Int):=by rw[ht];exact bMo a.R b'.R
       have s3:((a.Q.toNat:Int)+(b'.Q.toNat:Int))%256=(t.Q.toNat:Int):=by rw[ht];exact bMo a.Q b'.Q
       have s4:((a.O.toNat:Int)+(b'.O.toNat:Int))%256=(t.O.toNat:Int):=by rw[ht];exact bMo a.O b'.O
       have s5:((a.N.toNat:Int)+(b'.N.toNat:Int))%256=(t.N.toNat:Int):=by rw[ht];exact bMo a.N b'.N
       have S0:=S7 s0;have S1:=S7 s1;have S2:=S7 s2;have S3:=S7 s3;have S4:=S7 s4;have S5:=S7 s5;have HBL:=S7 hbl;clear hm dm hT ht s0 s1 s2 s3 s4 s5 hbl hB
       go_wp2
       clear d0 d1 d2 d3 d4 d5 d6;refine wp_loop_rounds 7 ?_;rw[rounds_succ]
       go_wp2
       go_region
       go_wp2
       rw[rounds_succ]
       go_wp2
       go_region
       go_wp2
       rw[rounds_succ]
       go_wp2
       go_region
       go_wp2
       rw[rounds_succ]
       go_wp2
       go_region
       go_wp2
       rw[rounds_succ]
       go_wp2
       go_region
       go_wp2
       rw[rounds_succ]
       go_wp2
       go_region
       go_wp2
       rw[rounds_succ]
       go_wp2
       rw[S0.out,S1.out,S2.out,S3.out,S4.out,S5.out];have kE:ExpAt ((wr.alloc (.cells #[.int .i64 b'.n,.int .u8 b'.U.toNat,.int .u8 b'.T.toNat,.int .u8 b'.R.toNat,.int .u8 b'.Q.toNat,.int .u8 b'.O.toNat,.int .u8 b'.N.toNat] 43)).alloc (.cells #[.int .u8 t.U.toNat,.int .u8 t.T.toNat,.int .u8 t.R.toNat,.int .u8 t.Q.toNat,.int .u8 t.O.toNat,.int .u8 t.N.toNat] 41)).drew.drew.drew.drew.drew.drew (wr.heap.size+1) t:=by simp[ExpAt,go_sem]
       have kB:iZ ((wr.alloc (.cells #[.int .i64 b'.n,.int .u8 b'.U.toNat,.int .u8 b'.T.toNat,.int .u8 b'.R.toNat,.int .u8 b'.Q.toNat,.int .u8 b'.O.toNat,.int .u8 b'.N.toNat] 43)).alloc (.cells #[.int .u8 t.U.toNat,.int .u8 t.T.toNat,.int .u8 t.R.toNat,.int .u8 t.Q.toNat,.int .u8 t.O.toNat,.int .u8 t.N.toNat] 41)).drew.drew.drew.drew.drew.drew wr.heap.size 0 b':=by simp[iZ,go_sem]
       have kX:Below wr.heap.size wr ((wr.alloc (.cells #[.int .i64 b'.n,.int .u8 b'.U.toNat,.int .u8 b'.T.toNat,.int .u8 b'.R.toNat,.int .u8 b'.Q.toNat,.int .u8 b'.O.toNat,.int .u8 b'.N.toNat] 43)).alloc (.cells #[.int .u8 t.U.toNat,.int .u8 t.T.toNat,.int .u8 t.R.toNat,.int .u8 t.Q.toNat,.int .u8 t.O.toNat,.int .u8 t.N.toNat] 41)).drew.drew.drew.drew.drew.drew:=by go_grown
       have kA:=HA0.out.below kX hX;have kM:pS ((wr.alloc (.cells #[.int .i64 b'.n,.int .u8 b'.U.toNat,.int .u8 b'.T.toNat,.int .u8 b'.R.toNat,.int .u8 b'.Q.toNat,.int .u8 b'.O.toNat,.int .u8 b'.N.toNat] 43)).alloc (.cells #[.int .u8 t.U.toNat,.int .u8 t.T.toNat,.int .u8 t.R.toNat,.int .u8 t.Q.toNat,.int .u8 t.O.toNat,.int .u8 t.N.toNat] 41)).drew.drew.drew.drew.drew.drew r T:=(HMT.out.alloc _).alloc _;have kW:=HBL.out.trans (kX.mono HBL.out.size);have KE:=S7 kE;have KB:=S7 kB;have KA:=S7 kA;have KM:=S7 kM;have KW:=S7 kW;clear kE kB kX kA kM kW a0 a1 a2 a3 a4 a5 a6 S0 S1 S2 S3 S4 S5 HMT HBL HA0 hX;generalize ((wr.alloc (.cells #[.int .i64 b'.n,.int .u8 b'.U.toNat,.int .u8 b'.T.toNat,.int .u8 b'.R.toNat,.int .u8 b'.Q.toNat,.int .u8 b'.O.toNat,.int .u8 b'.N.toNat] 43)).alloc (.cells #[.int .u8 t.U.toNat,.int .u8 t.T.toNat,.int .u8 t.R.toNat,.int .u8 t.Q.toNat,.int .u8 t.O.toNat,.int .u8 t.N.toNat] 41)).drew.drew.drew.drew.drew.drew=W5 at KE KB KA KM KW⊢;generalize wr.heap.size=Y at KE KB⊢;obtain⟨x0,x1,x2,x3,x4,x5⟩:=KE.out;obtain⟨y0,y1,y2,y3,y4,y5,y6⟩:=KB.out.zero;obtain⟨z0,z1,z2,z3,z4,z5,z6⟩:=KA.out.zero;have hlk:=oW t KM.out.drew;obtain⟨v0,st,w3,w4,hme,hlk1,hes,hm4,o4,hw4⟩:=bCs t (wrap64 (rT t T+wrap64 (a.n*b'.n))) KM.out.drew;have HM4:=S7 hm4;have HB4:=S7 (show Below w.heap.size w w4 by rw[hw4];exact vN KW.out.drew hrw _);have HA4:=S7 (show iZ w4 X 0 a by rw[hw4];exact iZ.setBlock_far (show iZ W5.drew X 0 a from KA.out) l7 _);clear hm4 hw4 KE KB KA KM KW
       go_region
       clear hlk hme hlk1 hes x0 x1 x2 x3 x4 x5 y0 y1 y2 y3 y4 y5 y6 z0 z1 z2 z3 z4 z5 z6
       go_wp2
       go_roundw
       case rel=>exact⟨j+1,vM t (wrap64 (a.n*b'.n)) T,l7,by go_num,HM4.out,B1 (uZ _ _ _) l7,HT,HB4.out,HA4.out⟩
       case measure=>simp[intOf];omega
      .have HT:=S7 (show kL q [] p=kL q T (p.drop (k+1)) by rw[HL.out,hT.out,K3 l7,mQ]);have HBL:=S7 hbl;have hT2:T.length<=(k+1)*48:=l7
       clear hT hbl HL HA0
       go_wp2
       go_roundw
       case rel=>exact⟨k+1,T,l7,by go_num,HMT.out,hT2,HT,HBL.out⟩
       case measure=>simp[intOf];omega
    .have HT:=S7 (show kL q [] p=L by rw[hL.out,K3 l7,kL]);have HBL:=S7 hbl;have hT96:L.length<=1000000:=l7
     clear hL hbl
     go_wp2_with fail
     refine(bQk r L _ HM.out (by rw[<-HT.out];exact zA _ _ List.Pairwise.nil) hT96).mono ?_;rintro e w5 ⟨v,rfl,hb5,hv⟩;have HV:=S7 (hv.mono HBL.out.size);have HB5:=S7 (HBL.out.trans (hb5.mono HBL.out.size));clear hb5 hv
     go_wp2
     go_ret2
     rw[HT.out];exact⟨_,rfl,HB5.out,HV.out⟩
end
section
open Go.RowKit Go.Sort Go.Proofs.Tryz
def fB (a b:Int):Prop:=(18446744073709551616:Int)∣a-b
theorem fB.refl(a:Int):fB a a:=by unfold fB;omega
theorem fB.of_eq{a b:Int}(h:a=b):fB a b:=by unfold fB;omega
theorem fB.symm{a b:Int}(h:fB a b):fB b a:=by unfold fB at*;omega
theorem fB.trans{a b c:Int}(h:fB a b)(h2:fB b c):fB a c:=by unfold fB at*;omega
theorem fB.add{a b c d:Int}(h:fB a b)(h2:fB c d):fB (a+c) (b+d):=by unfold fB at*;omega
theorem fB.sub{a b c d:Int}(h:fB a b)(h2:fB c d):fB (a-c) (b-d):=by unfold fB at*;omega
theorem fB.mul{a b:Int}(h:fB a b)(c:Int):fB (a*c) (b*c):=by unfold fB at*;rw[<-Int.sub_mul];exact Int.dvd_trans h (Int.dvd_mul_right _ _)
theorem vC(a:Int):fB (wrap64 a) a:=by unfold fB wrap64;omega
theorem bAo(a:Int): -9223372036854775808<=wrap64 a/\wrap64 a<9223372036854775808:=by unfold wrap64;omega
theorem fB.eq{a b:Int}(h:fB a b)(h1: -9223372036854775808<=a/\a<9223372036854775808)(h2: -9223372036854775808<=b/\b<9223372036854775808):a=b:=by unfold fB at h;omega
def yE (F:Mono->Int):Prop:= ∀a b:Mono,a.key=b.key->F a=F b
def fV (f:Mono->Int):List Mono->Int
 |[]=>0
 |m::l=>f m+fV f l
def lin (F:Mono->Int)(L:List Mono):Int:=fV (λm=>m.n*F m) L
theorem sumOf_perm(f:Mono->Int){l m:List Mono}(h:l.Perm m):fV f l=fV f m:=by
 induction h with
 |nil=>rfl
 |cons x _ ih=>simp only[fV,ih]
 |swap x y l=>simp only[fV];omega
 |trans _ _ ih1 ih2=>rw[ih1,ih2]
theorem bXm(f g:Mono->Int): ∀l,fV (λm=>f m+g m) l=fV f l+fV g l
 |[]=>rfl
 |m::l=>by simp only[fV,bXm f g l];omega
theorem bTk: ∀l,fV (λ_=>0) l=0
 |[]=>rfl
 |m::l=>by simp only[fV,bTk l];omega
theorem bXg(f:Mono->Int)(c:Int): ∀l,fV (λm=>f m*c) l=fV f l*c
 |[]=>by simp[fV]
 |m::l=>by simp only[fV,bXg f c l,Int.add_mul]
theorem bQx(f:Mono->Mono->Int)(q:List Mono): ∀p,fV (λa=>fV (λb=>f a b) q) p=fV (λb=>fV (λa=>f a b) p) q
 |[]=>by simp only[fV,bTk]
 |a::p=>by simp only[fV,bQx f q p,bXm]
theorem bBs{f g:Mono->Int}: ∀{l:List Mono},(∀m∈l,f m=g m)->fV f l=fV g l
 |[],_=>rfl
 |m::l,h=>by simp only[fV];rw[h m m9,bBs λx hx=>h x af5]
theorem bSj{f g:Mono->Int}: ∀{l:List Mono},(∀m∈l,fB (f m) (g m))->fB (fV f l) (fV g l)
 |[],_=>fB.refl _
 |m::l,h=>(h m m9).add (bSj λx hx=>h x af5)
theorem cAl(F:Mono->Int)(L:List Mono):lin F (nU L)=lin F L:=by
 unfold lin nU;rw[sumOf_perm _ (T0 _ _)]
 induction L with
 |nil=>rfl
 |cons m l ih=>
  by_cases h:m.n=0
  .rw[T5 al5,ih];simp[fV,h]
  .rw[T2 al5];simp only[fV,ih]
theorem bLj{F:Mono->Int}(hF:yE F)(k:Mono)(x:Int): ∀L,lin F (setTo k x L)=lin F L+(x-rT k L)*F k
 |[]=>by
  have:F {k with n:=x}=F k:=hF _ _ rfl;simp only[lin,setTo,rT,fV,this];simp
 |m::L=>by
  have b:F {k with n:=x}=F k:=hF _ _ rfl;have a:=bLj hF k x L;unfold lin at a;unfold setTo rT lin
  by_cases h:k.sameE m=true
  .have h2:F m=F k:=hF _ _ (bPi.1 h).symm;simp only[if_pos h,fV,b,h2,Int.sub_mul];omega
  .simp only[if_neg h,fV,a];omega
theorem cAd{F:Mono->Int}(hF:yE F)(m:Mono)(v:Int)(L:List Mono):fB (lin F (vM m v L)) (lin F L+v*F m):=by unfold vM;rw[bLj hF];refine(fB.refl _).add (fB.mul ?_ _);have:=vC (rT m L+v);unfold fB at*;omega
theorem bHr{F:Mono->Int}(hF:yE F)(g:Mono->Int): ∀(p L:List Mono),fB (lin F (jD g L p)) (lin F L+fV (λm=>g m*F m) p)
 |[],L=>by simp only[jD,fV,V6];exact fB.refl _
 |m::p,L=>by refine(bHr hF g p (vM m (g m) L)).trans ?_;refine((cAd hF m (g m) L).add (fB.refl _)).trans (fB.of_eq ?_);simp only[fV];omega
theorem bUl{F:Mono->Int}(hF:yE F)(a:Mono): ∀(q L:List Mono),fB (lin F (mQ a L q)) (lin F L+fV (λb=>a.n*b.n*F (mulM a b)) q)
 |[],L=>by simp only[mQ,fV,V6];exact fB.refl _
 |b::q,L=>by refine(bUl hF a q _).trans ?_;refine(((cAd hF (mulM a b) _ L).trans ((fB.refl _).add ((vC _).mul _))).add (fB.refl _)).trans (fB.of_eq ?_);simp only[fV];omega
theorem bTr{F:Mono->Int}(hF:yE F)(q:List Mono): ∀(p L:List Mono),fB (lin F (kL q L p)) (lin F L+fV (λa=>fV (λb=>a.n*b.n*F (mulM a b)) q) p)
 |[],L=>by simp only[kL,fV,V6];exact fB.refl _
 |a::p,L=>by refine(bTr hF q p _).trans ?_;refine((bUl hF a q L).add (fB.refl _)).trans (fB.of_eq ?_);simp only[fV];omega
def Fit (L:List Mono):Prop:= ∀m∈L,-9223372036854775808<=m.n/\m.n<9223372036854775808
theorem bWy(m:Mono)(v:Int){L:List Mono}(h:Fit L):Fit (vM m v L):=λy hy=>by
 rcases yV hy with rfl|hy
 .exact bAo _
 .exact h y hy
theorem bGs(g:Mono->Int): ∀(p:List Mono) {L:List Mono},Fit L->Fit (jD g L p)
 |[],_,h=>h
 |_::p,_,h=>bGs g p (bWy _ _ h)
theorem bVt(a:Mono): ∀(q:List Mono) {L:List Mono},Fit L->Fit (mQ a L q)
 |[],_,h=>h
 |_::q,_,h=>bVt a q (bWy _ _ h)
theorem bTv(q:List Mono): ∀(p:List Mono) {L:List Mono},Fit L->Fit (kL q L p)
 |[],_,h=>h
 |a::p,_,h=>bTv q p (bVt a q h)
theorem bPj:Fit []:=λ_ h=>by simp at h
def ind (k:Nat)(m:Mono):Int:=if m.key=k then 1 else 0
theorem bKw(k:Nat):yE (ind k):=λa b h=>by unfold ind;rw[h]
theorem mL(F:Mono->Int)(m:Mono)(L:List Mono):lin F (m::L)=m.n*F m+lin F L:=rfl
theorem ind_ne{k:Nat}{m:Mono}(h:m.key≠k):ind k m=0:=if_neg h
theorem ind_self(m:Mono):ind m.key m=1:=if_pos rfl
theorem zW{k:Nat}: ∀{L:List Mono},(∀y∈L,y.key≠k)->lin (ind k) L=0
 |[],_=>rfl
 |m::L,h=>by rw[mL,zW (L:=L) (k:=k) λy hy=>h y ae1,ind_ne (h m m9)];simp
theorem bEx{x:Mono}: ∀{L:List Mono},lX L->x∈L->lin (ind x.key) L=x.n
 |[],_,h=>by simp at h
 |m::L,hA,h=>by
  obtain⟨h1,h2⟩:=E5.1 hA;rw[mL]
  rcases E2.1 h with rfl|h
  .rw[zW (L:=L) (k:=x.key) λy hy=>Ne.symm (h1 y hy),ind_self];simp
  .rw[bEx h2 h,ind_ne (h1 x h)];simp
theorem bYz{L L':List Mono}(hA:lX L)(hf:Fit L)(hA':lX L')(hf':Fit L')(h: ∀F,yE F->fB (lin F L) (lin F L')){x:Mono}(hx:x∈nU L):x∈nU L':=by
 obtain⟨hx,h0⟩:=bEb.1 hx;have e:=h _ (bKw x.key);rw[bEx hA hx]at e;have a:=hf x hx
 by_cases hy: ∃y∈L',y.key=x.key
 .obtain⟨y,hy,b⟩:=hy;rw[<-b,bEx hA' hy]at e;have hn:=e.eq a (hf' y hy);rw[eq_of_key b.symm hn]at h0⊢;exact bEb.2 ⟨hy,h0⟩
 .rw[zW λy h1 h2=>hy ⟨y,h1,h2⟩]at e;exact absurd (e.eq a l7) h0
theorem bHn{L L':List Mono}(hA:lX L)(hf:Fit L)(hA':lX L')(hf':Fit L')(h: ∀F,yE F->fB (lin F L) (lin F L')):nU L=nU L':=
 rQ.ext (bBn hA) (bBn hA') λ_=>⟨bYz hA hf hA' hf' h,bYz hA' hf' hA hf λF a=>(h F a).symm⟩
theorem wI: ∀{l:List Mono} {o:Option Mono},gH o l=true->rQ l/\(∀a,o=some a-> ∀m∈l,m.key<a.key)/\(∀m∈l,mH m=true)
 |[],_,_=>⟨by simp[rQ],m9,m9⟩
 |m::l,none,h=>by
  rw[gH,J3]at h;obtain⟨h1,h2,d⟩:=wI h.2;refine⟨E5.2 ⟨λb c=>h2 m rfl b c,h1⟩,m9,?_⟩;intro x hx
  rcases E2.1 hx with rfl|hx
  .exact h.1
  .exact d x hx
 |m::l,some a,h=>by
  rw[gH,J3,J3,decide_eq_true_eq]at h;obtain⟨h1,h2,d⟩:=wI h.2.2;have e:=(ord_lt _ _).1 h.2.1;refine⟨E5.2 ⟨λb c=>h2 m rfl b c,h1⟩,?_,?_⟩
  .intro g f x hx;obtain rfl:a=g:=Option.some.inj f
   rcases E2.1 hx with rfl|hx
   .exact e
   .exact Nat.lt_trans (h2 m rfl x hx) e
  .intro x hx
   rcases E2.1 hx with rfl|hx
   .exact h.1
   .exact d x hx
theorem vG{p:List Mono}(h:dE p=true):rQ p/\(∀m∈p,mH m=true)/\p.length<=48:=by simp only[dE,J3,decide_eq_true_eq]at h;exact⟨(wI h.2).1,(wI h.2).2.2,h.1⟩
theorem right_fit{p:List Mono}(h:dE p=true):Fit p:=λm a=>by have:=(vG h).2.1 m a;simp only[mH,decide_eq_true_eq]at this;omega
theorem bCv{p:List Mono}(h:dE p=true):lX p:=(vG h).1.apart
def bOh (p q:List Mono)(s:Int):List Mono:=jD (λm=>wrap64 (s*m.n)) (jD Mono.n [] p) q
theorem cAo:lX []:=by simp[lX]
theorem bCx(p q:List Mono)(s:Int):lX (bOh p q s):=sJ _ _ (sJ _ _ cAo)
theorem bLb(p q:List Mono)(s:Int):Fit (bOh p q s):=bGs _ _ (bGs _ _ bPj)
theorem bLh{F:Mono->Int}(hF:yE F)(p q:List Mono)(s:Int):fB (lin F (bOh p q s)) (lin F p+s*lin F q):=by
 refine(bHr hF _ q _).trans ?_;refine fB.add ((bHr hF _ p _).trans (fB.of_eq ?_)) ?_
 .simp only[lin,fV,Int.zero_add]
 .unfold lin;rw[V7,<-bXg];refine bSj λm _=>((vC _).mul _).trans (fB.of_eq ?_);rw[V7 s,Int.mul_assoc,V7 s,Int.mul_assoc]
theorem bSm{F:Mono->Int}(hF:yE F)(p q:List Mono):fB (lin F (kL q [] p)) (fV (λa=>fV (λb=>a.n*b.n*F (mulM a b)) q) p):=by refine(bTr hF q p []).trans (fB.of_eq ?_);simp only[lin,fV,Int.zero_add]
theorem bHd(p q:List Mono):lX (kL q [] p):=zA _ _ cAo
theorem bWc(p q:List Mono):Fit (kL q [] p):=bTv _ _ bPj
theorem mulM_comm(a b:Mono):mulM a b=mulM b a:=by simp only[mulM,V7 a.n,U7 a.U,U7 a.T,U7 a.R,U7 a.Q,U7 a.O,U7 a.N]
theorem bothP_L(p q:List Mono)(s:Int):cD p q s=if dE p&&dE q then jU (bOh p q s)else ([],20):=rfl
theorem add_comm(p q:List Mono):cD p q 1=cD q p 1:=by
 have h:nU (bOh p q 1)=nU (bOh q p 1):=bHn (bCx _ _ _) (bLb _ _ _) (bCx _ _ _) (bLb _ _ _) λF a=>
  (bLh a p q 1).trans ((fB.of_eq l7).trans (bLh a q p 1).symm)
 rw[bothP_L,bothP_L,Bool.and_comm];unfold jU;rw[h]
theorem mul_comm(p q:List Mono):mF p q=mF q p:=by
 have h:nU (kL q [] p)=nU (kL p [] q):=bHn (bHd _ _) (bWc _ _) (bHd _ _) (bWc _ _) λF c=>
  (bSm c p q).trans ((fB.of_eq (by
   rw[bQx];refine bBs λb _=>bBs λa _=>?_
   rw[mulM_comm,V7 a.n])).trans (bSm c q p).symm)
 unfold mF;rw[Bool.and_comm];unfold jU;rw[h]
theorem both_ok{p q a:List Mono}{s:Int}(h:cD p q s=(a,0)):dE p=true/\dE q=true/\a=nU (bOh p q s)/\dE a=true:=by
 unfold cD jU at h;split at h
 .rename_i h1;simp only[J3]at h1;split at h
  .rename_i h2;injection h with h _
   refine⟨h1.1,h1.2,h.symm,?_⟩;rw[<-h];exact h2
  .simp at h
 .simp at h
theorem mul_ok{p q a:List Mono}(h:mF p q=(a,0)):dE p=true/\dE q=true/\a=nU (kL q [] p)/\dE a=true:=by
 unfold mF jU at h;split at h
 .rename_i h1;simp only[J3]at h1;split at h
  .rename_i h2;injection h with h _
   refine⟨h1.1,h1.2,h.symm,?_⟩;rw[<-h];exact h2
  .simp at h
 .simp at h
end
section
open Go.RowKit Go.Proofs.Tryz
set_option maxRecDepth 100000
def pairs (m:Mono)(D:Nat->Int):List (UInt8×Int):=[(m.U,D 0),(m.T,D 1),(m.R,D 2),(m.Q,D 3),(m.O,D 4),(m.N,D 5)]
end
section
open Go.RowKit Go.Proofs.Tryz
set_option maxRecDepth 100000
def Ints (w:World)(A:Option Addr)(l:List Int):Prop:=
 ∀(k:Nat) (d:Int),l[k]?=some d-> ∃b o,A=some ⟨b,o,none⟩/\b<w.heap.size/\w.cell? ⟨b,o+k,none⟩=some (.int .i64 d)
theorem Ints.below{w w':World}{A:Option Addr}{l:List Int}(h:Ints w A l)(hb:Below w.heap.size w w'):Ints w' A l:=λk d c=>by obtain⟨b,o,e,hB,a⟩:=h k d c;exact⟨b,o,e,l5 hB hb.size,(hb.cell (p:=⟨b,o+k,none⟩) hB).trans a⟩
def bMv (w:World)(b:Nat)(D:Nat->Int):Prop:=b<w.heap.size/\ ∀k,k<6->w.cell? ⟨b,k,none⟩=some (.int .i64 (D k))/\w.frozen? ⟨b,k,none⟩=false
theorem bMv.set{w:World}{b:Nat}{D:Nat->Int}(h:bMv w b D)(k:Nat)(hk:k<6)(d:Int):bMv (w.setCell ⟨b,k,none⟩ (k6 d)) b (λj=>if j=k then d else D j):=by
 refine⟨by simpa using h.1,λj a=>⟨?_,?_⟩⟩
 .by_cases e:j=k
  .subst e;dsimp only;rw[if_pos rfl];exact World.cell?_setCell_same w ⟨b,j,none⟩ _ (h.2 j a).1
  .dsimp only;rw[if_neg e,World.cell?_setCell_other w _ _ _ (by intro h;injection h with _ h;exact e h.symm)];exact(h.2 j a).1
 .rw[World.frozen?_setCell];exact(h.2 j a).2
theorem zU: ∀{o:Option Mono} {l:List Mono},gH o l=true-> ∀m∈l,mH m=true
 |_,[],_,m,c=>by simp at c
 |none,a::l,h,m,c=>by
  simp only[gH,J3]at h
  rcases E2.1 c with rfl|c
  .exact h.1
  .exact zU h.2 m c
 |some b,a::l,h,m,c=>by
  simp only[gH,J3]at h
  rcases E2.1 c with rfl|c
  .exact h.1
  .exact zU h.2.2 m c
theorem bMv.below{w w':World}{b:Nat}{D:Nat->Int}(h:bMv w b D)(hb:Below w.heap.size w w'):bMv w' b D:=
 ⟨l5 h.1 hb.size,λk a=>⟨(hb.cell (p:=⟨b,k,none⟩) h.1).trans (h.2 k a).1,(hb.frozen (p:=⟨b,k,none⟩) h.1).trans (h.2 k a).2⟩⟩
end
section
open Go.RowKit Go.Sort Go.Proofs.Tryz
def prodD:List (UInt8×Int)->Int
 |[]=>1
 |x::l=>x.2^x.1.toNat*prodD l
def val (D:Nat->Int)(m:Mono):Int:=prodD (pairs m D)
def Bnd (N:Int)(L:List Mono):Prop:= ∀m∈L,-N<=m.n/\m.n<=N
theorem coef_bnd{N:Int}(hN:0<=N)(k:Mono): ∀{L:List Mono},Bnd N L-> -N<=rT k L/\rT k L<=N
 |[],_=>by simp only[rT];omega
 |m::L,h=>by
  unfold rT;split
  .exact h m m9
  .exact coef_bnd hN k λx hx=>h x af5
theorem bOm{F:Mono->Int}(hF:yE F){N V:Int}(hN:0<=N)(hV:0<=V)(hNV:N+V<9223372036854775808)(m:Mono){v:Int}(hv: -V<=v/\v<=V){L:List Mono}(h:Bnd N L):
  lin F (vM m v L)=lin F L+v*F m/\Bnd (N+V) (vM m v L):=by
 have b:=coef_bnd hN m h;have a:wrap64 (rT m L+v)=rT m L+v:=by unfold wrap64;omega
 unfold vM;rw[a];constructor
 .rw[bLj hF,show rT m L+v-rT m L=v by omega]
 .intro y hy
  rcases yV hy with rfl|hy
  .show _<=rT m L+v/\rT m L+v<=_;omega
  .have:=h y hy;omega
theorem prod_bnd{x y:Int}(hx: -16777216<=x/\x<=16777216)(hy: -16777216<=y/\y<=16777216): -281474976710656<=x*y/\x*y<=281474976710656:=by
 have h:(x*y).natAbs<=16777216*16777216:=by rw[Int.natAbs_mul];exact Nat.mul_le_mul l7 l7
 omega
theorem bPq{m:Mono}(h:mH m=true): -16777216<=m.n/\m.n<=16777216:=by simp only[mH,decide_eq_true_eq]at h;omega
theorem bJs{F:Mono->Int}(hF:yE F)(a:Mono)(ha:mH a=true): ∀{q L:List Mono} {N:Int},0<=N->N+281474976710656*q.length<9223372036854775808->(∀b∈q,mH b=true)->Bnd N L->
  lin F (mQ a L q)=lin F L+fV (λb=>a.n*b.n*F (mulM a b)) q/\Bnd (N+281474976710656*q.length) (mQ a L q)
 |[],L,N,_,_,_,h=>by
  refine⟨by simp[mQ,fV],?_⟩
  simpa[mQ]using h
 |b::q,L,N,hN,hl,hq,h=>by
  rw[F5]at hl⊢;have d:=prod_bnd (bPq ha) (bPq (hq b m9));have c:wrap64 (a.n*b.n)=a.n*b.n:=by unfold wrap64;omega
  obtain⟨i,g⟩:=bOm hF (V:=281474976710656) hN l7 l7 (mulM a b) d h;obtain⟨f,e⟩:=bJs hF a ha (q:=q) l7 l7 (λx hx=>hq x af5) g;rw[mQ,c];refine⟨?_,?_⟩
  .rw[f,i];simp only[fV];omega
  .rw[show N+281474976710656*((q.length+1:Nat):Int)=N+281474976710656+281474976710656*q.length by omega];exact e
theorem bKt{F:Mono->Int}(hF:yE F){q:List Mono}(hq: ∀b∈q,mH b=true)(hl:q.length<=48): ∀{p L:List Mono} {N:Int},0<=N->N+13510798882111488*p.length<9223372036854775808->(∀b∈p,mH b=true)->Bnd N L->
  lin F (kL q L p)=lin F L+fV (λa=>fV (λb=>a.n*b.n*F (mulM a b)) q) p
 |[],L,N,_,_,_,h=>by simp[kL,fV]
 |a::p,L,N,hN,hp,hs,h=>by
  rw[F5]at hp;obtain⟨f,e⟩:=bJs hF a (hs a m9) (q:=q) hN l7 hq h;have d:Bnd (N+13510798882111488) (mQ a L q):=λx hx=>by have:=e x hx;omega
  have c:=bKt hF hq hl (p:=p) l7 l7 (λx hx=>hs x af5) d;rw[kL,c,f];simp only[fV];omega
end
section
open Go.RowKit Go.Proofs.Tryz
set_option maxRecDepth 100000
def xM (m:Mono):Bool:=decide (m.n<0)
def gL (p:List Mono):Bool:=dE p&& !(p.any xM)
def uI (m:Mono):Bool:=m.sameE ⟨0,0,0,0,0,0,0⟩
def fO (p:List Mono)(n:Int):Bool:=gL p&&(decide (n<=0) || match p.getLast? with
 |none=>false
 |some m=>uI m&&decide (n<=m.n))
set_option maxHeartbeats 400000 in
theorem neg_any(m:Mono)(w:World):Calls prog 24 #[.agg #[k6 m.n,k7 m.U.toNat,k7 m.T.toNat,k7 m.R.toNat,k7 m.Q.toNat,k7 m.O.toNat,k7 m.N.toNat]] w λe w'=>e= .returned (.bool (xM m))/\Below w.heap.size w w':=by
 go_enter func24,ntmps24
 go_wp2
 go_ret
 exact⟨rfl,by go_grown⟩
def IdxPost(w:World)(b:Bool)(e:Ending)(w':World):Prop:= ∃i:Int,e= .returned (.int .i64 i)/\decide (0<=i)=b/\Below w.heap.size w w'
set_option maxHeartbeats 1000000 in
theorem index_any(A:Option Addr)(c:Nat)(xs:List Mono)(w:World)(ha:mC w A xs)(hx:xs.length<=140737488355328):
  Calls prog 47 #[.slice A xs.length c,.func (.func 24) #[] #[]] w (IdxPost w (xs.any xM)):=by
 have Ha:=S7 ha;clear ha
 go_enter func47,ntmps47
 go_wp2
 go_loopw [8] (λi wr=> ∃k:Nat,k<=xs.length/\i= .int .i64 k/\Hid (xs.any xM=(xs.drop k).any xM)/\Below w.heap.size w wr) (λi _=>xs.length-(intOf i).toNat)
 case atStart=>exact⟨0,C4 _,rfl,rfl,Below.refl _ _⟩
 case round=>
  obtain⟨k,hk,rfl,hs,hbl⟩:=hrel
  by_cases hlt:k<xs.length
  .obtain⟨m,hm,dm⟩:=nY hlt;obtain⟨b,o,rfl,hB,c0,c1,c2,c3,c4,c5,c6⟩:=Ha.out.below hbl k m hm;have HS:=S7 (show xs.any xM=(xM m || (xs.drop (k+1)).any xM) by rw[hs.out,dm,List.any_cons]);have HBL:=S7 hbl;clear hs hm dm hB hbl
   go_wp2_with (go_at_call 24;refine(neg_any m _).mono ?_;rintro e w1 ⟨rfl,hb1⟩)
   .have hng:xM m=true:=by assumption
    go_ret
    exact⟨k,rfl,by rw[HS.out,hng,Bool.true_or];simp,HBL.out.trans (hb1.mono HBL.out.size)⟩
   .have hng:xM m=false:=by assumption
    go_roundw
    case rel=>exact⟨k+1,l7,by go_num,(by show _=_;rw[HS.out,hng,Bool.false_or]),HBL.out.trans (hb1.mono HBL.out.size)⟩
    case measure=>simp[intOf];omega
  .have HS:=S7 (show xs.any xM=false by rw[hs.out,K3 l7];rfl);clear hs
   go_wp2
   go_ret
   exact⟨-1,rfl,by rw[HS.out];rfl,hbl⟩
set_option maxHeartbeats 400000 in
theorem contains_any(A:Option Addr)(c:Nat)(xs:List Mono)(w:World)(ha:mC w A xs)(hx:xs.length<=140737488355328):
  Calls prog 23 #[.slice A xs.length c,.func (.func 24) #[] #[]] w λe w'=>e= .returned (.bool (xs.any xM))/\Below w.heap.size w w':=by
 have Ha:=S7 ha;clear ha
 go_enter func23,ntmps23
 go_wp2_with fail
 refine(index_any A c xs _ Ha.out hx).mono ?_;rintro e w1 ⟨i,rfl,hi,hb1⟩;have Hi:=S7 hi;clear hi
 go_wp2
 go_ret
 exact⟨gW Hi.out,hb1⟩
set_option maxHeartbeats 400000 in
theorem yB(A:Option Addr)(c:Nat)(xs:List Mono)(w:World)(ha:mC w A xs)(hx:xs.length<=140737488355328):
  Calls prog 9 #[.slice A xs.length c] w λe w'=>e= .returned (.bool (gL xs))/\Below w.heap.size w w':=by
 have Ha:=S7 ha;clear ha;cases hr:dE xs
 .go_enter func9,ntmps9
  go_wp2_with fail
  refine(kN A c xs _ Ha.out hx).mono ?_;rintro e w1 ⟨rfl,hb1⟩
  go_wp2
  go_ret
  exact⟨gW (by unfold gL;rw[hr];rfl),hb1⟩
 .go_enter func9,ntmps9
  go_wp2_with fail
  refine(kN A c xs _ Ha.out hx).mono ?_;rintro e w1 ⟨rfl,hb1⟩;have H1:=S7 hb1;clear hb1
  go_wp2_with fail
  refine(contains_any A c xs _ (Ha.out.below H1.out) hx).mono ?_;rintro e w2 ⟨rfl,hb2⟩;have H2:=S7 (H1.out.trans (hb2.mono H1.out.size));clear hb2
  go_wp2
  go_ret
  exact⟨gW (by unfold gL;rw[hr,U8]),H2.out⟩
theorem run_zero_E(w:World):(V4 41 #[]).run prog w= .ok (.agg #[k7 0,k7 0,k7 0,k7 0,k7 0,k7 0]) w:=m0
theorem run_eql_E(m:Mono)(w:World):(binOp .eql 41 (.agg #[k7 m.U.toNat,k7 m.T.toNat,k7 m.R.toNat,k7 m.Q.toNat,k7 m.O.toNat,k7 m.N.toNat]) (.agg #[k7 0,k7 0,k7 0,k7 0,k7 0,k7 0])).run prog w= .ok (.bool (uI m)) w:=by rw[run_eql_struct];have h:=tL 9998 m ⟨0,0,0,0,0,0,0⟩ w;have e:(Value.agg #[.int .u8 (((0:UInt8).toNat:Nat):Int),.int .u8 (((0:UInt8).toNat:Nat):Int),.int .u8 (((0:UInt8).toNat:Nat):Int),.int .u8 (((0:UInt8).toNat:Nat):Int),.int .u8 (((0:UInt8).toNat:Nat):Int),.int .u8 (((0:UInt8).toNat:Nat):Int)])= .agg #[.int .u8 0,.int .u8 0,.int .u8 0,.int .u8 0,.int .u8 0,.int .u8 0]:=rfl;rw[e]at h;rw[h];rfl
set_option maxHeartbeats 1000000 in
theorem covers_any(A:Option Addr)(c:Nat)(xs:List Mono)(n:Int)(w:World)(ha:mC w A xs)(hx:xs.length<=140737488355328):
  Calls prog 98 #[.slice A xs.length c,k6 n] w λe w'=>e= .returned (.bool (fO xs n))/\Below w.heap.size w w':=by
 have Ha:=S7 ha;clear ha;have hz:=run_zero_E;have heq:=run_eql_E;cases hg:gL xs
 .go_enter func98,ntmps98
  go_wp2_with fail
  refine(yB A c xs _ Ha.out hx).mono ?_;rintro e w1 ⟨rfl,hb1⟩
  go_wp2
  go_ret
  exact⟨gW (by unfold fO;rw[hg];rfl),hb1⟩
 .by_cases hn:n<=0
  .have hn1:decide (n<=0)=true:=by simpa using hn
   go_enter func98,ntmps98
   go_wp2_with fail
   refine(yB A c xs _ Ha.out hx).mono ?_;rintro e w1 ⟨rfl,hb1⟩
   go_wp2
   go_ret
   exact⟨gW aj9,hb1⟩
  .have hn1:decide (n<=0)=false:=by simpa using hn
   rcases S8 xs.length with h0|h0
   .have h01:((xs.length:Int)==0)=true:=by simp[h0]
    have H0:=S7 h0;clear h0
    go_enter func98,ntmps98
    go_wp2_with fail
    refine(yB A c xs _ Ha.out hx).mono ?_;rintro e w1 ⟨rfl,hb1⟩
    go_wp2
    go_ret
    have e:xs=[]:=F7 H0.out;subst e;exact⟨gW aj9,hb1⟩
   .have h01:((xs.length:Int)==0)=false:=beq_eq_false_iff_ne.2 l7
    obtain⟨m,hm⟩: ∃m,xs[xs.length-1]?=some m:=⟨xs[xs.length-1]'l7,F1 _⟩
    have HL:=S7 (show xs.getLast?=some m by rw[List.getLast?_eq_getElem?];exact hm);have HM:=S7 hm;clear hm
    go_enter func98,ntmps98
    go_wp2_with fail
    refine(yB A c xs _ Ha.out hx).mono ?_;rintro e w1 ⟨rfl,hb1⟩;obtain⟨b,o,hA,hB,c0,c1,c2,c3,c4,c5,c6⟩:=Ha.out.below hb1 _ m HM.out;subst hA;have hi:((xs.length:Int)-1).toNat=xs.length-1:=l7
    have H1:=S7 hb1;clear hb1 HM hB;cases hf:uI m
    .go_wp2
     go_ret
     exact⟨gW ah4,H1.out.alloc H1.out.size _⟩
    .go_wp2
     go_ret
     exact⟨gW ah4,H1.out.alloc H1.out.size _⟩
end
section
open Go.Proofs.Tryz
end
section
open Go.RowKit Go.Sort Go.Proofs.Tryz
set_option maxRecDepth 100000
def bAp (n:Int):Mono:=⟨n,0,0,0,0,0,0⟩
def gU (n:Int):List Mono×Int:=if n=0 then ([],0)else if 16777216<n\/n< -16777216 then ([],21)else ([bAp n],0)
def varM (k:Nat):Mono:=⟨1,if k=0 then 1 else 0,if k=1 then 1 else 0,if k=2 then 1 else 0,if k=3 then 1 else 0,if k=4 then 1 else 0,if k=5 then 1 else 0⟩
def oC (k:Int):List Mono×Int:=if k<0\/6<=k then ([],23)else ([varM k.toNat],0)
theorem tQ(n:Int)(w:World):(V4 43 #[(0,k6 n)]).run prog w= .ok (.agg #[k6 n,k7 0,k7 0,k7 0,k7 0,k7 0,k7 0]) w:=run_build w _ _ _ m0
theorem res_one(w:World)(m:Mono):Res w.heap.size (w.alloc (.cells #[k6 m.n,k7 m.U.toNat,k7 m.T.toNat,k7 m.R.toNat,k7 m.Q.toNat,k7 m.O.toNat,k7 m.N.toNat] 43)) (.slice (some ⟨w.heap.size,0,none⟩) 1 1) [m]:=by
 refine⟨_,1,rfl,.inr ⟨w.heap.size,rfl,B0 _,?_⟩⟩
 have h:bTj (w.alloc (.cells #[.int .i64 m.n,.int .u8 m.U.toNat,.int .u8 m.T.toNat,.int .u8 m.R.toNat,.int .u8 m.Q.toNat,.int .u8 m.O.toNat,.int .u8 m.N.toNat] 43)) w.heap.size (.slice (some ⟨w.heap.size,0,none⟩) [m].length 1) [m]:=
  ⟨rfl,.inr ⟨w.heap.size,1,#[.int .i64 m.n,.int .u8 m.U.toNat,.int .u8 m.T.toNat,.int .u8 m.R.toNat,.int .u8 m.Q.toNat,.int .u8 m.O.toNat,.int .u8 m.N.toNat],rfl,B0 _,heap_alloc_new _ _,B0 _,by simp[maxLen],rfl,rfl⟩⟩
 exact h.row
theorem uG{W:World}{B g:Nat}{m:Mono}(hg:W.heap[g]?=some (.cells #[k6 m.n,k7 m.U.toNat,k7 m.T.toNat,k7 m.R.toNat,k7 m.Q.toNat,k7 m.O.toNat,k7 m.N.toNat] 43))(hB:B<=g):Res B W (.slice (some ⟨g,0,none⟩) 1 1) [m]:=by
 refine⟨_,1,rfl,.inr ⟨g,rfl,hB,?_⟩⟩
 have h:bTj W B (.slice (some ⟨g,0,none⟩) [m].length 1) [m]:=⟨rfl,.inr ⟨g,1,#[.int .i64 m.n,.int .u8 m.U.toNat,.int .u8 m.T.toNat,.int .u8 m.R.toNat,.int .u8 m.Q.toNat,.int .u8 m.O.toNat,.int .u8 m.N.toNat],rfl,hB,hg,B0 _,by simp[maxLen],rfl,rfl⟩⟩
 exact h.row
set_option maxHeartbeats 400000 in
theorem const_any(n:Int)(w:World):Calls prog 54 #[k6 n] w (bAy w (gU n)):=by
 have hbn:=tQ
 by_cases h0:n=0
 .have e:gU n=([],0):=by unfold gU;rw[if_pos h0]
  rw[e];subst h0
  go_enter func54,ntmps54
  go_wp2
  go_ret2
  exact⟨_,rfl,Below.refl _ _,Res.nil _ _ _ _⟩
 .have h01:(n==0)=false:=by simpa using h0
  by_cases h1:16777216<n
  .have e:gU n=([],21):=by unfold gU;rw[if_neg h0,if_pos (.inl h1)]
   rw[e];have h11:decide (16777216<n)=true:=by simpa using h1
   go_enter func54,ntmps54
   go_wp2
   go_ret2
   exact⟨_,rfl,Below.refl _ _,Res.nil _ _ _ _⟩
  .have h11:decide (16777216<n)=false:=by simpa using h1
   by_cases h2:n< -16777216
   .have e:gU n=([],21):=by unfold gU;rw[if_neg h0,if_pos (.inr h2)]
    rw[e];have h21:decide (n< -16777216)=true:=by simpa using h2
    go_enter func54,ntmps54
    go_wp2
    go_ret2
    exact⟨_,rfl,Below.refl _ _,Res.nil _ _ _ _⟩
   .have e:gU n=([bAp n],0):=by unfold gU;rw[if_neg h0,if_neg l7]
    rw[e];have h21:decide (n< -16777216)=false:=by simpa using h2
    go_enter func54,ntmps54
    go_wp2
    go_ret2
    exact⟨_,rfl,by go_grown,res_one w (bAp n)⟩
set_option maxHeartbeats 1000000 in
theorem var_any(k:Int)(w:World):Calls prog 29 #[k6 k] w (bAy w (oC k)):=by
 have hbn:=tQ
 by_cases h0:k<0
 .have e:oC k=([],23):=by unfold oC;rw[if_pos (.inl h0)]
  rw[e];have h01:decide (k<0)=true:=by simpa using h0
  go_enter func29,ntmps29
  go_wp2
  go_ret2
  exact⟨_,rfl,Below.refl _ _,Res.nil _ _ _ _⟩
 .by_cases h6:6<=k
  .have e:oC k=([],23):=by unfold oC;rw[if_pos (.inr h6)]
   rw[e];have h01:decide (k<0)=false:=by simpa using h0
   have h61:decide (6<=k)=true:=by simpa using h6
   go_enter func29,ntmps29
   go_wp2
   go_ret2
   exact⟨_,rfl,Below.refl _ _,Res.nil _ _ _ _⟩
  .have hk:k=0\/k=1\/k=2\/k=3\/k=4\/k=5:=l7
   clear h0 h6
   rcases hk with rfl|rfl|rfl|rfl|rfl|rfl
   .go_enter func29,ntmps29
    go_wp2
    go_ret2
    have hg:((w.alloc (.cells #[.int .i64 1,.int .u8 1,.int .u8 0,.int .u8 0,.int .u8 0,.int .u8 0,.int .u8 0] 43)).alloc (.cells #[.int .i64 1,.int .u8 1,.int .u8 0,.int .u8 0,.int .u8 0,.int .u8 0,.int .u8 0] 43)).heap[w.heap.size+1]?=some (.cells #[.int .i64 1,.int .u8 1,.int .u8 0,.int .u8 0,.int .u8 0,.int .u8 0,.int .u8 0] 43):=by rw[<-V5];exact heap_alloc_new _ _
    exact⟨_,rfl,by go_grown,uG (m:=⟨1,1,0,0,0,0,0⟩) hg l7⟩
   .go_enter func29,ntmps29
    go_wp2
    go_ret2
    have hg:((w.alloc (.cells #[.int .i64 1,.int .u8 0,.int .u8 1,.int .u8 0,.int .u8 0,.int .u8 0,.int .u8 0] 43)).alloc (.cells #[.int .i64 1,.int .u8 0,.int .u8 1,.int .u8 0,.int .u8 0,.int .u8 0,.int .u8 0] 43)).heap[w.heap.size+1]?=some (.cells #[.int .i64 1,.int .u8 0,.int .u8 1,.int .u8 0,.int .u8 0,.int .u8 0,.int .u8 0] 43):=by rw[<-V5];exact heap_alloc_new _ _
    exact⟨_,rfl,by go_grown,uG (m:=⟨1,0,1,0,0,0,0⟩) hg l7⟩
   .go_enter func29,ntmps29
    go_wp2
    go_ret2
    have hg:((w.alloc (.cells #[.int .i64 1,.int .u8 0,.int .u8 0,.int .u8 1,.int .u8 0,.int .u8 0,.int .u8 0] 43)).alloc (.cells #[.int .i64 1,.int .u8 0,.int .u8 0,.int .u8 1,.int .u8 0,.int .u8 0,.int .u8 0] 43)).heap[w.heap.size+1]?=some (.cells #[.int .i64 1,.int .u8 0,.int .u8 0,.int .u8 1,.int .u8 0,.int .u8 0,.int .u8 0] 43):=by rw[<-V5];exact heap_alloc_new _ _
    exact⟨_,rfl,by go_grown,uG (m:=⟨1,0,0,1,0,0,0⟩) hg l7⟩
   .go_enter func29,ntmps29
    go_wp2
    go_ret2
    have hg:((w.alloc (.cells #[.int .i64 1,.int .u8 0,.int .u8 0,.int .u8 0,.int .u8 1,.int .u8 0,.int .u8 0] 43)).alloc (.cells #[.int .i64 1,.int .u8 0,.int .u8 0,.int .u8 0,.int .u8 1,.int .u8 0,.int .u8 0] 43)).heap[w.heap.size+1]?=some (.cells #[.int .i64 1,.int .u8 0,.int .u8 0,.int .u8 0,.int .u8 1,.int .u8 0,.int .u8 0] 43):=by rw[<-V5];exact heap_alloc_new _ _
    exact⟨_,rfl,by go_grown,uG (m:=⟨1,0,0,0,1,0,0⟩) hg l7⟩
   .go_enter func29,ntmps29
    go_wp2
    go_ret2
    have hg:((w.alloc (.cells #[.int .i64 1,.int .u8 0,.int .u8 0,.int .u8 0,.int .u8 0,.int .u8 1,.int .u8 0] 43)).alloc (.cells #[.int .i64 1,.int .u8 0,.int .u8 0,.int .u8 0,.int .u8 0,.int .u8 1,.int .u8 0] 43)).heap[w.heap.size+1]?=some (.cells #[.int .i64 1,.int .u8 0,.int .u8 0,.int .u8 0,.int .u8 0,.int .u8 1,.int .u8 0] 43):=by rw[<-V5];exact heap_alloc_new _ _
    exact⟨_,rfl,by go_grown,uG (m:=⟨1,0,0,0,0,1,0⟩) hg l7⟩
   .go_enter func29,ntmps29
    go_wp2
    go_ret2
    have hg:((w.alloc (.cells #[.int .i64 1,.int .u8 0,.int .u8 0,.int .u8 0,.int .u8 0,.int .u8 0,.int .u8 1] 43)).alloc (.cells #[.int .i64 1,.int .u8 0,.int .u8 0,.int .u8 0,.int .u8 0,.int .u8 0,.int .u8 1] 43)).heap[w.heap.size+1]?=some (.cells #[.int .i64 1,.int .u8 0,.int .u8 0,.int .u8 0,.int .u8 0,.int .u8 0,.int .u8 1] 43):=by rw[<-V5];exact heap_alloc_new _ _
    exact⟨_,rfl,by go_grown,uG (m:=⟨1,0,0,0,0,0,1⟩) hg l7⟩
set_option maxHeartbeats 400000 in
theorem add_any(A B:Option Addr)(c d:Nat)(p q:List Mono)(w:World)(ha:mC w A p)(hb:mC w B q)(hp:p.length<=140737488355328)(hq:q.length<=140737488355328):
  Calls prog 63 #[.slice A p.length c,.slice B q.length d] w (bAy w (cD p q 1)):=by
 have H:=S7 (both_any A B c d p q 1 w ha hb hp hq);clear ha hb
 go_enter func63,ntmps63
 go_wp2_with fail
 refine H.out.mono ?_;rintro e w1 ⟨v,rfl,hb1,hv⟩;have HB:=S7 hb1;have HV:=S7 hv;clear hb1 hv
 go_wp2
 go_ret2
 exact⟨_,rfl,HB.out,HV.out⟩
set_option maxHeartbeats 400000 in
theorem sub_any(A B:Option Addr)(c d:Nat)(p q:List Mono)(w:World)(ha:mC w A p)(hb:mC w B q)(hp:p.length<=140737488355328)(hq:q.length<=140737488355328):
  Calls prog 58 #[.slice A p.length c,.slice B q.length d] w (bAy w (cD p q (-1))):=by
 have H:=S7 (both_any A B c d p q (-1) w ha hb hp hq);clear ha hb
 go_enter func58,ntmps58
 go_wp2_with fail
 refine H.out.mono ?_;rintro e w1 ⟨v,rfl,hb1,hv⟩;have HB:=S7 hb1;have HV:=S7 hv;clear hb1 hv
 go_wp2
 go_ret2
 exact⟨_,rfl,HB.out,HV.out⟩
end
section
open Go.RowKit Go.Proofs.Tryz
def fE:Flat Mono where
 size:=7
 cells:=Mono.cells
 len:=λ_=>rfl
 one:=λx u hu=>by
  simp[Mono.cells]at hu
  rcases hu with rfl|rfl|rfl|rfl|rfl|rfl|rfl<;>rfl
 pos:=m6
theorem monos_of{S:nL}{w:World}{A:Option Addr}{k c:Nat}{l:List Mono}(hS: ∀b,S b->b<w.heap.size)(h:(fE.sl (.slice A k c) l).p S w):mC w A l/\k=l.length:=by
 obtain⟨q,n,e,h⟩:=h;injection e with g f a
 subst g f;refine⟨λk m i=>?_,rfl⟩;obtain⟨b,o,j,g,f,a,d⟩:=h k m i;have d:j=m.cells:=d;subst d;exact⟨b,o,g,hS b f,a 0 _ rfl,a 1 _ rfl,a 2 _ rfl,a 3 _ rfl,a 4 _ rfl,a 5 _ rfl,a 6 _ rfl⟩
theorem sl_of{w:World}{A:Option Addr}{c:Nat}{l:List Mono}(h:mC w A l):(fE.sl (.slice A l.length c) l).p (λb=>b<w.heap.size) w:=by
 refine⟨A,c,rfl,λk m f=>?_⟩;obtain⟨b,o,e,g,h0,h1,h2,q,h4,n,i⟩:=h k m f;refine⟨b,o,m.cells,e,g,λj u a=>?_,rfl⟩;have d:=(F3.1 a).1;rw[Mono.cells_length]at d
 match j,d with
 |0,_=>simp[Mono.cells]at a;subst a;exact h0
 |1,_=>simp[Mono.cells]at a;subst a;exact h1
 |2,_=>simp[Mono.cells]at a;subst a;exact h2
 |3,_=>simp[Mono.cells]at a;subst a;exact q
 |4,_=>simp[Mono.cells]at a;subst a;exact h4
 |5,_=>simp[Mono.cells]at a;subst a;exact n
 |6,_=>simp[Mono.cells]at a;subst a;exact i
abbrev PolV:=Sl Mono
def kI (p:PolV):Fact:=(fE.sl (.slice p.I p.A.length p.cap) p.A).and (Fact.pure (p.A.length<=140737488355328))
theorem rE{f:FuncId}{args:List Value}{Pre:List Fact}{r:List Mono×Int}(hl:r.1.length<=140737488355328)(h: ∀S w,(∀b,S b->b<w.heap.size)->All Pre S w->Calls prog f args.toArray w (bAy w r)):
  cY prog f args [] Pre (λx:Option Addr×Nat=> .tuple #[.slice x.1 r.1.length x.2,k6 r.2]) (λ_=>[]) (λx=>[kI ⟨x.1,x.2,r.1⟩]):=λS w s k=>by
 refine(h S w (λb d=>(s.W b d).1) k).mono ?_;intro e q hg;obtain⟨v,rfl,d,A,c,rfl,hr⟩:=hg;refine⟨(A,c),λb=>S b\/(w.heap.size<=b/\b<q.heap.size),rfl,⟨pU.of_below _ d,λc j=>by simp at j,λc j=>by simp at j,List.Pairwise.nil,λb l=>?_⟩,All.cons ⟨?_,hl⟩ (λg hg=>by simp at hg)⟩
 .rcases l with h|h
  .exact⟨l5 (s.W b h).1 d.size,.inl h⟩
  .exact⟨h.2,.inr (.inr h.1)⟩
 .rcases hr with hr|⟨g,rfl,hg,hr⟩
  .exact⟨A,c,rfl,λk m i=>by
    have hr:r.1=[]:=hr
    simp[hr]at i⟩
  .have t:=hr.monos;obtain⟨B,z,e,h⟩:=sl_of (c:=c) t;injection e with a p n
   subst a;refine⟨_,c,rfl,λk m i=>?_⟩;obtain⟨b,o,y,a,p,n,u⟩:=h k m i;injection a with a
   injection a with a e5
   subst a;exact⟨_,o,y,by rw[e5],.inr ⟨hg,p⟩,n,u⟩
theorem iC{p:List Mono}(h:dE p=true):p.length<=48:=by simp only[dE,J3,decide_eq_true_eq]at h;exact h.1
theorem bKr(L:List Mono):dE (jU L).1=true/\((jU L).2≠0->(jU L).1=[]):=by
 unfold jU;split
 .rename_i h;exact⟨h,λh=>absurd rfl h⟩
 .exact⟨rfl,λ_=>rfl⟩
theorem oN(p q:List Mono)(s:Int):dE (cD p q s).1=true:=by
 unfold cD;split
 .exact(bKr _).1
 .rfl
theorem bEu(p q:List Mono):dE (mF p q).1=true:=by
 unfold mF;split
 .exact(bKr _).1
 .rfl
theorem wM(n:Int):dE (gU n).1=true:=by
 unfold gU;split
 .rfl
 .split
  .rfl
  .rename_i h0 h1;simp only[not_or,Int.not_lt]at h1;simp[dE,gH,bAp,mH,h0,Mono.deg,h1]
theorem yL(k:Int):dE (oC k).1=true:=by
 unfold oC;split
 .rfl
 .rename_i h;simp only[not_or,Int.not_lt,Int.not_le]at h
  obtain⟨n,rfl⟩: ∃n:Nat,k=n:=⟨k.toNat,l7⟩
  match n,h with
  |0,_=>rfl
  |1,_=>rfl
  |2,_=>rfl
  |3,_=>rfl
  |4,_=>rfl
  |5,_=>rfl
  |n+6,h=>exact absurd h.2 l7
section
variable (p q : PolV)
theorem kO{p:PolV}{S:nL}{w:World}(hS: ∀b,S b->b<w.heap.size)(h:(kI p).p S w):mC w p.I p.A:=(monos_of hS h.1).1
theorem bBj(hp:p.A.length<=140737488355328)(hq:q.A.length<=140737488355328):cY prog 63 [j8 p,j8 q] [] [kI p,kI q] (λx:Option Addr×Nat=> .tuple #[.slice x.1 (cD p.A q.A 1).1.length x.2,k6 (cD p.A q.A 1).2]) (λ_=>[]) (λx=>[kI ⟨x.1,x.2,(cD p.A q.A 1).1⟩]):=
 rE (B1 (iC (oN _ _ _)) m6) λ_ w a h=>add_any _ _ _ _ _ _ w (kO a (h _ (.head _))) (kO a (h _ (.tail _ (.head _)))) hp hq
theorem bRt(hp:p.A.length<=140737488355328)(hq:q.A.length<=140737488355328):cY prog 58 [j8 p,j8 q] [] [kI p,kI q] (λx:Option Addr×Nat=> .tuple #[.slice x.1 (cD p.A q.A (-1)).1.length x.2,k6 (cD p.A q.A (-1)).2]) (λ_=>[]) (λx=>[kI ⟨x.1,x.2,(cD p.A q.A (-1)).1⟩]):=
 rE (B1 (iC (oN _ _ _)) m6) λ_ w a h=>sub_any _ _ _ _ _ _ w (kO a (h _ (.head _))) (kO a (h _ (.tail _ (.head _)))) hp hq
theorem mul_spec(hp:p.A.length<=140737488355328)(hq:q.A.length<=140737488355328):cY prog 55 [j8 p,j8 q] [] [kI p,kI q] (λx:Option Addr×Nat=> .tuple #[.slice x.1 (mF p.A q.A).1.length x.2,k6 (mF p.A q.A).2]) (λ_=>[]) (λx=>[kI ⟨x.1,x.2,(mF p.A q.A).1⟩]):=
 rE (B1 (iC (bEu _ _)) m6) λ_ w a h=>mul_any _ _ _ _ _ _ w (kO a (h _ (.head _))) (kO a (h _ (.tail _ (.head _)))) hp hq
theorem bGh(n:Int):cY prog 54 [k6 n] [] [] (λx:Option Addr×Nat=> .tuple #[.slice x.1 (gU n).1.length x.2,k6 (gU n).2]) (λ_=>[]) (λx=>[kI ⟨x.1,x.2,(gU n).1⟩]):=
 rE (B1 (iC (wM n)) m6) λ_ w _ _=>const_any n w
theorem var_spec(k:Int):cY prog 29 [k6 k] [] [] (λx:Option Addr×Nat=> .tuple #[.slice x.1 (oC k).1.length x.2,k6 (oC k).2]) (λ_=>[]) (λx=>[kI ⟨x.1,x.2,(oC k).1⟩]):=
 rE (B1 (iC (yL k)) m6) λ_ w _ _=>var_any k w
theorem sY(hp:p.A.length<=140737488355328):cY prog 9 [j8 p] [] [kI p] (λ_:Unit=> .bool (gL p.A)) (λ_=>[]) (λ_=>[]):=
 jW λ_ w a h=>yB _ _ _ w (kO a (h _ (.head _))) hp
theorem wR(n:Int)(hp:p.A.length<=140737488355328):cY prog 98 [j8 p,k6 n] [] [kI p] (λ_:Unit=> .bool (fO p.A n)) (λ_=>[]) (λ_=>[]):=
 jW λ_ w a h=>covers_any _ _ _ n w (kO a (h _ (.head _))) hp
theorem bDo(hp:p.A.length<=140737488355328):cY prog 10 [j8 p] [] [kI p] (λ_:Unit=> .bool (dE p.A)) (λ_=>[]) (λ_=>[]):=
 jW λ_ w a h=>kN _ _ _ w (kO a (h _ (.head _))) hp
end
end
section
open Go.RowKit Go.ChangeShapes Go.WideShapes Go.Proofs.Tryz
def bT:Flat PolV:=slE Mono
structure TyV where
 B:(Sl PolV)
 known:Bool
 values:(Sl PolV)
 deriving Inhabited
def tyE:Flat TyV where
 size:=3
 cells:=λx=>[.slice x.B.I x.B.A.length x.B.cap,.bool x.known,.slice x.values.I x.values.A.length x.values.cap]
 len:=λ_=>rfl
 one:=λx u hu=>by
  simp at hu
  rcases hu with rfl|rfl|rfl<;>rfl
 pos:=m6
def sR:Flat (Sl TyV):=slE TyV
def typeT:Tab:=[(3,⟨.int .i64,1⟩),(2,⟨.int .i64,1⟩),(5,⟨.int .u8,1⟩),(9,⟨.string,1⟩),(4,⟨.bool,1⟩),(59,⟨.int .u8,1⟩),(28,⟨.int .i64,1⟩),(60,⟨.slice 2,1⟩),(46,⟨.slice 9,1⟩),(110,⟨.struct [(3,0),(3,1),(9,2),(2,3)],4⟩),(103,⟨.slice 110,1⟩),(30,⟨.struct [(3,0),(28,1)],2⟩),(52,⟨.struct [(9,0),(2,1)],2⟩),(48,⟨.slice 52,1⟩),(50,⟨.struct [(9,0),(3,1),(48,2)],3⟩),(22,⟨.slice 50,1⟩),(62,⟨.struct [(3,0),(3,1),(59,2),(9,3),(60,4)],5⟩),(56,⟨.slice 62,1⟩),(58,⟨.struct [(9,0),(3,1),(56,2)],3⟩),(23,⟨.slice 58,1⟩),(25,⟨.struct [(22,0),(23,1)],2⟩),(108,⟨.struct [(103,0),(3,1),(3,2)],3⟩),(40,⟨.slice 43,1⟩),(36,⟨.slice 40,1⟩),(38,⟨.struct [(36,0),(4,1),(36,2)],3⟩),(35,⟨.slice 38,1⟩),(27,⟨.slice 35,1⟩),(106,⟨.other,1⟩),(172,⟨.slice 1,1⟩),(1,⟨.other,1⟩),(221,⟨.int .u64,1⟩),(83,⟨.map 9 4,1⟩),(43,⟨.struct [(2,0),(41,1)],7⟩),(41,⟨.array 6 5,6⟩),(54,⟨.other,1⟩),(66,⟨.map 9 38,1⟩),(68,⟨.struct [(66,0)],1⟩),(123,⟨.other,1⟩),(193,⟨.int .u64,1⟩),(128,⟨.slice 36,1⟩),(72,⟨.struct [(25,0),(46,2),(35,3)],4⟩),(70,⟨.other,1⟩)]
theorem dK:gA prog typeT:=zB.ok
 ⟨⟨by rw[underlying3];rfl,m0⟩,
  ⟨by rw[underlying2];rfl,m0⟩,
  ⟨by rw[underlying5];rfl,m0⟩,
  ⟨by rw[underlying9];rfl,m0⟩,
  ⟨by rw[underlying4];rfl,m0⟩,
  ⟨by rw[underlying59];rfl,m0⟩,
  ⟨by rw[underlying28];rfl,m0⟩,
  ⟨by rw[underlying60];rfl,m0⟩,
  ⟨by rw[underlying46];rfl,m0⟩,
  ⟨by rw[underlying110];rfl,m0⟩,
  ⟨by rw[underlying103];rfl,m0⟩,
  ⟨by rw[underlying30];rfl,m0⟩,
  ⟨by rw[underlying52];rfl,m0⟩,
  ⟨by rw[underlying48];rfl,m0⟩,
  ⟨by rw[underlying50];rfl,m0⟩,
  ⟨by rw[underlying22];rfl,m0⟩,
  ⟨by rw[underlying62];rfl,m0⟩,
  ⟨by rw[underlying56];rfl,m0⟩,
  ⟨by rw[underlying58];rfl,m0⟩,
  ⟨by rw[underlying23];rfl,m0⟩,
  ⟨by rw[underlying25];rfl,m0⟩,
  ⟨by rw[underlying108];rfl,m0⟩,
  ⟨by rw[underlying40];rfl,m0⟩,
  ⟨by rw[underlying36];rfl,m0⟩,
  ⟨by rw[underlying38];rfl,m0⟩,
  ⟨by rw[underlying35];rfl,m0⟩,
  ⟨by rw[underlying27];rfl,m0⟩,
  ⟨by rw[underlying106];rfl,m0⟩,
  ⟨by rw[underlying172];rfl,m0⟩,
  ⟨by rw[underlying1];rfl,m0⟩,
  ⟨by rw[underlying221];rfl,m0⟩,
  ⟨by rw[underlying83];rfl,m0⟩,
  ⟨by rw[underlying43];rfl,m0⟩,
  ⟨by rw[underlying41];rfl,m0⟩,
  ⟨by rw[underlying54];rfl,m0⟩,
  ⟨by rw[underlying66];rfl,m0⟩,
  ⟨by rw[underlying68];rfl,m0⟩,
  ⟨by rw[underlying123];rfl,m0⟩,
  ⟨by rw[underlying193];rfl,m0⟩,
  ⟨by rw[underlying128];rfl,m0⟩,
  ⟨by rw[underlying72];rfl,m0⟩,
  ⟨by rw[underlying70];rfl,m0⟩,i6⟩
theorem bCb: ∃i:TypeInfo,prog.info? 40=some i/\i.zero=some (.slice none 0 0)/\i.size=1/\i.bytes=24:=by
 have h:(prog.info? 40).map (λi=>(i.zero,i.size,i.bytes))=some (some (.slice none 0 0),1,24):=m0
 cases hi:prog.info? 40 with
 |none=>simp[hi]at h
 |some i=>simp[hi]at h;exact⟨i,rfl,h.1,h.2.1,h.2.2⟩
theorem cR{β:fS}{n:Nat}{Γ:Env}{H:List bK}{F:List Fact}{Q:Exit->Act->World->Prop}{ops:Array Oper}{rest:List Oper}{o:Oper}{d:Nat}{x:Operand}{m:PolV}(hw:want ops Γ o=some true)(ho:o.op= .buildSlice 36 1 #[(0,x)])(hd:o.dst=some d)(hn:B2 d n=true)
  (hx:Γ.ev x=some (j8 m)) (k: ∀b,At β n ((d,.slice (some ⟨b,0,none⟩) 1 1)::Γ) (.obj b (.cells (bT.all [m]).toArray 40)::H) F (wpList prog ops Q rest)):At β n Γ H F (wpList prog ops Q (o::rest)):=by
 obtain⟨i,hi,a,hs,_⟩:=bCb;refine kD hw ho hd hn hx underlying36 hi a l7 l7 ?_ k;rw[hs]
 kernel_rfl
theorem j7{β:fS}{n:Nat}{Γ:Env}{H:List bK}{F:List Fact}{Q:Exit->Act->World->Prop}{ops:Array Oper}{rest:List Oper}{o:Oper}{d:Nat}{x:Operand}{m:PolV}(k: ∀b,At β n ((d,.slice (some ⟨b,0,none⟩) 1 1)::Γ) (.obj b (.cells (bT.all [m]).toArray 40)::H) F (wpList prog ops Q rest))(hw:want ops Γ o=some true:=by exact rfl)(ho:o.op= .buildSlice 36 1 #[(0,x)]:=by exact rfl)(hd:o.dst=some d:=by exact rfl)(hn:Nat.blt d n=true:=by exact rfl)(hx:Γ.ev x=some (j8 m):=by exact rfl):At β n Γ H F (wpList prog ops Q (o::rest)):=cR hw ho hd hn hx k
theorem uM{β:fS}{n:Nat}{Γ:Env}{H:List bK}{F:List Fact}{Q:Exit->Act->World->Prop}{ops:Array Oper}{rest:List Oper}{o:Oper}{d:Nat}(hw:want ops Γ o=some true)(ho:o.op= .buildSlice 36 0 #[])(hd:o.dst=some d)(hn:B2 d n=true)
  (k: ∀b,At β n ((d,.slice (some ⟨b,0,none⟩) 0 0)::Γ) (bT.row (.slice (some ⟨b,0,none⟩) 0 0) 40 []::H) F (wpList prog ops Q rest)):At β n Γ H F (wpList prog ops Q (o::rest)):=by obtain⟨i,hi,_⟩:=bCb;exact bEd bT hw ho hd hn underlying36 hi k
theorem cU{β:fS}{n:Nat}{Γ:Env}{H:List bK}{F:List Fact}{Q:Exit->Act->World->Prop}{ops:Array Oper}{rest:List Oper}{o:Oper}{d:Nat}{x y:Operand}{c q:Nat}{v:Value}{A:Option Addr}{xs ys:List PolV}{H':List bK}(hH:cT H (bT.row v 40 xs) H')(hr:dD β H F bT A ys)(hg:o.guard=none)
  (ho:o.op= .call {callee:= .builtin .append,args:= #[x,y],argTypes:= #[36,36]}) (hd:o.dst=some d) (hn:B2 d n=true)
  (hx:Γ.ev x=some v) (hy:Γ.ev y=some (.slice A q c)) (hq:q=ys.length) (hl:xs.length+ys.length<=5864062014805)
  (k: ∀A' cap',At β n ((d,.slice A' (xs++ys).length cap')::Γ) (bT.row (.slice A' (xs++ys).length cap') 40 (xs++ys)::H') F (wpList prog ops Q rest)):At β n Γ H F (wpList prog ops Q (o::rest)):=by obtain⟨i,hi,a,hs,b⟩:=bCb;exact gY hH hr hg ho hd hn underlying36 hi a hs b rfl hx hy hq l7 m6 k
theorem tyInfo: ∃i:TypeInfo,prog.info? 38=some i/\i.zero=some (.agg #[.slice none 0 0,.bool false,.slice none 0 0])/\i.size=3/\i.bytes=56:=by
 have h:(prog.info? 38).map (λi=>(i.zero,i.size,i.bytes))=some (some (.agg #[.slice none 0 0,.bool false,.slice none 0 0]),3,56):=m0
 cases hi:prog.info? 38 with
 |none=>simp[hi]at h
 |some i=>simp[hi]at h;exact⟨i,rfl,h.1,h.2.1,h.2.2⟩
theorem lD{β:fS}{n:Nat}{Γ:Env}{H:List bK}{F:List Fact}{Q:Exit->Act->World->Prop}{ops:Array Oper}{rest:List Oper}{o:Oper}{d:Nat}{x:Operand}{m:TyV}(hw:want ops Γ o=some true)(ho:o.op= .buildSlice 35 1 #[(0,x)])(hd:o.dst=some d)(hn:B2 d n=true)
  (hx:Γ.ev x=some (.agg #[j8 m.B,.bool m.known,j8 m.values])) (k: ∀b,At β n ((d,.slice (some ⟨b,0,none⟩) 1 1)::Γ) (.obj b (.cells (tyE.all [m]).toArray 38)::H) F (wpList prog ops Q rest)):At β n Γ H F (wpList prog ops Q (o::rest)):=by
 obtain⟨i,hi,a,hs,_⟩:=tyInfo;refine kD hw ho hd hn hx underlying35 hi a l7 l7 ?_ k;rw[hs]
 kernel_rfl
theorem wD{β:fS}{n:Nat}{Γ:Env}{H:List bK}{F:List Fact}{Q:Exit->Act->World->Prop}{ops:Array Oper}{rest:List Oper}{o:Oper}{d:Nat}(hw:want ops Γ o=some true)(ho:o.op= .buildSlice 35 0 #[])(hd:o.dst=some d)(hn:B2 d n=true)
  (k: ∀b,At β n ((d,.slice (some ⟨b,0,none⟩) 0 0)::Γ) (tyE.row (.slice (some ⟨b,0,none⟩) 0 0) 38 []::H) F (wpList prog ops Q rest)):At β n Γ H F (wpList prog ops Q (o::rest)):=by obtain⟨i,hi,_⟩:=tyInfo;exact bEd tyE hw ho hd hn underlying35 hi k
theorem gV{β:fS}{n:Nat}{Γ:Env}{H:List bK}{F:List Fact}{Q:Exit->Act->World->Prop}{ops:Array Oper}{rest:List Oper}{o:Oper}{d:Nat}{x y:Operand}{c q:Nat}{v:Value}{A:Option Addr}{xs ys:List TyV}{H':List bK}(hH:cT H (tyE.row v 38 xs) H')(hr:dD β H F tyE A ys)(hg:o.guard=none)
  (ho:o.op= .call {callee:= .builtin .append,args:= #[x,y],argTypes:= #[35,35]}) (hd:o.dst=some d) (hn:B2 d n=true)
  (hx:Γ.ev x=some v) (hy:Γ.ev y=some (.slice A q c)) (hq:q=ys.length) (hl:xs.length+ys.length<=2513169434916)
  (k: ∀A' cap',At β n ((d,.slice A' (xs++ys).length cap')::Γ) (tyE.row (.slice A' (xs++ys).length cap') 38 (xs++ys)::H') F (wpList prog ops Q rest)):At β n Γ H F (wpList prog ops Q (o::rest)):=by obtain⟨i,hi,a,hs,b⟩:=tyInfo;exact gY hH hr hg ho hd hn underlying35 hi a hs b rfl hx hy hq l7 m6 k
theorem rowsInfo: ∃i:TypeInfo,prog.info? 35=some i/\i.zero=some (.slice none 0 0)/\i.size=1/\i.bytes=24:=by
 have h:(prog.info? 35).map (λi=>(i.zero,i.size,i.bytes))=some (some (.slice none 0 0),1,24):=m0
 cases hi:prog.info? 35 with
 |none=>simp[hi]at h
 |some i=>simp[hi]at h;exact⟨i,rfl,h.1,h.2.1,h.2.2⟩
theorem bOo{β:fS}{n:Nat}{Γ:Env}{H:List bK}{F:List Fact}{Q:Exit->Act->World->Prop}{ops:Array Oper}{rest:List Oper}{o:Oper}{d:Nat}{x:Operand}{m:(Sl TyV)}(hw:want ops Γ o=some true)(ho:o.op= .buildSlice 27 1 #[(0,x)])(hd:o.dst=some d)(hn:B2 d n=true)
  (hx:Γ.ev x=some (j8 m)) (k: ∀b,At β n ((d,.slice (some ⟨b,0,none⟩) 1 1)::Γ) (.obj b (.cells (sR.all [m]).toArray 35)::H) F (wpList prog ops Q rest)):At β n Γ H F (wpList prog ops Q (o::rest)):=by
 obtain⟨i,hi,a,hs,_⟩:=rowsInfo;refine kD hw ho hd hn hx underlying27 hi a l7 l7 ?_ k;rw[hs]
 kernel_rfl
theorem bNm{β:fS}{n:Nat}{Γ:Env}{H:List bK}{F:List Fact}{Q:Exit->Act->World->Prop}{ops:Array Oper}{rest:List Oper}{o:Oper}{d:Nat}{x y:Operand}{c q:Nat}{v:Value}{A:Option Addr}{xs ys:List (Sl TyV)}{H':List bK}(hH:cT H (sR.row v 35 xs) H')(hr:dD β H F sR A ys)(hg:o.guard=none)
  (ho:o.op= .call {callee:= .builtin .append,args:= #[x,y],argTypes:= #[27,27]}) (hd:o.dst=some d) (hn:B2 d n=true)
  (hx:Γ.ev x=some v) (hy:Γ.ev y=some (.slice A q c)) (hq:q=ys.length) (hl:xs.length+ys.length<=5864062014805)
  (k: ∀A' cap',At β n ((d,.slice A' (xs++ys).length cap')::Γ) (sR.row (.slice A' (xs++ys).length cap') 35 (xs++ys)::H') F (wpList prog ops Q rest)):At β n Γ H F (wpList prog ops Q (o::rest)):=by obtain⟨i,hi,a,hs,b⟩:=rowsInfo;exact gY hH hr hg ho hd hn underlying27 hi a hs b rfl hx hy hq l7 m6 k
end
section
open Go.RowKit Go.Proofs.Tryz
section
variable {P : Program} {β : fS} {n : Nat} {Γ : Env} {H : List bK} {F : List Fact} {o : Oper} {x : Operand} {t tt e : TypeId} {A : Option Addr} {q c : Nat}
theorem bZb(ht:P.underlying t=some (.slice e))(ho:o.op= .binOp .eql t x (.const (.slice none 0 0)) tt)(hx:Γ.ev x=some (.slice A q c)):Sti P β n Γ H F o (.bool A.isNone):=λa w S f s k=>by
 have h1: ∀d,(Op.equalIn (d+1) t (.slice A q c) (.slice none 0 0)).run P w= .ok A.isNone w:=λd=>by cases A<;>simp[Op.equalIn,run_underlying ht]
 unfold execOp;have e:a.eval (.const (.slice none 0 0))= .slice none 0 0:=rfl;simp only[ho,f.ev hx,e]
 have b:(binOp .eql t (.slice A q c) (.slice none 0 0)).run P w= .ok (.bool A.isNone) w:=by simp only[binOp];have h2:(Op.equal t (.slice A q c) (.slice none 0 0)).run P w= .ok A.isNone w:=h1 9999;rw[G9,h2];rfl
 have hg:(eqGuard .eql t x (.const (.slice none 0 0)) (.slice A q c) (.slice none 0 0)).run P w= .ok () w:=by unfold eqGuard;simp
 rw[G9,G9,hg,H6,b];rfl
end
theorem bZd{α:Type}{E:Flat α}{F:List Fact}{A:Option Addr}{m c:Nat}{l:List α}(h:Has F (E.sl (.slice A m c) l)):Has F (Fact.pure (A.isNone=true->l=[])):=λS w k a=>by
 obtain⟨i,g,e,h⟩:=h S w k
 cases l with
 |nil=>rfl
 |cons x r=>
  obtain⟨b,o,f,d,_⟩:=h 0 x rfl;injection e with e
  subst e;subst d;cases a
section
variable {k x : Bs} {l : List Bs} {i : Nat} {r : Int}
theorem bUf(h:r=idxOf k (l.drop i) i)(hx:l[i]?=some x):(k=x->r=i)/\(k≠x->r=idxOf k (l.drop (i+1)) ((i+1:Nat):Int)):=by rw[hO hx,idxOf]at h;refine⟨λe=>by rw[if_pos e.symm]at h;exact h,λe=>by rw[if_neg (Ne.symm e)]at h;rw[h];rfl⟩
theorem idxOf_end(h:r=idxOf k (l.drop i) i)(hi:l.length<=i):r= -1:=by rw[K3 hi]at h;exact h
end
theorem bBz(A:Option Addr)(c:Nat)(l:List Bs)(hl:l.length<=140737488355328)(k:Bs):cY prog 14 [.slice A l.length c,.string (bs k)] [] [lZ.sl (.slice A l.length c) l] (λ(_:Unit)=> k6 (idxOf k l 0)) (λ_=>[]) (λ_=>[]):=by
 have hT:=bJo;generalize f:idxOf k l 0=r;refine j5 func14 ntmps14 ?_;intro β hM;refine g14 ?_;refine cF (ι:=Nat) [(0,_),(1,_),(7,_)] ⟨rfl,rfl,rfl,i6⟩ (λi=>[(8,.int .i64 (i:Nat))]) (λ_=>[]) (λi=>[Fact.pure (i<=l.length/\r=idxOf k (l.drop i) i)]) (λi=>l.length-i) 0 ⟨rfl,i6⟩ .nil ⟨i7 (⟨l7,f.symm⟩),i6⟩ ?_;rintro i;refine bF d7 λb=>?_;refine g6 ?_;refine dP (λe=>?_) λe=>?_
 .refine g15 ?_;obtain⟨x1,d⟩:=gx l i;refine ss (ixs i) ?_;refine ss (fG d 0) ?_;refine g3 ?_;refine fX (λa=>?_) λa=>?_
  .have a:k=x1:=eq_of_beq a;refine g12 ?_;obtain rfl:=(bUf b.2 d).1 ‹_›;exact rs1 () trivial
  have a:k≠x1:=λh=>absurd (beq_iff_eq.2 h) (by rw[show(k==x1)=false from a];simp);refine g5 ?_;refine inc (i+1) ?_;refine g3 ?_;exact bk2 (i+1) ⟨i7 (⟨l7,(bUf b.2 d).2 ‹_›⟩),i6⟩
 refine g11 ?_;have hr:=idxOf_end b.2 l7;subst hr;exact rs1 () trivial
end
section
open Go.RowKit Go.Shelf Go.Proofs.Tryz
attribute [local go_sem] Oper.semAt_some
def bDi (S:Nat->Prop)(W W':World):Prop:= ∀c,S c->W'.heap[c]?=W.heap[c]?
theorem bDi.refl(S:Nat->Prop)(W:World):bDi S W W:=λ_ _=>rfl
theorem bDi.trans{S:Nat->Prop}{A B C:World}(h:bDi S A B)(k:bDi S B C):bDi S A C:=λc a=>(k c a).trans (h c a)
theorem bDi.cell{S:Nat->Prop}{A B:World}(h:bDi S A B){p:Addr}(hp:S p.block):B.cell? p=A.cell? p:=World.cell?_of_block (h p.block hp)
end
section
open Go.RowKit Go.Proofs.Tryz
section
variable {P : Program} {β : fS} {n : Nat} {Γ : Env} {H : List bK} {F : List Fact} {Q : Exit -> Act -> World -> Prop}
theorem St.drew{S:nL}{w:World}(s:St β H S w):St β H S w.drew:=⟨⟨s.kept.os,s.kept.tape,s.kept.output,s.kept.size,s.kept.block⟩,λc a=>bK.ok_of (s.ok c a) λ_ _=>rfl,s.own,s.sep,s.W⟩
end
theorem vT{a z:Int}(h:a=z)(h1: -9223372036854775808<=z)(h2:z<9223372036854775808):IntKind.i64.wrap a=z:=by rw[h];exact yW h1 h2
instance : DecidableEq Mono := λa b => decidable_of_iff (a.eqB b = true) (Mono.eqB_iff a b)
def bPr (a b:Mono):Bool:=a.eqB b
theorem sti_neq_mono{β:fS}{n:Nat}{Γ:Env}{H:List bK}{F:List Fact}{o:Oper}{a b:Operand}{tt:TypeId}(x y:Mono)(ho:o.op= .binOp .neq 43 a b tt)(hx:Γ.ev a=some (.agg #[k6 x.n,k7 x.U.toNat,k7 x.T.toNat,k7 x.R.toNat,k7 x.Q.toNat,k7 x.O.toNat,k7 x.N.toNat]))(hy:Γ.ev b=some (.agg #[k6 y.n,k7 y.U.toNat,k7 y.T.toNat,k7 y.R.toNat,k7 y.Q.toNat,k7 y.O.toNat,k7 y.N.toNat])):Sti prog β n Γ H F o (.bool (!bPr x y)):=λc w S f s k=>by
 have hq:prog.eqGuardType prog.depth 43=false:=m0
 have hg:(eqGuard .neq 43 a b (.agg #[.int .i64 x.n,.int .u8 x.U.toNat,.int .u8 x.T.toNat,.int .u8 x.R.toNat,.int .u8 x.Q.toNat,.int .u8 x.O.toNat,.int .u8 x.N.toNat]) (.agg #[.int .i64 y.n,.int .u8 y.U.toNat,.int .u8 y.T.toNat,.int .u8 y.R.toNat,.int .u8 y.Q.toNat,.int .u8 y.O.toNat,.int .u8 y.N.toNat])).run prog w= .ok () w:=by unfold eqGuard;have d:(program:Sem Program).run prog w= .ok prog w:=rfl;simp[d,hq]
 unfold execOp;simp only[ho,f.ev hx,f.ev hy];rw[G9,G9,hg,H6,bIv];rfl
theorem mono_eq{x y:Mono}:bPr x y=true↔x=y:=Mono.eqB_iff x y
theorem mono_t{x y:Mono}(h:(!bPr x y)=true):x≠y:=λe=>by rw[mono_eq.2 e]at h;cases h
theorem mono_f{x y:Mono}(h:(!bPr x y)=false):x=y:=mono_eq.1 ad3
def bN (l:List PolV):List (List Mono):=l.map (·.A)
theorem bI(l:List PolV):(bN l).length=l.length:=O4 _
theorem jX{l:List PolV}{i:Nat}{p:PolV}(h:l[i]?=some p):(bN l)[i]?=some p.A:=by unfold bN;rw[K1,h];rfl
theorem bAi{α:Type} [DecidableEq α]{a b:List α}(h:a≠b):Value.bool false= .bool (decide (a=b)):=by simp[h]
theorem eqT_of{α:Type} [DecidableEq α]{a b:List α}(h:a=b):Value.bool true= .bool (decide (a=b)):=by simp[h]
theorem sG{α:Type}{E:Flat α}{F:List Fact}:Has F (E.sl (.slice none 0 0) []):=λ_ _ _=>⟨none,0,rfl,λk x a=>by simp at a⟩
def polsF (l:List PolV):Fact:=Fact.each l kI
theorem yK{F:List Fact}{p:PolV}(h:Has F (kI p)):Has F (fE.sl (j8 p) p.A):=h.left
theorem dC{F:List Fact}{p:PolV}(h:Has F (kI p)):Has F (Fact.pure (p.A.length<=140737488355328)):=h.right
theorem bKo: ∀{F:List Fact},Has F (kI ⟨none,0,[]⟩):=Has.and sG (i7 m6)
def bZ (n:Int):List Mono:=(gU n).1
theorem bXi: ∃i:TypeInfo,prog.info? 43=some i/\i.zero=some (.agg #[k6 0,k7 0,k7 0,k7 0,k7 0,k7 0,k7 0])/\i.size=7/\i.bytes=16:=by
 have h:(prog.info? 43).map (λi=>(i.zero,i.size,i.bytes))=some (some (.agg #[.int .i64 0,.int .u8 0,.int .u8 0,.int .u8 0,.int .u8 0,.int .u8 0,.int .u8 0]),7,16):=m0
 cases hi:prog.info? 43 with
 |none=>simp[hi]at h
 |some i=>simp[hi]at h;exact⟨i,rfl,h.1,h.2.1,h.2.2⟩
section
variable {β : fS} {n : Nat} {Γ : Env} {H : List bK} {F : List Fact} {Q : Exit -> Act -> World -> Prop} {ops : Array Oper} {rest : List Oper} {o : Oper} {d : Nat}
theorem at_none_mono(hw:want ops Γ o=some true)(ho:o.op= .buildSlice 40 0 #[])(hd:o.dst=some d)(hn:B2 d n=true)
  (k: ∀b,At β n ((d,.slice (some ⟨b,0,none⟩) 0 0)::Γ) (fE.row (.slice (some ⟨b,0,none⟩) 0 0) 43 []::H) F (wpList prog ops Q rest)):At β n Γ H F (wpList prog ops Q (o::rest)):=by obtain⟨i,hi,_⟩:=bXi;exact bEd fE hw ho hd hn underlying40 hi k
theorem at_app_mono{x y:Operand}{c q:Nat}{v:Value}{A:Option Addr}{xs ys:List Mono}{H':List bK}(hH:cT H (fE.row v 43 xs) H')(hr:dD β H F fE A ys)(hg:o.guard=none)
  (ho:o.op= .call {callee:= .builtin .append,args:= #[x,y],argTypes:= #[40,40]}) (hd:o.dst=some d) (hn:B2 d n=true)
  (hx:Γ.ev x=some v) (hy:Γ.ev y=some (.slice A q c)) (hq:q=ys.length) (hl:xs.length+ys.length<=8796093022208)
  (k: ∀A' cap',At β n ((d,.slice A' (xs++ys).length cap')::Γ) (fE.row (.slice A' (xs++ys).length cap') 43 (xs++ys)::H') F (wpList prog ops Q rest)):At β n Γ H F (wpList prog ops Q (o::rest)):=by obtain⟨i,hi,a,hs,b⟩:=bXi;exact gY hH hr hg ho hd hn underlying40 hi a hs b rfl hx hy hq l7 m6 k
end
def bUy {α:Type}(l cur:List α)(i:Nat):Prop:=cur.length=l.length/\ ∀q,q<l.length->cur[q]?=if q<i\/l.length<=q+i then l[l.length-1-q]? else l[q]?
section
variable {α : Type} {l cur : List α} {i : Nat} {x y : α}
theorem revG_start(l:List α):bUy l l 0:=⟨rfl,λq hq=>by rw[if_neg l7]⟩
theorem bWz(h:bUy l cur i)(hi:i<l.length-1-i)(hx:cur[l.length-1-i]?=some x)(hy:cur[i]?=some y):bUy l ((cur.set i x).set (l.length-1-i) y) (i+1):=by
 obtain⟨h1,h2⟩:=h;refine⟨by simp[h1],λq hq=>?_⟩;have b:=h2 (l.length-1-i) l7;have a:=h2 i l7;rw[if_neg l7]at b a;rw[hx]at b;rw[hy]at a
 by_cases f:q=l.length-1-i
 .subst f;rw[T7 q9,if_pos l7,show l.length-1-(l.length-1-i)=i by omega];exact a
 .rw[T8 (λe=>f e.symm)]
  by_cases d:q=i
  .subst d;rw[T7 l7,if_pos l7];exact b
  .rw[T8 (λe=>d e.symm),h2 q hq]
   by_cases c:q<i\/l.length<=q+i
   .rw[if_pos c,if_pos l7]
   .rw[if_neg c,if_neg l7]
theorem revG_end(h:bUy l cur i)(hi:l.length<=2*i+1):cur=l.reverse:=by
 obtain⟨h1,h2⟩:=h;apply List.ext_getElem?;intro q
 by_cases hq:q<l.length
 .rw[h2 q hq,List.getElem?_reverse hq]
  by_cases a:q<i\/l.length<=q+i
  .rw[if_pos a]
  .rw[if_neg a,show l.length-1-q=q by omega]
 .rw[L0 l7,L0 q9]
end
theorem sQ:(prog.info? 38).bind (·.zero)=some (.agg #[.slice none 0 0,.bool false,.slice none 0 0]):=m0
theorem xL(a0:Option Addr)(l0 c0:Nat):prog.built 38 [(0,.slice a0 l0 c0)]=some #[.slice a0 l0 c0,.bool false,.slice none 0 0]:=m0
theorem vW(a0:Option Addr)(l0 c0:Nat)(b1:Bool)(a2:Option Addr)(l2 c2:Nat):prog.built 38 [(0,.slice a0 l0 c0),(1,.bool b1),(2,.slice a2 l2 c2)]=some #[.slice a0 l0 c0,.bool b1,.slice a2 l2 c2]:=m0
theorem equalM_spec(p q:PolV)(hl:p.A.length<=140737488355328):cY prog 101 [j8 p,j8 q] [] [fE.sl (j8 p) p.A,fE.sl (j8 q) q.A] (λ(_:Unit)=> .bool (decide (p.A=q.A))) (λ_=>[]) (λ_=>[]):=by
 have hT:=dK;refine j5 func101 ntmps101 ?_;intro β hM;refine g15 ?_;refine uD (λhc10=>?_) λhc10=>?_
 .refine g7 ?_;exact rs1 () i6 (he:=bAi (λe=>by have:=congrArg Q8 e;omega))
 refine g11 ?_;refine cF (ι:=Nat) [(0,_),(1,_),(12,_)] ⟨rfl,rfl,rfl,i6⟩ (λi=>[(13,.int .i64 (i:Nat))]) (λ_=>[]) (λi=>[Fact.pure (i<=p.A.length/\p.A.take i=q.A.take i)]) (λi=>p.A.length-i) 0 ⟨rfl,i6⟩ .nil ⟨i7 (⟨l7,rfl⟩),i6⟩ ?_;rintro i;refine bF d7 λa=>?_;refine g6 ?_;refine dP (λhc14=>?_) λhc14=>?_
 .refine g11 ?_;refine cL _ _ [j9,u0,u5,u9,A00,u6,A02,A01,A03] cN o0 .nil bA.self ?_;refine g2 ?_;obtain⟨x1,c⟩:=gx p.A i;refine stM rfl (ixs i) ?_;refine stM rfl (pF c 0) ?_;refine g2 ?_;obtain⟨x3,b⟩:=gx q.A i;refine stM rfl (ixs i) ?_;refine stM rfl (pF b 0) ?_;refine stM rfl (sti_neq_mono x1 x3 rfl rfl rfl) ?_;refine g2 ?_;refine iQ (λhc24=>?_) λhc24=>?_
  .refine g11 ?_;exact rs1 () i6 (he:=bAi (yO c b (mono_t asd)))
  refine g5 ?_;refine inc (i+1) ?_;refine g3 ?_;exact bk2 (i+1) ⟨i7 (⟨l7,yD a.2 c b (mono_f asd)⟩),i6⟩
 refine g11 ?_;exact rs1 () i6 (he:=eqT_of (bBv a.2 l7 l7))
theorem same1_spec(p q:PolV)(hl:p.A.length<=140737488355328):cY prog 100 [j8 p,j8 q] [] [fE.sl (j8 p) p.A,fE.sl (j8 q) q.A] (λ(_:Unit)=> .bool (decide (p.A=q.A))) (λ_=>[]) (λ_=>[]):=by have hT:=dK;refine j5 func100 ntmps100 ?_;intro β hM;refine g9 ?_;refine j2 func101 (equalM_spec p q hl) ⟨d7,d8,i6⟩ λ_=>?_;refine g4 ?_;exact rs1 () trivial
theorem equalF_spec(A B:Option Addr)(ca cb:Nat)(a b:List PolV)(hl:a.length<=140737488355328):cY prog 99 [.slice A a.length ca,.slice B b.length cb,.func (.func 100) #[] #[]] [] [bT.sl (.slice A a.length ca) a,polsF a,bT.sl (.slice B b.length cb) b,polsF b] (λ(_:Unit)=> .bool (decide (bN a=bN b))) (λ_=>[]) (λ_=>[]):=by
 have hT:=dK;refine j5 func99 ntmps99 ?_;intro β hM;refine g15 ?_;refine uD (λhc14=>?_) λhc14=>?_
 .refine g7 ?_;exact rs1 () i6 (he:=bAi (λe=>by have:=congrArg Q8 e;rw[bI,bI]at this;omega))
 refine g11 ?_;refine cF (ι:=Nat) [(1,_),(2,_),(15,_),(16,_)] ⟨rfl,rfl,rfl,rfl,i6⟩ (λi=>[(17,.int .i64 (i:Nat))]) (λ_=>[]) (λi=>[Fact.pure (i<=a.length/\(bN a).take i=(bN b).take i)]) (λi=>a.length-i) 0 ⟨rfl,i6⟩ .nil ⟨i7 (⟨l7,rfl⟩),i6⟩ ?_;rintro i;refine bF d7 λd=>?_;refine g6 ?_;refine dP (λg=>?_) λg=>?_
 .refine g7 ?_;obtain⟨x1,c⟩:=gx a i;refine ss (ixs i) ?_;refine ss (fG c 0) ?_;refine g8 ?_;obtain⟨x3,f⟩:=gx b i;refine ss (ixs i) ?_;refine ss (fG f 0) ?_;refine g8 ?_;refine bF (dC (Has.each d9 (j0 c))) λh=>?_;refine jA (bY func100 rfl rfl) (same1_spec x1 x3 h) rfl rfl rfl rfl rfl rfl rfl .nil ⟨yK (Has.each d9 (j0 c)),yK (Has.each e7 (j0 f)),i6⟩ λ_=>?_;refine g3 ?_;refine iQ (λhc30=>?_) λhc30=>?_
  .refine g11 ?_;exact rs1 () i6 (he:=bAi (yO (jX c) (jX f) (of_decide_eq_false (by simpa using (asd:(!decide _)=true)))))
  refine g5 ?_;refine inc (i+1) ?_;refine g3 ?_;exact bk2 (i+1) ⟨i7 (⟨l7,yD d.2 (jX c) (jX f) (of_decide_eq_true (by simpa using (asd:(!decide _)=false)))⟩),i6⟩
 refine g11 ?_;exact rs1 () i6 (he:=eqT_of (bBv d.2 (by rw[bI];omega) (by rw[bI];omega)))
theorem vZ(A B:Option Addr)(ca cb:Nat)(a b:List PolV)(hl:a.length<=140737488355328):cY prog 62 [.slice A a.length ca,.slice B b.length cb] [] [bT.sl (.slice A a.length ca) a,polsF a,bT.sl (.slice B b.length cb) b,polsF b] (λ(_:Unit)=> .bool (decide (bN a=bN b))) (λ_=>[]) (λ_=>[]):=by have hT:=dK;refine j5 func62 ntmps62 ?_;intro β hM;refine g9 ?_;refine j2 func99 (equalF_spec A B ca cb a b hl) ⟨d7,d8,d9,e6,i6⟩ λ_=>?_;refine g4 ?_;exact rs1 () trivial
theorem bCi(A:Option Addr)(c:Nat)(l:List PolV)(hl:l.length<=5864062014805):cY prog 94 [.slice A l.length c] [] [bT.sl (.slice A l.length c) l] (λ(x:Option Addr×Nat)=> .slice x.1 l.length x.2) (λ(x:Option Addr×Nat)=>[bT.row (.slice x.1 l.length x.2) 40 l]) (λ_=>[]):=by
 have hT:=dK;refine j5 func94 ntmps94 ?_;intro β hM;refine g9 ?_;refine ss (bZb underlying36 rfl rfl) ?_;refine g2 ?_;refine fX (λd=>?_) λd=>?_
 .refine bP<|bB (Fact.pure (A.isNone=true->l=[])) (bZd d7) ?_;refine bF d7 λa=>?_;have b:=a asd;subst b;refine bQ (t:=40) bT ?_;refine g6 ?_;exact rs1 (_,_) trivial
 refine g4 ?_;refine uM rfl rfl rfl rfl λe=>?_;refine one ?_;refine cU .head (bG d7) rfl rfl rfl rfl rfl rfl rfl q9 λf c3=>?_;rw[K5];refine g4 ?_;exact rs1 (_,_) trivial
theorem cloneM_spec(A:Option Addr)(c:Nat)(l:List Mono)(hl:l.length<=8796093022208):cY prog 39 [.slice A l.length c] [] [fE.sl (.slice A l.length c) l] (λ(x:Option Addr×Nat)=> .slice x.1 l.length x.2) (λ(x:Option Addr×Nat)=>[fE.row (.slice x.1 l.length x.2) 43 l]) (λ_=>[]):=by
 have hT:=dK;refine j5 func39 ntmps39 ?_;intro β hM;refine g9 ?_;refine ss (bZb underlying40 rfl rfl) ?_;refine g2 ?_;refine fX (λd=>?_) λd=>?_
 .refine bP<|bB (Fact.pure (A.isNone=true->l=[])) (bZd d7) ?_;refine bF d7 λa=>?_;have b:=a asd;subst b;refine bQ (t:=43) fE ?_;refine g6 ?_;exact rs1 (_,_) trivial
 refine g4 ?_;refine at_none_mono rfl rfl rfl rfl λe=>?_;refine one ?_;refine at_app_mono .head (bG d7) rfl rfl rfl rfl rfl rfl rfl q9 λf c3=>?_;rw[K5];refine g4 ?_;exact rs1 (_,_) trivial
theorem bWo(A:Option Addr)(c:Nat)(l:List PolV)(hl:l.length<=140737488355328):cY prog 95 [.slice A l.length c] [bT.row (.slice A l.length c) 40 l] [] (λ(_:Unit)=> .tuple #[]) (λ(_:Unit)=>[bT.row (.slice A l.length c) 40 l.reverse]) (λ_=>[]):=by
 have hT:=dK;refine j5 func95 ntmps95 ?_;intro β hM;refine g5 ?_;refine bJ (z':=(l.length:Int)-1-((0:Nat):Int)) (vT l7 l7 l7) ?_;refine g5 ?_;refine cF (ι:=Nat×List PolV) [(0,_)] ⟨rfl,i6⟩ (λ⟨i,cur⟩=>[(2,.int .i64 (i:Nat)),(3,.int .i64 ((l.length:Int)-1-(i:Nat)))]) (λ⟨i,cur⟩=>[bT.row (.slice A l.length c) 40 cur]) (λ⟨i,cur⟩=>[Fact.pure (i<=l.length/\bUy l cur i)]) (λ⟨i,cur⟩=>l.length-i) (0,l) ⟨rfl,rfl,i6⟩ (.c0 .nil) ⟨i7 (⟨l7,revG_start l⟩),i6⟩ ?_;rintro⟨i,cur⟩;dsimp only;refine bF d7 λhinv1=>?_;refine g8 ?_;refine dP (λh=>?_) λh=>?_
 .refine g4 ?_;have d:i<l.length-1-i:=l7
  have j:=hinv1.2.1;refine uL .head l7 λn hg=>?_;subst hg;have m:((l.length:Int)-1-(i:Nat))=((l.length-1-i:Nat):Int):=l7
  rw[m];refine kZ _ _ (.fl 0 (.fl 1 (.fl 2 (.fl 3 (.fl 4 (.fl 5 (.fl 6 (.fl 8 (.fl 9 (.fl 10 (.two 7 11 (.op 11 (.fl 12 (.op 13 (.fl 14 (.op 15 .nil))))) (.op 7 (.fl 12 (.op 13 (.fl 14 (.op 15 .nil)))))))))))))))) cN o0 .nil bA.self ?_;refine g6 ?_;obtain⟨e,b⟩:=gx cur (l.length-1-i) ab3;refine sqT rfl (gB hT (k:=(l.length-1-i)) rfl rfl rfl rfl rfl rfl ab3) ?_;refine g2 ?_;obtain⟨x4,a⟩:=gx cur i ab3;refine sqT rfl (gB hT (k:=i) rfl rfl rfl rfl rfl rfl ab3) ?_;refine gT (o:=_) (o':=_) rfl rfl ?_ ?_
  .refine ss (fG b 0) ?_;refine g2 ?_;refine ss (fG a 0) ?_;refine one ?_;refine sqT rfl (gB hT (k:=i) rfl rfl rfl rfl rfl rfl ab3) ?_;refine one ?_;refine fN hT (k:=i) (fo:=0) (y':=e) .head rfl rfl rfl rfl rfl rfl rfl rfl rfl a rfl ?_;refine one ?_;obtain⟨x6,g⟩:=gx (cur.set i e) (l.length-1-i) ab3;refine sqT rfl (gB hT (k:=(l.length-1-i)) rfl rfl rfl rfl rfl rfl ab3) ?_;refine one ?_;refine fN hT (k:=(l.length-1-i)) (fo:=0) (y':=x4) .head rfl rfl rfl rfl rfl rfl rfl rfl rfl g rfl ?_;refine g7 ?_;refine inc (i+1) ?_;refine g2 ?_;refine bJ (z':=(l.length:Int)-1-((i+1:Nat):Int)) (vT l7 l7 l7) ?_;refine g4 ?_;exact bk2 (i+1,_) ⟨i7 (⟨by dsimp only;omega,bWz hinv1.2 d asd asd⟩),i6⟩
  refine ss (fG a 0) ?_;refine g2 ?_;refine ss (fG b 0) ?_;refine one ?_;refine sqT rfl (gB hT (k:=i) rfl rfl rfl rfl rfl rfl ab3) ?_;refine one ?_;refine fN hT (k:=i) (fo:=0) (y':=e) .head rfl rfl rfl rfl rfl rfl rfl rfl rfl a rfl ?_;refine one ?_;obtain⟨x8,f⟩:=gx (cur.set i e) (l.length-1-i) ab3;refine sqT rfl (gB hT (k:=(l.length-1-i)) rfl rfl rfl rfl rfl rfl ab3) ?_;refine one ?_;refine fN hT (k:=(l.length-1-i)) (fo:=0) (y':=x4) .head rfl rfl rfl rfl rfl rfl rfl rfl rfl f rfl ?_;refine g7 ?_;refine inc (i+1) ?_;refine g2 ?_;refine bJ (z':=(l.length:Int)-1-((i+1:Nat):Int)) (vT l7 l7 l7) ?_;refine g4 ?_;exact bk2 (i+1,_) ⟨i7 (⟨by dsimp only;omega,bWz hinv1.2 d asd asd⟩),i6⟩
 refine g4 ?_;have hr:=revG_end hinv1.2 l7;subst hr;exact bAm () rfl (.c0 .nil) i6 (rfl)
theorem lO(n:Int):cY prog 31 [k6 n] [] [] (λ(x:Option Addr×Nat)=> .slice x.1 (bZ n).length x.2) (λ_=>[]) (λ(x:Option Addr×Nat)=>[kI ⟨x.1,x.2,bZ n⟩]):=by have hT:=dK;refine j5 func31 ntmps31 ?_;intro β hM;refine g8 ?_;refine j2 func54 (bGh n) i6 λ⟨A1,c2⟩=>?_;refine g14 ?_;exact rs1 (A1,c2) ⟨d7,i6⟩
theorem fI(A:Option Addr)(n c:Nat):cY prog 32 [.slice A n c] [] [] (λ(_:Unit)=> .agg #[.slice A n c,.bool false,.slice none 0 0]) (λ_=>[]) (λ_=>[]):=by have hT:=dK;refine j5 func32 ntmps32 ?_;intro β hM;refine g2 ?_;refine j1 sQ λa=>?_;refine g5 ?_;refine ss (j3 (xL _ _ _)) ?_;refine g4 ?_;exact rs1 () trivial
theorem kV(A B:Option Addr)(n m c d:Nat):cY prog 30 [.slice A n c,.slice B m d] [] [] (λ(_:Unit)=> .agg #[.slice A n c,.bool true,.slice B m d]) (λ_=>[]) (λ_=>[]):=by have hT:=dK;refine j5 func30 ntmps30 ?_;intro β hM;refine g2 ?_;refine j1 sQ λa=>?_;refine g6 ?_;refine ss (j3 (vW _ _ _ _ _ _ _)) ?_;refine g4 ?_;exact rs1 () trivial
def bFx (vars:Int):Nat:=(min (max vars 0) 6).toNat
