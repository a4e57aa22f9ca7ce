/- A part of one proof. -/
import Derived.Test.YtioekpienlhcgaaGreatDoorShelfP
import Derived.Shelf.SlSortCmp.NoneTotal
import Derived.Test.YtioekpienlhcgaaGreatDoorM4
import Derived.RangeFuncBound
import Derived.OwnWalkIn
import Derived.TacticsInMore
import Derived.LoopNIn
import Derived.LoopIn
import Derived.RangeFuncNested
set_option maxRecDepth 100000
namespace Go.Proofs.YtioekpienlhcgaaGreatDoor
open Lib renaming compareBytes->S6,hid->S7
open _root_.Nat renaming lt_of_lt_of_le->l8,mul_le_mul_right->C8,add_mul->C5,one_mul->C6,le_refl->B0,zero_le->C4,le_trans->B1,eq_zero_or_pos->S8,lt_succ_self->S9,blt->B2
open _root_.List renaming getElem?_eq_getElem->F1,length_cons->F5,pairwise_cons->E5,mem_cons->E2,mergeSort_perm->T0,drop_of_length_le->K3,map_cons->N7,getElem?_map->K1,map_set->T1,map_append->L2,mem_singleton->K7,mem_map->R2,mem_append->E3,length->Q8,getElem?_eq_some_iff->F3,filter_cons_of_pos->T2,map_fst_zip->T3,mem_filter->T4,length_map->O4,eq_nil_of_length_eq_zero->F7,length_filter_le->T5,length_append->F4,getElem?_set_self->T6,getElem?_set_ne->T7,getElem?_eq_none->L0,nil_append->K5,length_reverse->O8,take_succ_eq_append_getElem->T8,map_singleton->T9,any_eq_true->U0
open _root_.Array renaming ext'->D4,extract_eq_self_of_le->U1,toList_modify->U2,toList_push->U3,length_toList->U4,getElem?_eq_none->D2,toList_filter->U5,getElem?_eq_some_iff->U6
open Sem renaming run_bind->G9,run_pure->H3,run_ite->U7
open Result renaming andThen_ok->H6,andThen->U8
open _root_.Bool renaming true_and->U9,false_eq_true->J2,and_eq_true->J3
open Instr renaming findAsking->V0,findKey->P2,findNow->P1,keyThatStays->P4,lookup->Q7,mapEntry->V1,entryStore->V3,index->V4,build->V5
open MapKept renaming run_getObj_map->P7,run_setObj_map->P8
open _root_.Option renaming map_some->J8
open World renaming cell?->D0,size_alloc->V6
section
open Go.RowKit Go.Proofs.Tryz
structure Mono where
 n:Int
 U:UInt8
 T:UInt8
 R:UInt8
 Q:UInt8
 O:UInt8
 N:UInt8
instance : Inhabited Mono := ⟨⟨0, 0, 0, 0, 0, 0, 0⟩⟩
def Mono.E(m:Mono):List UInt8:=[m.U,m.T,m.R,m.Q,m.O,m.N]
def Mono.cells(m:Mono):List Value:=
 [.int .i64 m.n,.int .u8 m.U.toNat,.int .u8 m.T.toNat,.int .u8 m.R.toNat,.int .u8 m.Q.toNat,.int .u8 m.O.toNat,.int .u8 m.N.toNat]
def Mono.val(m:Mono):Value:=
 .agg #[.int .i64 m.n,.int .u8 m.U.toNat,.int .u8 m.T.toNat,.int .u8 m.R.toNat,.int .u8 m.Q.toNat,.int .u8 m.O.toNat,.int .u8 m.N.toNat]
theorem Mono.cells_length(m:Mono):m.cells.length=7:=rfl
def Mono.deg(m:Mono):Nat:=m.U.toNat+m.T.toNat+m.R.toNat+m.Q.toNat+m.O.toNat+m.N.toNat
def ord (a b:Mono):Int:=S6 b.E a.E
def qH (m:Mono):Bool:=decide (m.n≠0/\m.n<=16777216/\ -16777216<=m.n/\m.deg<=8)
theorem zS(e:UInt8):(e.toNat:Int)<256:=by have:=e.toNat_lt;omega
def bDz (a b:Mono):Int:=S6 a.E b.E
theorem bBf(a b:UInt8)(l m:List UInt8):S6 (a::l) (b::m)=if b.toNat<a.toNat then 1 else if a.toNat<b.toNat then-1 else S6 l m:=by
 rw[S6];simp only[UInt8.lt_iff_toNat_lt]
 by_cases h:a.toNat<b.toNat
 .rw[if_pos h,if_neg m0,if_pos h]
 .rw[if_neg h]
  by_cases c:b.toNat<a.toNat
  .rw[if_pos c,if_pos c]
  .rw[if_neg c,if_neg c,if_neg h]
def iR (w:World)(b o:Nat)(m:Mono):Prop:=
 w.cell? ⟨b,o,none⟩=some (.int .i64 m.n)/\w.cell? ⟨b,o+1,none⟩=some (.int .u8 m.U.toNat)/\w.cell? ⟨b,o+2,none⟩=some (.int .u8 m.T.toNat)/\
 w.cell? ⟨b,o+3,none⟩=some (.int .u8 m.R.toNat)/\w.cell? ⟨b,o+4,none⟩=some (.int .u8 m.Q.toNat)/\w.cell? ⟨b,o+5,none⟩=some (.int .u8 m.O.toNat)/\
 w.cell? ⟨b,o+6,none⟩=some (.int .u8 m.N.toNat)
def lM (w:World)(A:Option Addr)(l:List Mono):Prop:=
 ∀k m,l[k]?=some m-> ∃b o,A=some ⟨b,o,none⟩/\b<w.heap.size/\iR w b (o+k*7) m
theorem iR.below{w w':World}{B b o:Nat}{m:Mono}(h:iR w b o m)(hb:Below B w w')(hB:b<B):iR w' b o m:=by
 obtain⟨h0,h1,h2,d,h4,c,a⟩:=h
 exact⟨(hb.cell (p:=⟨b,o,none⟩) hB).trans h0,(hb.cell (p:=⟨b,o+1,none⟩) hB).trans h1,(hb.cell (p:=⟨b,o+2,none⟩) hB).trans h2,(hb.cell (p:=⟨b,o+3,none⟩) hB).trans d,
  (hb.cell (p:=⟨b,o+4,none⟩) hB).trans h4,(hb.cell (p:=⟨b,o+5,none⟩) hB).trans c,(hb.cell (p:=⟨b,o+6,none⟩) hB).trans a⟩
theorem lM.below{w w':World}{A:Option Addr}{l:List Mono}(h:lM w A l)(hb:Below w.heap.size w w'):lM w' A l:=λk m c=>by obtain⟨b,o,e,hB,a⟩:=h k m c;exact⟨b,o,e,l8 hB hb.size,a.below hb hB⟩
theorem lM.nil{w:World}{A:Option Addr}:lM w A []:=λk m h=>by simp at h
def Mono.eqB(a b:Mono):Bool:=a.n==b.n&&(a.U==b.U&&(a.T==b.T&&(a.R==b.R&&(a.Q==b.Q&&(a.O==b.O&&a.N==b.N)))))
theorem Mono.eqB_iff(a b:Mono):a.eqB b=true↔a=b:=by obtain⟨n,p,o,m,l,k,j⟩:=a;obtain⟨c,i,h,g,f,e,d⟩:=b;simp[Mono.eqB]
def vF:List Mono->List Mono->Bool
 |[],[]=>true
 |a::l,b::m=>a.eqB b&&vF l m
 |_,_=>false
theorem bWh: ∀l m:List Mono,vF l m=true↔l=m
 |[],[]=>by simp[vF]
 |[],b::m=>by simp[vF]
 |a::l,[]=>by simp[vF]
 |a::l,b::m=>by simp[vF,Mono.eqB_iff,bWh l m]
def gD:Option Mono->List Mono->Bool
 |_,[]=>true
 |none,m::l=>qH m&&gD (some m) l
 |some a,m::l=>qH m&&(decide (ord a m<0)&&gD (some m) l)
def dH (p:List Mono):Bool:=decide (p.length<=48)&&gD none p
theorem nO{l:List Mono}{k:Nat}(h:k<l.length): ∃m,l[k]?=some m/\l.drop k=m::l.drop (k+1):=
 ⟨l[k],F1 h,List.drop_eq_getElem_cons h⟩
theorem iR.later{W:World}{b o:Nat}{m:Mono}(h:iR W b o m):(∀x:iN W,x.w.cell? ⟨b,o,none⟩=some (k9 m.n))/\(∀x:iN W,x.w.cell? ⟨b,o+1,none⟩=some (l5 m.U.toNat))/\(∀x:iN W,x.w.cell? ⟨b,o+2,none⟩=some (l5 m.T.toNat))/\(∀x:iN W,x.w.cell? ⟨b,o+3,none⟩=some (l5 m.R.toNat))/\(∀x:iN W,x.w.cell? ⟨b,o+4,none⟩=some (l5 m.Q.toNat))/\(∀x:iN W,x.w.cell? ⟨b,o+5,none⟩=some (l5 m.O.toNat))/\(∀x:iN W,x.w.cell? ⟨b,o+6,none⟩=some (l5 m.N.toNat)):=by obtain⟨h0,h1,h2,d,h4,c,a⟩:=h;exact⟨iN.cell h0,iN.cell h1,iN.cell h2,iN.cell d,iN.cell h4,iN.cell c,iN.cell a⟩
theorem iR.zero{W:World}{b:Nat}{m:Mono}(h:iR W b 0 m):W.cell? ⟨b,0,none⟩=some (k9 m.n)/\W.cell? ⟨b,1,none⟩=some (l5 m.U.toNat)/\W.cell? ⟨b,2,none⟩=some (l5 m.T.toNat)/\W.cell? ⟨b,3,none⟩=some (l5 m.R.toNat)/\W.cell? ⟨b,4,none⟩=some (l5 m.Q.toNat)/\W.cell? ⟨b,5,none⟩=some (l5 m.O.toNat)/\W.cell? ⟨b,6,none⟩=some (l5 m.N.toNat):=by simpa[iR]using h
theorem iR.later0{W:World}{b:Nat}{m:Mono}(h:iR W b 0 m):(∀x:iN W,x.w.cell? ⟨b,0,none⟩=some (k9 m.n))/\(∀x:iN W,x.w.cell? ⟨b,1,none⟩=some (l5 m.U.toNat))/\(∀x:iN W,x.w.cell? ⟨b,2,none⟩=some (l5 m.T.toNat))/\(∀x:iN W,x.w.cell? ⟨b,3,none⟩=some (l5 m.R.toNat))/\(∀x:iN W,x.w.cell? ⟨b,4,none⟩=some (l5 m.Q.toNat))/\(∀x:iN W,x.w.cell? ⟨b,5,none⟩=some (l5 m.O.toNat))/\(∀x:iN W,x.w.cell? ⟨b,6,none⟩=some (l5 m.N.toNat)):=by obtain⟨h0,h1,h2,d,h4,c,a⟩:=h.zero;exact⟨iN.cell h0,iN.cell h1,iN.cell h2,iN.cell d,iN.cell h4,iN.cell c,iN.cell a⟩
def vS (w:World)(b o:Nat):List UInt8->Prop
 |[]=>True
 |x::l=>w.cell? ⟨b,o,none⟩=some (.int .u8 x.toNat)/\vS w b (o+1) l
theorem push_append(acc:ByteArray)(x:UInt8)(l:List UInt8):((acc.push x).data++l.toArray)=acc.data++(x::l).toArray:=by apply D4;simp[ByteArray.push]
theorem wP{P:Program}(w:World)(b:Nat): ∀(l:List UInt8) (o:Nat) (acc:ByteArray),vS w b o l->
  (Extern.Bytes.loadBytes ⟨b,o,none⟩ l.length acc).run P w= .ok ⟨acc.data++l.toArray⟩ w
 |[],o,acc,_=>by simp[Extern.Bytes.loadBytes]
 |x::l,o,acc,⟨h,t⟩=>by
  have ih:=wP (P:=P) w b l (o+1) (acc.push x) t;rw[push_append]at ih;simp only[Extern.Bytes.loadBytes,F5,G9];have hl:(load ⟨b,o,none⟩).run P w= .ok (.int .u8 x.toNat) w:=by simp[go_sem,h]
  rw[hl];simp only[H6];have e:((x.toNat:Int)).toNat.toUInt8=x:=by simp
  rw[e];exact ih
theorem run_compare{P:Program}(w:World)(b c o p k k':Nat)(x y:List UInt8)(hx:vS w b o x)(hy:vS w c p y):
  (Extern.BytealgCompare.compare #[.slice (some ⟨b,o,none⟩) x.length k,.slice (some ⟨c,p,none⟩) y.length k']).run P w= .ok (k9 (S6 x y)) w:=by change Sem.run P (do pure (goInt (Extern.BytealgCompare.cmp (<-Extern.Bytes.bytesOf (.slice (some ⟨b,o,none⟩) x.length k)) (<-Extern.Bytes.bytesOf (.slice (some ⟨c,p,none⟩) y.length k'))))) w=_;simp only[Extern.Bytes.bytesOf,G9,wP w b x o _ hx,wP w c y p _ hy,H6,H3,Lib.cmp_eq];simp[goInt]
set_option maxHeartbeats 400000 in
theorem compare_any(b c o p:Nat)(k k':Nat)(x y:List UInt8)(w:World)(hx:vS w b o x)(hy:vS w c p y):
  Calls prog 48 #[.slice (some ⟨b,o,none⟩) x.length k,.slice (some ⟨c,p,none⟩) y.length k'] w λe w'=>e= .returned (k9 (S6 x y))/\w=w':=by
 go_enter func48,ntmps48
 go_wp2
 rw[run_callFunc_extern func79 m7 m7 m7 (e:=Extern.BytealgCompare.compare) m7,run_compare w b c o p k k' x y hx hy];simp only[U8];rw[Oper.upon_value]
 go_wp2
 go_ret
 exact⟨rfl,rfl⟩
set_option maxHeartbeats 400000 in
theorem bUq(a b:Mono)(w:World):
  Calls prog 26 #[.agg #[k9 a.n,l5 a.U.toNat,l5 a.T.toNat,l5 a.R.toNat,l5 a.Q.toNat,l5 a.O.toNat,l5 a.N.toNat],.agg #[k9 b.n,l5 b.U.toNat,l5 b.T.toNat,l5 b.R.toNat,l5 b.Q.toNat,l5 b.O.toNat,l5 b.N.toNat]] w λe w'=>e= .returned (k9 (ord a b))/\ ∃q o1 o2,w'=((w.alloc o1).alloc o2).drewN q:=by
 have hc:=λn=>compare_any (w.heap.size+1) w.heap.size 1 1 6 6 b.E a.E (((w.alloc (.cells #[.int .i64 a.n,.int .u8 a.U.toNat,.int .u8 a.T.toNat,.int .u8 a.R.toNat,.int .u8 a.Q.toNat,.int .u8 a.O.toNat,.int .u8 a.N.toNat] 43)).alloc (.cells #[.int .i64 b.n,.int .u8 b.U.toNat,.int .u8 b.T.toNat,.int .u8 b.R.toNat,.int .u8 b.Q.toNat,.int .u8 b.O.toNat,.int .u8 b.N.toNat] 43)).drewN n) (by simp[vS,Mono.E,go_sem]) (by simp[vS,Mono.E,go_sem]);have HC:=S7 hc;clear hc
 go_enter func26,ntmps26
 go_wp2
 go_quiet ((go_at_call 48;exact Calls.quiet_of_same ((HC.out _).mono λ_ _ h=>⟨h.1,h.2.symm⟩)))
 go_wp2
 go_ret
 exact⟨rfl,_,_,_,rfl⟩
end
section
open Go.Proofs.Tryz
def num:List UInt8->Nat
 |[]=>0
 |a::l=>a.toNat*256^l.length+num l
theorem bTf: ∀l:List UInt8,num l<256^l.length
 |[]=>by simp[num]
 |a::l=>by have b:=bTf l;have c:=a.toNat_lt;have h:(a.toNat+1)*256^l.length<=256*256^l.length:=C8 _ m0;rw[C5,C6]at h;rw[num,F5,Nat.pow_succ,Nat.mul_comm (256^l.length) 256];omega
theorem cmp_num: ∀l m:List UInt8,l.length=m.length->S6 l m=if num m<num l then 1 else if num l<num m then-1 else 0
 |[],[],_=>by simp[num,S6]
 |[],_::_,h=>by simp at h
 |_::_,[],h=>by simp at h
 |a::l,b::m,h=>by
  have c:l.length=m.length:=by simpa using h
  have f:=cmp_num l m c;have g:=bTf l;have d:=bTf m;rw[bBf,num,num,<-c];rw[<-c]at d;generalize 256^l.length=p at*
  by_cases h1:b.toNat<a.toNat
  .have:(b.toNat+1)*p<=a.toNat*p:=C8 _ h1;rw[C5,C6]at this;rw[if_pos h1,if_pos m0]
  .rw[if_neg h1]
   by_cases h2:a.toNat<b.toNat
   .have:(a.toNat+1)*p<=b.toNat*p:=C8 _ h2;rw[C5,C6]at this;rw[if_pos h2,if_neg m0,if_pos m0]
   .have e:a.toNat=b.toNat:=m0
    rw[if_neg h2,f,e];simp only[Nat.add_lt_add_iff_left]
def Mono.key(m:Mono):Nat:=num m.E
theorem ord_key(a b:Mono):ord a b=if a.key<b.key then 1 else if b.key<a.key then-1 else 0:=cmp_num b.E a.E rfl
theorem bXk(a b:Mono):bDz a b=if b.key<a.key then 1 else if a.key<b.key then-1 else 0:=cmp_num a.E b.E rfl
theorem ord_lt(a b:Mono):ord a b<0↔b.key<a.key:=by
 rw[ord_key];split
 .constructor<;>intro h<;>omega
 .split<;>simp_all
theorem num_inj: ∀l m:List UInt8,l.length=m.length->num l=num m->l=m
 |[],[],_,_=>rfl
 |[],_::_,h,_=>by simp at h
 |_::_,[],h,_=>by simp at h
 |a::l,b::m,h,hn=>by
  have c:l.length=m.length:=by simpa using h
  have f:=bTf l;have d:=bTf m;rw[num,num,<-c]at hn;rw[<-c]at d
  have e:a.toNat=b.toNat:=by
   rcases Nat.lt_trichotomy a.toNat b.toNat with h1|h1|h1
   .have:(a.toNat+1)*256^l.length<=b.toNat*256^l.length:=C8 _ h1;rw[C5,C6]at this;omega
   .exact h1
   .have:(b.toNat+1)*256^l.length<=a.toNat*256^l.length:=C8 _ h1;rw[C5,C6]at this;omega
  rw[e]at hn;rw[UInt8.toNat_inj.1 e,num_inj l m c m0]
theorem key_E{a b:Mono}:a.key=b.key↔a.E=b.E:=⟨λh=>num_inj _ _ rfl h,λh=>by unfold Mono.key;rw[h]⟩
theorem eq_of_key{a b:Mono}(h:a.key=b.key)(hn:a.n=b.n):a=b:=by have:=key_E.1 h;obtain⟨n,q,p,o,m,l,k⟩:=a;obtain⟨c,j,i,g,f,e,d⟩:=b;simp only[Mono.E,List.cons.injEq,and_true]at this;obtain⟨rfl,rfl,rfl,rfl,rfl,rfl⟩:=this;simp at hn;rw[hn]
def qU (l:List Mono):Prop:=l.Pairwise (λa b=>b.key<a.key)
def lX (l:List Mono):Prop:=l.Pairwise (λa b=>a.key≠b.key)
theorem qU.apart{l:List Mono}(h:qU l):lX l:=List.Pairwise.imp (λh=>by omega) h
theorem qU.ext: ∀{l m:List Mono},qU l->qU m->(∀x,x∈l↔x∈m)->l=m
 |[],[],_,_,_=>rfl
 |[],b::m,_,_,h=>absurd ((h b).2 n9) n9
 |a::l,[],_,_,h=>absurd ((h a).1 n9) n9
 |a::l,b::m,h1,h2,h=>by
  obtain⟨i,k⟩:=E5.1 h1;obtain⟨g,j⟩:=E5.1 h2
  have e:a=b:=by
   have d:a∈b::m:=(h a).1 n9;have c:b∈a::l:=(h b).2 n9
   rcases E2.1 d with e|d
   .exact e
   .rcases E2.1 c with e|c
    .exact e.symm
    .have:=g a d;have:=i b c;omega
  subst e;rw[qU.ext k j λx=>?_];constructor
  .intro hx;have:=(h x).1 ah0
   rcases E2.1 this with rfl|f
   .have:=i x hx;omega
   .exact f
  .intro hx;have:=(h x).2 ah0
   rcases E2.1 this with rfl|f
   .have:=g x hx;omega
   .exact f
def qX (L:List Mono):List Mono:=(L.filter (λm=>m.n !=0)).mergeSort (λa b=>decide (b.key<=a.key))
theorem bJx{L:List Mono}{x:Mono}:x∈qX L↔x∈L/\x.n≠0:=by unfold qX;rw[(T0 _ _).mem_iff];simp
theorem falls_of{l:List Mono}(h1:l.Pairwise (λa b=>b.key<=a.key))(h2:lX l):qU l:=
 List.Pairwise.imp (λ⟨a,b⟩=>by omega) (List.Pairwise.and h1 h2)
theorem lX.perm{l m:List Mono}(h:lX l)(hp:l.Perm m):lX m:=hp.pairwise h (λh=>Ne.symm h)
theorem lX.filter{l:List Mono}(p:Mono->Bool)(h:lX l):lX (l.filter p):=List.Pairwise.filter _ h
theorem bAt{L:List Mono}(h:lX L):qU (qX L):=by refine falls_of ?_ ((h.filter _).perm (T0 _ _).symm);have:=List.pairwise_mergeSort (le:=λa b:Mono=>decide (b.key<=a.key)) s8 s8 (L.filter (λm=>m.n !=0));exact List.Pairwise.imp (λh=>by simpa using h) this
theorem canon_of{L S:List Mono}(h:lX L)(hp:S.Perm (L.filter (λm=>m.n !=0)))(hs:S.Pairwise (λa b=>b.key<=a.key)):S=qX L:=
 qU.ext (falls_of hs ((h.filter _).perm hp.symm)) (bAt h) λx=>by rw[hp.mem_iff,bJx];simp
end
section
open Go.RowKit Go.Sort Go.Proofs.Tryz
set_option maxRecDepth 100000
theorem bIw(a b:Mono):ltOf ord a b=decide (b.key<a.key):=by unfold ltOf;rw[decide_eq_decide];exact ord_lt a b
theorem swo_ord:SWO (ltOf ord) where
 irrefl x:=by rw[bIw];simp
 trans x y z h1 h2:=by rw[bIw]at*;simp at*;omega
 ntrans x y z h1 h2:=by rw[bIw]at*;simp at*;omega
theorem bUd(blk off size:Nat)(w:World):CmpLays prog 26 #[] Mono.cells 7 ord blk off size w:=
 λm d e _ x y=>by
  show Calls prog 26 #[.agg #[.int .i64 x.n,.int .u8 x.U.toNat,.int .u8 x.T.toNat,.int .u8 x.R.toNat,.int .u8 x.Q.toNat,.int .u8 x.O.toNat,.int .u8 x.N.toNat],.agg #[.int .i64 y.n,.int .u8 y.U.toNat,.int .u8 y.T.toNat,.int .u8 y.R.toNat,.int .u8 y.Q.toNat,.int .u8 y.O.toNat,.int .u8 y.N.toNat]] _ _
  exact(bUq x y _).mono λ_ _ ⟨he,q,b,a,c⟩=>⟨he,q,#[b,a],by rw[c,alloc_eq_grow,alloc_eq_grow,grow_grow];rfl⟩
theorem bXc(x:Mono): ∀v∈x.cells,v.oneCell'=true:=λv a=>by
 simp only[Mono.cells,E2,List.not_mem_nil,or_false]at a
 rcases a with rfl|rfl|rfl|rfl|rfl|rfl|rfl<;>rfl
def Row (w:World)(g:Nat)(l:List Mono):Prop:=HoldsK Mono.cells 7 w g 0 l.toArray
theorem sort_any(g cap:Nat)(l:List Mono)(w:World)(hH:Row w g l)(hg:g<w.heap.size)(hl:l.length<4611686018427387904):
  Calls prog 133 #[.slice (some ⟨g,0,none⟩) l.length cap,.func (.func 26) #[] #[]] w λe w'=>
   e= .returned (.tuple #[])/\ ∃l':List Mono,l'.Perm l/\l'.Pairwise (λa b=>b.key<=a.key)/\Row w' g l'/\w.heap.size<=w'.heap.size/\w'.os=w.os/\w'.tape=w.tape/\w'.output=w.output/\(∀k,k<w.heap.size->k≠g->w'.heap[k]?=w.heap[k]?):=by
 have y: ∀args w,(callFunc 26 args).run prog w= .ok (.enter 26 args) w:=enters_of func26 m7 rfl;have f:=AnyQ.slices_SortFunc Tryz.sortL 7 Tryz.isAgg43 Tryz.sizeOf43 Mono.cells (λ_=>rfl) bXc ord swo_ord 26 #[] g 0 cap l.toArray w y (bUd _ _ _ _) hH hg (by simpa using hl);change Calls prog 133 #[.slice (some ⟨g,0,none⟩) l.length cap,.func (.func 26) #[] #[]] w _ at f;refine f.mono ?_;rintro e w' ⟨he,c,n,os,u,hs,rfl⟩;obtain⟨d,_,m⟩:=u;have t:c.size=l.length:=by simpa using d
 refine⟨he,c.toList,?_,?_,?_,?_,rfl,rfl,rfl,?_⟩
 .have A:c.extract 0 l.toArray.size=c:=by apply U1;rw[d];exact B0 _
  have z:l.toArray.extract 0 l.toArray.size=l.toArray:=U1 (B0 _);rw[A,z]at m;exact m
 .rw[List.pairwise_iff_getElem];intro i j hi x r;have o:j<c.size:=by simpa using x
  have s:i<c.size:=by simpa using hi
  have h:=hs i j (C4 _) r (by rw[<-d];exact o);rw[getElem!_pos c j o,getElem!_pos c i s,bIw]at h
  simpa using h
 .show HoldsK Mono.cells 7 _ g 0 c;refine holdsK_grow Mono.cells 7 _ os g 0 c (by simp[putRowK,Sort.ahead];exact hg) ?_;exact holdsK_putRowK Mono.cells 7 _ g 0 l.toArray c hH d
 .simp[sortWorldK,grow,putRowK,Sort.ahead]
 .intro k v p;have q:k<(putRowK Mono.cells 7 (Sort.ahead w n) g 0 c).heap.size:=by simp[putRowK,Sort.ahead];exact v
  simp only[sortWorldK,grow];rw[Array.getElem?_append_left q];simp only[putRowK,putRow,mapBlock,Sort.ahead];rw[Array.getElem?_modify,if_neg (Ne.symm p)]
theorem sort_none(A:Option Addr)(cap:Nat)(w:World):
  Calls prog 133 #[.slice A 0 cap,.func (.func 26) #[] #[]] w λe w'=>e= .returned (.tuple #[])/\Below w.heap.size w w':=by
 have h:=AnyF.slices_SortFunc_none Tryz.sortL A cap (.func (.func 26) #[] #[]) w;change Calls prog 133 _ w _ at h
 exact h.mono λ_ _ ⟨he,a⟩=>⟨he,by rw[a];exact Below.refl _ _⟩
end
section
open Go.RowKit Go.Proofs.Tryz
set_option maxRecDepth 100000
theorem u8_eq(a b:UInt8):((a.toNat:Int)==(b.toNat:Int))=(a==b):=by
 rw[Bool.eq_iff_iff];simp only[beq_iff_eq];constructor
 .intro h;exact UInt8.toNat_inj.1 m0
 .rintro rfl;rfl
def Mono.sameE(a b:Mono):Bool:=a.U==b.U&&(a.T==b.T&&(a.R==b.R&&(a.Q==b.Q&&(a.O==b.O&&a.N==b.N))))
theorem bQp(a:Mono)(w:World):(part 5 #[l5 a.U.toNat,l5 a.T.toNat,l5 a.R.toNat,l5 a.Q.toNat,l5 a.O.toNat,l5 a.N.toNat] (0*1)).run prog w= .ok (l5 a.U.toNat) w/\(part 5 #[l5 a.U.toNat,l5 a.T.toNat,l5 a.R.toNat,l5 a.Q.toNat,l5 a.O.toNat,l5 a.N.toNat] (1*1)).run prog w= .ok (l5 a.T.toNat) w/\
  (part 5 #[l5 a.U.toNat,l5 a.T.toNat,l5 a.R.toNat,l5 a.Q.toNat,l5 a.O.toNat,l5 a.N.toNat] (2*1)).run prog w= .ok (l5 a.R.toNat) w/\(part 5 #[l5 a.U.toNat,l5 a.T.toNat,l5 a.R.toNat,l5 a.Q.toNat,l5 a.O.toNat,l5 a.N.toNat] (3*1)).run prog w= .ok (l5 a.Q.toNat) w/\
  (part 5 #[l5 a.U.toNat,l5 a.T.toNat,l5 a.R.toNat,l5 a.Q.toNat,l5 a.O.toNat,l5 a.N.toNat] (4*1)).run prog w= .ok (l5 a.O.toNat) w/\(part 5 #[l5 a.U.toNat,l5 a.T.toNat,l5 a.R.toNat,l5 a.Q.toNat,l5 a.O.toNat,l5 a.N.toNat] (5*1)).run prog w= .ok (l5 a.N.toNat) w:=
 ⟨m7,m7,m7,m7,m7,m7⟩
theorem sT(d:Nat)(a b:Mono)(w:World):(Op.equalIn (d+2) 41 (.agg #[l5 a.U.toNat,l5 a.T.toNat,l5 a.R.toNat,l5 a.Q.toNat,l5 a.O.toNat,l5 a.N.toNat]) (.agg #[l5 b.U.toNat,l5 b.T.toNat,l5 b.R.toNat,l5 b.Q.toNat,l5 b.O.toNat,l5 b.N.toNat])).run prog w= .ok (a.sameE b) w:=by
 obtain⟨r,c⟩: ∃i,prog.info? 5=some i:=⟨_,rfl⟩
 have q:prog.cellsOf 5=1:=m7
 obtain⟨p,o,n,m,l,k⟩:=bQp a w;obtain⟨j,q1,h,g,f,e⟩:=bQp b w;rw[run_equalIn_array w (d+1) _ _ underlying41 c,q];have hr:List.range 6=[0,1,2,3,4,5]:=rfl;rw[hr];simp only[Op.eqItems,G9,U7,H3,p,o,n,m,l,k,j,q1,h,g,f,e,H6,run_equalIn_int w d 5 .u8 .u8 _ _ underlying5,u8_eq];unfold Mono.sameE;cases a.U==b.U<;>cases a.T==b.T<;>cases a.R==b.R<;>cases a.Q==b.Q<;>cases a.O==b.O<;>cases a.N==b.N<;>rfl
theorem bJq(d:Nat)(a b:Mono)(w:World):(Op.equalIn (d+3) 43 (.agg #[k9 a.n,l5 a.U.toNat,l5 a.T.toNat,l5 a.R.toNat,l5 a.Q.toNat,l5 a.O.toNat,l5 a.N.toNat]) (.agg #[k9 b.n,l5 b.U.toNat,l5 b.T.toNat,l5 b.R.toNat,l5 b.Q.toNat,l5 b.O.toNat,l5 b.N.toNat])).run prog w= .ok (a.eqB b) w:=by
 have h:prog.underlying 43=some (.struct (prog.fieldsOf 43)):=m7
 have g:prog.stoodInHeld 43=false:=m7
 have i:(prog.fieldsOf 43).toList=[⟨ "N",2,0,false, "", "",0⟩,⟨ "E",41,1,false, "", "",8⟩]:=m7
 have f: ∀m:Mono,(part 2 #[.int .i64 m.n,.int .u8 m.U.toNat,.int .u8 m.T.toNat,.int .u8 m.R.toNat,.int .u8 m.Q.toNat,.int .u8 m.O.toNat,.int .u8 m.N.toNat] 0).run prog w= .ok (.int .i64 m.n) w:=λm=>by kernel_rfl
 have c: ∀m:Mono,(part 41 #[.int .i64 m.n,.int .u8 m.U.toNat,.int .u8 m.T.toNat,.int .u8 m.R.toNat,.int .u8 m.Q.toNat,.int .u8 m.O.toNat,.int .u8 m.N.toNat] 1).run prog w= .ok (.agg #[.int .u8 m.U.toNat,.int .u8 m.T.toNat,.int .u8 m.R.toNat,.int .u8 m.Q.toNat,.int .u8 m.O.toNat,.int .u8 m.N.toNat]) w:=λm=>by kernel_rfl
 rw[run_equalIn_agg w (d+2) 43 _ _ h g,i];simp only[Op.eqFields,G9,U7,H3,f,c,H6,run_equalIn_int w (d+1) 2 .i64 .i64 _ _ underlying2,sT d a b w];have e:a.eqB b=(a.n==b.n&&a.sameE b):=rfl;rw[e];cases a.n==b.n<;>cases a.sameE b<;>simp
theorem bIn(a b:Mono)(w:World):(binOp .neq 43 (.agg #[k9 a.n,l5 a.U.toNat,l5 a.T.toNat,l5 a.R.toNat,l5 a.Q.toNat,l5 a.O.toNat,l5 a.N.toNat]) (.agg #[k9 b.n,l5 b.U.toNat,l5 b.T.toNat,l5 b.R.toNat,l5 b.Q.toNat,l5 b.O.toNat,l5 b.N.toNat])).run prog w= .ok (.bool (!a.eqB b)) w:=by rw[run_neq_struct,bJq 9997 a b w];rfl
theorem bWw: ∀(l m:List Mono),l.length≠m.length->vF l m=false
 |[],[],h=>absurd rfl h
 |[],_::_,_=>rfl
 |_::_,[],_=>rfl
 |a::l,b::m,h=>by rw[vF,bWw l m ad7,Bool.and_false]
set_option maxHeartbeats 1000000 in
theorem same_any(A B:Option Addr)(c d:Nat)(xs ys:List Mono)(w:World)(ha:lM w A xs)(hb:lM w B ys)(hx:xs.length<=140737488355328):
  Calls prog 78 #[.slice A xs.length c,.slice B ys.length d] w λe w'=>e= .returned (.bool (vF xs ys))/\Below w.heap.size w w':=by
 by_cases hl:xs.length=ys.length
 .have hneq:=bIn;have Hl:=S7 hl;have Ha:=S7 ha;have Hb:=S7 hb;have hl1:((xs.length:Int) !=(ys.length:Int))=false:=by simp[hl]
  clear hl ha hb
  go_enter func78,ntmps78
  go_wp2
  go_loopw [5] (λi wr=> ∃k:Nat,k<=xs.length/\i= .int .i64 k/\Hid (vF xs ys=vF (xs.drop k) (ys.drop k))/\Below w.heap.size w wr) (λi _=>xs.length-(intOf i).toNat)
  case atStart=>exact⟨0,C4 _,rfl,rfl,Below.refl _ _⟩
  case round=>
   obtain⟨k,hk,rfl,hs,hbl⟩:=hrel
   by_cases hlt:k<xs.length
   .obtain⟨m,hm,dm⟩:=nO hlt;obtain⟨m',hm',dm'⟩:=nO (show k<ys.length by rw[<-Hl.out];exact hlt);obtain⟨b,o,rfl,hB,c0,c1,c2,c3,c4,c5,c6⟩:=Ha.out.below hbl k m hm;obtain⟨b',o',rfl,hB',d0,d1,d2,d3,d4,d5,d6⟩:=Hb.out.below hbl k m' hm';have hlt':k<ys.length:=by rw[<-Hl.out];exact hlt
    have HS:=S7 (show vF xs ys=(m.eqB m'&&vF (xs.drop (k+1)) (ys.drop (k+1))) by rw[hs.out,dm,dm',vF]);clear dm dm' hm hm' hB hB' hs;cases hf:m.eqB m'
    .go_wp2
     go_quiet (fail)
     go_wp2
     go_ret
     refine⟨gQ ?_,vO hbl _⟩;rw[HS.out,hf,Bool.false_and]
    .go_wp2
     go_quiet (fail)
     go_wp2
     go_roundw
     case rel=>exact⟨k+1,m0,by go_num,(by show _=_;rw[HS.out,hf,U9]),vO hbl _⟩
     case measure=>simp[intOf];omega
   .have hk':k=xs.length:=m0
    go_wp2
    go_ret
    refine⟨gQ ?_,hbl⟩;rw[hs.out,K3 m0,K3 (by rw[<-Hl.out];omega)];rfl
 .have hl1:((xs.length:Int) !=(ys.length:Int))=true:=by rw[bne_iff_ne];omega
  go_enter func78,ntmps78
  go_wp2
  go_ret
  exact⟨gQ (bWw _ _ hl).symm,Below.refl _ _⟩
end
section
open Go.RowKit Go.Proofs.Tryz
set_option maxRecDepth 100000
open Go.ChangeMaps (setBlock)
def kvM (m:Mono):Value×Value:=(.agg #[.int .u8 m.U.toNat,.int .u8 m.T.toNat,.int .u8 m.R.toNat,.int .u8 m.Q.toNat,.int .u8 m.O.toNat,.int .u8 m.N.toNat],.int .i64 m.n)
def kvE (e:MapEntry):Value×Value:=(e.key,e.val)
def pA (w:World)(r:Nat)(L:List Mono):Prop:=
 ∃es clock,w.heap[r]?=some (.map es clock)/\es.toList.map kvE=L.map kvM/\(∀x∈es.toList,x.born<clock)/\(es.toList.map (·.born)).Nodup
def xM (k:Mono):List Mono->Int
 |[]=>0
 |m::l=>if k.sameE m then m.n else xM k l
def setTo (k:Mono)(x:Int):List Mono->List Mono
 |[]=>[{k with n:=x}]
 |m::l=>if k.sameE m then {k with n:=x}::l else m::setTo k x l
def findAt(k:Mono):List Mono->Nat->Option (Nat×Value)
 |[],_=>none
 |m::l,i=>if k.sameE m then some (i,.int .i64 m.n)else findAt k l (i+1)
theorem bBb(k:Mono)(w:World): ∀(es:List MapEntry) (L:List Mono) (i:Nat),es.map kvE=L.map kvM->(V0 41 (.agg #[l5 k.U.toNat,l5 k.T.toNat,l5 k.R.toNat,l5 k.Q.toNat,l5 k.O.toNat,l5 k.N.toNat]) es i).run prog w= .ok (findAt k L i) w
 |[],[],_,_=>by simp[V0,findAt]
 |[],_::_,_,h=>by simp at h
 |_::_,[],_,h=>by simp at h
 |e::es,m::L,i,h=>by
  simp only[N7,List.cons.injEq,kvE,kvM,Prod.mk.injEq]at h;obtain⟨⟨h1,h2⟩,b⟩:=h;have a:=bBb k w es L (i+1) b
  have he:(Op.equal 41 (.agg #[.int .u8 k.U.toNat,.int .u8 k.T.toNat,.int .u8 k.R.toNat,.int .u8 k.Q.toNat,.int .u8 k.O.toNat,.int .u8 k.N.toNat]) e.key).run prog w= .ok (k.sameE m) w:=by rw[h1];exact sT 9998 k m w
  simp only[V0,G9,U7,H3,he,H6,findAt,h2];cases k.sameE m
  .simpa using a
  .simp
theorem bAm(k:Mono)(w:World)(es:List MapEntry)(L:List Mono)(h:es.map kvE=L.map kvM):(P2 41 (.agg #[l5 k.U.toNat,l5 k.T.toNat,l5 k.R.toNat,l5 k.Q.toNat,l5 k.O.toNat,l5 k.N.toNat]) es).run prog w= .ok (findAt k L 0) w:=by
 have hf:=bBb k w es L 0 h;unfold P2;simp only[G9,run_underlying underlying41,H6]
 cases es with
 |nil=>
  cases L with
  |nil=>simp[P1,findAt]
  |cons m L=>simp at h
 |cons e es=>simpa[P1,Instr.sameNow]using hf
theorem zO(b:Bool)(k:Mono)(w:World):(Instr.checkKey b 10000 41 (.agg #[l5 k.U.toNat,l5 k.T.toNat,l5 k.R.toNat,l5 k.Q.toNat,l5 k.O.toNat,l5 k.N.toNat])).run prog w= .ok () w:=by kernel_rfl
theorem run_stays(k:Mono)(w:World):(P4 (.agg #[l5 k.U.toNat,l5 k.T.toNat,l5 k.R.toNat,l5 k.Q.toNat,l5 k.O.toNat,l5 k.N.toNat]) (.agg #[l5 k.U.toNat,l5 k.T.toNat,l5 k.R.toNat,l5 k.Q.toNat,l5 k.O.toNat,l5 k.N.toNat])).run prog w= .ok (.agg #[l5 k.U.toNat,l5 k.T.toNat,l5 k.R.toNat,l5 k.Q.toNat,l5 k.O.toNat,l5 k.N.toNat]) w:=by unfold P4;simp[Instr.sameBits]
theorem findAt_none{k:Mono}{x:Int}: ∀{L:List Mono} {i:Nat},findAt k L i=none->xM k L=0/\setTo k x L=L++[{k with n:=x}]
 |[],_,_=>⟨rfl,rfl⟩
 |m::L,i,h=>by
  unfold findAt at h;cases hs:k.sameE m
  .rw[hs]at h;simp only[J2,if_false]at h;obtain⟨h1,h2⟩:=findAt_none (x:=x) h;simp[xM,setTo,hs,h1,h2]
  .rw[hs]at h;simp at h
theorem coef_app{k:Mono}: ∀{L:List Mono} {i:Nat},findAt k L i=none-> ∀M:List Mono,xM k (L++M)=xM k M
 |[],_,_,_=>rfl
 |m::L,i,h,M=>by
  unfold findAt at h;cases hs:k.sameE m
  .rw[hs]at h;simp only[J2,if_false]at h;simp[xM,hs,coef_app h M]
  .rw[hs]at h;simp at h
theorem sameE_self(k:Mono)(x:Int):k.sameE {k with n:=x}=true:=by simp[Mono.sameE]
theorem bCc{k:Mono}{x:Int}{j:Nat}{v:Value}: ∀{L:List Mono} {i:Nat},findAt k L i=some (j,v)-> ∃d m,j=i+d/\L[d]?=some m/\k.sameE m=true/\v= k9 m.n/\xM k L=m.n/\setTo k x L=L.set d {k with n:=x}
 |[],_,h=>by simp[findAt]at h
 |m::L,i,h=>by
  unfold findAt at h;cases hs:k.sameE m
  .rw[hs]at h;simp only[J2,if_false]at h;obtain⟨d,a,h1,h2,e,h4,c,b⟩:=bCc (x:=x) h;exact⟨d+1,a,m0,by simpa using h2,e,h4,by simp[xM,hs,c],by simp[setTo,hs,b]⟩
  .rw[hs]at h;simp only[if_true,Option.some.injEq,Prod.mk.injEq]at h;exact⟨0,m,m0,rfl,hs,h.2.symm,by simp[xM,hs],by simp[setTo,hs]⟩
theorem oI(k:Mono){w:World}{r:Nat}{L:List Mono}(h:pA w r L):
  (Q7 154 (.map (some r)) (.agg #[l5 k.U.toNat,l5 k.T.toNat,l5 k.R.toNat,l5 k.Q.toNat,l5 k.O.toNat,l5 k.N.toNat]) false).run prog w= .ok (k9 (xM k L)) w:=by
 obtain⟨g,b,e,a,_,_⟩:=h;have c:(zeroValue 2).run prog w= .ok (.int .i64 0) w:=m7
 unfold Q7;simp only[G9,run_underlying underlying154,H6,P7 e,H3,zO,bAm k w g.toList L a]
 cases hf:findAt k L 0 with
 |none=>simp[(findAt_none (x:=0) hf).1,c]
 |some p=>
  obtain⟨j,v⟩:=p;obtain⟨d,m,_,_,_,rfl,f,_⟩:=bCc (x:=0) hf;simp[f]
theorem bUw{k m:Mono}(h:k.sameE m=true):(Value.agg #[l5 m.U.toNat,l5 m.T.toNat,l5 m.R.toNat,l5 m.Q.toNat,l5 m.O.toNat,l5 m.N.toNat])= .agg #[l5 k.U.toNat,l5 k.T.toNat,l5 k.R.toNat,l5 k.Q.toNat,l5 k.O.toNat,l5 k.N.toNat]:=by simp only[Mono.sameE,J3,beq_iff_eq]at h;obtain⟨h0,h1,h2,b,h4,a⟩:=h;rw[h0,h1,h2,b,h4,a]
theorem map_set_kv{es:Array MapEntry}{L:List Mono}{d:Nat}{k m:Mono}{e:MapEntry}(hkv:es.toList.map kvE=L.map kvM)(hd:L[d]?=some m)(hs:k.sameE m=true)(he:es[d]?=some e)(x:Int):
  (es.modify d λe=>{e with val:= k9 x}).toList.map kvE=(L.set d {k with n:=x}).map kvM:=by
 have b:e.key= .agg #[.int .u8 k.U.toNat,.int .u8 k.T.toNat,.int .u8 k.R.toNat,.int .u8 k.Q.toNat,.int .u8 k.O.toNat,.int .u8 k.N.toNat]:=by
  have h1:(es.toList.map kvE)[d]?=some (kvE e):=by simp[he]
  rw[hkv,K1,hd]at h1;simp only[J8,Option.some.injEq,kvE,kvM,Prod.mk.injEq]at h1;rw[<-h1.1];exact bUw hs
 have a:es.toList[d]?=some e:=by simpa using he
 rw[U2,ChangeMaps.modify_eq_set _ _ _ _ a,T1,T1,hkv]
 congr 1
 simp[kvE,kvM,b]
theorem bCj(k:Mono)(x:Int){w:World}{r:Nat}{L:List Mono}(h:pA w r L): ∃v0 st w1 w2,
  (V1 154 (.map (some r)) (.agg #[l5 k.U.toNat,l5 k.T.toNat,l5 k.R.toNat,l5 k.Q.toNat,l5 k.O.toNat,l5 k.N.toNat])).run prog w= .ok (.tuple #[v0,k9 st]) w1/\
  (Q7 154 (.map (some r)) (.agg #[l5 k.U.toNat,l5 k.T.toNat,l5 k.R.toNat,l5 k.Q.toNat,l5 k.O.toNat,l5 k.N.toNat]) false).run prog w1= .ok (k9 (xM k L)) w1/\
  (V3 154 (.map (some r)) (k9 st) (k9 x)).run prog w1= .ok () w2/\
  pA w2 r (setTo k x L)/\ ∃o,w2=setBlock w r o:=by
 obtain⟨f,b,E,g,B,A⟩:=h;have V:(zeroValue 2).run prog w= .ok (.int .i64 0) w:=m7
 cases hf:findAt k L 0 with
 |none=>
  obtain⟨K,l⟩:=findAt_none (x:=x) hf;obtain⟨_,P⟩:=findAt_none (x:=0) hf;have i:(setBlock w r (.map (f.push ⟨.agg #[.int .u8 k.U.toNat,.int .u8 k.T.toNat,.int .u8 k.R.toNat,.int .u8 k.Q.toNat,.int .u8 k.O.toNat,.int .u8 k.N.toNat],.int .i64 0,b⟩) (b+1))).heap[r]?=some (.map (f.push ⟨.agg #[.int .u8 k.U.toNat,.int .u8 k.T.toNat,.int .u8 k.R.toNat,.int .u8 k.Q.toNat,.int .u8 k.O.toNat,.int .u8 k.N.toNat],.int .i64 0,b⟩) (b+1)):=ChangeMaps.heap_setBlock_same E _
  have q: ∀v,((f.push ⟨.agg #[.int .u8 k.U.toNat,.int .u8 k.T.toNat,.int .u8 k.R.toNat,.int .u8 k.Q.toNat,.int .u8 k.O.toNat,.int .u8 k.N.toNat],v,b⟩).toList.map (·.born)).Nodup:=λv=>by simp only[U3,L2,N7,List.map_nil];refine List.nodup_append.2 ⟨A,n9,λa Y c K e1=>?_⟩;simp only[K7]at K;obtain⟨y,hy,rfl⟩:=R2.1 Y;have:=B y hy;omega
  have C: ∀v,∀y∈(f.push ⟨.agg #[.int .u8 k.U.toNat,.int .u8 k.T.toNat,.int .u8 k.R.toNat,.int .u8 k.Q.toNat,.int .u8 k.O.toNat,.int .u8 k.N.toNat],v,b⟩).toList,y.born<b+1:=λv y hy=>by
   simp only[U3,E3,K7]at hy
   rcases hy with hy|rfl
   .have:=B y hy;omega
   .simp
  have D: ∀n:Int,(f.push ⟨.agg #[.int .u8 k.U.toNat,.int .u8 k.T.toNat,.int .u8 k.R.toNat,.int .u8 k.Q.toNat,.int .u8 k.O.toNat,.int .u8 k.N.toNat],.int .i64 n,b⟩).toList.map kvE=(L++[{k with n:=n}]).map kvM:=λn=>by simp[g,kvE,kvM]
  refine⟨.int .i64 0,b,setBlock w r (.map (f.push ⟨.agg #[.int .u8 k.U.toNat,.int .u8 k.T.toNat,.int .u8 k.R.toNat,.int .u8 k.Q.toNat,.int .u8 k.O.toNat,.int .u8 k.N.toNat],.int .i64 0,b⟩) (b+1)),setBlock w r (.map (f.push ⟨.agg #[.int .u8 k.U.toNat,.int .u8 k.T.toNat,.int .u8 k.R.toNat,.int .u8 k.Q.toNat,.int .u8 k.O.toNat,.int .u8 k.N.toNat],.int .i64 x,b⟩) (b+1)),?_,?_,?_,?_,⟨_,rfl⟩⟩
  .unfold V1;simp only[G9,run_underlying underlying154,H6,P7 E,H3,zO,bAm k w f.toList L g,hf,V];simp[P8 _ E,U8,setBlock,goInt]
  .have X:pA (setBlock w r (.map (f.push ⟨.agg #[.int .u8 k.U.toNat,.int .u8 k.T.toNat,.int .u8 k.R.toNat,.int .u8 k.Q.toNat,.int .u8 k.O.toNat,.int .u8 k.N.toNat],.int .i64 0,b⟩) (b+1))) r (L++[{k with n:=0}]):=⟨_,_,i,D 0,C _,q _⟩
   rw[oI k X,K,coef_app hf];simp[xM,sameE_self]
  .have s:(f.push ⟨.agg #[.int .u8 k.U.toNat,.int .u8 k.T.toNat,.int .u8 k.R.toNat,.int .u8 k.Q.toNat,.int .u8 k.O.toNat,.int .u8 k.N.toNat],.int .i64 0,b⟩).findIdx? (λe=>((e.born:Nat):Int)==((b:Nat):Int))=some f.size:=by rw[WideElems.findIdx_arr];exact WideElems.findIdx_born (j:=f.size) (e0:=⟨.agg #[.int .u8 k.U.toNat,.int .u8 k.T.toNat,.int .u8 k.R.toNat,.int .u8 k.Q.toNat,.int .u8 k.O.toNat,.int .u8 k.N.toNat],.int .i64 0,b⟩) (q _) n9
   have I:(f.push ⟨.agg #[.int .u8 k.U.toNat,.int .u8 k.T.toNat,.int .u8 k.R.toNat,.int .u8 k.Q.toNat,.int .u8 k.O.toNat,.int .u8 k.N.toNat],.int .i64 0,b⟩).modify f.size (λe=>{e with val:= .int .i64 x})=f.push ⟨.agg #[.int .u8 k.U.toNat,.int .u8 k.T.toNat,.int .u8 k.R.toNat,.int .u8 k.Q.toNat,.int .u8 k.O.toNat,.int .u8 k.N.toNat],.int .i64 x,b⟩:=by apply D4;rw[U2,U3,U3,<-U4,WideElems.modify_last]
   simp only[V3,G9,P7 i,H6,asInt,asIntOf,H3,s,I,P8 _ i];simp[setBlock]
  .rw[l];exact⟨_,_,ChangeMaps.heap_setBlock_same E _,D x,C _,q _⟩
 |some p=>
  obtain⟨j,v⟩:=p;obtain⟨d,m,hj,R,hs,W,K,l⟩:=bCc (x:=x) hf;obtain rfl:j=d:=m0
  subst W
  have J:f.size=L.length:=by
   have:=congrArg Q8 g
   simpa using this
  have Q:j<f.size:=by rw[J];exact(F3.1 R).1
  obtain⟨e,he⟩: ∃e,f[j]?=some e:=⟨f[j],Array.getElem?_eq_getElem Q⟩
  have U:e.key= .agg #[.int .u8 k.U.toNat,.int .u8 k.T.toNat,.int .u8 k.R.toNat,.int .u8 k.Q.toNat,.int .u8 k.O.toNat,.int .u8 k.N.toNat]:=by
   have h1:(f.toList.map kvE)[j]?=some (kvE e):=by simp[he]
   rw[g,K1,R]at h1;simp only[J8,Option.some.injEq,kvE,kvM,Prod.mk.injEq]at h1;rw[<-h1.1];exact bUw hs
  have t:f.toList[j]?=some e:=by simpa using he
  have G:f.modify j (λe=>{e with key:= .agg #[.int .u8 k.U.toNat,.int .u8 k.T.toNat,.int .u8 k.R.toNat,.int .u8 k.Q.toNat,.int .u8 k.O.toNat,.int .u8 k.N.toNat]})=f:=by apply D4;rw[U2,ChangeMaps.modify_eq_set _ _ _ _ t,<-U];exact WideElems.set_self _ _ _ t
  have i:(setBlock w r (.map f b)).heap[r]?=some (.map f b):=ChangeMaps.heap_setBlock_same E _;refine⟨.int .i64 m.n,e.born,setBlock w r (.map f b),setBlock w r (.map (f.modify j λe=>{e with val:= .int .i64 x}) b),?_,?_,?_,?_,⟨_,rfl⟩⟩
  .unfold V1;simp only[G9,run_underlying underlying154,H6,P7 E,H3,zO,bAm k w f.toList L g,hf,he,J8,Option.getD_some,U,run_stays];rw[G,P8 _ E];simp[setBlock,goInt]
  .exact oI k ⟨_,_,i,g,B,A⟩
  .have s:f.findIdx? (λZ=>((Z.born:Nat):Int)==((e.born:Nat):Int))=some j:=by rw[WideElems.findIdx_arr];exact WideElems.findIdx_born A t
   simp only[V3,G9,P7 i,H6,asInt,asIntOf,H3,s,P8 _ i];simp[setBlock]
  .rw[l]
   have u:(f.modify j λe=>{e with val:= .int .i64 x}).toList.map (·.born)=f.toList.map (·.born):=by rw[U2,ChangeMaps.modify_eq_set _ _ _ _ t,T1];exact WideElems.set_self _ _ _ (by simp[t])
   refine⟨_,_,ChangeMaps.heap_setBlock_same E _,map_set_kv g R hs he x,λy hy=>?_,by rw[u];exact A⟩;have O:y.born∈f.toList.map (·.born):=by rw[<-u];exact R2.2 ⟨y,hy,rfl⟩
   obtain⟨z,N,M⟩:=R2.1 O;rw[<-M];exact B z N
end
section
open Go.RowKit Go.Sort Go.Proofs.Tryz
set_option maxRecDepth 100000
def flat (l:List Mono):List Value:=l.flatMap Mono.cells
theorem flat_snoc(l:List Mono)(m:Mono):flat (l++[m])=flat l++m.cells:=by simp[flat]
theorem flat_get: ∀(l:List Mono) (k j:Nat) (m:Mono),l[k]?=some m->j<7->(flat l)[k*7+j]?=m.cells[j]?
 |[],k,j,m,h,_=>by simp at h
 |a::l,0,j,m,h,hj=>by
  simp at h;subst h;simp only[flat,List.flatMap_cons,Nat.zero_mul,Nat.zero_add];exact List.getElem?_append_left (by rw[Mono.cells_length];exact hj)
 |a::l,k+1,j,m,h,hj=>by
  have b:=flat_get l k j m ad7 hj;have e:flat (a::l)=a.cells++flat l:=by simp[flat]
  rw[e,List.getElem?_append_right (by rw[Mono.cells_length];omega),Mono.cells_length];rw[<-b]
  congr 1
  omega
def bRc (w:World)(B:Nat)(v:Value)(l:List Mono):Prop:=w.ownsRow B 43 7 v l.length (flat l)
theorem bRc.row{w:World}{B g cap:Nat}{l:List Mono}(h:bRc w B (.slice (some ⟨g,0,none⟩) l.length cap) l):Row w g l:=λt ht=>by
 have a:t<l.length*7:=by simpa using ht
 have d:=World.ownsRow.cellAt h t a;refine⟨?_,by simpa using World.ownsRow.frozenAt h t⟩;rw[get_flatK _ _ _ _ (by simpa using a)];have b:t/7<l.length:=m0
 have hg:=flat_get l (t/7) (t%7) l[t/7] (F1 b) (Nat.mod_lt _ m0);have e:t/7*7+t%7=t:=m0
 rw[e]at hg;rw[Nat.zero_add,d,hg];have f:l.toArray[t/7]! =l[t/7]:=by simp[b]
 rw[f];have c:t%7<(l[t/7]).cells.length:=by rw[Mono.cells_length];exact Nat.mod_lt _ m0
 rw[F1 c,getElem!_pos (l[t/7]).cells (t%7) c];rfl
theorem Row.monos{w:World}{g:Nat}{l:List Mono}(h:Row w g l):lM w (some ⟨g,0,none⟩) l:=λk m d=>by
 have hkl:k<l.toArray.size:=by simpa using (F3.1 d).1
 have e:l.toArray[k]! =m:=by
  rw[getElem!_pos l.toArray k hkl];have:=(F3.1 d).2
  simpa using this
 have c:=λj (f:j<7)=>(HoldsK.cell h hkl f).1;rw[e]at c
 have a:g<w.heap.size:=by
  rcases Nat.lt_or_ge g w.heap.size with b|b
  .exact b
  .have:=c 0 m0;simp[D0,D2 b]at this
 refine⟨g,0,rfl,a,?_⟩;exact⟨c 0 m0,c 1 m0,c 2 m0,c 3 m0,c 4 m0,c 5 m0,c 6 m0⟩
theorem Row.below{w w':World}{B g:Nat}{l:List Mono}(h:Row w g l)(hb:Below B w w')(hg:g<B):Row w' g l:=λt ht=>by obtain⟨h1,h2⟩:=h t ht;exact⟨(hb.cell (p:=⟨g,0+t,none⟩) hg).trans h1,(hb.frozen (p:=⟨g,0+t,none⟩) hg).trans h2⟩
theorem Row.lt{w:World}{g:Nat}{l:List Mono}(h:Row w g l)(hl:l≠[]):g<w.heap.size:=by
 cases l with
 |nil=>exact absurd rfl hl
 |cons m l=>
  obtain⟨b,o,e,a,_⟩:=h.monos 0 m rfl;injection e with e
  injection e with e
  omega
def Res (B:Nat)(w:World)(v:Value)(l:List Mono):Prop:=
 ∃A c,v= .slice A l.length c/\(l=[]\/ ∃g,A=some ⟨g,0,none⟩/\B<=g/\Row w g l)
theorem Res.monos{B:Nat}{w:World}{A:Option Addr}{n c:Nat}{l:List Mono}(h:Res B w (.slice A n c) l):lM w A l/\n=l.length:=by
 obtain⟨b,a,e,h⟩:=h;injection e with e1 e2 e3
 subst e1 e2
 rcases h with rfl|⟨g,rfl,_,hr⟩
 .exact⟨lM.nil,rfl⟩
 .exact⟨hr.monos,rfl⟩
theorem Res.below{B:Nat}{w w':World}{v:Value}{l:List Mono}(h:Res B w v l)(hb:Below w.heap.size w w'):Res B w' v l:=by
 obtain⟨A,c,e,h⟩:=h;refine⟨A,c,e,?_⟩
 by_cases a:l=[]
 .exact .inl a
 .rcases h with h|⟨g,d,b,hr⟩
  .exact .inl h
  .exact .inr ⟨g,d,b,hr.below hb (hr.lt a)⟩
theorem Res.mono{B B':Nat}{w:World}{v:Value}{l:List Mono}(h:Res B w v l)(hB:B'<=B):Res B' w v l:=by
 obtain⟨A,c,e,h⟩:=h;refine⟨A,c,e,?_⟩
 rcases h with h|⟨g,b,a,hr⟩
 .exact .inl h
 .exact .inr ⟨g,b,B1 hB a,hr⟩
theorem Res.nil(B:Nat)(w:World)(c:Nat)(A:Option Addr):Res B w (.slice A 0 c) []:=⟨A,c,rfl,.inl rfl⟩
end
section
open Go.RowKit Go.Proofs.Tryz
set_option maxRecDepth 100000
set_option maxHeartbeats 400000 in
theorem bFv(m:Mono)(w:World):
  Calls prog 142 #[.agg #[k9 m.n,l5 m.U.toNat,l5 m.T.toNat,l5 m.R.toNat,l5 m.Q.toNat,l5 m.O.toNat,l5 m.N.toNat]] w λe w'=>e= .returned (k9 m.deg)/\Below w.heap.size w w':=by
 have h0:=zS m.U;have h1:=zS m.T;have h2:=zS m.R;have h3:=zS m.Q;have h4:=zS m.O;have h5:=zS m.N
 go_enter func142,ntmps142
 go_wp2
 go_rounds 7
 go_ret
 refine⟨?_,by go_grown⟩;simp[Mono.deg]
set_option maxHeartbeats 400000 in
theorem bJy(m:Mono)(w:World):
  Calls prog 25 #[.agg #[k9 m.n,l5 m.U.toNat,l5 m.T.toNat,l5 m.R.toNat,l5 m.Q.toNat,l5 m.O.toNat,l5 m.N.toNat]] w λe w'=>e= .returned (.bool (qH m))/\Below w.heap.size w w':=by
 have h0:=zS m.U;have h1:=zS m.T;have h2:=zS m.R;have h3:=zS m.Q;have h4:=zS m.O;have h5:=zS m.N;have i0: ∀w,(V4 41 (.agg #[.int .u8 m.U.toNat,.int .u8 m.T.toNat,.int .u8 m.R.toNat,.int .u8 m.Q.toNat,.int .u8 m.O.toNat,.int .u8 m.N.toNat]) (.int .i64 0)).run prog w= .ok (.int .u8 m.U.toNat) w:=λ_=>by kernel_rfl
 have i1: ∀w,(V4 41 (.agg #[.int .u8 m.U.toNat,.int .u8 m.T.toNat,.int .u8 m.R.toNat,.int .u8 m.Q.toNat,.int .u8 m.O.toNat,.int .u8 m.N.toNat]) (.int .i64 1)).run prog w= .ok (.int .u8 m.T.toNat) w:=λ_=>by kernel_rfl
 have i2: ∀w,(V4 41 (.agg #[.int .u8 m.U.toNat,.int .u8 m.T.toNat,.int .u8 m.R.toNat,.int .u8 m.Q.toNat,.int .u8 m.O.toNat,.int .u8 m.N.toNat]) (.int .i64 2)).run prog w= .ok (.int .u8 m.R.toNat) w:=λ_=>by kernel_rfl
 have i3: ∀w,(V4 41 (.agg #[.int .u8 m.U.toNat,.int .u8 m.T.toNat,.int .u8 m.R.toNat,.int .u8 m.Q.toNat,.int .u8 m.O.toNat,.int .u8 m.N.toNat]) (.int .i64 3)).run prog w= .ok (.int .u8 m.Q.toNat) w:=λ_=>by kernel_rfl
 have i4: ∀w,(V4 41 (.agg #[.int .u8 m.U.toNat,.int .u8 m.T.toNat,.int .u8 m.R.toNat,.int .u8 m.Q.toNat,.int .u8 m.O.toNat,.int .u8 m.N.toNat]) (.int .i64 4)).run prog w= .ok (.int .u8 m.O.toNat) w:=λ_=>by kernel_rfl
 have i5: ∀w,(V4 41 (.agg #[.int .u8 m.U.toNat,.int .u8 m.T.toNat,.int .u8 m.R.toNat,.int .u8 m.Q.toNat,.int .u8 m.O.toNat,.int .u8 m.N.toNat]) (.int .i64 5)).run prog w= .ok (.int .u8 m.N.toNat) w:=λ_=>by kernel_rfl
 go_enter func25,ntmps25
 go_wp2
 go_rounds 7
 all_goals go_ret
 all_goals refine⟨gQ ?_,by go_grown⟩
 all_goals clear i0 i1 i2 i3 i4 i5
 all_goals go_light
 all_goals unfold qH Mono.deg
 all_goals try exact(decide_eq_false m0).symm
 have hn:(m.n !=0)=true:=by simpa using ‹¬m.n=0›
 rw[hn,U9];exact decide_eq_decide.2 m0
end
section
open Go.RowKit Go.Proofs.Tryz
set_option maxRecDepth 100000
theorem order_below(a b:Mono)(w:World):
  Calls prog 26 #[.agg #[k9 a.n,l5 a.U.toNat,l5 a.T.toNat,l5 a.R.toNat,l5 a.Q.toNat,l5 a.O.toNat,l5 a.N.toNat],.agg #[k9 b.n,l5 b.U.toNat,l5 b.T.toNat,l5 b.R.toNat,l5 b.Q.toNat,l5 b.O.toNat,l5 b.N.toNat]] w λe w'=>e= .returned (k9 (ord a b))/\Below w.heap.size w w':=
 (bUq a b w).mono λe w' ⟨he,q,f,d,c⟩=>⟨he,by rw[c];exact vO (((Below.refl _ _).alloc (B0 _) _).alloc n9 _) _⟩
set_option maxHeartbeats 1000000 in
theorem kZ(A:Option Addr)(c:Nat)(xs:List Mono)(w:World)(ha:lM w A xs)(hx:xs.length<=140737488355328):
  Calls prog 10 #[.slice A xs.length c] w λe w'=>e= .returned (.bool (dH xs))/\Below w.heap.size w w':=by
 by_cases hl:xs.length<=48
 .have hl1:decide ((48:Int)<(xs.length:Int))=false:=by simp;omega
  have Ha:=S7 ha;clear ha
  go_enter func10,ntmps10
  go_wp2
  go_loopw [10] (λi wr=> ∃k:Nat,k<=xs.length/\i= .int .i64 k/\Hid (dH xs=gD (if k=0 then none else xs[k-1]?) (xs.drop k))/\Below w.heap.size w wr) (λi _=>xs.length-(intOf i).toNat)
  case atStart=>exact⟨0,C4 _,rfl,by show _=_;simp[dH,hl],Below.refl _ _⟩
  case round=>
   obtain⟨k,hk,rfl,hs,hbl⟩:=hrel
   by_cases hlt:k<xs.length
   .obtain⟨m,hm,dm⟩:=nO hlt;obtain⟨b,o,rfl,hB,c0,c1,c2,c3,c4,c5,c6⟩:=Ha.out.below hbl k m hm;have q0:iR (wr.alloc (.cells #[.int .i64 m.n,.int .u8 m.U.toNat,.int .u8 m.T.toNat,.int .u8 m.R.toNat,.int .u8 m.Q.toNat,.int .u8 m.O.toNat,.int .u8 m.N.toNat] 43)) wr.heap.size 0 m:=by simp[iR,go_sem]
    have hb0:Below w.heap.size w (wr.alloc (.cells #[.int .i64 m.n,.int .u8 m.U.toNat,.int .u8 m.T.toNat,.int .u8 m.R.toNat,.int .u8 m.Q.toNat,.int .u8 m.O.toNat,.int .u8 m.N.toNat] 43)):=hbl.alloc hbl.size _;have hz:wr.heap.size<(wr.alloc (.cells #[.int .i64 m.n,.int .u8 m.U.toNat,.int .u8 m.T.toNat,.int .u8 m.R.toNat,.int .u8 m.Q.toNat,.int .u8 m.O.toNat,.int .u8 m.N.toNat] 43)).heap.size:=by simp
    have HB0:=S7 hb0;have Q0:=S7 q0;have Hz:=S7 hz;have hm':=hm;clear q0 hb0 hz hm hB;cases hsb:qH m
    .have HS:=S7 (show dH xs=false by rw[hs.out,dm];split<;>(try cases xs[k-1]?)<;>simp[gD,hsb]);clear dm hs
     go_wp2
     clear c0 c1 c2 c3 c4 c5 c6;generalize hb:wr.heap.size=B at Q0 Hz⊢;generalize wr.alloc (.cells #[.int .i64 m.n,.int .u8 m.U.toNat,.int .u8 m.T.toNat,.int .u8 m.R.toNat,.int .u8 m.Q.toNat,.int .u8 m.O.toNat,.int .u8 m.N.toNat] 43)=W0 at Q0 HB0 Hz⊢;clear hb hbl;have Hsm:=S7 (iN.calls (W0:=W0) λW _=>bJy m W);rw[hsb]at Hsm;obtain⟨r0,r1,r2,r3,r4,r5,r6⟩:=Q0.out.later0;clear Q0 Hz;refine nK m7 m7 ?_
     repeat (go_big_quiet_step ((go_at_call 25;exact Hsm.out _)))
     refine wpQuiet_nil ?_;rintro _ ⟨x,rfl⟩
     go_wp2
     go_ret
     exact⟨gQ HS.out.symm,HB0.out.trans (x.h.mono HB0.out.size)⟩
    .rcases S8 k with hk0|hk0
     .have hk1:decide (0<k)=false:=by simp;omega
      have HS:=S7 (show dH xs=gD (if k+1=0 then none else xs[k+1-1]?) (xs.drop (k+1)) by rw[hs.out,dm,if_pos hk0,if_neg m0,show k+1-1=k from rfl,hm'];simp[gD,hsb]);clear dm hs hk0 hm'
      go_wp2
      clear c0 c1 c2 c3 c4 c5 c6;generalize hb:wr.heap.size=B at Q0 Hz⊢;generalize wr.alloc (.cells #[.int .i64 m.n,.int .u8 m.U.toNat,.int .u8 m.T.toNat,.int .u8 m.R.toNat,.int .u8 m.Q.toNat,.int .u8 m.O.toNat,.int .u8 m.N.toNat] 43)=W0 at Q0 HB0 Hz⊢;clear hb hbl;have Hsm:=S7 (iN.calls (W0:=W0) λW _=>bJy m W);rw[hsb]at Hsm;obtain⟨r0,r1,r2,r3,r4,r5,r6⟩:=Q0.out.later0;clear Q0 Hz;refine nK m7 m7 ?_
      repeat (go_big_quiet_step ((go_at_call 25;exact Hsm.out _)))
      refine wpQuiet_nil ?_;rintro _ ⟨x,rfl⟩
      go_wp2
      go_roundw
      case rel=>exact⟨k+1,m0,by go_num,HS,HB0.out.trans (x.h.mono HB0.out.size)⟩
      case measure=>simp[intOf];omega
     .have hk1:decide (0<k)=true:=by simp;omega
      obtain⟨j,rfl⟩: ∃j,k=j+1:=⟨k-1,m0⟩
      obtain⟨q,hq⟩: ∃q,xs[j]?=some q:=⟨xs[j]'m0,F1 _⟩
      have HS:=S7 (show dH xs=(decide (ord q m<0)&&gD (some m) (xs.drop (j+1+1))) by rw[hs.out,dm,if_neg m0,show j+1-1=j from rfl,hq];simp[gD,hsb]);have HM:=S7 hm'
      have p0:iR (wr.alloc (.cells #[.int .i64 m.n,.int .u8 m.U.toNat,.int .u8 m.T.toNat,.int .u8 m.R.toNat,.int .u8 m.Q.toNat,.int .u8 m.O.toNat,.int .u8 m.N.toNat] 43)) b (o+j*7) q:=by
       obtain⟨b1,o1,e1,hB1,hm1⟩:=Ha.out.below hbl j q hq;injection e1 with e1
       injection e1 with e1 e2
       subst e1 e2;exact hm1.below ((Below.refl _ _).alloc (B0 _) _) hB1
      have P0:=S7 p0;clear dm hs hk0 hm' hq p0
      go_wp2
      clear c0 c1 c2 c3 c4 c5 c6;generalize hb:wr.heap.size=B at Q0 Hz⊢;generalize wr.alloc (.cells #[.int .i64 m.n,.int .u8 m.U.toNat,.int .u8 m.T.toNat,.int .u8 m.R.toNat,.int .u8 m.Q.toNat,.int .u8 m.O.toNat,.int .u8 m.N.toNat] 43)=W0 at Q0 HB0 Hz P0⊢;clear hb hbl;have Hsm:=S7 (iN.calls (W0:=W0) λW _=>bJy m W);rw[hsb]at Hsm;have Hor:=S7 (iN.calls (W0:=W0) λW _=>order_below q m W);obtain⟨r0,r1,r2,r3,r4,r5,r6⟩:=Q0.out.later0;obtain⟨s0,s1,s2,s3,s4,s5,s6⟩:=P0.out.later;clear Q0 Hz P0;refine nK m7 m7 ?_
      repeat (go_big_quiet_step ((first|(go_at_call 25;exact Hsm.out _)|(go_at_call 26;exact Hor.out _))))
      refine wpQuiet_nil ?_;rintro _ ⟨x,rfl⟩;clear r0 r1 r2 r3 r4 r5 r6 s0 s1 s2 s3 s4 s5 s6 Hsm Hor;have HBX:=S7 (show Below w.heap.size w x.w from HB0.out.trans (x.h.mono HB0.out.size));clear HB0
      by_cases ho:ord q m<0
      .have ho1:decide ((0:Int)<=ord q m)=false:=by simp;omega
       go_wp2
       go_roundw
       case rel=>exact⟨j+1+1,m0,by go_num,ah5,HBX.out⟩
       case measure=>simp[intOf];omega
      .have ho1:decide ((0:Int)<=ord q m)=true:=by simp;omega
       go_wp2
       go_ret
       exact⟨gQ ak6,HBX.out⟩
   .have hk':k=xs.length:=m0
    go_wp2
    go_ret
    refine⟨gQ ?_,hbl⟩;rw[hs.out,K3 m0];split<;>(try cases xs[k-1]?)<;>simp[gD]
 .have hl1:decide ((48:Int)<(xs.length:Int))=true:=by simp;omega
  go_enter func10,ntmps10
  go_wp2
  go_ret
  exact⟨gQ (by simp[dH,hl]),Below.refl _ _⟩
end
section
open Go.RowKit Go.Sort Go.Proofs.Tryz
set_option maxRecDepth 100000
open Go.ChangeMaps (setBlock)
theorem bXq{α:Type}(f:α->Nat): ∀{l:List α},(l.map f).Nodup-> ∀p∈l,l.Perm (p::l.filter (λq=>f q !=f p))
 |[],_,p,hp=>by simp at hp
 |a::l,hn,p,hp=>by
  simp only[N7,List.nodup_cons]at hn
  rcases E2.1 hp with rfl|b
  .have e:l.filter (λq=>f q !=f p)=l:=by rw[List.filter_eq_self];intro q hq;rw[bne_iff_ne];intro h;exact hn.1 (R2.2 ⟨q,hq,h⟩)
   simp[e]
  .have c:f a≠f p:=λh=>hn.1 (R2.2 ⟨p,b,h.symm⟩);rw[T2 (by rw[bne_iff_ne];exact c)];exact((bXq f hn.2 p b).cons a).trans (List.Perm.swap _ _ _)
def zW (Z:List (MapEntry×Mono))(seen:Array Nat):List (MapEntry×Mono):=Z.filter λp=>!seen.contains p.1.born
def nz (m:Mono):Bool:=m.n !=0
theorem zip_mem{es:List MapEntry}{L:List Mono}(h:es.map kvE=L.map kvM){p:MapEntry×Mono}(hp:p∈es.zip L):kvE p.1=kvM p.2:=by
 induction es generalizing L with
 |nil=>simp at hp
 |cons e es ih=>
  cases L with
  |nil=>simp at hp
  |cons m L=>
   simp only[N7,List.cons.injEq]at h;simp only[List.zip_cons_cons,E2]at hp
   rcases hp with rfl|hp
   .exact h.1
   .exact ih h.2 hp
theorem bKw{es:Array MapEntry}{L:List Mono}(hl:es.toList.length=L.length)(seen:Array Nat):(zW (es.toList.zip L) seen).map (·.1)=(leftOf es seen).toList:=by unfold zW leftOf;rw[U5];rw[show(es.toList.zip L).filter (λp=>!seen.contains p.1.born)=(es.toList.zip L).filter ((λe:MapEntry=>!seen.contains e.born)∘Prod.fst)from rfl];rw[<-List.filter_map,T3 m0]
theorem left_step{es:Array MapEntry}{L:List Mono}(hkv:es.toList.map kvE=L.map kvM)(hnd:(es.toList.map (·.born)).Nodup){seen:Array Nat}{e:MapEntry}(he:e∈(leftOf es seen).toList):
  ∃m,e.key= .agg #[l5 m.U.toNat,l5 m.T.toNat,l5 m.R.toNat,l5 m.Q.toNat,l5 m.O.toNat,l5 m.N.toNat]/\e.val= k9 m.n/\(zW (es.toList.zip L) seen).Perm ((e,m)::zW (es.toList.zip L) (seen.push e.born)):=by
 have d:es.toList.length=L.length:=by simpa using congrArg Q8 hkv
 rw[<-bKw d]at he;obtain⟨⟨f,m⟩,c,rfl⟩:=R2.1 he;have b:=zip_mem hkv (T4.1 c).1;simp only[kvE,kvM,Prod.mk.injEq]at b;refine⟨m,b.1,b.2,?_⟩
 have a:((zW (es.toList.zip L) seen).map λp=>p.1.born).Nodup:=by
  have h1:((es.toList.zip L).map λp=>p.1.born).Nodup:=by rw[show(λp:MapEntry×Mono=>p.1.born)=(·.born)∘Prod.fst from rfl,<-List.map_map,T3 m0];exact hnd
  exact h1.sublist (List.Sublist.map _ List.filter_sublist)
 have h:=bXq (λp:MapEntry×Mono=>p.1.born) a (f,m) c;refine h.trans (List.Perm.of_eq ?_)
 congr 1
 unfold zW;rw[List.filter_filter];apply List.filter_congr;intro p _;simp only[Array.contains_push,Bool.not_or];cases seen.contains p.1.born<;>simp[bne]
def kS (L:List Mono):List Mono×Int:=if dH (qX L)then (qX L,0)else ([],21)
def zR (w:World)(r:List Mono×Int)(e:Ending)(w':World):Prop:=
 ∃v,e= .returned (.tuple #[v,.int .i64 r.2])/\Below w.heap.size w w'/\Res w.heap.size w' v r.1
theorem zR.A{w w':World}{r:List Mono×Int}{e:Ending}(h:zR w r e w'): ∃A c,e= .returned (.tuple #[.slice A r.1.length c,k9 r.2])/\Below w.heap.size w w'/\lM w' A r.1:=by obtain⟨v,rfl,a,A,c,rfl,hr⟩:=h;exact⟨A,c,rfl,a,(Res.monos (B:=w.heap.size) ⟨A,c,rfl,hr⟩).1⟩
theorem bSn(m:Mono)(w:World):(V5 43 #[(0,k9 m.n),(1,.agg #[l5 m.U.toNat,l5 m.T.toNat,l5 m.R.toNat,l5 m.Q.toNat,l5 m.O.toNat,l5 m.N.toNat])]).run prog w= .ok (.agg #[k9 m.n,l5 m.U.toNat,l5 m.T.toNat,l5 m.R.toNat,l5 m.Q.toNat,l5 m.O.toNat,l5 m.N.toNat]) w:=run_build w _ _ _ m7
theorem info_mono:(prog.info? 43).map (λi=>(i.zero,i.size,i.bytes))=some (some (.agg #[k9 0,l5 0,l5 0,l5 0,l5 0,l5 0,l5 0]),7,16):=m7
theorem cells_at{W:World}{g:Nat}{t:TypeId}{m:Mono}(hb:W.heap[g]?=some (.cells #[k9 m.n,l5 m.U.toNat,l5 m.T.toNat,l5 m.R.toNat,l5 m.Q.toNat,l5 m.O.toNat,l5 m.N.toNat] t)): ∀j u,m.cells[j]?=some u->W.cell? ((⟨g,0,none⟩:Addr).add j)=some u:=λj u hu=>by
 have e:((⟨g,0,none⟩:Addr).add j)=⟨g,j,none⟩:=by unfold Addr.add;split<;>simp_all
 rw[e];unfold D0;rw[hb]
 simpa[Mono.cells]using hu
theorem bOm{w w1:World}{r:Nat}(o:Obj)(h:w1=w\/w1=w.drew):w.grownBy (setBlock w1 r o) (some r):=by
 have hs: ∀h:Array Obj,h.size<=(h.setIfInBounds r o).size:=λh=>by simp
 have b: ∀(h:Array Obj) (i:Nat),r≠i->(h.setIfInBounds r o)[i]?=h[i]?:=λh i a=>by simp[a]
 rcases h with rfl|rfl<;>exact⟨rfl,rfl,rfl,hs _,λi hi a=>b _ _ (λe=>a (by rw[e]))⟩
theorem left_eq{W:World}{b r:Nat}{es:Array MapEntry}{L:List Mono}{c c' s:Nat}{x:Option Nat}{seen:Array Nat}(hl:es.toList.length=L.length)(h1:W.heap[b]?=some (.map es c))(h2:W.heap[r]?=some (.mapIter x s seen c')):
  W.rangeLeft b r=(zW (es.toList.zip L) seen).length:=by unfold World.rangeLeft;rw[h1,h2];show(leftOf es seen).size=_;rw[<-U4,<-bKw hl,O4]
theorem perm_skip{C F:List Mono}{Z Z':List (MapEntry×Mono)}{e:MapEntry}{m:Mono}(h:(C++(Z.map (·.2)).filter nz).Perm F)(hp:Z.Perm ((e,m)::Z'))(hm:nz m=false):(C++(Z'.map (·.2)).filter nz).Perm F:=by
 have h1:(Z.map (·.2)).Perm (m::Z'.map (·.2)):=by simpa using hp.map (·.2)
 have h2:=h1.filter nz;rw[List.filter_cons_of_neg (by rw[hm];simp)]at h2;exact(h2.symm.append_left C).trans h
theorem perm_take1{C F:List Mono}{Z Z':List (MapEntry×Mono)}{e:MapEntry}{m:Mono}(h:(C++(Z.map (·.2)).filter nz).Perm F)(hp:Z.Perm ((e,m)::Z'))(hm:nz m=true):(C++[m]++(Z'.map (·.2)).filter nz).Perm F:=by
 have h1:(Z.map (·.2)).Perm (m::Z'.map (·.2)):=by simpa using hp.map (·.2)
 have h2:=h1.filter nz;rw[T2 hm]at h2;rw[List.append_assoc];exact(h2.symm.append_left C).trans h
theorem owns_far{w w':World}{B it:Nat}{v:Value}{C:List Mono}(h:bRc w B v C)(hg:w.grownBy w' (some it))(hit:it<B):bRc w' B v C:=by
 refine World.ownsRow.kept h hg ?_
 rcases h.2 with ⟨rfl,_⟩|⟨g,a,cur,rfl,b,_⟩
 .exact .inl rfl
 .refine .inr λe=>?_;simp[Value.ownBlock]at e;omega
theorem own_ne{w:World}{B it:Nat}{v:Value}{C:List Mono}(h:bRc w B v C)(hit:it<B):some it≠v.ownBlock:=by
 rcases h.2 with ⟨rfl,_⟩|⟨g,a,cur,rfl,b,_⟩
 .simp[Value.ownBlock]
 .intro e;simp[Value.ownBlock]at e;omega
theorem bMm{B:Nat}{a w w':World}{row:Option Nat}(h:Below B a w)(hg:w.grownBy w' row)(hB:B<=w.heap.size)(hr: ∀k,row=some k->B<=k):Below B a w':=h.grown hg hB hr
set_option maxHeartbeats 1000000 in
theorem bQh(r:Nat)(L:List Mono)(w:World)(hm:pA w r L)(hA:lX L)(hL:L.length<=1000000):
  Calls prog 93 #[.map (some r)] w (zR w (kS L)):=by
 obtain⟨es,clock,hb,hkv,hlt,hnd⟩:=hm;have hr:r<w.heap.size:=(U6.1 hb).1
 have hrange:(Instr.range 154 (.map (some r))).run prog w= .ok (.pointer (some ⟨w.heap.size,0,none⟩)) (w.alloc (.mapIter (some r) clock #[] clock)):=by unfold Instr.range;simp only[G9,run_underlying underlying154,H6,P7 hb,H3];rfl
 have HA:=S7 hA;have Hkv:=S7 hkv;have Hnd:=S7 hnd;have Hlt:=S7 hlt;have Hb:=S7 hb;clear hA hkv hnd hlt hb
 go_enter func93,ntmps93
 go_wp2
 go_loopw [4] (λv wr=> ∃(seen:Array Nat) (C:List Mono),wr.heap[w.heap.size]?=some (.mapIter (some r) clock seen clock)/\bRc wr (w.heap.size+1) v C/\Hid ((C++((zW (es.toList.zip L) seen).map (·.2)).filter nz).Perm (L.filter nz))/\Below w.heap.size w wr) (λ_ wr=>wr.rangeLeft r w.heap.size)
 case atStart=>
  refine⟨#[],[],heap_alloc_new _ _,World.ownsRow_nil _ _ _ _,?_,(Below.refl _ _).alloc (B0 _) _⟩;show List.Perm _ _;have hl:es.toList.length=L.length:=by simpa using congrArg Q8 Hkv.out
  have e:zW (es.toList.zip L) #[]=es.toList.zip L:=by simp[zW]
  rw[e,List.map_snd_zip m0];simp
 case round=>
  obtain⟨seen,C,hit,hown,hperm,hbl⟩:=hrel;have hbr:wr.heap[r]?=some (.map es clock):=(hbl.block r hr).trans Hb.out
  rcases run_next_at (P:=prog) wr 0 w.heap.size r clock clock seen es clock hit hbr Hlt.out (B0 _)with ⟨h0,hn⟩|⟨e,he,w1,hw1,hn⟩
  .have hl:es.toList.length=L.length:=by simpa using congrArg Q8 Hkv.out
   have hz:zW (es.toList.zip L) seen=[]:=by have h1:=bKw hl seen;rw[show(leftOf es seen).toList=[]from F7 (by simpa using h0)]at h1;exact List.map_eq_nil_iff.1 h1
   have hpm:C.Perm (L.filter nz):=by have:=hperm.out;rw[hz]at this;simpa using this
   have hCl:C.length<=1000000:=by have h1:=hpm.length_eq;have h2:=T5 nz L;omega
   have HC:=S7 (show ∀T:List Mono,T.Perm C->T.Pairwise (λa b=>b.key<=a.key)->T=qX L from λT h1 h2=>canon_of HA.out (h1.trans hpm) h2);have Hown:=S7 hown;have HBL:=S7 hbl;clear hit hbr hperm hpm hz hl h0 hown hbl
   rcases Hown.out.2 with ⟨hnil,hC⟩|⟨g,cap,cur,hv,hg,_⟩
   .go_wp2_with fail
    rw[hnil];refine(sort_none _ _ _).mono ?_;rintro e w1 ⟨rfl,hb1⟩;obtain rfl:C=[]:=F7 hC;have hcan:qX L=[]:=(HC.out [] (List.Perm.refl _) List.Pairwise.nil).symm;have Hcan:=S7 hcan;clear hcan;have hb1':=S7 hb1;clear hb1
    go_wp2_with fail
    refine(kZ none 0 [] _ lM.nil n9).mono ?_;rintro e w2 ⟨rfl,hb2⟩;have hrb:dH []=true:=rfl;have HB2:=S7 (show Below w.heap.size w w2 from (HBL.out.trans (hb1'.out.mono HBL.out.size)).trans (hb2.mono (by have:=HBL.out.size;have:=hb1'.out.size;omega)));clear hb2 hb1' HBL
    go_wp2
    go_ret2
    have e:kS L=([],0):=by unfold kS;rw[Hcan.out];rfl
    rw[e];exact⟨_,rfl,HB2.out,Res.nil _ _ _ _⟩
   .have hrow:Row wr g C:=by have h:=Hown.out;rw[hv]at h;exact bRc.row h
    have hgl:g<wr.heap.size:=(World.ownsRow.lt Hown.out g (by rw[hv];rfl)).2;have HG:=S7 hg;have HR:=S7 hrow;clear hrow hg
    go_wp2_with fail
    rw[hv];refine(sort_any g cap C wr HR.out hgl m0).mono ?_;rintro e w1 ⟨rfl,T,hTp,hTs,hTr,hsz,hos,htp,hou,hkeep⟩;have hT:T=qX L:=HC.out T hTp hTs;have hTl:T.length=C.length:=hTp.length_eq;have hb1:Below w.heap.size w w1:=HBL.out.trans ⟨hos,htp,hou,hsz,λk hk=>hkeep k (l8 hk HBL.out.size) (by have:=HG.out;omega)⟩;have HB1:=S7 hb1;have hgl1:g<w1.heap.size:=l8 hgl hsz;have HTr:=S7 hTr;have HT:=S7 hT;have HTl:=S7 hTl;clear hTp hTs hTr hsz hos htp hou hkeep hT hTl hb1 HR HBL
    go_wp2_with fail
    rw[<-HTl.out];refine(kZ _ cap T _ HTr.out.monos (by rw[HTl.out];omega)).mono ?_;rintro e w2 ⟨rfl,hb2⟩;have HB2:=S7 (show Below w.heap.size w w2 from HB1.out.trans (hb2.mono HB1.out.size));have HTr2:=S7 (show Row w2 g T from HTr.out.below hb2 hgl1);clear hb2 HB1 HTr;cases hrb:dH T
    .go_wp2
     go_ret2
     have e:kS L=([],21):=by unfold kS;rw[<-HT.out,hrb];rfl
     rw[e];exact⟨_,rfl,HB2.out,Res.nil _ _ _ _⟩
    .go_wp2
     go_ret2
     have e:kS L=(T,0):=by unfold kS;rw[<-HT.out,hrb];rfl
     rw[e];refine⟨_,rfl,HB2.out,some ⟨g,0,none⟩,cap,?_,.inr ⟨g,rfl,by have:=HG.out;omega,HTr2.out⟩⟩;simp[HTl.out]
  .obtain⟨m,hk,hv,hp⟩:=left_step Hkv.out Hnd.out he;rw[hk,hv]at hn
   obtain⟨W1,hW1⟩: ∃W1,W1=setBlock w1 w.heap.size (.mapIter (some r) clock (seen.push e.born) clock):=⟨_,rfl⟩
   rw[<-hW1]at hn;have hg1:wr.grownBy W1 (some w.heap.size):=by rw[hW1];exact bOm _ hw1
   have hit1:W1.heap[w.heap.size]?=some (.mapIter (some r) clock (seen.push e.born) clock):=by
    rw[hW1]
    have hlt:w.heap.size<w1.heap.size:=by
     have:=(U6.1 hit).1
     rcases hw1 with rfl|rfl<;>exact this
    simp[setBlock,hlt]
   have hbr1:W1.heap[r]?=some (.map es clock):=(hg1.block r (U6.1 hbr).1 (by intro h;injection h with h;omega)).trans hbr
   have hen:(Instr.entry (.pointer (some ⟨w.heap.size,0,none⟩))).run prog W1= .ok (.tuple #[.agg #[.int .u8 m.U.toNat,.int .u8 m.T.toNat,.int .u8 m.R.toNat,.int .u8 m.Q.toNat,.int .u8 m.O.toNat,.int .u8 m.N.toNat],.int .i64 m.n]) W1:=by
    have:=run_entry_at (P:=prog) W1 w.heap.size r clock seen es clock e hit1 hbr1 (by
     have:=he;unfold leftOf at this;rw[U5]at this
     exact(T4.1 this).1) Hnd.out
    rw[hk,hv]at this;exact this
   have Hown:=S7 (owns_far hown hg1 (S9 _));have HBL:=S7 (bMm hbl hg1 hbl.size (λk hk=>by injection hk with hk;omega));have Hit:=S7 hit1;have Hbr:=S7 hbr1;have hl:es.toList.length=L.length:=by simpa using congrArg Q8 Hkv.out
   have Hmes:=S7 (show wr.rangeLeft r w.heap.size=(zW (es.toList.zip L) (seen.push e.born)).length+1 by rw[left_eq hl hbr hit,hp.length_eq];rfl);have Hl:=S7 hl
   have hCl:C.length<=1000000:=by have h1:=hperm.out.length_eq;have h2:=T5 nz L;simp only[F4]at h1;omega
   have Hp:=S7 hp;clear hl hp;clear hW1 hg1 hit1 hbr1 hit hbr hown hbl hw1 he hk hv;have hbu:=bSn m
   by_cases hz:m.n=0
   .have hz1:(m.n !=0)=false:=by simp[hz]
    have Hz:=S7 hz;clear hz
    go_wp2
    have q1:(W1.alloc (.cells #[.int .u8 m.U.toNat,.int .u8 m.T.toNat,.int .u8 m.R.toNat,.int .u8 m.Q.toNat,.int .u8 m.O.toNat,.int .u8 m.N.toNat] 41)).heap[w.heap.size]?=some (.mapIter (some r) clock (seen.push e.born) clock):=(Below.heap_alloc _ _ _ (U6.1 Hit.out).1).trans Hit.out;have q2:(W1.alloc (.cells #[.int .u8 m.U.toNat,.int .u8 m.T.toNat,.int .u8 m.R.toNat,.int .u8 m.Q.toNat,.int .u8 m.O.toNat,.int .u8 m.N.toNat] 41)).heap[r]?=some (.map es clock):=(Below.heap_alloc _ _ _ (U6.1 Hbr.out).1).trans Hbr.out
    go_roundw
    case rel=>exact⟨seen.push e.born,C,q1,Hown.out.alloc _,perm_skip hperm.out Hp.out (by simp[nz,Hz.out]),HBL.out.alloc HBL.out.size _⟩
    case measure=>rw[left_eq Hl.out q2 q1,Hmes.out];omega
   .have hz1:(m.n !=0)=true:=by simp[hz]
    clear hz;obtain⟨i0,hi0,hi1,hi2,hi3⟩:=info_parts info_mono
    go_wp2_with (at_builtin;refine wpList_append_own_at _ rfl (.tmp 16) (.tmp 20) 40 rfl (w.heap.size+1) 43 i0 _ 7 16 underlying40 hi0 hi1 hi2 hi3 rfl m9 _ C.length (flat C) rfl ((Hown.out.alloc _).alloc _) ⟨W1.heap.size+1,0,none⟩ 1 1 m.cells rfl rfl ?hx ?h1 ?h2 ?h3 ?h4 ?_)
    case hx=>exact cells_at (by rw[<-V6];exact heap_alloc_new _ _)
    case h1=>exact bXc m
    case h2=>unfold maxLen;omega
    case h3=>omega
    case h4=>have:=HBL.out.size;simp;omega
    intro v' w2 hown2 hgrow2 _ _;have hs2:=HBL.out.size
    have e1:((W1.alloc (.cells #[.int .u8 m.U.toNat,.int .u8 m.T.toNat,.int .u8 m.R.toNat,.int .u8 m.Q.toNat,.int .u8 m.O.toNat,.int .u8 m.N.toNat] 41)).alloc (.cells #[.int .i64 m.n,.int .u8 m.U.toNat,.int .u8 m.T.toNat,.int .u8 m.R.toNat,.int .u8 m.Q.toNat,.int .u8 m.O.toNat,.int .u8 m.N.toNat] 43)).heap[w.heap.size]?=some (.mapIter (some r) clock (seen.push e.born) clock):=by rw[Below.heap_alloc _ _ _ (by have:=(U6.1 Hit.out).1;simp;omega),Below.heap_alloc _ _ _ (U6.1 Hit.out).1];exact Hit.out
    have e2:((W1.alloc (.cells #[.int .u8 m.U.toNat,.int .u8 m.T.toNat,.int .u8 m.R.toNat,.int .u8 m.Q.toNat,.int .u8 m.O.toNat,.int .u8 m.N.toNat] 41)).alloc (.cells #[.int .i64 m.n,.int .u8 m.U.toNat,.int .u8 m.T.toNat,.int .u8 m.R.toNat,.int .u8 m.Q.toNat,.int .u8 m.O.toNat,.int .u8 m.N.toNat] 43)).heap[r]?=some (.map es clock):=by rw[Below.heap_alloc _ _ _ (by have:=(U6.1 Hbr.out).1;simp;omega),Below.heap_alloc _ _ _ (U6.1 Hbr.out).1];exact Hbr.out
    have q1:w2.heap[w.heap.size]?=some (.mapIter (some r) clock (seen.push e.born) clock):=(hgrow2.block _ (U6.1 e1).1 (own_ne Hown.out (S9 _))).trans e1;have q2:w2.heap[r]?=some (.map es clock):=(hgrow2.block _ (U6.1 e2).1 (own_ne Hown.out m0)).trans e2;have hb2:Below w.heap.size w ((W1.alloc (.cells #[.int .u8 m.U.toNat,.int .u8 m.T.toNat,.int .u8 m.R.toNat,.int .u8 m.Q.toNat,.int .u8 m.O.toNat,.int .u8 m.N.toNat] 41)).alloc (.cells #[.int .i64 m.n,.int .u8 m.U.toNat,.int .u8 m.T.toNat,.int .u8 m.R.toNat,.int .u8 m.Q.toNat,.int .u8 m.O.toNat,.int .u8 m.N.toNat] 43)):=(HBL.out.alloc hs2 _).alloc s8 _
    have hb3:Below w.heap.size w w2:=bMm hb2 hgrow2 hb2.size (λk hk=>by
     have:=(World.ownsRow.lt Hown.out k hk).1
     omega)
    have Q1:=S7 q1;have Q2:=S7 q2
    have HO2:=S7 (show bRc w2 (w.heap.size+1) v' (C++[m]) by
     have:=hown2;unfold bRc;rw[flat_snoc,F4]
     exact this)
    have HB3:=S7 hb3;clear e1 e2 q1 q2 hb2 hb3 hown2 hgrow2 Hown HBL Hit Hbr hs2 hi0 hi1 hi2 hi3 hbu hen hn
    go_wp2
    go_roundw
    case rel=>exact⟨seen.push e.born,C++[m],Q1.out,HO2.out,perm_take1 hperm.out Hp.out hz1,HB3.out⟩
    case measure=>rw[left_eq Hl.out Q2.out Q1.out,Hmes.out];omega
end
section
open Go.RowKit Go.Sort Go.Proofs.Tryz
set_option maxRecDepth 100000
open Go.ChangeMaps (setBlock)
def zU (m:Mono)(v:Int)(L:List Mono):List Mono:=setTo m (wrap64 (xM m L+v)) L
def kK (g:Mono->Int):List Mono->List Mono->List Mono
 |L,[]=>L
 |L,m::p=>kK g (zU m (g m) L) p
def cD (p q:List Mono)(s:Int):List Mono×Int:=if dH p&&dH q then kS (kK (λm=>wrap64 (s*m.n)) (kK Mono.n [] p) q)else ([],20)
theorem pA.alloc{w:World}{r:Nat}{L:List Mono}(h:pA w r L)(o:Obj):pA (w.alloc o) r L:=by obtain⟨d,a,b,h1,h2,c⟩:=h;exact⟨d,a,(Below.heap_alloc _ _ _ (U6.1 b).1).trans b,h1,h2,c⟩
theorem pA.drew{w:World}{r:Nat}{L:List Mono}(h:pA w r L):pA w.drew r L:=h
theorem pA.new(w:World):pA (w.alloc (.map #[] 0)) w.heap.size []:=⟨#[],0,heap_alloc_new _ _,rfl,n9,n9⟩
theorem sameE_E{k m:Mono}:k.sameE m=true↔k.key=m.key:=by rw[key_E];simp[Mono.sameE,Mono.E]
theorem bLj{k y:Mono}{x:Int}: ∀{L:List Mono},y∈setTo k x L->y={k with n:=x}\/(y∈L)
 |[],h=>by simp[setTo]at h;exact .inl h
 |m::L,h=>by
  unfold setTo at h;split at h
  .rcases E2.1 h with h|h
   .exact .inl h
   .exact .inr am8
  .rcases E2.1 h with h|h
   .exact .inr am8
   .rcases bLj h with h|h
    .exact .inl h
    .exact .inr am8
theorem bAn(k:Mono)(x:Int): ∀{L:List Mono},lX L->lX (setTo k x L)
 |[],_=>by simp[setTo,lX]
 |m::L,h=>by
  obtain⟨h1,h2⟩:=E5.1 h;unfold setTo;split
  .rename_i hs;have e:k.key=m.key:=sameE_E.1 hs;refine E5.2 ⟨λy hy=>?_,h2⟩;show k.key≠y.key;rw[e];exact h1 y hy
  .rename_i hs;refine E5.2 ⟨λy hy=>?_,bAn k x h2⟩
   rcases bLj hy with rfl|hy
   .intro e;exact hs (sameE_E.2 e.symm)
   .exact h1 y hy
theorem rR(g:Mono->Int): ∀(p:List Mono) {L:List Mono},lX L->lX (kK g L p)
 |[],_,h=>h
 |m::p,_,h=>rR g p (bAn m _ h)
theorem uH(k:Mono)(x:Int): ∀L:List Mono,(setTo k x L).length<=L.length+1
 |[]=>by simp[setTo]
 |m::L=>by
  unfold setTo;split
  .simp
  .have:=uH k x L;simp;omega
theorem vC{B:Nat}{a w:World}{r:Nat}(h:Below B a w)(hB:B<=r)(o:Obj):Below B a (setBlock w r o):=
 ⟨h.os,h.tape,h.output,by
  have:=h.size
  simpa[setBlock]using this,λi hi=>by
  have b:r≠i:=m0
  have:=h.block i hi;rw[<-this]
  simp[setBlock,b]⟩
set_option maxHeartbeats 1000000 in
theorem both_any(A B:Option Addr)(c d:Nat)(p q:List Mono)(s:Int)(w:World)(ha:lM w A p)(hb:lM w B q)(hp:p.length<=140737488355328)(hq:q.length<=140737488355328):
  Calls prog 97 #[.slice A p.length c,.slice B q.length d,k9 s] w (zR w (cD p q s)):=by
 have Ha:=S7 ha;have Hb:=S7 hb;clear ha hb;cases hrp:dH p
 .have e:cD p q s=([],20):=by unfold cD;rw[hrp];rfl
  rw[e]
  go_enter func97,ntmps97
  go_wp2_with (go_at_call 10;refine(kZ A c p _ Ha.out hp).mono ?_;rintro e w1 ⟨rfl,hb1⟩)
  go_ret2
  exact⟨_,rfl,hb1,Res.nil _ _ _ _⟩
 .cases hrq:dH q
  .have e:cD p q s=([],20):=by unfold cD;rw[hrp,hrq];rfl
   rw[e]
   go_enter func97,ntmps97
   go_wp2_with fail
   refine(kZ A c p _ Ha.out hp).mono ?_;rintro e w1 ⟨rfl,hb1⟩;have H1:=S7 hb1;clear hb1
   go_wp2_with fail
   refine(kZ B d q _ (Hb.out.below H1.out) hq).mono ?_;rintro e w2 ⟨rfl,hb2⟩;have H2:=S7 (show Below w.heap.size w w2 from H1.out.trans (hb2.mono H1.out.size));clear hb2
   go_wp2
   go_ret2
   exact⟨_,rfl,H2.out,Res.nil _ _ _ _⟩
  .have e:cD p q s=kS (kK (λm=>wrap64 (s*m.n)) (kK Mono.n [] p) q):=by unfold cD;rw[hrp,hrq];rfl
   rw[e]
   have hp48:p.length<=48:=by unfold dH at hrp;simp at hrp;exact hrp.1
   have hq48:q.length<=48:=by unfold dH at hrq;simp at hrq;exact hrq.1
   have hmm:= @run_makeMap prog
   go_enter func97,ntmps97
   go_wp2_with fail
   refine(kZ A c p _ Ha.out hp).mono ?_;rintro e w1 ⟨rfl,hb1⟩;have H1:=S7 hb1;clear hb1
   go_wp2_with fail
   refine(kZ B d q _ (Hb.out.below H1.out) hq).mono ?_;rintro e w2 ⟨rfl,hb2⟩;have H2:=S7 (show Below w.heap.size w w2 from H1.out.trans (hb2.mono H1.out.size));clear hb2 H1
   go_wp2
   generalize hr:w2.heap.size=r;have hrw:w.heap.size<=r:=by have:=H2.out.size;omega
   have hm0:pA (w2.alloc (.map #[] 0)) r []:=by rw[<-hr];exact pA.new _
   have hb0:Below w.heap.size w (w2.alloc (.map #[] 0)):=H2.out.alloc H2.out.size _;have HM0:=S7 hm0;have HB0:=S7 hb0;clear hm0 hb0 hr H2
   go_loopw [24] (λi wr=> ∃(k:Nat) (L:List Mono),k<=p.length/\i= .int .i64 k/\pA wr r L/\L.length<=k/\Hid (kK Mono.n [] p=kK Mono.n L (p.drop k))/\Below w.heap.size w wr) (λi _=>p.length-(intOf i).toNat)
   case atStart=>exact⟨0,[],C4 _,rfl,HM0.out,n9,rfl,HB0.out⟩
   case round=>
    obtain⟨k,L,hk,rfl,hm,hLk,hL,hbl⟩:=hrel;have HM:=S7 hm;clear hm
    by_cases hlt:k<p.length
    .obtain⟨m,hm,dm⟩:=nO hlt;obtain⟨b,o,rfl,hB,c0,c1,c2,c3,c4,c5,c6⟩:=Ha.out.below hbl k m hm;have q0:iR (wr.alloc (.cells #[.int .i64 m.n,.int .u8 m.U.toNat,.int .u8 m.T.toNat,.int .u8 m.R.toNat,.int .u8 m.Q.toNat,.int .u8 m.O.toNat,.int .u8 m.N.toNat] 43)) wr.heap.size 0 m:=by simp[iR,go_sem]
     have Q0:=S7 q0;have HM1:=S7 (HM.out.alloc (.cells #[.int .i64 m.n,.int .u8 m.U.toNat,.int .u8 m.T.toNat,.int .u8 m.R.toNat,.int .u8 m.Q.toNat,.int .u8 m.O.toNat,.int .u8 m.N.toNat] 43));have HB1:=S7 (hbl.alloc hbl.size (.cells #[.int .i64 m.n,.int .u8 m.U.toNat,.int .u8 m.T.toNat,.int .u8 m.R.toNat,.int .u8 m.Q.toNat,.int .u8 m.O.toNat,.int .u8 m.N.toNat] 43));have HL:=S7 (show kK Mono.n [] p=kK Mono.n (zU m m.n L) (p.drop (k+1)) by rw[hL.out,dm,kK]);clear q0 hm dm hB HM hL
     go_wp2
     clear c0 c1 c2 c3 c4 c5 c6;generalize hb:wr.heap.size=X at Q0⊢;generalize wr.alloc (.cells #[.int .i64 m.n,.int .u8 m.U.toNat,.int .u8 m.T.toNat,.int .u8 m.R.toNat,.int .u8 m.Q.toNat,.int .u8 m.O.toNat,.int .u8 m.N.toNat] 43)=W0 at Q0 HM1 HB1⊢;clear hb hbl;obtain⟨q0,q1,q2,q3,q4,q5,q6⟩:=Q0.out.zero;have hlk:=oI m HM1.out.drew;obtain⟨v0,st,w3,w4,hme,hlk1,hes,hm4,o4,hw4⟩:=bCj m (wrap64 (xM m L+m.n)) HM1.out.drew;have HM4:=S7 hm4;have HB4:=S7 (show Below w.heap.size w w4 by rw[hw4];exact vC HB1.out.drew hrw _);clear hm4 hw4 HM1 HB1 Q0
     go_region
     clear hlk hme hlk1 hes q0 q1 q2 q3 q4 q5 q6
     go_wp2
     go_roundw
     case rel=>exact⟨k+1,zU m m.n L,m0,by go_num,HM4.out,B1 (uH _ _ _) m0,HL,HB4.out⟩
     case measure=>simp[intOf];omega
    .have HL:=S7 (show kK Mono.n [] p=L by rw[hL.out,K3 m0,kK]);have hLk':L.length<=48:=m0
     have HBL:=S7 hbl;clear hL hbl
     go_wp2
     go_loopw [40] (λi wr=> ∃(k:Nat) (T:List Mono),k<=q.length/\i= .int .i64 k/\pA wr r T/\T.length<=48+k/\Hid (kK (λm=>wrap64 (s*m.n)) L q=kK (λm=>wrap64 (s*m.n)) T (q.drop k))/\Below w.heap.size w wr) (λi _=>q.length-(intOf i).toNat)
     case atStart=>exact⟨0,L,C4 _,rfl,HM.out,m0,rfl,HBL.out⟩
     case round=>
      obtain⟨j,T,hj,rfl,hm,hTk,hT,hbl⟩:=hrel;have HMT:=S7 hm;clear hm HM HBL
      by_cases hlt2:j<q.length
      .obtain⟨m,hm,dm⟩:=nO hlt2;obtain⟨b,o,rfl,hB,c0,c1,c2,c3,c4,c5,c6⟩:=Hb.out.below hbl j m hm;have q0:iR (wr.alloc (.cells #[.int .i64 m.n,.int .u8 m.U.toNat,.int .u8 m.T.toNat,.int .u8 m.R.toNat,.int .u8 m.Q.toNat,.int .u8 m.O.toNat,.int .u8 m.N.toNat] 43)) wr.heap.size 0 m:=by simp[iR,go_sem]
       have Q0:=S7 q0;have HM1:=S7 (HMT.out.alloc (.cells #[.int .i64 m.n,.int .u8 m.U.toNat,.int .u8 m.T.toNat,.int .u8 m.R.toNat,.int .u8 m.Q.toNat,.int .u8 m.O.toNat,.int .u8 m.N.toNat] 43));have HB1:=S7 (hbl.alloc hbl.size (.cells #[.int .i64 m.n,.int .u8 m.U.toNat,.int .u8 m.T.toNat,.int .u8 m.R.toNat,.int .u8 m.Q.toNat,.int .u8 m.O.toNat,.int .u8 m.N.toNat] 43));have HT:=S7 (show kK (λm=>wrap64 (s*m.n)) L q=kK (λm=>wrap64 (s*m.n)) (zU m (wrap64 (s*m.n)) T) (q.drop (j+1)) by rw[hT.out,dm,kK]);clear q0 hm dm hB HMT hT
       go_wp2
       clear c0 c1 c2 c3 c4 c5 c6;generalize hb:wr.heap.size=X at Q0⊢;generalize wr.alloc (.cells #[.int .i64 m.n,.int .u8 m.U.toNat,.int .u8 m.T.toNat,.int .u8 m.R.toNat,.int .u8 m.Q.toNat,.int .u8 m.O.toNat,.int .u8 m.N.toNat] 43)=W0 at Q0 HM1 HB1⊢;clear hb hbl;obtain⟨q0,q1,q2,q3,q4,q5,q6⟩:=Q0.out.zero;have hlk:=oI m HM1.out.drew;obtain⟨v0,st,w3,w4,hme,hlk1,hes,hm4,o4,hw4⟩:=bCj m (wrap64 (xM m T+wrap64 (s*m.n))) HM1.out.drew;have HM4:=S7 hm4;have HB4:=S7 (show Below w.heap.size w w4 by rw[hw4];exact vC HB1.out.drew hrw _);clear hm4 hw4 HM1 HB1 Q0
       go_region
       clear hlk hme hlk1 hes q0 q1 q2 q3 q4 q5 q6
       go_wp2
       go_roundw
       case rel=>exact⟨j+1,zU m (wrap64 (s*m.n)) T,m0,by go_num,HM4.out,B1 (uH _ _ _) m0,HT,HB4.out⟩
       case measure=>simp[intOf];omega
      .have HT:=S7 (show kK (λm=>wrap64 (s*m.n)) (kK Mono.n [] p) q=T by rw[HL.out,hT.out,K3 m0,kK]);have HBL:=S7 hbl;have hT96:T.length<=1000000:=m0
       clear hT hbl HL
       go_wp2_with fail
       refine(bQh r T _ HMT.out (by rw[<-HT.out];exact rR _ _ (rR _ _ List.Pairwise.nil)) hT96).mono ?_;rintro e w5 ⟨v,rfl,hb5,hv⟩;have HV:=S7 (hv.mono HBL.out.size);have HB5:=S7 (HBL.out.trans (hb5.mono HBL.out.size));clear hb5 hv
       go_wp2
       go_ret2
       rw[HT.out];exact⟨_,rfl,HB5.out,HV.out⟩
end
section
open Go.RowKit Go.Sort Go.Proofs.Tryz
set_option maxRecDepth 100000
open Go.ChangeMaps (setBlock)
def mulM (a b:Mono):Mono:=⟨wrap64 (a.n*b.n),a.U+b.U,a.T+b.T,a.R+b.R,a.Q+b.Q,a.O+b.O,a.N+b.N⟩
def rY (a:Mono):List Mono->List Mono->List Mono
 |L,[]=>L
 |L,b::q=>rY a (zU (mulM a b) (wrap64 (a.n*b.n)) L) q
def mG (q:List Mono):List Mono->List Mono->List Mono
 |L,[]=>L
 |L,a::p=>mG q (rY a L q) p
def nA (p q:List Mono):List Mono×Int:=if dH p&&dH q then kS (mG q [] p)else ([],20)
theorem bGx(a:Mono): ∀(q:List Mono) {L:List Mono},lX L->lX (rY a L q)
 |[],_,h=>h
 |_::q,_,h=>bGx a q (bAn _ _ h)
theorem zG(q:List Mono): ∀(p:List Mono) {L:List Mono},lX L->lX (mG q L p)
 |[],_,h=>h
 |a::p,_,h=>zG q p (bGx a q h)
theorem iR.setBlock_far{w:World}{b o r:Nat}{m:Mono}(h:iR w b o m)(hne:b≠r)(x:Obj):iR (setBlock w r x) b o m:=by
 have a: ∀c,(setBlock w r x).cell? ⟨b,c,none⟩=w.cell? ⟨b,c,none⟩:=λc=>by
  have:(w.heap.setIfInBounds r x)[b]?=w.heap[b]?:=by simp[Ne.symm hne]
  simp only[D0,setBlock,this]
 obtain⟨h0,h1,h2,f,h4,e,d⟩:=h;exact⟨(a _).trans h0,(a _).trans h1,(a _).trans h2,(a _).trans f,(a _).trans h4,(a _).trans e,(a _).trans d⟩
theorem iR.lt{w:World}{b o:Nat}{m:Mono}(h:iR w b o m):b<w.heap.size:=by
 rcases Nat.lt_or_ge b w.heap.size with a|c
 .exact a
 .have:=h.1;simp[D0,D2 c]at this
theorem bKj(a b:UInt8):((a.toNat:Int)+(b.toNat:Int))%256=((a+b).toNat:Int):=by rw[UInt8.toNat_add];omega
def ExpAt (w:World)(b:Nat)(m:Mono):Prop:=
 w.cell? ⟨b,0,none⟩=some (.int .u8 m.U.toNat)/\w.cell? ⟨b,1,none⟩=some (.int .u8 m.T.toNat)/\w.cell? ⟨b,2,none⟩=some (.int .u8 m.R.toNat)/\
 w.cell? ⟨b,3,none⟩=some (.int .u8 m.Q.toNat)/\w.cell? ⟨b,4,none⟩=some (.int .u8 m.O.toNat)/\w.cell? ⟨b,5,none⟩=some (.int .u8 m.N.toNat)
set_option maxHeartbeats 2000000 in
theorem mul_any(A B:Option Addr)(c d:Nat)(p q:List Mono)(w:World)(ha:lM w A p)(hb:lM w B q)(hp:p.length<=140737488355328)(hq:q.length<=140737488355328):
  Calls prog 55 #[.slice A p.length c,.slice B q.length d] w (zR w (nA p q)):=by
 have Ha:=S7 ha;have Hb:=S7 hb;clear ha hb;cases hrp:dH p
 .have e:nA p q=([],20):=by unfold nA;rw[hrp];rfl
  rw[e]
  go_enter func55,ntmps55
  go_wp2_with (go_at_call 10;refine(kZ A c p _ Ha.out hp).mono ?_;rintro e w1 ⟨rfl,hb1⟩)
  go_ret2
  exact⟨_,rfl,hb1,Res.nil _ _ _ _⟩
 .cases hrq:dH q
  .have e:nA p q=([],20):=by unfold nA;rw[hrp,hrq];rfl
   rw[e]
   go_enter func55,ntmps55
   go_wp2_with fail
   refine(kZ A c p _ Ha.out hp).mono ?_;rintro e w1 ⟨rfl,hb1⟩;have H1:=S7 hb1;clear hb1
   go_wp2_with fail
   refine(kZ B d q _ (Hb.out.below H1.out) hq).mono ?_;rintro e w2 ⟨rfl,hb2⟩;have H2:=S7 (show Below w.heap.size w w2 from H1.out.trans (hb2.mono H1.out.size));clear hb2
   go_wp2
   go_ret2
   exact⟨_,rfl,H2.out,Res.nil _ _ _ _⟩
  .have e:nA p q=kS (mG q [] p):=by unfold nA;rw[hrp,hrq];rfl
   rw[e]
   have hp48:p.length<=48:=by unfold dH at hrp;simp at hrp;exact hrp.1
   have hq48:q.length<=48:=by unfold dH at hrq;simp at hrq;exact hrq.1
   have hmm:= @run_makeMap prog
   go_enter func55,ntmps55
   go_wp2_with fail
   refine(kZ A c p _ Ha.out hp).mono ?_;rintro e w1 ⟨rfl,hb1⟩;have H1:=S7 hb1;clear hb1
   go_wp2_with fail
   refine(kZ B d q _ (Hb.out.below H1.out) hq).mono ?_;rintro e w2 ⟨rfl,hb2⟩;have H2:=S7 (show Below w.heap.size w w2 from H1.out.trans (hb2.mono H1.out.size));clear hb2 H1
   go_wp2
   generalize hr:w2.heap.size=r;have hrw:w.heap.size<=r:=by have:=H2.out.size;omega
   have hm0:pA (w2.alloc (.map #[] 0)) r []:=by rw[<-hr];exact pA.new _
   have hb0:Below w.heap.size w (w2.alloc (.map #[] 0)):=H2.out.alloc H2.out.size _;have HM0:=S7 hm0;have HB0:=S7 hb0;clear hm0 hb0 hr H2
   go_loopw [24] (λi wr=> ∃(k:Nat) (L:List Mono),k<=p.length/\i= .int .i64 k/\pA wr r L/\L.length<=k*48/\Hid (mG q [] p=mG q L (p.drop k))/\Below w.heap.size w wr) (λi _=>p.length-(intOf i).toNat)
   case atStart=>exact⟨0,[],C4 _,rfl,HM0.out,n9,rfl,HB0.out⟩
   case round=>
    obtain⟨k,L,hk,rfl,hm,hLk,hL,hbl⟩:=hrel;have HM:=S7 hm;clear hm
    by_cases hlt:k<p.length
    .obtain⟨a,hm,dm⟩:=nO hlt;obtain⟨b,o,rfl,hB,c0,c1,c2,c3,c4,c5,c6⟩:=Ha.out.below hbl k a hm;have q0:iR (wr.alloc (.cells #[.int .i64 a.n,.int .u8 a.U.toNat,.int .u8 a.T.toNat,.int .u8 a.R.toNat,.int .u8 a.Q.toNat,.int .u8 a.O.toNat,.int .u8 a.N.toNat] 43)) wr.heap.size 0 a:=by simp[iR,go_sem]
     have hrx:r<wr.heap.size:=by obtain⟨es,cl,h,_⟩:=HM.out;exact(U6.1 h).1
     have Q0:=S7 q0;have HM1:=S7 (HM.out.alloc (.cells #[.int .i64 a.n,.int .u8 a.U.toNat,.int .u8 a.T.toNat,.int .u8 a.R.toNat,.int .u8 a.Q.toNat,.int .u8 a.O.toNat,.int .u8 a.N.toNat] 43));have HB1:=S7 (hbl.alloc hbl.size (.cells #[.int .i64 a.n,.int .u8 a.U.toNat,.int .u8 a.T.toNat,.int .u8 a.R.toNat,.int .u8 a.Q.toNat,.int .u8 a.O.toNat,.int .u8 a.N.toNat] 43));have HL:=S7 (show mG q [] p=mG q (rY a L q) (p.drop (k+1)) by rw[hL.out,dm,mG]);clear q0 hm dm hB HM hL
     go_wp2
     clear c0 c1 c2 c3 c4 c5 c6;generalize wr.heap.size=X at Q0 hrx⊢;generalize wr.alloc (.cells #[.int .i64 a.n,.int .u8 a.U.toNat,.int .u8 a.T.toNat,.int .u8 a.R.toNat,.int .u8 a.Q.toNat,.int .u8 a.O.toNat,.int .u8 a.N.toNat] 43)=W0 at Q0 HM1 HB1⊢;clear hbl
     go_loopw [30] (λi wi=> ∃(j:Nat) (T:List Mono),j<=q.length/\i= .int .i64 j/\pA wi r T/\T.length<=k*48+j/\Hid (rY a L q=rY a T (q.drop j))/\Below w.heap.size w wi/\iR wi X 0 a) (λi _=>q.length-(intOf i).toNat)
     case atStart=>exact⟨0,L,C4 _,rfl,HM1.out,m0,rfl,HB1.out,Q0.out⟩
     case round=>
      obtain⟨j,T,hj,rfl,hm,hTk,hT,hbl,ha0⟩:=hrel;have HMT:=S7 hm;have HA0:=S7 ha0;clear hm ha0 HM1 HB1 Q0
      by_cases hlt2:j<q.length
      .obtain⟨b',hm,dm⟩:=nO hlt2;obtain⟨g,o',rfl,hB,d0,d1,d2,d3,d4,d5,d6⟩:=Hb.out.below hbl j b' hm;obtain⟨a0,a1,a2,a3,a4,a5,a6⟩:=HA0.out.zero;have hX:X<wr.heap.size:=iR.lt HA0.out
       obtain⟨t,ht⟩: ∃t,t=mulM a b':=⟨_,rfl⟩
       have HT:=S7 (show rY a L q=rY a (zU t (wrap64 (a.n*b'.n)) T) (q.drop (j+1)) by rw[hT.out,dm,rY,ht]);have s0:((a.U.toNat:Int)+(b'.U.toNat:Int))%256=(t.U.toNat:Int):=by rw[ht];exact bKj a.U b'.U
       have s1:((a.T.toNat:Int)+(b'.T.toNat:Int))%256=(t.T.toNat:Int):=by rw[ht];exact bKj a.T b'.T
       have s2:((a.R.toNat:Int)+(b'.R.toNat:Int))%256=(t.R.toNat:Int):=by rw[ht];exact bKj a.R b'.R
       have s3:((a.Q.toNat:Int)+(b'.Q.toNat:Int))%256=(t.Q.toNat:Int):=by rw[ht];exact bKj a.Q b'.Q
       have s4:((a.O.toNat:Int)+(b'.O.toNat:Int))%256=(t.O.toNat:Int):=by rw[ht];exact bKj a.O b'.O
       have s5:((a.N.toNat:Int)+(b'.N.toNat:Int))%256=(t.N.toNat:Int):=by rw[ht];exact bKj a.N b'.N
       have S0:=S7 s0;have S1:=S7 s1;have S2:=S7 s2;have S3:=S7 s3;have S4:=S7 s4;have S5:=S7 s5;have HBL:=S7 hbl;clear hm dm hT ht s0 s1 s2 s3 s4 s5 hbl hB
       go_wp2
       clear d0 d1 d2 d3 d4 d5 d6;refine wp_loop_rounds 7 ?_;rw[rounds_succ]
       go_wp2
       go_region
       go_wp2
       rw[rounds_succ]
       go_wp2
       go_region
       go_wp2
       rw[rounds_succ]
       go_wp2
       go_region
       go_wp2
       rw[rounds_succ]
       go_wp2
       go_region
       go_wp2
       rw[rounds_succ]
       go_wp2
       go_region
       go_wp2
       rw[rounds_succ]
       go_wp2
       go_region
       go_wp2
       rw[rounds_succ]
       go_wp2
       rw[S0.out,S1.out,S2.out,S3.out,S4.out,S5.out];have kE:ExpAt ((wr.alloc (.cells #[.int .i64 b'.n,.int .u8 b'.U.toNat,.int .u8 b'.T.toNat,.int .u8 b'.R.toNat,.int .u8 b'.Q.toNat,.int .u8 b'.O.toNat,.int .u8 b'.N.toNat] 43)).alloc (.cells #[.int .u8 t.U.toNat,.int .u8 t.T.toNat,.int .u8 t.R.toNat,.int .u8 t.Q.toNat,.int .u8 t.O.toNat,.int .u8 t.N.toNat] 41)).drew.drew.drew.drew.drew.drew (wr.heap.size+1) t:=by simp[ExpAt,go_sem]
       have kB:iR ((wr.alloc (.cells #[.int .i64 b'.n,.int .u8 b'.U.toNat,.int .u8 b'.T.toNat,.int .u8 b'.R.toNat,.int .u8 b'.Q.toNat,.int .u8 b'.O.toNat,.int .u8 b'.N.toNat] 43)).alloc (.cells #[.int .u8 t.U.toNat,.int .u8 t.T.toNat,.int .u8 t.R.toNat,.int .u8 t.Q.toNat,.int .u8 t.O.toNat,.int .u8 t.N.toNat] 41)).drew.drew.drew.drew.drew.drew wr.heap.size 0 b':=by simp[iR,go_sem]
       have kX:Below wr.heap.size wr ((wr.alloc (.cells #[.int .i64 b'.n,.int .u8 b'.U.toNat,.int .u8 b'.T.toNat,.int .u8 b'.R.toNat,.int .u8 b'.Q.toNat,.int .u8 b'.O.toNat,.int .u8 b'.N.toNat] 43)).alloc (.cells #[.int .u8 t.U.toNat,.int .u8 t.T.toNat,.int .u8 t.R.toNat,.int .u8 t.Q.toNat,.int .u8 t.O.toNat,.int .u8 t.N.toNat] 41)).drew.drew.drew.drew.drew.drew:=by go_grown
       have kA:=HA0.out.below kX hX;have kM:pA ((wr.alloc (.cells #[.int .i64 b'.n,.int .u8 b'.U.toNat,.int .u8 b'.T.toNat,.int .u8 b'.R.toNat,.int .u8 b'.Q.toNat,.int .u8 b'.O.toNat,.int .u8 b'.N.toNat] 43)).alloc (.cells #[.int .u8 t.U.toNat,.int .u8 t.T.toNat,.int .u8 t.R.toNat,.int .u8 t.Q.toNat,.int .u8 t.O.toNat,.int .u8 t.N.toNat] 41)).drew.drew.drew.drew.drew.drew r T:=(HMT.out.alloc _).alloc _;have kW:=HBL.out.trans (kX.mono HBL.out.size);have KE:=S7 kE;have KB:=S7 kB;have KA:=S7 kA;have KM:=S7 kM;have KW:=S7 kW;clear kE kB kX kA kM kW a0 a1 a2 a3 a4 a5 a6 S0 S1 S2 S3 S4 S5 HMT HBL HA0 hX;generalize ((wr.alloc (.cells #[.int .i64 b'.n,.int .u8 b'.U.toNat,.int .u8 b'.T.toNat,.int .u8 b'.R.toNat,.int .u8 b'.Q.toNat,.int .u8 b'.O.toNat,.int .u8 b'.N.toNat] 43)).alloc (.cells #[.int .u8 t.U.toNat,.int .u8 t.T.toNat,.int .u8 t.R.toNat,.int .u8 t.Q.toNat,.int .u8 t.O.toNat,.int .u8 t.N.toNat] 41)).drew.drew.drew.drew.drew.drew=W5 at KE KB KA KM KW⊢;generalize wr.heap.size=Y at KE KB⊢;obtain⟨x0,x1,x2,x3,x4,x5⟩:=KE.out;obtain⟨y0,y1,y2,y3,y4,y5,y6⟩:=KB.out.zero;obtain⟨z0,z1,z2,z3,z4,z5,z6⟩:=KA.out.zero;have hlk:=oI t KM.out.drew;obtain⟨v0,st,w3,w4,hme,hlk1,hes,hm4,o4,hw4⟩:=bCj t (wrap64 (xM t T+wrap64 (a.n*b'.n))) KM.out.drew;have HM4:=S7 hm4;have HB4:=S7 (show Below w.heap.size w w4 by rw[hw4];exact vC KW.out.drew hrw _);have HA4:=S7 (show iR w4 X 0 a by rw[hw4];exact iR.setBlock_far (show iR W5.drew X 0 a from KA.out) m0 _);clear hm4 hw4 KE KB KA KM KW
       go_region
       clear hlk hme hlk1 hes x0 x1 x2 x3 x4 x5 y0 y1 y2 y3 y4 y5 y6 z0 z1 z2 z3 z4 z5 z6
       go_wp2
       go_roundw
       case rel=>exact⟨j+1,zU t (wrap64 (a.n*b'.n)) T,m0,by go_num,HM4.out,B1 (uH _ _ _) m0,HT,HB4.out,HA4.out⟩
       case measure=>simp[intOf];omega
      .have HT:=S7 (show mG q [] p=mG q T (p.drop (k+1)) by rw[HL.out,hT.out,K3 m0,rY]);have HBL:=S7 hbl;have hT2:T.length<=(k+1)*48:=m0
       clear hT hbl HL HA0
       go_wp2
       go_roundw
       case rel=>exact⟨k+1,T,m0,by go_num,HMT.out,hT2,HT,HBL.out⟩
       case measure=>simp[intOf];omega
    .have HT:=S7 (show mG q [] p=L by rw[hL.out,K3 m0,mG]);have HBL:=S7 hbl;have hT96:L.length<=1000000:=m0
     clear hL hbl
     go_wp2_with fail
     refine(bQh r L _ HM.out (by rw[<-HT.out];exact zG _ _ List.Pairwise.nil) hT96).mono ?_;rintro e w5 ⟨v,rfl,hb5,hv⟩;have HV:=S7 (hv.mono HBL.out.size);have HB5:=S7 (HBL.out.trans (hb5.mono HBL.out.size));clear hb5 hv
     go_wp2
     go_ret2
     rw[HT.out];exact⟨_,rfl,HB5.out,HV.out⟩
end
section
open Go.RowKit Go.Sort Go.Proofs.Tryz
set_option maxRecDepth 100000
def num0 (n:Int):Mono:=⟨n,0,0,0,0,0,0⟩
def gV (n:Int):List Mono×Int:=if n=0 then ([],0)else if 16777216<n\/n< -16777216 then ([],21)else ([num0 n],0)
def varM (k:Nat):Mono:=⟨1,if k=0 then 1 else 0,if k=1 then 1 else 0,if k=2 then 1 else 0,if k=3 then 1 else 0,if k=4 then 1 else 0,if k=5 then 1 else 0⟩
def pG (k:Int):List Mono×Int:=if k<0\/6<=k then ([],23)else ([varM k.toNat],0)
theorem sR(n:Int)(w:World):(V5 43 #[(0,k9 n)]).run prog w= .ok (.agg #[k9 n,l5 0,l5 0,l5 0,l5 0,l5 0,l5 0]) w:=run_build w _ _ _ m7
theorem res_one(w:World)(m:Mono):Res w.heap.size (w.alloc (.cells #[k9 m.n,l5 m.U.toNat,l5 m.T.toNat,l5 m.R.toNat,l5 m.Q.toNat,l5 m.O.toNat,l5 m.N.toNat] 43)) (.slice (some ⟨w.heap.size,0,none⟩) 1 1) [m]:=by
 refine⟨_,1,rfl,.inr ⟨w.heap.size,rfl,B0 _,?_⟩⟩
 have h:bRc (w.alloc (.cells #[.int .i64 m.n,.int .u8 m.U.toNat,.int .u8 m.T.toNat,.int .u8 m.R.toNat,.int .u8 m.Q.toNat,.int .u8 m.O.toNat,.int .u8 m.N.toNat] 43)) w.heap.size (.slice (some ⟨w.heap.size,0,none⟩) [m].length 1) [m]:=
  ⟨rfl,.inr ⟨w.heap.size,1,#[.int .i64 m.n,.int .u8 m.U.toNat,.int .u8 m.T.toNat,.int .u8 m.R.toNat,.int .u8 m.Q.toNat,.int .u8 m.O.toNat,.int .u8 m.N.toNat],rfl,B0 _,heap_alloc_new _ _,B0 _,by simp[maxLen],rfl,rfl⟩⟩
 exact h.row
theorem tO{W:World}{B g:Nat}{m:Mono}(hg:W.heap[g]?=some (.cells #[k9 m.n,l5 m.U.toNat,l5 m.T.toNat,l5 m.R.toNat,l5 m.Q.toNat,l5 m.O.toNat,l5 m.N.toNat] 43))(hB:B<=g):Res B W (.slice (some ⟨g,0,none⟩) 1 1) [m]:=by
 refine⟨_,1,rfl,.inr ⟨g,rfl,hB,?_⟩⟩
 have h:bRc W B (.slice (some ⟨g,0,none⟩) [m].length 1) [m]:=⟨rfl,.inr ⟨g,1,#[.int .i64 m.n,.int .u8 m.U.toNat,.int .u8 m.T.toNat,.int .u8 m.R.toNat,.int .u8 m.Q.toNat,.int .u8 m.O.toNat,.int .u8 m.N.toNat],rfl,hB,hg,B0 _,by simp[maxLen],rfl,rfl⟩⟩
 exact h.row
set_option maxHeartbeats 400000 in
theorem const_any(n:Int)(w:World):Calls prog 54 #[k9 n] w (zR w (gV n)):=by
 have hbn:=sR
 by_cases h0:n=0
 .have e:gV n=([],0):=by unfold gV;rw[if_pos h0]
  rw[e];subst h0
  go_enter func54,ntmps54
  go_wp2
  go_ret2
  exact⟨_,rfl,Below.refl _ _,Res.nil _ _ _ _⟩
 .have h01:(n==0)=false:=by simpa using h0
  by_cases h1:16777216<n
  .have e:gV n=([],21):=by unfold gV;rw[if_neg h0,if_pos (.inl h1)]
   rw[e];have h11:decide (16777216<n)=true:=by simpa using h1
   go_enter func54,ntmps54
   go_wp2
   go_ret2
   exact⟨_,rfl,Below.refl _ _,Res.nil _ _ _ _⟩
  .have h11:decide (16777216<n)=false:=by simpa using h1
   by_cases h2:n< -16777216
   .have e:gV n=([],21):=by unfold gV;rw[if_neg h0,if_pos (.inr h2)]
    rw[e];have h21:decide (n< -16777216)=true:=by simpa using h2
    go_enter func54,ntmps54
    go_wp2
    go_ret2
    exact⟨_,rfl,Below.refl _ _,Res.nil _ _ _ _⟩
   .have e:gV n=([num0 n],0):=by unfold gV;rw[if_neg h0,if_neg m0]
    rw[e];have h21:decide (n< -16777216)=false:=by simpa using h2
    go_enter func54,ntmps54
    go_wp2
    go_ret2
    exact⟨_,rfl,by go_grown,res_one w (num0 n)⟩
set_option maxHeartbeats 1000000 in
theorem var_any(k:Int)(w:World):Calls prog 29 #[k9 k] w (zR w (pG k)):=by
 have hbn:=sR
 by_cases h0:k<0
 .have e:pG k=([],23):=by unfold pG;rw[if_pos (.inl h0)]
  rw[e];have h01:decide (k<0)=true:=by simpa using h0
  go_enter func29,ntmps29
  go_wp2
  go_ret2
  exact⟨_,rfl,Below.refl _ _,Res.nil _ _ _ _⟩
 .by_cases h6:6<=k
  .have e:pG k=([],23):=by unfold pG;rw[if_pos (.inr h6)]
   rw[e];have h01:decide (k<0)=false:=by simpa using h0
   have h61:decide (6<=k)=true:=by simpa using h6
   go_enter func29,ntmps29
   go_wp2
   go_ret2
   exact⟨_,rfl,Below.refl _ _,Res.nil _ _ _ _⟩
  .have hk:k=0\/k=1\/k=2\/k=3\/k=4\/k=5:=m0
   clear h0 h6
   rcases hk with rfl|rfl|rfl|rfl|rfl|rfl
   .go_enter func29,ntmps29
    go_wp2
    go_ret2
    have hg:((w.alloc (.cells #[.int .i64 1,.int .u8 1,.int .u8 0,.int .u8 0,.int .u8 0,.int .u8 0,.int .u8 0] 43)).alloc (.cells #[.int .i64 1,.int .u8 1,.int .u8 0,.int .u8 0,.int .u8 0,.int .u8 0,.int .u8 0] 43)).heap[w.heap.size+1]?=some (.cells #[.int .i64 1,.int .u8 1,.int .u8 0,.int .u8 0,.int .u8 0,.int .u8 0,.int .u8 0] 43):=by rw[<-V6];exact heap_alloc_new _ _
    exact⟨_,rfl,by go_grown,tO (m:=⟨1,1,0,0,0,0,0⟩) hg m0⟩
   .go_enter func29,ntmps29
    go_wp2
    go_ret2
    have hg:((w.alloc (.cells #[.int .i64 1,.int .u8 0,.int .u8 1,.int .u8 0,.int .u8 0,.int .u8 0,.int .u8 0] 43)).alloc (.cells #[.int .i64 1,.int .u8 0,.int .u8 1,.int .u8 0,.int .u8 0,.int .u8 0,.int .u8 0] 43)).heap[w.heap.size+1]?=some (.cells #[.int .i64 1,.int .u8 0,.int .u8 1,.int .u8 0,.int .u8 0,.int .u8 0,.int .u8 0] 43):=by rw[<-V6];exact heap_alloc_new _ _
    exact⟨_,rfl,by go_grown,tO (m:=⟨1,0,1,0,0,0,0⟩) hg m0⟩
   .go_enter func29,ntmps29
    go_wp2
    go_ret2
    have hg:((w.alloc (.cells #[.int .i64 1,.int .u8 0,.int .u8 0,.int .u8 1,.int .u8 0,.int .u8 0,.int .u8 0] 43)).alloc (.cells #[.int .i64 1,.int .u8 0,.int .u8 0,.int .u8 1,.int .u8 0,.int .u8 0,.int .u8 0] 43)).heap[w.heap.size+1]?=some (.cells #[.int .i64 1,.int .u8 0,.int .u8 0,.int .u8 1,.int .u8 0,.int .u8 0,.int .u8 0] 43):=by rw[<-V6];exact heap_alloc_new _ _
    exact⟨_,rfl,by go_grown,tO (m:=⟨1,0,0,1,0,0,0⟩) hg m0⟩
   .go_enter func29,ntmps29
    go_wp2
    go_ret2
    have hg:((w.alloc (.cells #[.int .i64 1,.int .u8 0,.int .u8 0,.int .u8 0,.int .u8 1,.int .u8 0,.int .u8 0] 43)).alloc (.cells #[.int .i64 1,.int .u8 0,.int .u8 0,.int .u8 0,.int .u8 1,.int .u8 0,.int .u8 0] 43)).heap[w.heap.size+1]?=some (.cells #[.int .i64 1,.int .u8 0,.int .u8 0,.int .u8 0,.int .u8 1,.int .u8 0,.int .u8 0] 43):=by rw[<-V6];exact heap_alloc_new _ _
    exact⟨_,rfl,by go_grown,tO (m:=⟨1,0,0,0,1,0,0⟩) hg m0⟩
   .go_enter func29,ntmps29
    go_wp2
    go_ret2
    have hg:((w.alloc (.cells #[.int .i64 1,.int .u8 0,.int .u8 0,.int .u8 0,.int .u8 0,.int .u8 1,.int .u8 0] 43)).alloc (.cells #[.int .i64 1,.int .u8 0,.int .u8 0,.int .u8 0,.int .u8 0,.int .u8 1,.int .u8 0] 43)).heap[w.heap.size+1]?=some (.cells #[.int .i64 1,.int .u8 0,.int .u8 0,.int .u8 0,.int .u8 0,.int .u8 1,.int .u8 0] 43):=by rw[<-V6];exact heap_alloc_new _ _
    exact⟨_,rfl,by go_grown,tO (m:=⟨1,0,0,0,0,1,0⟩) hg m0⟩
   .go_enter func29,ntmps29
    go_wp2
    go_ret2
    have hg:((w.alloc (.cells #[.int .i64 1,.int .u8 0,.int .u8 0,.int .u8 0,.int .u8 0,.int .u8 0,.int .u8 1] 43)).alloc (.cells #[.int .i64 1,.int .u8 0,.int .u8 0,.int .u8 0,.int .u8 0,.int .u8 0,.int .u8 1] 43)).heap[w.heap.size+1]?=some (.cells #[.int .i64 1,.int .u8 0,.int .u8 0,.int .u8 0,.int .u8 0,.int .u8 0,.int .u8 1] 43):=by rw[<-V6];exact heap_alloc_new _ _
    exact⟨_,rfl,by go_grown,tO (m:=⟨1,0,0,0,0,0,1⟩) hg m0⟩
set_option maxHeartbeats 400000 in
theorem add_any(A B:Option Addr)(c d:Nat)(p q:List Mono)(w:World)(ha:lM w A p)(hb:lM w B q)(hp:p.length<=140737488355328)(hq:q.length<=140737488355328):
  Calls prog 63 #[.slice A p.length c,.slice B q.length d] w (zR w (cD p q 1)):=by
 have H:=S7 (both_any A B c d p q 1 w ha hb hp hq);clear ha hb
 go_enter func63,ntmps63
 go_wp2_with fail
 refine H.out.mono ?_;rintro e w1 ⟨v,rfl,hb1,hv⟩;have HB:=S7 hb1;have HV:=S7 hv;clear hb1 hv
 go_wp2
 go_ret2
 exact⟨_,rfl,HB.out,HV.out⟩
set_option maxHeartbeats 400000 in
theorem sub_any(A B:Option Addr)(c d:Nat)(p q:List Mono)(w:World)(ha:lM w A p)(hb:lM w B q)(hp:p.length<=140737488355328)(hq:q.length<=140737488355328):
  Calls prog 58 #[.slice A p.length c,.slice B q.length d] w (zR w (cD p q (-1))):=by
 have H:=S7 (both_any A B c d p q (-1) w ha hb hp hq);clear ha hb
 go_enter func58,ntmps58
 go_wp2_with fail
 refine H.out.mono ?_;rintro e w1 ⟨v,rfl,hb1,hv⟩;have HB:=S7 hb1;have HV:=S7 hv;clear hb1 hv
 go_wp2
 go_ret2
 exact⟨_,rfl,HB.out,HV.out⟩
end
section
open Go.RowKit Go.Proofs.Tryz
set_option maxRecDepth 100000
end
section
open Go.RowKit Go.Proofs.Tryz
set_option maxRecDepth 100000
def Ints (w:World)(A:Option Addr)(l:List Int):Prop:=
 ∀(k:Nat) (d:Int),l[k]?=some d-> ∃b o,A=some ⟨b,o,none⟩/\b<w.heap.size/\w.cell? ⟨b,o+k,none⟩=some (.int .i64 d)
theorem Ints.below{w w':World}{A:Option Addr}{l:List Int}(h:Ints w A l)(hb:Below w.heap.size w w'):Ints w' A l:=λk d c=>by obtain⟨b,o,e,hB,a⟩:=h k d c;exact⟨b,o,e,l8 hB hb.size,(hb.cell (p:=⟨b,o+k,none⟩) hB).trans a⟩
def bKf (w:World)(b:Nat)(D:Nat->Int):Prop:=b<w.heap.size/\ ∀k,k<6->w.cell? ⟨b,k,none⟩=some (.int .i64 (D k))/\w.frozen? ⟨b,k,none⟩=false
theorem bKf.set{w:World}{b:Nat}{D:Nat->Int}(h:bKf w b D)(k:Nat)(hk:k<6)(d:Int):bKf (w.setCell ⟨b,k,none⟩ (k9 d)) b (λj=>if j=k then d else D j):=by
 refine⟨by simpa using h.1,λj a=>⟨?_,?_⟩⟩
 .by_cases e:j=k
  .subst e;dsimp only;rw[if_pos rfl];exact World.cell?_setCell_same w ⟨b,j,none⟩ _ (h.2 j a).1
  .dsimp only;rw[if_neg e,World.cell?_setCell_other w _ _ _ (by intro h;injection h with _ h;exact e h.symm)];exact(h.2 j a).1
 .rw[World.frozen?_setCell];exact(h.2 j a).2
theorem yH: ∀{o:Option Mono} {l:List Mono},gD o l=true-> ∀m∈l,qH m=true
 |_,[],_,m,c=>by simp at c
 |none,a::l,h,m,c=>by
  simp only[gD,J3]at h
  rcases E2.1 c with rfl|c
  .exact h.1
  .exact yH h.2 m c
 |some b,a::l,h,m,c=>by
  simp only[gD,J3]at h
  rcases E2.1 c with rfl|c
  .exact h.1
  .exact yH h.2.2 m c
theorem bKf.below{w w':World}{b:Nat}{D:Nat->Int}(h:bKf w b D)(hb:Below w.heap.size w w'):bKf w' b D:=
 ⟨l8 h.1 hb.size,λk a=>⟨(hb.cell (p:=⟨b,k,none⟩) h.1).trans (h.2 k a).1,(hb.frozen (p:=⟨b,k,none⟩) h.1).trans (h.2 k a).2⟩⟩
end
section
open Go.RowKit Go.Proofs.Tryz
set_option maxRecDepth 100000
def wW (m:Mono):Bool:=decide (m.n<0)
def lC (p:List Mono):Bool:=dH p&& !(p.any wW)
def tQ (m:Mono):Bool:=m.sameE ⟨0,0,0,0,0,0,0⟩
def fU (p:List Mono)(n:Int):Bool:=lC p&&(decide (n<=0) || match p.getLast? with
 |none=>false
 |some m=>tQ m&&decide (n<=m.n))
set_option maxHeartbeats 400000 in
theorem neg_any(m:Mono)(w:World):Calls prog 24 #[.agg #[k9 m.n,l5 m.U.toNat,l5 m.T.toNat,l5 m.R.toNat,l5 m.Q.toNat,l5 m.O.toNat,l5 m.N.toNat]] w λe w'=>e= .returned (.bool (wW m))/\Below w.heap.size w w':=by
 go_enter func24,ntmps24
 go_wp2
 go_ret
 exact⟨rfl,by go_grown⟩
def IdxPost(w:World)(b:Bool)(e:Ending)(w':World):Prop:= ∃i:Int,e= .returned (.int .i64 i)/\decide (0<=i)=b/\Below w.heap.size w w'
set_option maxHeartbeats 1000000 in
theorem index_any(A:Option Addr)(c:Nat)(xs:List Mono)(w:World)(ha:lM w A xs)(hx:xs.length<=140737488355328):
  Calls prog 47 #[.slice A xs.length c,.func (.func 24) #[] #[]] w (IdxPost w (xs.any wW)):=by
 have Ha:=S7 ha;clear ha
 go_enter func47,ntmps47
 go_wp2
 go_loopw [8] (λi wr=> ∃k:Nat,k<=xs.length/\i= .int .i64 k/\Hid (xs.any wW=(xs.drop k).any wW)/\Below w.heap.size w wr) (λi _=>xs.length-(intOf i).toNat)
 case atStart=>exact⟨0,C4 _,rfl,rfl,Below.refl _ _⟩
 case round=>
  obtain⟨k,hk,rfl,hs,hbl⟩:=hrel
  by_cases hlt:k<xs.length
  .obtain⟨m,hm,dm⟩:=nO hlt;obtain⟨b,o,rfl,hB,c0,c1,c2,c3,c4,c5,c6⟩:=Ha.out.below hbl k m hm;have HS:=S7 (show xs.any wW=(wW m || (xs.drop (k+1)).any wW) by rw[hs.out,dm,List.any_cons]);have HBL:=S7 hbl;clear hs hm dm hB hbl
   go_wp2_with (go_at_call 24;refine(neg_any m _).mono ?_;rintro e w1 ⟨rfl,hb1⟩)
   .have hng:wW m=true:=by assumption
    go_ret
    exact⟨k,rfl,by rw[HS.out,hng,Bool.true_or];simp,HBL.out.trans (hb1.mono HBL.out.size)⟩
   .have hng:wW m=false:=by assumption
    go_roundw
    case rel=>exact⟨k+1,m0,by go_num,(by show _=_;rw[HS.out,hng,Bool.false_or]),HBL.out.trans (hb1.mono HBL.out.size)⟩
    case measure=>simp[intOf];omega
  .have HS:=S7 (show xs.any wW=false by rw[hs.out,K3 m0];rfl);clear hs
   go_wp2
   go_ret
   exact⟨-1,rfl,by rw[HS.out];rfl,hbl⟩
set_option maxHeartbeats 400000 in
theorem contains_any(A:Option Addr)(c:Nat)(xs:List Mono)(w:World)(ha:lM w A xs)(hx:xs.length<=140737488355328):
  Calls prog 23 #[.slice A xs.length c,.func (.func 24) #[] #[]] w λe w'=>e= .returned (.bool (xs.any wW))/\Below w.heap.size w w':=by
 have Ha:=S7 ha;clear ha
 go_enter func23,ntmps23
 go_wp2_with fail
 refine(index_any A c xs _ Ha.out hx).mono ?_;rintro e w1 ⟨i,rfl,hi,hb1⟩;have Hi:=S7 hi;clear hi
 go_wp2
 go_ret
 exact⟨gQ Hi.out,hb1⟩
set_option maxHeartbeats 400000 in
theorem xA(A:Option Addr)(c:Nat)(xs:List Mono)(w:World)(ha:lM w A xs)(hx:xs.length<=140737488355328):
  Calls prog 9 #[.slice A xs.length c] w λe w'=>e= .returned (.bool (lC xs))/\Below w.heap.size w w':=by
 have Ha:=S7 ha;clear ha;cases hr:dH xs
 .go_enter func9,ntmps9
  go_wp2_with fail
  refine(kZ A c xs _ Ha.out hx).mono ?_;rintro e w1 ⟨rfl,hb1⟩
  go_wp2
  go_ret
  exact⟨gQ (by unfold lC;rw[hr];rfl),hb1⟩
 .go_enter func9,ntmps9
  go_wp2_with fail
  refine(kZ A c xs _ Ha.out hx).mono ?_;rintro e w1 ⟨rfl,hb1⟩;have H1:=S7 hb1;clear hb1
  go_wp2_with fail
  refine(contains_any A c xs _ (Ha.out.below H1.out) hx).mono ?_;rintro e w2 ⟨rfl,hb2⟩;have H2:=S7 (H1.out.trans (hb2.mono H1.out.size));clear hb2
  go_wp2
  go_ret
  exact⟨gQ (by unfold lC;rw[hr,U9]),H2.out⟩
theorem run_zero_E(w:World):(V5 41 #[]).run prog w= .ok (.agg #[l5 0,l5 0,l5 0,l5 0,l5 0,l5 0]) w:=m7
theorem run_eql_E(m:Mono)(w:World):(binOp .eql 41 (.agg #[l5 m.U.toNat,l5 m.T.toNat,l5 m.R.toNat,l5 m.Q.toNat,l5 m.O.toNat,l5 m.N.toNat]) (.agg #[l5 0,l5 0,l5 0,l5 0,l5 0,l5 0])).run prog w= .ok (.bool (tQ m)) w:=by rw[run_eql_struct];have h:=sT 9998 m ⟨0,0,0,0,0,0,0⟩ w;have e:(Value.agg #[.int .u8 (((0:UInt8).toNat:Nat):Int),.int .u8 (((0:UInt8).toNat:Nat):Int),.int .u8 (((0:UInt8).toNat:Nat):Int),.int .u8 (((0:UInt8).toNat:Nat):Int),.int .u8 (((0:UInt8).toNat:Nat):Int),.int .u8 (((0:UInt8).toNat:Nat):Int)])= .agg #[.int .u8 0,.int .u8 0,.int .u8 0,.int .u8 0,.int .u8 0,.int .u8 0]:=rfl;rw[e]at h;rw[h];rfl
set_option maxHeartbeats 1000000 in
theorem covers_any(A:Option Addr)(c:Nat)(xs:List Mono)(n:Int)(w:World)(ha:lM w A xs)(hx:xs.length<=140737488355328):
  Calls prog 98 #[.slice A xs.length c,k9 n] w λe w'=>e= .returned (.bool (fU xs n))/\Below w.heap.size w w':=by
 have Ha:=S7 ha;clear ha;have hz:=run_zero_E;have heq:=run_eql_E;cases hg:lC xs
 .go_enter func98,ntmps98
  go_wp2_with fail
  refine(xA A c xs _ Ha.out hx).mono ?_;rintro e w1 ⟨rfl,hb1⟩
  go_wp2
  go_ret
  exact⟨gQ (by unfold fU;rw[hg];rfl),hb1⟩
 .by_cases hn:n<=0
  .have hn1:decide (n<=0)=true:=by simpa using hn
   go_enter func98,ntmps98
   go_wp2_with fail
   refine(xA A c xs _ Ha.out hx).mono ?_;rintro e w1 ⟨rfl,hb1⟩
   go_wp2
   go_ret
   exact⟨gQ ak1,hb1⟩
  .have hn1:decide (n<=0)=false:=by simpa using hn
   rcases S8 xs.length with h0|h0
   .have h01:((xs.length:Int)==0)=true:=by simp[h0]
    have H0:=S7 h0;clear h0
    go_enter func98,ntmps98
    go_wp2_with fail
    refine(xA A c xs _ Ha.out hx).mono ?_;rintro e w1 ⟨rfl,hb1⟩
    go_wp2
    go_ret
    have e:xs=[]:=F7 H0.out;subst e;exact⟨gQ ak1,hb1⟩
   .have h01:((xs.length:Int)==0)=false:=beq_eq_false_iff_ne.2 m0
    obtain⟨m,hm⟩: ∃m,xs[xs.length-1]?=some m:=⟨xs[xs.length-1]'m0,F1 _⟩
    have HL:=S7 (show xs.getLast?=some m by rw[List.getLast?_eq_getElem?];exact hm);have HM:=S7 hm;clear hm
    go_enter func98,ntmps98
    go_wp2_with fail
    refine(xA A c xs _ Ha.out hx).mono ?_;rintro e w1 ⟨rfl,hb1⟩;obtain⟨b,o,hA,hB,c0,c1,c2,c3,c4,c5,c6⟩:=Ha.out.below hb1 _ m HM.out;subst hA;have hi:((xs.length:Int)-1).toNat=xs.length-1:=m0
    have H1:=S7 hb1;clear hb1 HM hB;cases hf:tQ m
    .go_wp2
     go_ret
     exact⟨gQ ah6,H1.out.alloc H1.out.size _⟩
    .go_wp2
     go_ret
     exact⟨gQ ah6,H1.out.alloc H1.out.size _⟩
end
section
open Go.RowKit Go.Proofs.Tryz
def fL:Flat Mono where
 size:=7
 cells:=Mono.cells
 len:=λ_=>rfl
 one:=λx u hu=>by
  simp[Mono.cells]at hu
  rcases hu with rfl|rfl|rfl|rfl|rfl|rfl|rfl<;>rfl
 pos:=m9
theorem monos_of{S:nD}{w:World}{A:Option Addr}{k c:Nat}{l:List Mono}(hS: ∀b,S b->b<w.heap.size)(h:(fL.sl (.slice A k c) l).p S w):lM w A l/\k=l.length:=by
 obtain⟨q,n,e,h⟩:=h;injection e with g f a
 subst g f;refine⟨λk m i=>?_,rfl⟩;obtain⟨b,o,j,g,f,a,d⟩:=h k m i;have d:j=m.cells:=d;subst d;exact⟨b,o,g,hS b f,a 0 _ rfl,a 1 _ rfl,a 2 _ rfl,a 3 _ rfl,a 4 _ rfl,a 5 _ rfl,a 6 _ rfl⟩
theorem sl_of{w:World}{A:Option Addr}{c:Nat}{l:List Mono}(h:lM w A l):(fL.sl (.slice A l.length c) l).p (λb=>b<w.heap.size) w:=by
 refine⟨A,c,rfl,λk m f=>?_⟩;obtain⟨b,o,e,g,h0,h1,h2,q,h4,n,i⟩:=h k m f;refine⟨b,o,m.cells,e,g,λj u a=>?_,rfl⟩;have d:=(F3.1 a).1;rw[Mono.cells_length]at d
 match j,d with
 |0,_=>simp[Mono.cells]at a;subst a;exact h0
 |1,_=>simp[Mono.cells]at a;subst a;exact h1
 |2,_=>simp[Mono.cells]at a;subst a;exact h2
 |3,_=>simp[Mono.cells]at a;subst a;exact q
 |4,_=>simp[Mono.cells]at a;subst a;exact h4
 |5,_=>simp[Mono.cells]at a;subst a;exact n
 |6,_=>simp[Mono.cells]at a;subst a;exact i
abbrev PolV:=Sl Mono
def jU (p:PolV):Fact:=(fL.sl (.slice p.I p.A.length p.cap) p.A).and (Fact.pure (p.A.length<=140737488355328))
theorem qK{f:FuncId}{args:List Value}{Pre:List Fact}{r:List Mono×Int}(hl:r.1.length<=140737488355328)(h: ∀S w,(∀b,S b->b<w.heap.size)->All Pre S w->Calls prog f args.toArray w (zR w r)):
  cY prog f args [] Pre (λx:Option Addr×Nat=> .tuple #[.slice x.1 r.1.length x.2,k9 r.2]) (λ_=>[]) (λx=>[jU ⟨x.1,x.2,r.1⟩]):=λS w s k=>by
 refine(h S w (λb d=>(s.W b d).1) k).mono ?_;intro e q hg;obtain⟨v,rfl,d,A,c,rfl,hr⟩:=hg;refine⟨(A,c),λb=>S b\/(w.heap.size<=b/\b<q.heap.size),rfl,⟨pC.of_below _ d,λc j=>by simp at j,λc j=>by simp at j,List.Pairwise.nil,λb l=>?_⟩,All.cons ⟨?_,hl⟩ (λg hg=>by simp at hg)⟩
 .rcases l with h|h
  .exact⟨l8 (s.W b h).1 d.size,.inl h⟩
  .exact⟨h.2,.inr (.inr h.1)⟩
 .rcases hr with hr|⟨g,rfl,hg,hr⟩
  .exact⟨A,c,rfl,λk m i=>by
    have hr:r.1=[]:=hr
    simp[hr]at i⟩
  .have t:=hr.monos;obtain⟨B,z,e,h⟩:=sl_of (c:=c) t;injection e with a p n
   subst a;refine⟨_,c,rfl,λk m i=>?_⟩;obtain⟨b,o,y,a,p,n,u⟩:=h k m i;injection a with a
   injection a with a e5
   subst a;exact⟨_,o,y,by rw[e5],.inr ⟨hg,p⟩,n,u⟩
theorem lJ{p:List Mono}(h:dH p=true):p.length<=48:=by simp only[dH,J3,decide_eq_true_eq]at h;exact h.1
theorem bIi(L:List Mono):dH (kS L).1=true/\((kS L).2≠0->(kS L).1=[]):=by
 unfold kS;split
 .rename_i h;exact⟨h,λh=>absurd rfl h⟩
 .exact⟨rfl,λ_=>rfl⟩
theorem oA(p q:List Mono)(s:Int):dH (cD p q s).1=true:=by
 unfold cD;split
 .exact(bIi _).1
 .rfl
theorem bDm(p q:List Mono):dH (nA p q).1=true:=by
 unfold nA;split
 .exact(bIi _).1
 .rfl
theorem bAy(n:Int):dH (gV n).1=true:=by
 unfold gV;split
 .rfl
 .split
  .rfl
  .rename_i h0 h1;simp only[not_or,Int.not_lt]at h1;simp[dH,gD,num0,qH,h0,Mono.deg,h1]
theorem bCt(k:Int):dH (pG k).1=true:=by
 unfold pG;split
 .rfl
 .rename_i h;simp only[not_or,Int.not_lt,Int.not_le]at h
  obtain⟨n,rfl⟩: ∃n:Nat,k=n:=⟨k.toNat,m0⟩
  match n,h with
  |0,_=>rfl
  |1,_=>rfl
  |2,_=>rfl
  |3,_=>rfl
  |4,_=>rfl
  |5,_=>rfl
  |n+6,h=>exact absurd h.2 m0
section
variable (p q : PolV)
theorem lA{p:PolV}{S:nD}{w:World}(hS: ∀b,S b->b<w.heap.size)(h:(jU p).p S w):lM w p.I p.A:=(monos_of hS h.1).1
theorem bBx(hp:p.A.length<=140737488355328)(hq:q.A.length<=140737488355328):cY prog 63 [k7 p,k7 q] [] [jU p,jU q] (λx:Option Addr×Nat=> .tuple #[.slice x.1 (cD p.A q.A 1).1.length x.2,k9 (cD p.A q.A 1).2]) (λ_=>[]) (λx=>[jU ⟨x.1,x.2,(cD p.A q.A 1).1⟩]):=
 qK (B1 (lJ (oA _ _ _)) m9) λ_ w a h=>add_any _ _ _ _ _ _ w (lA a (h _ (.head _))) (lA a (h _ (.tail _ (.head _)))) hp hq
theorem bRy(hp:p.A.length<=140737488355328)(hq:q.A.length<=140737488355328):cY prog 58 [k7 p,k7 q] [] [jU p,jU q] (λx:Option Addr×Nat=> .tuple #[.slice x.1 (cD p.A q.A (-1)).1.length x.2,k9 (cD p.A q.A (-1)).2]) (λ_=>[]) (λx=>[jU ⟨x.1,x.2,(cD p.A q.A (-1)).1⟩]):=
 qK (B1 (lJ (oA _ _ _)) m9) λ_ w a h=>sub_any _ _ _ _ _ _ w (lA a (h _ (.head _))) (lA a (h _ (.tail _ (.head _)))) hp hq
theorem mul_spec(hp:p.A.length<=140737488355328)(hq:q.A.length<=140737488355328):cY prog 55 [k7 p,k7 q] [] [jU p,jU q] (λx:Option Addr×Nat=> .tuple #[.slice x.1 (nA p.A q.A).1.length x.2,k9 (nA p.A q.A).2]) (λ_=>[]) (λx=>[jU ⟨x.1,x.2,(nA p.A q.A).1⟩]):=
 qK (B1 (lJ (bDm _ _)) m9) λ_ w a h=>mul_any _ _ _ _ _ _ w (lA a (h _ (.head _))) (lA a (h _ (.tail _ (.head _)))) hp hq
theorem bFs(n:Int):cY prog 54 [k9 n] [] [] (λx:Option Addr×Nat=> .tuple #[.slice x.1 (gV n).1.length x.2,k9 (gV n).2]) (λ_=>[]) (λx=>[jU ⟨x.1,x.2,(gV n).1⟩]):=
 qK (B1 (lJ (bAy n)) m9) λ_ w _ _=>const_any n w
theorem var_spec(k:Int):cY prog 29 [k9 k] [] [] (λx:Option Addr×Nat=> .tuple #[.slice x.1 (pG k).1.length x.2,k9 (pG k).2]) (λ_=>[]) (λx=>[jU ⟨x.1,x.2,(pG k).1⟩]):=
 qK (B1 (lJ (bCt k)) m9) λ_ w _ _=>var_any k w
theorem bQs(hp:p.A.length<=140737488355328):cY prog 9 [k7 p] [] [jU p] (λ_:Unit=> .bool (lC p.A)) (λ_=>[]) (λ_=>[]):=
 jZ λ_ w a h=>xA _ _ _ w (lA a (h _ (.head _))) hp
theorem vU(n:Int)(hp:p.A.length<=140737488355328):cY prog 98 [k7 p,k9 n] [] [jU p] (λ_:Unit=> .bool (fU p.A n)) (λ_=>[]) (λ_=>[]):=
 jZ λ_ w a h=>covers_any _ _ _ n w (lA a (h _ (.head _))) hp
end
end
section
open Go.RowKit Go.ChangeShapes Go.WideShapes Go.Proofs.Tryz
def bV:Flat PolV:=slE Mono
structure TyV where
 B:(Sl PolV)
 known:Bool
 values:(Sl PolV)
 deriving Inhabited
def tyE:Flat TyV where
 size:=3
 cells:=λx=>[.slice x.B.I x.B.A.length x.B.cap,.bool x.known,.slice x.values.I x.values.A.length x.values.cap]
 len:=λ_=>rfl
 one:=λx u hu=>by
  simp at hu
  rcases hu with rfl|rfl|rfl<;>rfl
 pos:=m9
def tR:Flat (Sl TyV):=slE TyV
def typeT:Tab:=[(3,⟨.int .i64,1⟩),(2,⟨.int .i64,1⟩),(5,⟨.int .u8,1⟩),(9,⟨.string,1⟩),(4,⟨.bool,1⟩),(59,⟨.int .u8,1⟩),(28,⟨.int .i64,1⟩),(60,⟨.slice 2,1⟩),(46,⟨.slice 9,1⟩),(110,⟨.struct [(3,0),(3,1),(9,2),(2,3)],4⟩),(103,⟨.slice 110,1⟩),(30,⟨.struct [(3,0),(28,1)],2⟩),(52,⟨.struct [(9,0),(2,1)],2⟩),(48,⟨.slice 52,1⟩),(50,⟨.struct [(9,0),(3,1),(48,2)],3⟩),(22,⟨.slice 50,1⟩),(62,⟨.struct [(3,0),(3,1),(59,2),(9,3),(60,4)],5⟩),(56,⟨.slice 62,1⟩),(58,⟨.struct [(9,0),(3,1),(56,2)],3⟩),(23,⟨.slice 58,1⟩),(25,⟨.struct [(22,0),(23,1)],2⟩),(108,⟨.struct [(103,0),(3,1),(3,2)],3⟩),(40,⟨.slice 43,1⟩),(36,⟨.slice 40,1⟩),(38,⟨.struct [(36,0),(4,1),(36,2)],3⟩),(35,⟨.slice 38,1⟩),(27,⟨.slice 35,1⟩),(106,⟨.other,1⟩),(172,⟨.slice 1,1⟩),(1,⟨.other,1⟩),(221,⟨.int .u64,1⟩),(83,⟨.map 9 4,1⟩),(43,⟨.struct [(2,0),(41,1)],7⟩),(41,⟨.array 6 5,6⟩),(54,⟨.other,1⟩),(66,⟨.map 9 38,1⟩),(68,⟨.struct [(66,0)],1⟩),(123,⟨.other,1⟩),(193,⟨.int .u64,1⟩),(128,⟨.slice 36,1⟩),(72,⟨.struct [(25,0),(46,2),(35,3)],4⟩),(70,⟨.other,1⟩)]
theorem dL:fX prog typeT:=yB.ok
 ⟨⟨by rw[underlying3];rfl,m7⟩,
  ⟨by rw[underlying2];rfl,m7⟩,
  ⟨by rw[underlying5];rfl,m7⟩,
  ⟨by rw[underlying9];rfl,m7⟩,
  ⟨by rw[underlying4];rfl,m7⟩,
  ⟨by rw[underlying59];rfl,m7⟩,
  ⟨by rw[underlying28];rfl,m7⟩,
  ⟨by rw[underlying60];rfl,m7⟩,
  ⟨by rw[underlying46];rfl,m7⟩,
  ⟨by rw[underlying110];rfl,m7⟩,
  ⟨by rw[underlying103];rfl,m7⟩,
  ⟨by rw[underlying30];rfl,m7⟩,
  ⟨by rw[underlying52];rfl,m7⟩,
  ⟨by rw[underlying48];rfl,m7⟩,
  ⟨by rw[underlying50];rfl,m7⟩,
  ⟨by rw[underlying22];rfl,m7⟩,
  ⟨by rw[underlying62];rfl,m7⟩,
  ⟨by rw[underlying56];rfl,m7⟩,
  ⟨by rw[underlying58];rfl,m7⟩,
  ⟨by rw[underlying23];rfl,m7⟩,
  ⟨by rw[underlying25];rfl,m7⟩,
  ⟨by rw[underlying108];rfl,m7⟩,
  ⟨by rw[underlying40];rfl,m7⟩,
  ⟨by rw[underlying36];rfl,m7⟩,
  ⟨by rw[underlying38];rfl,m7⟩,
  ⟨by rw[underlying35];rfl,m7⟩,
  ⟨by rw[underlying27];rfl,m7⟩,
  ⟨by rw[underlying106];rfl,m7⟩,
  ⟨by rw[underlying172];rfl,m7⟩,
  ⟨by rw[underlying1];rfl,m7⟩,
  ⟨by rw[underlying221];rfl,m7⟩,
  ⟨by rw[underlying83];rfl,m7⟩,
  ⟨by rw[underlying43];rfl,m7⟩,
  ⟨by rw[underlying41];rfl,m7⟩,
  ⟨by rw[underlying54];rfl,m7⟩,
  ⟨by rw[underlying66];rfl,m7⟩,
  ⟨by rw[underlying68];rfl,m7⟩,
  ⟨by rw[underlying123];rfl,m7⟩,
  ⟨by rw[underlying193];rfl,m7⟩,
  ⟨by rw[underlying128];rfl,m7⟩,
  ⟨by rw[underlying72];rfl,m7⟩,
  ⟨by rw[underlying70];rfl,m7⟩,j1⟩
theorem bBj: ∃i:TypeInfo,prog.info? 40=some i/\i.zero=some (.slice none 0 0)/\i.size=1/\i.bytes=24:=by
 have h:(prog.info? 40).map (λi=>(i.zero,i.size,i.bytes))=some (some (.slice none 0 0),1,24):=m7
 cases hi:prog.info? 40 with
 |none=>simp[hi]at h
 |some i=>simp[hi]at h;exact⟨i,rfl,h.1,h.2.1,h.2.2⟩
theorem cT{β:fR}{n:Nat}{Γ:Env}{H:List bL}{F:List Fact}{Q:Exit->Act->World->Prop}{ops:Array Oper}{rest:List Oper}{o:Oper}{d:Nat}{x:Operand}{m:PolV}(hw:want ops Γ o=some true)(ho:o.op= .buildSlice 36 1 #[(0,x)])(hd:o.dst=some d)(hn:B2 d n=true)
  (hx:Γ.ev x=some (k7 m)) (k: ∀b,At β n ((d,.slice (some ⟨b,0,none⟩) 1 1)::Γ) (.obj b (.cells (bV.all [m]).toArray 40)::H) F (wpList prog ops Q rest)):At β n Γ H F (wpList prog ops Q (o::rest)):=by
 obtain⟨i,hi,a,hs,_⟩:=bBj;refine jT hw ho hd hn hx underlying36 hi a m0 m0 ?_ k;rw[hs]
 kernel_rfl
theorem k6{β:fR}{n:Nat}{Γ:Env}{H:List bL}{F:List Fact}{Q:Exit->Act->World->Prop}{ops:Array Oper}{rest:List Oper}{o:Oper}{d:Nat}{x:Operand}{m:PolV}(k: ∀b,At β n ((d,.slice (some ⟨b,0,none⟩) 1 1)::Γ) (.obj b (.cells (bV.all [m]).toArray 40)::H) F (wpList prog ops Q rest))(hw:want ops Γ o=some true:=by exact rfl)(ho:o.op= .buildSlice 36 1 #[(0,x)]:=by exact rfl)(hd:o.dst=some d:=by exact rfl)(hn:Nat.blt d n=true:=by exact rfl)(hx:Γ.ev x=some (k7 m):=by exact rfl):At β n Γ H F (wpList prog ops Q (o::rest)):=cT hw ho hd hn hx k
theorem uG{β:fR}{n:Nat}{Γ:Env}{H:List bL}{F:List Fact}{Q:Exit->Act->World->Prop}{ops:Array Oper}{rest:List Oper}{o:Oper}{d:Nat}(hw:want ops Γ o=some true)(ho:o.op= .buildSlice 36 0 #[])(hd:o.dst=some d)(hn:B2 d n=true)
  (k: ∀b,At β n ((d,.slice (some ⟨b,0,none⟩) 0 0)::Γ) (bV.row (.slice (some ⟨b,0,none⟩) 0 0) 40 []::H) F (wpList prog ops Q rest)):At β n Γ H F (wpList prog ops Q (o::rest)):=by obtain⟨i,hi,_⟩:=bBj;exact bCo bV hw ho hd hn underlying36 hi k
theorem cV{β:fR}{n:Nat}{Γ:Env}{H:List bL}{F:List Fact}{Q:Exit->Act->World->Prop}{ops:Array Oper}{rest:List Oper}{o:Oper}{d:Nat}{x y:Operand}{c q:Nat}{v:Value}{A:Option Addr}{xs ys:List PolV}{H':List bL}(hH:cU H (bV.row v 40 xs) H')(hr:dC β H F bV A ys)(hg:o.guard=none)
  (ho:o.op= .call {callee:= .builtin .append,args:= #[x,y],argTypes:= #[36,36]}) (hd:o.dst=some d) (hn:B2 d n=true)
  (hx:Γ.ev x=some v) (hy:Γ.ev y=some (.slice A q c)) (hq:q=ys.length) (hl:xs.length+ys.length<=5864062014805)
  (k: ∀A' cap',At β n ((d,.slice A' (xs++ys).length cap')::Γ) (bV.row (.slice A' (xs++ys).length cap') 40 (xs++ys)::H') F (wpList prog ops Q rest)):At β n Γ H F (wpList prog ops Q (o::rest)):=by obtain⟨i,hi,a,hs,b⟩:=bBj;exact gS hH hr hg ho hd hn underlying36 hi a hs b rfl hx hy hq m0 m9 k
theorem tyInfo: ∃i:TypeInfo,prog.info? 38=some i/\i.zero=some (.agg #[.slice none 0 0,.bool false,.slice none 0 0])/\i.size=3/\i.bytes=56:=by
 have h:(prog.info? 38).map (λi=>(i.zero,i.size,i.bytes))=some (some (.agg #[.slice none 0 0,.bool false,.slice none 0 0]),3,56):=m7
 cases hi:prog.info? 38 with
 |none=>simp[hi]at h
 |some i=>simp[hi]at h;exact⟨i,rfl,h.1,h.2.1,h.2.2⟩
theorem kQ{β:fR}{n:Nat}{Γ:Env}{H:List bL}{F:List Fact}{Q:Exit->Act->World->Prop}{ops:Array Oper}{rest:List Oper}{o:Oper}{d:Nat}{x:Operand}{m:TyV}(hw:want ops Γ o=some true)(ho:o.op= .buildSlice 35 1 #[(0,x)])(hd:o.dst=some d)(hn:B2 d n=true)
  (hx:Γ.ev x=some (.agg #[k7 m.B,.bool m.known,k7 m.values])) (k: ∀b,At β n ((d,.slice (some ⟨b,0,none⟩) 1 1)::Γ) (.obj b (.cells (tyE.all [m]).toArray 38)::H) F (wpList prog ops Q rest)):At β n Γ H F (wpList prog ops Q (o::rest)):=by
 obtain⟨i,hi,a,hs,_⟩:=tyInfo;refine jT hw ho hd hn hx underlying35 hi a m0 m0 ?_ k;rw[hs]
 kernel_rfl
theorem vE{β:fR}{n:Nat}{Γ:Env}{H:List bL}{F:List Fact}{Q:Exit->Act->World->Prop}{ops:Array Oper}{rest:List Oper}{o:Oper}{d:Nat}(hw:want ops Γ o=some true)(ho:o.op= .buildSlice 35 0 #[])(hd:o.dst=some d)(hn:B2 d n=true)
  (k: ∀b,At β n ((d,.slice (some ⟨b,0,none⟩) 0 0)::Γ) (tyE.row (.slice (some ⟨b,0,none⟩) 0 0) 38 []::H) F (wpList prog ops Q rest)):At β n Γ H F (wpList prog ops Q (o::rest)):=by obtain⟨i,hi,_⟩:=tyInfo;exact bCo tyE hw ho hd hn underlying35 hi k
theorem gR{β:fR}{n:Nat}{Γ:Env}{H:List bL}{F:List Fact}{Q:Exit->Act->World->Prop}{ops:Array Oper}{rest:List Oper}{o:Oper}{d:Nat}{x y:Operand}{c q:Nat}{v:Value}{A:Option Addr}{xs ys:List TyV}{H':List bL}(hH:cU H (tyE.row v 38 xs) H')(hr:dC β H F tyE A ys)(hg:o.guard=none)
  (ho:o.op= .call {callee:= .builtin .append,args:= #[x,y],argTypes:= #[35,35]}) (hd:o.dst=some d) (hn:B2 d n=true)
  (hx:Γ.ev x=some v) (hy:Γ.ev y=some (.slice A q c)) (hq:q=ys.length) (hl:xs.length+ys.length<=2513169434916)
  (k: ∀A' cap',At β n ((d,.slice A' (xs++ys).length cap')::Γ) (tyE.row (.slice A' (xs++ys).length cap') 38 (xs++ys)::H') F (wpList prog ops Q rest)):At β n Γ H F (wpList prog ops Q (o::rest)):=by obtain⟨i,hi,a,hs,b⟩:=tyInfo;exact gS hH hr hg ho hd hn underlying35 hi a hs b rfl hx hy hq m0 m9 k
theorem rowsInfo: ∃i:TypeInfo,prog.info? 35=some i/\i.zero=some (.slice none 0 0)/\i.size=1/\i.bytes=24:=by
 have h:(prog.info? 35).map (λi=>(i.zero,i.size,i.bytes))=some (some (.slice none 0 0),1,24):=m7
 cases hi:prog.info? 35 with
 |none=>simp[hi]at h
 |some i=>simp[hi]at h;exact⟨i,rfl,h.1,h.2.1,h.2.2⟩
theorem bLz{β:fR}{n:Nat}{Γ:Env}{H:List bL}{F:List Fact}{Q:Exit->Act->World->Prop}{ops:Array Oper}{rest:List Oper}{o:Oper}{d:Nat}{x:Operand}{m:(Sl TyV)}(hw:want ops Γ o=some true)(ho:o.op= .buildSlice 27 1 #[(0,x)])(hd:o.dst=some d)(hn:B2 d n=true)
  (hx:Γ.ev x=some (k7 m)) (k: ∀b,At β n ((d,.slice (some ⟨b,0,none⟩) 1 1)::Γ) (.obj b (.cells (tR.all [m]).toArray 35)::H) F (wpList prog ops Q rest)):At β n Γ H F (wpList prog ops Q (o::rest)):=by
 obtain⟨i,hi,a,hs,_⟩:=rowsInfo;refine jT hw ho hd hn hx underlying27 hi a m0 m0 ?_ k;rw[hs]
 kernel_rfl
theorem bLx{β:fR}{n:Nat}{Γ:Env}{H:List bL}{F:List Fact}{Q:Exit->Act->World->Prop}{ops:Array Oper}{rest:List Oper}{o:Oper}{d:Nat}{x y:Operand}{c q:Nat}{v:Value}{A:Option Addr}{xs ys:List (Sl TyV)}{H':List bL}(hH:cU H (tR.row v 35 xs) H')(hr:dC β H F tR A ys)(hg:o.guard=none)
  (ho:o.op= .call {callee:= .builtin .append,args:= #[x,y],argTypes:= #[27,27]}) (hd:o.dst=some d) (hn:B2 d n=true)
  (hx:Γ.ev x=some v) (hy:Γ.ev y=some (.slice A q c)) (hq:q=ys.length) (hl:xs.length+ys.length<=5864062014805)
  (k: ∀A' cap',At β n ((d,.slice A' (xs++ys).length cap')::Γ) (tR.row (.slice A' (xs++ys).length cap') 35 (xs++ys)::H') F (wpList prog ops Q rest)):At β n Γ H F (wpList prog ops Q (o::rest)):=by obtain⟨i,hi,a,hs,b⟩:=rowsInfo;exact gS hH hr hg ho hd hn underlying27 hi a hs b rfl hx hy hq m0 m9 k
end
section
open Go.RowKit Go.Proofs.Tryz
section
variable {P : Program} {β : fR} {n : Nat} {Γ : Env} {H : List bL} {F : List Fact} {o : Oper} {x : Operand} {t tt e : TypeId} {A : Option Addr} {q c : Nat}
theorem bUx(ht:P.underlying t=some (.slice e))(ho:o.op= .binOp .eql t x (.const (.slice none 0 0)) tt)(hx:Γ.ev x=some (.slice A q c)):Sti P β n Γ H F o (.bool A.isNone):=λa w S f s k=>by
 have h1: ∀d,(Op.equalIn (d+1) t (.slice A q c) (.slice none 0 0)).run P w= .ok A.isNone w:=λd=>by cases A<;>simp[Op.equalIn,run_underlying ht]
 unfold execOp;have e:a.eval (.const (.slice none 0 0))= .slice none 0 0:=rfl;simp only[ho,f.ev hx,e]
 have b:(binOp .eql t (.slice A q c) (.slice none 0 0)).run P w= .ok (.bool A.isNone) w:=by simp only[binOp];have h2:(Op.equal t (.slice A q c) (.slice none 0 0)).run P w= .ok A.isNone w:=h1 9999;rw[G9,h2];rfl
 have hg:(eqGuard .eql t x (.const (.slice none 0 0)) (.slice A q c) (.slice none 0 0)).run P w= .ok () w:=by unfold eqGuard;simp
 rw[G9,G9,hg,H6,b];rfl
end
theorem bVi{α:Type}{E:Flat α}{F:List Fact}{A:Option Addr}{m c:Nat}{l:List α}(h:Has F (E.sl (.slice A m c) l)):Has F (Fact.pure (A.isNone=true->l=[])):=λS w k a=>by
 obtain⟨i,g,e,h⟩:=h S w k
 cases l with
 |nil=>rfl
 |cons x r=>
  obtain⟨b,o,f,d,_⟩:=h 0 x rfl;injection e with e
  subst e;subst d;cases a
section
variable {k x : Bs} {l : List Bs} {i : Nat} {r : Int}
theorem bQj(h:r=idxOf k (l.drop i) i)(hx:l[i]?=some x):(k=x->r=i)/\(k≠x->r=idxOf k (l.drop (i+1)) ((i+1:Nat):Int)):=by rw[gX hx,idxOf]at h;refine⟨λe=>by rw[if_pos e.symm]at h;exact h,λe=>by rw[if_neg (Ne.symm e)]at h;rw[h];rfl⟩
theorem idxOf_end(h:r=idxOf k (l.drop i) i)(hi:l.length<=i):r= -1:=by rw[K3 hi]at h;exact h
end
theorem bCf(A:Option Addr)(c:Nat)(l:List Bs)(hl:l.length<=140737488355328)(k:Bs):cY prog 14 [.slice A l.length c,.string (bs k)] [] [lN.sl (.slice A l.length c) l] (λ(_:Unit)=> k9 (idxOf k l 0)) (λ_=>[]) (λ_=>[]):=by
 have hT:=bHp;generalize f:idxOf k l 0=r;refine j8 func14 ntmps14 ?_;intro β hM;refine g14 ?_;refine cI (ι:=Nat) [(0,_),(1,_),(7,_)] ⟨rfl,rfl,rfl,j1⟩ (λi=>[(8,.int .i64 (i:Nat))]) (λ_=>[]) (λi=>[Fact.pure (i<=l.length/\r=idxOf k (l.drop i) i)]) (λi=>l.length-i) 0 ⟨rfl,j1⟩ .nil ⟨j2 (⟨m0,f.symm⟩),j1⟩ ?_;rintro i;refine bG d7 λb=>?_;refine g6 ?_;refine fA (λe=>?_) λe=>?_
 .refine g15 ?_;obtain⟨x1,d⟩:=gx l i;refine ss (ixs i) ?_;refine ss (gI d 0) ?_;refine g3 ?_;refine fT (λa=>?_) λa=>?_
  .have a:k=x1:=eq_of_beq a;refine g12 ?_;obtain rfl:=(bQj b.2 d).1 ‹_›;exact rs1 () trivial
  have a:k≠x1:=λh=>absurd (beq_iff_eq.2 h) (by rw[show(k==x1)=false from a];simp);refine g5 ?_;refine inc (i+1) ?_;refine g3 ?_;exact bk2 (i+1) ⟨j2 (⟨m0,(bQj b.2 d).2 ‹_›⟩),j1⟩
 refine g11 ?_;have hr:=idxOf_end b.2 m0;subst hr;exact rs1 () trivial
end
section
open Go.RowKit Go.Shelf Go.Proofs.Tryz
attribute [local go_sem] Oper.semAt_some
def bBz (S:Nat->Prop)(W W':World):Prop:= ∀c,S c->W'.heap[c]?=W.heap[c]?
theorem bBz.refl(S:Nat->Prop)(W:World):bBz S W W:=λ_ _=>rfl
theorem bBz.trans{S:Nat->Prop}{A B C:World}(h:bBz S A B)(k:bBz S B C):bBz S A C:=λc a=>(k c a).trans (h c a)
theorem bBz.cell{S:Nat->Prop}{A B:World}(h:bBz S A B){p:Addr}(hp:S p.block):B.cell? p=A.cell? p:=World.cell?_of_block (h p.block hp)
end
section
open Go.RowKit Go.Proofs.Tryz
section
variable {P : Program} {β : fR} {n : Nat} {Γ : Env} {H : List bL} {F : List Fact} {Q : Exit -> Act -> World -> Prop}
theorem St.drew{S:nD}{w:World}(s:St β H S w):St β H S w.drew:=⟨⟨s.kept.os,s.kept.tape,s.kept.output,s.kept.size,s.kept.block⟩,λc a=>bL.ok_of (s.ok c a) λ_ _=>rfl,s.own,s.sep,s.W⟩
end
theorem yN{a z:Int}(h:a=z)(h1: -9223372036854775808<=z)(h2:z<9223372036854775808):IntKind.i64.wrap a=z:=by rw[h];exact xF h1 h2
instance : DecidableEq Mono := λa b => decidable_of_iff (a.eqB b = true) (Mono.eqB_iff a b)
def bNo (a b:Mono):Bool:=a.eqB b
theorem sti_neq_mono{β:fR}{n:Nat}{Γ:Env}{H:List bL}{F:List Fact}{o:Oper}{a b:Operand}{tt:TypeId}(x y:Mono)(ho:o.op= .binOp .neq 43 a b tt)(hx:Γ.ev a=some (.agg #[k9 x.n,l5 x.U.toNat,l5 x.T.toNat,l5 x.R.toNat,l5 x.Q.toNat,l5 x.O.toNat,l5 x.N.toNat]))(hy:Γ.ev b=some (.agg #[k9 y.n,l5 y.U.toNat,l5 y.T.toNat,l5 y.R.toNat,l5 y.Q.toNat,l5 y.O.toNat,l5 y.N.toNat])):Sti prog β n Γ H F o (.bool (!bNo x y)):=λc w S f s k=>by
 have hq:prog.eqGuardType prog.depth 43=false:=m7
 have hg:(eqGuard .neq 43 a b (.agg #[.int .i64 x.n,.int .u8 x.U.toNat,.int .u8 x.T.toNat,.int .u8 x.R.toNat,.int .u8 x.Q.toNat,.int .u8 x.O.toNat,.int .u8 x.N.toNat]) (.agg #[.int .i64 y.n,.int .u8 y.U.toNat,.int .u8 y.T.toNat,.int .u8 y.R.toNat,.int .u8 y.Q.toNat,.int .u8 y.O.toNat,.int .u8 y.N.toNat])).run prog w= .ok () w:=by unfold eqGuard;have d:(program:Sem Program).run prog w= .ok prog w:=rfl;simp[d,hq]
 unfold execOp;simp only[ho,f.ev hx,f.ev hy];rw[G9,G9,hg,H6,bIn];rfl
theorem mono_eq{x y:Mono}:bNo x y=true↔x=y:=Mono.eqB_iff x y
theorem mono_t{x y:Mono}(h:(!bNo x y)=true):x≠y:=λe=>by rw[mono_eq.2 e]at h;cases h
theorem mono_f{x y:Mono}(h:(!bNo x y)=false):x=y:=mono_eq.1 ad7
def bO (l:List PolV):List (List Mono):=l.map (·.A)
theorem bI(l:List PolV):(bO l).length=l.length:=O4 _
theorem jR{l:List PolV}{i:Nat}{p:PolV}(h:l[i]?=some p):(bO l)[i]?=some p.A:=by unfold bO;rw[K1,h];rfl
theorem xV{α:Type} [DecidableEq α]{a b:List α}(h:a≠b):Value.bool false= .bool (decide (a=b)):=by simp[h]
theorem eqT_of{α:Type} [DecidableEq α]{a b:List α}(h:a=b):Value.bool true= .bool (decide (a=b)):=by simp[h]
theorem rJ{α:Type}{E:Flat α}{F:List Fact}:Has F (E.sl (.slice none 0 0) []):=λ_ _ _=>⟨none,0,rfl,λk x a=>by simp at a⟩
def cL (l:List PolV):Fact:=Fact.each l jU
theorem xC{F:List Fact}{p:PolV}(h:Has F (jU p)):Has F (fL.sl (k7 p) p.A):=h.left
theorem dG{F:List Fact}{p:PolV}(h:Has F (jU p)):Has F (Fact.pure (p.A.length<=140737488355328)):=h.right
theorem bIp: ∀{F:List Fact},Has F (jU ⟨none,0,[]⟩):=Has.and rJ (j2 m9)
def bY (n:Int):List Mono:=(gV n).1
theorem bWc: ∃i:TypeInfo,prog.info? 43=some i/\i.zero=some (.agg #[k9 0,l5 0,l5 0,l5 0,l5 0,l5 0,l5 0])/\i.size=7/\i.bytes=16:=by
 have h:(prog.info? 43).map (λi=>(i.zero,i.size,i.bytes))=some (some (.agg #[.int .i64 0,.int .u8 0,.int .u8 0,.int .u8 0,.int .u8 0,.int .u8 0,.int .u8 0]),7,16):=m7
 cases hi:prog.info? 43 with
 |none=>simp[hi]at h
 |some i=>simp[hi]at h;exact⟨i,rfl,h.1,h.2.1,h.2.2⟩
section
variable {β : fR} {n : Nat} {Γ : Env} {H : List bL} {F : List Fact} {Q : Exit -> Act -> World -> Prop} {ops : Array Oper} {rest : List Oper} {o : Oper} {d : Nat}
theorem at_none_mono(hw:want ops Γ o=some true)(ho:o.op= .buildSlice 40 0 #[])(hd:o.dst=some d)(hn:B2 d n=true)
  (k: ∀b,At β n ((d,.slice (some ⟨b,0,none⟩) 0 0)::Γ) (fL.row (.slice (some ⟨b,0,none⟩) 0 0) 43 []::H) F (wpList prog ops Q rest)):At β n Γ H F (wpList prog ops Q (o::rest)):=by obtain⟨i,hi,_⟩:=bWc;exact bCo fL hw ho hd hn underlying40 hi k
theorem at_app_mono{x y:Operand}{c q:Nat}{v:Value}{A:Option Addr}{xs ys:List Mono}{H':List bL}(hH:cU H (fL.row v 43 xs) H')(hr:dC β H F fL A ys)(hg:o.guard=none)
  (ho:o.op= .call {callee:= .builtin .append,args:= #[x,y],argTypes:= #[40,40]}) (hd:o.dst=some d) (hn:B2 d n=true)
  (hx:Γ.ev x=some v) (hy:Γ.ev y=some (.slice A q c)) (hq:q=ys.length) (hl:xs.length+ys.length<=8796093022208)
  (k: ∀A' cap',At β n ((d,.slice A' (xs++ys).length cap')::Γ) (fL.row (.slice A' (xs++ys).length cap') 43 (xs++ys)::H') F (wpList prog ops Q rest)):At β n Γ H F (wpList prog ops Q (o::rest)):=by obtain⟨i,hi,a,hs,b⟩:=bWc;exact gS hH hr hg ho hd hn underlying40 hi a hs b rfl hx hy hq m0 m9 k
end
def bQu {α:Type}(l cur:List α)(i:Nat):Prop:=cur.length=l.length/\ ∀q,q<l.length->cur[q]?=if q<i\/l.length<=q+i then l[l.length-1-q]? else l[q]?
section
variable {α : Type} {l cur : List α} {i : Nat} {x y : α}
theorem revG_start(l:List α):bQu l l 0:=⟨rfl,λq hq=>by rw[if_neg m0]⟩
theorem bUo(h:bQu l cur i)(hi:i<l.length-1-i)(hx:cur[l.length-1-i]?=some x)(hy:cur[i]?=some y):bQu l ((cur.set i x).set (l.length-1-i) y) (i+1):=by
 obtain⟨h1,h2⟩:=h;refine⟨by simp[h1],λq hq=>?_⟩;have b:=h2 (l.length-1-i) m0;have a:=h2 i m0;rw[if_neg m0]at b a;rw[hx]at b;rw[hy]at a
 by_cases f:q=l.length-1-i
 .subst f;rw[T6 s8,if_pos m0,show l.length-1-(l.length-1-i)=i by omega];exact a
 .rw[T7 (λe=>f e.symm)]
  by_cases d:q=i
  .subst d;rw[T6 m0,if_pos m0];exact b
  .rw[T7 (λe=>d e.symm),h2 q hq]
   by_cases c:q<i\/l.length<=q+i
   .rw[if_pos c,if_pos m0]
   .rw[if_neg c,if_neg m0]
theorem revG_end(h:bQu l cur i)(hi:l.length<=2*i+1):cur=l.reverse:=by
 obtain⟨h1,h2⟩:=h;apply List.ext_getElem?;intro q
 by_cases hq:q<l.length
 .rw[h2 q hq,List.getElem?_reverse hq]
  by_cases a:q<i\/l.length<=q+i
  .rw[if_pos a]
  .rw[if_neg a,show l.length-1-q=q by omega]
 .rw[L0 m0,L0 s8]
end
theorem rW:(prog.info? 38).bind (·.zero)=some (.agg #[.slice none 0 0,.bool false,.slice none 0 0]):=m7
theorem wQ(a0:Option Addr)(l0 c0:Nat):prog.built 38 [(0,.slice a0 l0 c0)]=some #[.slice a0 l0 c0,.bool false,.slice none 0 0]:=m7
theorem vG(a0:Option Addr)(l0 c0:Nat)(b1:Bool)(a2:Option Addr)(l2 c2:Nat):prog.built 38 [(0,.slice a0 l0 c0),(1,.bool b1),(2,.slice a2 l2 c2)]=some #[.slice a0 l0 c0,.bool b1,.slice a2 l2 c2]:=m7
theorem equalM_spec(p q:PolV)(hl:p.A.length<=140737488355328):cY prog 101 [k7 p,k7 q] [] [fL.sl (k7 p) p.A,fL.sl (k7 q) q.A] (λ(_:Unit)=> .bool (decide (p.A=q.A))) (λ_=>[]) (λ_=>[]):=by
 have hT:=dL;refine j8 func101 ntmps101 ?_;intro β hM;refine g15 ?_;refine tL (λhc10=>?_) λhc10=>?_
 .refine g7 ?_;exact rs1 () j1 (he:=xV (λe=>by have:=congrArg Q8 e;omega))
 refine g11 ?_;refine cI (ι:=Nat) [(0,_),(1,_),(12,_)] ⟨rfl,rfl,rfl,j1⟩ (λi=>[(13,.int .i64 (i:Nat))]) (λ_=>[]) (λi=>[Fact.pure (i<=p.A.length/\p.A.take i=q.A.take i)]) (λi=>p.A.length-i) 0 ⟨rfl,j1⟩ .nil ⟨j2 (⟨m0,rfl⟩),j1⟩ ?_;rintro i;refine bG d7 λa=>?_;refine g6 ?_;refine fA (λhc14=>?_) λhc14=>?_
 .refine g11 ?_;refine cK _ _ [k8,u0,u5,u9,A00,u6,A02,A01,A03] cN o8 .nil bA.self ?_;refine g2 ?_;obtain⟨x1,c⟩:=gx p.A i;refine stM rfl (ixs i) ?_;refine stM rfl (oZ c 0) ?_;refine g2 ?_;obtain⟨x3,b⟩:=gx q.A i;refine stM rfl (ixs i) ?_;refine stM rfl (oZ b 0) ?_;refine stM rfl (sti_neq_mono x1 x3 rfl rfl rfl) ?_;refine g2 ?_;refine iK (λhc24=>?_) λhc24=>?_
  .refine g11 ?_;exact rs1 () j1 (he:=xV (xO c b (mono_t asd)))
  refine g5 ?_;refine inc (i+1) ?_;refine g3 ?_;exact bk2 (i+1) ⟨j2 (⟨m0,xL a.2 c b (mono_f asd)⟩),j1⟩
 refine g11 ?_;exact rs1 () j1 (he:=eqT_of (bCh a.2 m0 m0))
theorem same1_spec(p q:PolV)(hl:p.A.length<=140737488355328):cY prog 100 [k7 p,k7 q] [] [fL.sl (k7 p) p.A,fL.sl (k7 q) q.A] (λ(_:Unit)=> .bool (decide (p.A=q.A))) (λ_=>[]) (λ_=>[]):=by have hT:=dL;refine j8 func100 ntmps100 ?_;intro β hM;refine g9 ?_;refine j5 func101 (equalM_spec p q hl) ⟨d7,d8,j1⟩ λ_=>?_;refine g4 ?_;exact rs1 () trivial
theorem equalF_spec(A B:Option Addr)(ca cb:Nat)(a b:List PolV)(hl:a.length<=140737488355328):cY prog 99 [.slice A a.length ca,.slice B b.length cb,.func (.func 100) #[] #[]] [] [bV.sl (.slice A a.length ca) a,cL a,bV.sl (.slice B b.length cb) b,cL b] (λ(_:Unit)=> .bool (decide (bO a=bO b))) (λ_=>[]) (λ_=>[]):=by
 have hT:=dL;refine j8 func99 ntmps99 ?_;intro β hM;refine g15 ?_;refine tL (λhc14=>?_) λhc14=>?_
 .refine g7 ?_;exact rs1 () j1 (he:=xV (λe=>by have:=congrArg Q8 e;rw[bI,bI]at this;omega))
 refine g11 ?_;refine cI (ι:=Nat) [(1,_),(2,_),(15,_),(16,_)] ⟨rfl,rfl,rfl,rfl,j1⟩ (λi=>[(17,.int .i64 (i:Nat))]) (λ_=>[]) (λi=>[Fact.pure (i<=a.length/\(bO a).take i=(bO b).take i)]) (λi=>a.length-i) 0 ⟨rfl,j1⟩ .nil ⟨j2 (⟨m0,rfl⟩),j1⟩ ?_;rintro i;refine bG d7 λd=>?_;refine g6 ?_;refine fA (λg=>?_) λg=>?_
 .refine g7 ?_;obtain⟨x1,c⟩:=gx a i;refine ss (ixs i) ?_;refine ss (gI c 0) ?_;refine g8 ?_;obtain⟨x3,f⟩:=gx b i;refine ss (ixs i) ?_;refine ss (gI f 0) ?_;refine g8 ?_;refine bG (dG (Has.each d9 (j3 c))) λh=>?_;refine iS (cB func100 rfl rfl) (same1_spec x1 x3 h) rfl rfl rfl rfl rfl rfl rfl .nil ⟨xC (Has.each d9 (j3 c)),xC (Has.each e7 (j3 f)),j1⟩ λ_=>?_;refine g3 ?_;refine iK (λhc30=>?_) λhc30=>?_
  .refine g11 ?_;exact rs1 () j1 (he:=xV (xO (jR c) (jR f) (of_decide_eq_false (by simpa using (asd:(!decide _)=true)))))
  refine g5 ?_;refine inc (i+1) ?_;refine g3 ?_;exact bk2 (i+1) ⟨j2 (⟨m0,xL d.2 (jR c) (jR f) (of_decide_eq_true (by simpa using (asd:(!decide _)=false)))⟩),j1⟩
 refine g11 ?_;exact rs1 () j1 (he:=eqT_of (bCh d.2 (by rw[bI];omega) (by rw[bI];omega)))
theorem uY(A B:Option Addr)(ca cb:Nat)(a b:List PolV)(hl:a.length<=140737488355328):cY prog 62 [.slice A a.length ca,.slice B b.length cb] [] [bV.sl (.slice A a.length ca) a,cL a,bV.sl (.slice B b.length cb) b,cL b] (λ(_:Unit)=> .bool (decide (bO a=bO b))) (λ_=>[]) (λ_=>[]):=by have hT:=dL;refine j8 func62 ntmps62 ?_;intro β hM;refine g9 ?_;refine j5 func99 (equalF_spec A B ca cb a b hl) ⟨d7,d8,d9,e6,j1⟩ λ_=>?_;refine g4 ?_;exact rs1 () trivial
theorem bBw(A:Option Addr)(c:Nat)(l:List PolV)(hl:l.length<=5864062014805):cY prog 94 [.slice A l.length c] [] [bV.sl (.slice A l.length c) l] (λ(x:Option Addr×Nat)=> .slice x.1 l.length x.2) (λ(x:Option Addr×Nat)=>[bV.row (.slice x.1 l.length x.2) 40 l]) (λ_=>[]):=by
 have hT:=dL;refine j8 func94 ntmps94 ?_;intro β hM;refine g9 ?_;refine ss (bUx underlying36 rfl rfl) ?_;refine g2 ?_;refine fT (λd=>?_) λd=>?_
 .refine bP<|bB (Fact.pure (A.isNone=true->l=[])) (bVi d7) ?_;refine bG d7 λa=>?_;have b:=a asd;subst b;refine bQ (t:=40) bV ?_;refine g6 ?_;exact rs1 (_,_) trivial
 refine g4 ?_;refine uG rfl rfl rfl rfl λe=>?_;refine one ?_;refine cV .head (bE d7) rfl rfl rfl rfl rfl rfl rfl s8 λf c3=>?_;rw[K5];refine g4 ?_;exact rs1 (_,_) trivial
theorem cloneM_spec(A:Option Addr)(c:Nat)(l:List Mono)(hl:l.length<=8796093022208):cY prog 39 [.slice A l.length c] [] [fL.sl (.slice A l.length c) l] (λ(x:Option Addr×Nat)=> .slice x.1 l.length x.2) (λ(x:Option Addr×Nat)=>[fL.row (.slice x.1 l.length x.2) 43 l]) (λ_=>[]):=by
 have hT:=dL;refine j8 func39 ntmps39 ?_;intro β hM;refine g9 ?_;refine ss (bUx underlying40 rfl rfl) ?_;refine g2 ?_;refine fT (λd=>?_) λd=>?_
 .refine bP<|bB (Fact.pure (A.isNone=true->l=[])) (bVi d7) ?_;refine bG d7 λa=>?_;have b:=a asd;subst b;refine bQ (t:=43) fL ?_;refine g6 ?_;exact rs1 (_,_) trivial
 refine g4 ?_;refine at_none_mono rfl rfl rfl rfl λe=>?_;refine one ?_;refine at_app_mono .head (bE d7) rfl rfl rfl rfl rfl rfl rfl s8 λf c3=>?_;rw[K5];refine g4 ?_;exact rs1 (_,_) trivial
theorem bTx(A:Option Addr)(c:Nat)(l:List PolV)(hl:l.length<=140737488355328):cY prog 95 [.slice A l.length c] [bV.row (.slice A l.length c) 40 l] [] (λ(_:Unit)=> .tuple #[]) (λ(_:Unit)=>[bV.row (.slice A l.length c) 40 l.reverse]) (λ_=>[]):=by
 have hT:=dL;refine j8 func95 ntmps95 ?_;intro β hM;refine g5 ?_;refine bJ (z':=(l.length:Int)-1-((0:Nat):Int)) (yN m0 m0 m0) ?_;refine g5 ?_;refine cI (ι:=Nat×List PolV) [(0,_)] ⟨rfl,j1⟩ (λ⟨i,cur⟩=>[(2,.int .i64 (i:Nat)),(3,.int .i64 ((l.length:Int)-1-(i:Nat)))]) (λ⟨i,cur⟩=>[bV.row (.slice A l.length c) 40 cur]) (λ⟨i,cur⟩=>[Fact.pure (i<=l.length/\bQu l cur i)]) (λ⟨i,cur⟩=>l.length-i) (0,l) ⟨rfl,rfl,j1⟩ (.c0 .nil) ⟨j2 (⟨m0,revG_start l⟩),j1⟩ ?_;rintro⟨i,cur⟩;dsimp only;refine bG d7 λhinv1=>?_;refine g8 ?_;refine fA (λh=>?_) λh=>?_
 .refine g4 ?_;have d:i<l.length-1-i:=m0
  have j:=hinv1.2.1;refine uF .head m0 λn hg=>?_;subst hg;have m:((l.length:Int)-1-(i:Nat))=((l.length-1-i:Nat):Int):=m0
  rw[m];refine kP _ _ (.fl 0 (.fl 1 (.fl 2 (.fl 3 (.fl 4 (.fl 5 (.fl 6 (.fl 8 (.fl 9 (.fl 10 (.two 7 11 (.op 11 (.fl 12 (.op 13 (.fl 14 (.op 15 .nil))))) (.op 7 (.fl 12 (.op 13 (.fl 14 (.op 15 .nil)))))))))))))))) cN o8 .nil bA.self ?_;refine g6 ?_;obtain⟨e,b⟩:=gx cur (l.length-1-i) ab7;refine sqT rfl (fY hT (k:=(l.length-1-i)) rfl rfl rfl rfl rfl rfl ab7) ?_;refine g2 ?_;obtain⟨x4,a⟩:=gx cur i ab7;refine sqT rfl (fY hT (k:=i) rfl rfl rfl rfl rfl rfl ab7) ?_;refine gO (o:=_) (o':=_) rfl rfl ?_ ?_
  .refine ss (gI b 0) ?_;refine g2 ?_;refine ss (gI a 0) ?_;refine one ?_;refine sqT rfl (fY hT (k:=i) rfl rfl rfl rfl rfl rfl ab7) ?_;refine one ?_;refine fV hT (k:=i) (fo:=0) (y':=e) .head rfl rfl rfl rfl rfl rfl rfl rfl rfl a rfl ?_;refine one ?_;obtain⟨x6,g⟩:=gx (cur.set i e) (l.length-1-i) ab7;refine sqT rfl (fY hT (k:=(l.length-1-i)) rfl rfl rfl rfl rfl rfl ab7) ?_;refine one ?_;refine fV hT (k:=(l.length-1-i)) (fo:=0) (y':=x4) .head rfl rfl rfl rfl rfl rfl rfl rfl rfl g rfl ?_;refine g7 ?_;refine inc (i+1) ?_;refine g2 ?_;refine bJ (z':=(l.length:Int)-1-((i+1:Nat):Int)) (yN m0 m0 m0) ?_;refine g4 ?_;exact bk2 (i+1,_) ⟨j2 (⟨by dsimp only;omega,bUo hinv1.2 d asd asd⟩),j1⟩
  refine ss (gI a 0) ?_;refine g2 ?_;refine ss (gI b 0) ?_;refine one ?_;refine sqT rfl (fY hT (k:=i) rfl rfl rfl rfl rfl rfl ab7) ?_;refine one ?_;refine fV hT (k:=i) (fo:=0) (y':=e) .head rfl rfl rfl rfl rfl rfl rfl rfl rfl a rfl ?_;refine one ?_;obtain⟨x8,f⟩:=gx (cur.set i e) (l.length-1-i) ab7;refine sqT rfl (fY hT (k:=(l.length-1-i)) rfl rfl rfl rfl rfl rfl ab7) ?_;refine one ?_;refine fV hT (k:=(l.length-1-i)) (fo:=0) (y':=x4) .head rfl rfl rfl rfl rfl rfl rfl rfl rfl f rfl ?_;refine g7 ?_;refine inc (i+1) ?_;refine g2 ?_;refine bJ (z':=(l.length:Int)-1-((i+1:Nat):Int)) (yN m0 m0 m0) ?_;refine g4 ?_;exact bk2 (i+1,_) ⟨j2 (⟨by dsimp only;omega,bUo hinv1.2 d asd asd⟩),j1⟩
 refine g4 ?_;have hr:=revG_end hinv1.2 m0;subst hr;exact yX () rfl (.c0 .nil) j1 (rfl)
theorem lH(n:Int):cY prog 31 [k9 n] [] [] (λ(x:Option Addr×Nat)=> .slice x.1 (bY n).length x.2) (λ_=>[]) (λ(x:Option Addr×Nat)=>[jU ⟨x.1,x.2,bY n⟩]):=by have hT:=dL;refine j8 func31 ntmps31 ?_;intro β hM;refine g8 ?_;refine j5 func54 (bFs n) j1 λ⟨A1,c2⟩=>?_;refine g14 ?_;exact rs1 (A1,c2) ⟨d7,j1⟩
theorem fG(A:Option Addr)(n c:Nat):cY prog 32 [.slice A n c] [] [] (λ(_:Unit)=> .agg #[.slice A n c,.bool false,.slice none 0 0]) (λ_=>[]) (λ_=>[]):=by have hT:=dL;refine j8 func32 ntmps32 ?_;intro β hM;refine g2 ?_;refine j4 rW λa=>?_;refine g5 ?_;refine ss (j7 (wQ _ _ _)) ?_;refine g4 ?_;exact rs1 () trivial
theorem kN(A B:Option Addr)(n m c d:Nat):cY prog 30 [.slice A n c,.slice B m d] [] [] (λ(_:Unit)=> .agg #[.slice A n c,.bool true,.slice B m d]) (λ_=>[]) (λ_=>[]):=by have hT:=dL;refine j8 func30 ntmps30 ?_;intro β hM;refine g2 ?_;refine j4 rW λa=>?_;refine g6 ?_;refine ss (j7 (vG _ _ _ _ _ _ _)) ?_;refine g4 ?_;exact rs1 () trivial
abbrev Pol:=List Mono
structure TyP where
 B:List Pol
 known:Bool
 values:List Pol
 deriving Inhabited,DecidableEq
def TyV.t (x:TyV):TyP:=⟨bO x.B.A,x.known,bO x.values.A⟩
def gP (nums:List Int):TyP:=
 if nums.any (λn=>decide ((gV n).2≠0))=true\/4<nums.length then ⟨if 1<nums.length then [bY nums.length]else [],false,[]⟩
 else ⟨if 1<nums.length then [bY nums.length]else [],true,nums.map bY⟩
abbrev rU:=Pol->Pol->Pol×Int
def bAd (op:rU):List Pol->List Pol->Option (List Pol)
 |[],_=>some []
 |_::_,[]=>none
 |p::x,q::y=>if (op p q).2≠0 then none else (bAd op x y).map ((op p q).1:: ·)
def repT (x:List Pol)(n:Nat):List Pol:=(List.replicate n x).flatten
def tT (a b:TyP):List Pol:=if a.B=[]/\b.B≠[]then repT a.values b.values.length else a.values
def rB (a b:TyP):List Pol:=if b.B=[]/\a.B≠[]then repT b.values a.values.length else b.values
def lP (op:Option rU)(a b:TyP):List Pol×Bool:=
 match op with
 |none=>([],false)
 |some op=>if a.known=false\/b.known=false then ([],false)else match bAd op (tT a b) (rB a b)with
  |none=>([],false)
  |some l=>(l,true)
def addO:rU:=λp q=>cD p q 1
def yO:rU:=λp q=>cD p q (-1)
def sL:Pol->List Pol->Option Pol
 |p,[]=>some p
 |p,s::r=>if (nA p s).2≠0 then none else sL (nA p s).1 r
def hJ (f:Int)(a:TyP):TyP×Int:=
 if f=32 then
  if a.B≠[]then (a,90)else if a.known=false then (a,92)else if lC (a.values.headD [])=false then (a,93)else (⟨[a.values.headD []],false,[]⟩,0)
 else if f=33 then (⟨[bY a.B.length],true,a.B⟩,0)
 else if f=34 then match sL (bY 1) a.B with
  |none=>(a,95)
  |some p=>(⟨[p],a.known,a.values⟩,0)
 else if f=35 then (if a.B≠[]then ⟨a.B,a.known,a.values.reverse⟩else a,0)
 else if f=36 then (⟨a.B.reverse,a.known,a.values⟩,0)
 else if f=1 then (a,0)
 else if f=2 then (⟨a.B,(lP (some yO) ⟨[],true,[[]]⟩ a).2,(lP (some yO) ⟨[],true,[[]]⟩ a).1⟩,0)
 else (⟨a.B,false,[]⟩,0)
def zC (a b:TyP):TyP×Int:=
 if 1<a.B.length then (a,90)else if a.known=false then (a,92)
 else if a.values.any (λv=>!lC v)=true then (a,93)
 else if b.B.any (λs=>!fU s 1)=true then (a,94)
 else (⟨a.values,false,[]⟩,0)
def bHc (m:Mono):Mono:=⟨1,m.U,m.T,m.R,m.Q,m.O,m.N⟩
def pE (v:Pol):Option Int:=
 match v with
 |[]=>some 0
 |[m]=>if fU [bHc m] 1=false then none else some m.n
 |_=>none
def xK (take:Bool)(n:Int)(l:List Pol):List Pol:=
 if take=decide (0<=n)then l.take (if n<0 then n+l.length else n).toNat else l.drop (if n<0 then n+l.length else n).toNat
def mD (take:Bool)(a b:TyP):TyP×Int:=
 if a.B≠[]\/b.B=[]then (a,90)else if a.known=false then (a,92)
 else match pE (a.values.headD [])with
  |none=>(a,93)
  |some n=>
   if fU (b.B.headD []) (max n (-n))=false then (a,93)
   else if take=true then (⟨bY (max n (-n))::b.B.tail,b.known,if b.known=true then xK take n b.values else b.values⟩,0)
   else if (cD (b.B.headD []) (bY (max n (-n))) (-1)).2≠0 then (a,95)
   else (⟨(cD (b.B.headD []) (bY (max n (-n))) (-1)).1::b.B.tail,b.known,if b.known=true then xK take n b.values else b.values⟩,0)
def fD (l:List Pol):List Pol:=if l=[]then [bY 1]else l
def zQ (a b:TyP):TyP×Int:=
 if (fD a.B).length≠(fD b.B).length\/(fD a.B).tail≠(fD b.B).tail then (a,91)
 else if (cD ((fD a.B).headD []) ((fD b.B).headD []) 1).2≠0 then (a,95)
 else if a.known=true/\b.known=true/\a.values.length+b.values.length<=4 then (⟨(cD ((fD a.B).headD []) ((fD b.B).headD []) 1).1::(fD b.B).tail,true,a.values++b.values⟩,0)
 else (⟨(cD ((fD a.B).headD []) ((fD b.B).headD []) 1).1::(fD b.B).tail,false,[]⟩,0)
def rT (f:Int):Option rU:=if f=1 then some addO else if f=2 then some yO else if f=3 then some nA else none
def pO (f:Int)(a b:TyP):TyP×Int:=
 if f=37 then zC a b else if f=38 then mD true a b else if f=39 then mD false a b else if f=40 then zQ a b
 else if a.B≠[]/\b.B≠[]/\a.B≠b.B then (⟨a.B,false,[]⟩,91)
 else (⟨if a.B=[]then b.B else a.B,(lP (rT f) a b).2,(lP (rT f) a b).1⟩,0)
abbrev iA:=List (Bs×TyP)
def jW (k:Bs):iA->Option TyP
 |[]=>none
 |p::r=>if k=p.1 then some p.2 else jW k r
def lU:Bs:=[108,105,110,101,32]
def nIn:Bs:=[105,110,32]
def nameT (N:iA)(s:Bs):Option TyP:=match jW (lU++s) N with
 |some t=>some t
 |none=>match jW (nIn++s) N with
  |some t=>some t
  |none=>jW s N
def iO (N:iA)(it:fE)(st:List TyP):TyP×Int:=
 if it.H=1 then (gP it.nums,0)
 else if it.H=2 then (match nameT N it.name with
  |some t=>(t,0)
  |none=>(⟨[],false,[]⟩,83))
 else if it.H=3 then hJ it.fn (st.headD default)
 else if it.H=5 then (if (st.headD default).B=[]then st.headD default else ⟨(st.headD default).B.take ((st.headD default).B.length-1),false,[]⟩,0)
 else if it.H=6 then (if (st.headD default).B=[]then st.headD default else ⟨(st.headD default).B,false,[]⟩,0)
 else if it.H=4 then pO it.fn (st.tail.headD default) (st.headD default)
 else (⟨(st.tail.headD default).B++(st.headD default).B,false,[]⟩,if 4<(st.tail.headD default).B.length+(st.headD default).B.length then 90 else 0)
def uP (N:iA):List fE->List TyP->List TyP->Except Flt (List TyP×List TyP)
 |[],st,all=> .ok (st,all)
 |it::r,st,all=>if (iO N it st).2≠0 then .error (it.at_,(iO N it st).2)else uP N r ((iO N it st).1::st.drop (fI it)) (all++[(iO N it st).1])
def sF (N:iA):List nC->List (List TyP)->List (List TyP)×Flt
 |[],out=>(out,(0,0))
 |l::r,out=>match uP N l.K [] []with
  |.error f=>([],f)
  |.ok (st,all)=>sF ((lU++l.name,st.getLastD default)::N) r (out++[all])
def bTw (k:Nat):TyP:=⟨[],true,[(pG k).1]⟩
def rV:List Bs->Nat->iA->iA
 |[],_,N=>N
 |s::r,k,N=>rV r (k+1) ((s,bTw k)::N)
def bJo (vars:List Bs)(d:oH):Pol:=if 0<=idxOf d.name vars 0 then (pG (idxOf d.name vars 0)).1 else bY d.n
def inT (vars:List Bs)(x:iH):TyP:=⟨x.B.map (bJo vars),false,[]⟩
def bNg (vars:List Bs):List iH->iA->iA
 |[],N=>N
 |x::r,N=>bNg vars r ((nIn++x.name,inT vars x)::N)
def sI (p:jB):iA:=bNg (dO p) p.C (rV (dO p) 0 [])
def gU (p:jB):List (List TyP)×Flt:=
 if (dT p).2=false then ([],(0,50))
 else match p.C.find? (bAf (dO p))with
  |some x=>([],(x.at_,80))
  |none=>sF (sI p) p.G []
def cO (l:Sl PolV):Fact:=((bV.sl (.slice l.I l.A.length l.cap) l.A).and (cL l.A)).and (Fact.pure (l.A.length<=l.cap))
def tyF (x:TyV):Fact:=(cO x.B).and (cO x.values)
section
variable {F : List Fact} {l : Sl PolV} {x : TyV} {p : PolV} {xs : List PolV}
theorem nY(h:Has F (cO l)):Has F (bV.sl (k7 l) l.A):=h.left.left
theorem oT(h:Has F (cO l)):Has F (cL l.A):=h.left.right
theorem bGj(h:Has F (cO l)):Has F (Fact.pure (l.A.length<=l.cap)):=h.right
theorem cE{β:fR}{n:Nat}{Γ:Env}{H:List bL}{F:List Fact}{K:Act->World->Prop}(l:Sl PolV)(h:cO l∈F)(k:l.A.length<=l.cap->At β n Γ H (cL l.A::bV.sl (k7 l) l.A::F) K):At β n Γ H F K:=bB _ (nY (Has.of h)) (bB _ (Has.cons (oT (Has.of h))) (bG (Has.cons (Has.cons (bGj (Has.of h)))) k))
theorem bZ{A:Option Addr}{c:Nat}(h:Has F (bV.sl (.slice A xs.length c) xs))(k:Has F (cL xs))(hc:xs.length<=c):Has F (cO ⟨A,c,xs⟩):=(h.and k).and (j2 hc)
theorem bN:Has F (cO ⟨none,0,[]⟩):=bZ rJ Has.each_nil (B0 _)
theorem gL(h:Has F (jU p)):Has F (cL [p]):=Has.each_cons h Has.each_nil
theorem bR(h:Has F (cO x.B))(k:Has F (cO x.values)):Has F (tyF x):=h.and k
theorem jK(h:Has F (tyF x)):Has F (cO x.B):=h.left
theorem jM(h:Has F (tyF x)):Has F (cO x.values):=h.right
theorem bXl(h:Has F (cL xs)):Has F (cL xs.reverse):=λS w k p a=>h S w k p (List.mem_reverse.1 a)
theorem sl_rev{A:Option Addr}{c:Nat}(h:Has F (bV.sl (.slice A xs.length c) xs.reverse)):Has F (bV.sl (.slice A xs.reverse.length c) xs.reverse):=by rw[O8];exact h
end
structure WfT (t:TyP):Prop where
 len:t.B.length<=4
 sr: ∀s∈t.B,dH s=true
 vr: ∀v∈t.values,dH v=true
 kn:t.known=true->t.values.length<=4/\(t.B=[]/\t.values.length=1\/t.B=[bY t.values.length])
 un:t.known=false->t.values=[]
def tyC (x:TyV):Value:= .agg #[.slice x.B.I x.B.A.length x.B.cap,.bool x.known,.slice x.values.I x.values.A.length x.values.cap]
def bIz (nums:List Int)(l:List PolV)(i:Nat):Prop:=bO l=(nums.take i).map bY/\(∀n∈nums.take i,(gV n).2=0)/\(0<i->nums.length<=4)
theorem bKk(nums:List Int):bIz nums [] 0:=⟨rfl,λn hn=>by simp at hn,λh=>absurd h m9⟩
section
variable {nums : List Int} {l : List PolV} {i : Nat} {n : Int} {p : PolV}
theorem bIz.len(h:bIz nums l i)(hi:i<=nums.length):l.length=i:=by have:=congrArg Q8 h.1;rw[bI,O4,List.length_take]at this;omega
theorem bRl(h:bIz nums l i)(hn:nums[i]?=some n)(hp:p.A=bY n)(h0:(gV n).2=0)(h4:nums.length<=4):bIz nums (l++[p]) (i+1):=by
 obtain⟨hi,e⟩:=F3.1 hn;obtain⟨a,b,_⟩:=h;refine⟨?_,λm c=>?_,λ_=>h4⟩
 .rw[T8 hi,e,L2,<-a];unfold bO;rw[L2,T9,T9,hp]
 .rw[T8 hi,e]at c
  rcases E3.1 c with c|c
  .exact b m c
  .rw[K7.1 c];exact h0
theorem bDj(hn:nums[i]?=some n)(h:(gV n).2≠0\/4<nums.length):gP nums=⟨if 1<nums.length then [bY nums.length]else [],false,[]⟩:=by
 unfold gP;rw[if_pos]
 rcases h with h|h
 .refine .inl (U0.2 ⟨n,List.mem_of_getElem? hn,?_⟩)
  simpa using h
 .exact .inr h
theorem lit_end(h:bIz nums l i)(hi:nums.length<=i)(hl:i<=nums.length):gP nums=⟨if 1<nums.length then [bY nums.length]else [],true,bO l⟩:=by
 obtain⟨a,b,c⟩:=h;rw[List.take_of_length_le hi]at a b;unfold gP;rw[if_neg,a];rintro(k|k)
 .obtain⟨n,hn,k⟩:=U0.1 k;have:=b n hn;simp[this]at k
 .have:=c m0;omega
end
theorem bQt(l:Sl PolV)(hl:l.A.length<=5864062014805):cY prog 56 [k7 l] [] [cO l] (λ(x:Option Addr×Nat)=> .slice x.1 l.A.reverse.length x.2) (λ_=>[]) (λ(x:Option Addr×Nat)=>[cO ⟨x.1,x.2,l.A.reverse⟩]):=by have hT:=dL;refine j8 func56 ntmps56 ?_;intro β hM;refine g8 ?_;refine j5 func94 (bBw l.I l.cap l.A hl) ⟨nY d7,j1⟩ λ⟨A1,c2⟩=>?_;refine g6 ?_;refine bC func95 (bTx A1 c2 l.A m0) rfl rfl (.c0 .nil) j1 λ_=>?_;refine g9 ?_;refine fS .head λa=>bS .head ?_;exact rs1 (A1,c2) ⟨bZ (sl_rev d7) (bXl (oT d8)) (by simpa using a),j1⟩ (he:=by rw[O8])
theorem bUj(A:Option Addr)(c:Nat)(nums:List Int)(hl:nums.length<=1000000):cY prog 33 [.slice A nums.length c] [] [bNh.sl (.slice A nums.length c) nums] (λ(x:TyV)=>tyC x) (λ_=>[]) (λ(x:TyV)=>[tyF x,Fact.pure (x.t=gP nums)]):=by
 have hT:=dL;refine j8 func33 ntmps33 ?_;intro β hM;refine g2 ?_;refine j4 rW λw=>?_;refine g15 ?_;refine fA (λhc11=>?_) λhc11=>?_
 .refine g3 ?_;refine j5 func31 (lH (((nums.length:Nat):Int))) j1 λ⟨A2,c3⟩=>?_;refine k6 (m:=⟨A2,c3,bY (((nums.length:Nat):Int))⟩) λd=>?_;refine dN (E:=bV) (xs:=[(⟨A2,c3,bY (((nums.length:Nat):Int))⟩:PolV)]) .head aa5<|bS .head<|bB (cL [(⟨A2,c3,bY (((nums.length:Nat):Int))⟩:PolV)]) (gL d8) ?_;refine g6 ?_;refine j5 func30 (kN (some ⟨d,0,none⟩) none ([(⟨A2,c3,bY (((nums.length:Nat):Int))⟩:PolV)].length) (0) 1 0) j1 λ_=>?_;refine j4 rW λs=>?_;refine g12 ?_;refine bQ (t:=40) bV<|bB (cL []) (Has.each_nil) ?_;refine cI (ι:=Nat×List PolV×Option Addr×Nat) [(0,_),(2,_),(3,_),(4,_),(18,_),(19,_)] ⟨rfl,rfl,rfl,rfl,rfl,rfl,j1⟩ (λ⟨i,vs,V,cv⟩=>[(20,.int .i64 (i:Nat))]) (λ⟨i,vs,V,cv⟩=>[.obj s (.cells [.slice (some ⟨d,0,none⟩) ([(⟨A2,c3,bY (((nums.length:Nat):Int))⟩:PolV)].length) 1,.bool true,.slice V vs.length cv].toArray 38),bV.row (.slice V vs.length cv) 40 vs]) (λ⟨i,vs,V,cv⟩=>[Fact.pure (i<=nums.length/\bIz nums vs i),cL vs]) (λ⟨i,vs,V,cv⟩=>nums.length-i) (0,[],none,0) ⟨rfl,j1⟩ (.c1 (.c0 .nil)) ⟨j2 (⟨m0,bKk nums⟩),d7,j1⟩ ?_;rintro⟨i,vs,V,cv⟩;dsimp only;refine bG d7 λa=>?_;refine g6 ?_;refine fA (λg=>?_) λg=>?_
  .refine g6 ?_;obtain⟨x6,j⟩:=gx nums i;refine ss (ixs i) ?_;refine ss (gI j 0) ?_;refine g6 ?_;refine j5 func54 (bFs x6) j1 λ⟨A8,c9⟩=>?_;refine g13 ?_;refine xJ (λe=>?_) λe=>?_
   .refine g10 ?_;refine j5 func32 (fG (some ⟨d,0,none⟩) ([(⟨A2,c3,bY (((nums.length:Nat):Int))⟩:PolV)].length) 1) j1 λ_=>?_;refine g10 ?_;have hr:gP nums=TyV.t ⟨⟨(some ⟨d,0,none⟩),1,[(⟨A2,c3,bY (((nums.length:Nat):Int))⟩:PolV)]⟩,false,⟨none,0,[]⟩⟩:=(bDj j aa1).trans w7;exact rs1 ⟨⟨(some ⟨d,0,none⟩),1,[(⟨A2,c3,bY (((nums.length:Nat):Int))⟩:PolV)]⟩,false,⟨none,0,[]⟩⟩ ⟨(bR (x:=⟨⟨(some ⟨d,0,none⟩),1,[(⟨A2,c3,bY (((nums.length:Nat):Int))⟩:PolV)]⟩,false,⟨none,0,[]⟩⟩) (bZ e8 e7 (B0 1)) bN),j2 hr.symm,j1⟩
   refine g6 ?_;refine fA (λf=>?_) λf=>?_
   .refine g3 ?_;refine j5 func32 (fG (some ⟨d,0,none⟩) ([(⟨A2,c3,bY (((nums.length:Nat):Int))⟩:PolV)].length) 1) j1 λ_=>?_;refine g10 ?_;have hr:gP nums=TyV.t ⟨⟨(some ⟨d,0,none⟩),1,[(⟨A2,c3,bY (((nums.length:Nat):Int))⟩:PolV)]⟩,false,⟨none,0,[]⟩⟩:=(bDj j aa1).trans w7;exact rs1 ⟨⟨(some ⟨d,0,none⟩),1,[(⟨A2,c3,bY (((nums.length:Nat):Int))⟩:PolV)]⟩,false,⟨none,0,[]⟩⟩ ⟨(bR (x:=⟨⟨(some ⟨d,0,none⟩),1,[(⟨A2,c3,bY (((nums.length:Nat):Int))⟩:PolV)]⟩,false,⟨none,0,[]⟩⟩) (bZ e8 e7 (B0 1)) bN),j2 hr.symm,j1⟩
   refine g6 ?_;refine k6 (m:=(⟨A8,c9,(gV x6).1⟩:PolV)) λv=>?_;refine bB (cL (vs++[((⟨A8,c9,(gV x6).1⟩:PolV):PolV)])) (Has.each_snoc d9 d7) ?_;have l:=a.2.len a.1;refine cV kT2 (bT .head rfl) rfl rfl rfl rfl rfl rfl rfl s8 λr o=>?_;refine g7 ?_;refine inc (i+1) ?_;refine g3 ?_;exact bk2 (i+1,vs++[((⟨A8,c9,(gV x6).1⟩:PolV):PolV)],r,o) ⟨j2 (⟨by dsimp only;omega,bRl a.2 j rfl ae9 m0⟩),d7,j1⟩
  refine g6 ?_;refine fS kT1 λk=>bS kT1 ?_;refine g6 ?_;have hr:gP nums=TyV.t ⟨⟨(some ⟨d,0,none⟩),1,[(⟨A2,c3,bY (((nums.length:Nat):Int))⟩:PolV)]⟩,true,⟨V,cv,vs⟩⟩:=(lit_end a.2 m0 a.1).trans w7;exact rs1 ⟨⟨(some ⟨d,0,none⟩),1,[(⟨A2,c3,bY (((nums.length:Nat):Int))⟩:PolV)]⟩,true,⟨V,cv,vs⟩⟩ ⟨(bR (x:=⟨⟨(some ⟨d,0,none⟩),1,[(⟨A2,c3,bY (((nums.length:Nat):Int))⟩:PolV)]⟩,true,⟨V,cv,vs⟩⟩) (bZ e8 e7 (B0 1)) (bZ d7 d9 (k))),j2 hr.symm,j1⟩
 refine g5 ?_;refine j5 func30 (kN none none (0) (0) 0 0) j1 λ_=>?_;refine j4 rW λp=>?_;refine g12 ?_;refine bQ (t:=40) bV<|bB (cL []) (Has.each_nil) ?_;refine cI (ι:=Nat×List PolV×Option Addr×Nat) [(0,_),(2,_),(3,_),(4,_),(18,_),(19,_)] ⟨rfl,rfl,rfl,rfl,rfl,rfl,j1⟩ (λ⟨i,vs,V,cv⟩=>[(20,.int .i64 (i:Nat))]) (λ⟨i,vs,V,cv⟩=>[.obj p (.cells [.slice none (0) 0,.bool true,.slice V vs.length cv].toArray 38),bV.row (.slice V vs.length cv) 40 vs]) (λ⟨i,vs,V,cv⟩=>[Fact.pure (i<=nums.length/\bIz nums vs i),cL vs]) (λ⟨i,vs,V,cv⟩=>nums.length-i) (0,[],none,0) ⟨rfl,j1⟩ (.c1 (.c0 .nil)) ⟨j2 (⟨m0,bKk nums⟩),d7,j1⟩ ?_;rintro⟨i,vs,V,cv⟩;dsimp only;refine bG d7 λa=>?_;refine g6 ?_;refine fA (λg=>?_) λg=>?_
 .refine g6 ?_;obtain⟨h,b⟩:=gx nums i;refine ss (ixs i) ?_;refine ss (gI b 0) ?_;refine g6 ?_;refine j5 func54 (bFs h) j1 λ⟨A16,c17⟩=>?_;refine g13 ?_;refine xJ (λe=>?_) λe=>?_
  .refine g10 ?_;refine j5 func32 (fG none (0) 0) j1 λ_=>?_;refine g10 ?_;have hr:gP nums=TyV.t ⟨⟨none,0,[]⟩,false,⟨none,0,[]⟩⟩:=(bDj b aa1).trans w7;exact rs1 ⟨⟨none,0,[]⟩,false,⟨none,0,[]⟩⟩ ⟨(bR (x:=⟨⟨none,0,[]⟩,false,⟨none,0,[]⟩⟩) bN bN),j2 hr.symm,j1⟩
  refine g6 ?_;refine fA (λf=>?_) λf=>?_
  .refine g3 ?_;refine j5 func32 (fG none (0) 0) j1 λ_=>?_;refine g10 ?_;have hr:gP nums=TyV.t ⟨⟨none,0,[]⟩,false,⟨none,0,[]⟩⟩:=(bDj b aa1).trans w7;exact rs1 ⟨⟨none,0,[]⟩,false,⟨none,0,[]⟩⟩ ⟨(bR (x:=⟨⟨none,0,[]⟩,false,⟨none,0,[]⟩⟩) bN bN),j2 hr.symm,j1⟩
  refine g6 ?_;refine k6 (m:=(⟨A16,c17,(gV h).1⟩:PolV)) λu=>?_;refine bB (cL (vs++[((⟨A16,c17,(gV h).1⟩:PolV):PolV)])) (Has.each_snoc d9 d7) ?_;have l:=a.2.len a.1;refine cV kT2 (bT .head rfl) rfl rfl rfl rfl rfl rfl rfl s8 λq n=>?_;refine g7 ?_;refine inc (i+1) ?_;refine g3 ?_;exact bk2 (i+1,vs++[((⟨A16,c17,(gV h).1⟩:PolV):PolV)],q,n) ⟨j2 (⟨by dsimp only;omega,bRl a.2 b rfl ae9 m0⟩),d7,j1⟩
 refine g6 ?_;refine fS kT1 λk=>bS kT1 ?_;refine g6 ?_;have hr:gP nums=TyV.t ⟨⟨none,0,[]⟩,true,⟨V,cv,vs⟩⟩:=(lit_end a.2 m0 a.1).trans w7;exact rs1 ⟨⟨none,0,[]⟩,true,⟨V,cv,vs⟩⟩ ⟨(bR (x:=⟨⟨none,0,[]⟩,true,⟨V,cv,vs⟩⟩) bN (bZ d7 d9 (k))),j2 hr.symm,j1⟩
