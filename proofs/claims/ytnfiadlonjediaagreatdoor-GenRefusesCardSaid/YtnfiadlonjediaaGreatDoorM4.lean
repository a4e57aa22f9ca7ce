/- A part of one proof. -/
import Derived.Test.YtnfiadlonjediaaGreatDoorRows
import Derived.Test.YtnfiadlonjediaaGreatDoorShelfP
import Derived.Shelf.SlSortCmp.NoneTotal
import Derived.WideKeyEntry
import Derived.Test.YtnfiadlonjediaaGreatDoorM3
set_option maxRecDepth 100000
namespace Go.Proofs.YtnfiadlonjediaaGreatDoor
open Lib renaming compareBytes->U3,hid->U4
open _root_.Nat renaming lt_of_lt_of_le->B2,mul_le_mul_right->D2,add_mul->C9,one_mul->D0,le_refl->B8,zero_le->S6,zero_add->D1,lt_or_ge->A8,le_trans->C0,lt_succ_self->R9,blt->C2,eq_of_beq_eq_true->B5
open _root_.List renaming getElem?_eq_getElem->G1,length_cons->G5,pairwise_cons->F4,mem_cons->F1,mergeSort_perm->U5,map_cons->H6,getElem?_map->F7,map_set->U6,mem_singleton->Q7,mem_map->P5,length->U7,getElem?_eq_some_iff->G3,drop_of_length_le->U8,filter_cons_of_pos->U9,map_fst_zip->V0,mem_filter->V1,length_map->I2,eq_nil_of_length_eq_zero->P8,length_filter_le->V2,length_append->G4,mem_cons_self->F9,mem_cons_of_mem->F3,any_cons->V3,replicate->V4,length_modify->V5,getElem?_modify->V6,foldl_cons->V7,any_eq_true->V8,mem_filterMap->V9,getD_eq_getElem?_getD->W2,getElem?_set->W3,getElem?_cons_succ->W4,all_eq_true->G0,filter_append->W6
open _root_.Array renaming ext'->E2,extract_eq_self_of_le->W7,toList_modify->W8,toList_push->W9,length_toList->O1,getElem?_eq_none->E0,toList_filter->X0,getElem?_eq_some_iff->N9,replicate->E5
open Sem renaming run_bind->J0,run_pure->J1,run_ite->X1
open Result renaming andThen_ok->J6,andThen->X2
open _root_.UInt8 renaming toNat_inj->X3,ofNat->N8
open Instr renaming findAsking->X4,findKey->K7,findNow->K9,keyThatStays->R5,lookup->X5,mapEntry->R7,entryStore->X6,index->X7,sliceAt->K5
open _root_.Bool renaming false_eq_true->L8,and_eq_true->L9,true_or->X8,true_eq_false->X9
open MapKept renaming run_getObj_map->T5,run_setObj_map->T6
open _root_.Option renaming map_some->N5,map_none->N6
open World renaming cell?->D8
open Region renaming ready->I4,noSelect->I7
section
open Go.RowKit Go.Proofs.Tryz
structure Mono where
 n:Int
 e0:UInt8
 q:UInt8
 o:UInt8
 j:UInt8
 d:UInt8
 Z:UInt8
instance : Inhabited Mono := ⟨⟨0, 0, 0, 0, 0, 0, 0⟩⟩
def Mono.E(m:Mono):List UInt8:=[m.e0,m.q,m.o,m.j,m.d,m.Z]
def Mono.cells(m:Mono):List Value:=
 [.int .i64 m.n,.int .u8 m.e0.toNat,.int .u8 m.q.toNat,.int .u8 m.o.toNat,.int .u8 m.j.toNat,.int .u8 m.d.toNat,.int .u8 m.Z.toNat]
def Mono.val(m:Mono):Value:=
 .agg #[.int .i64 m.n,.int .u8 m.e0.toNat,.int .u8 m.q.toNat,.int .u8 m.o.toNat,.int .u8 m.j.toNat,.int .u8 m.d.toNat,.int .u8 m.Z.toNat]
theorem Mono.cells_length(m:Mono):m.cells.length=7:=rfl
def Mono.deg(m:Mono):Nat:=m.e0.toNat+m.q.toNat+m.o.toNat+m.j.toNat+m.d.toNat+m.Z.toNat
def ord (a b:Mono):Int:=U3 b.E a.E
def hJ (m:Mono):Bool:=decide (m.n≠0/\m.n<=16777216/\ -16777216<=m.n/\m.deg<=8)
theorem yJ(e:UInt8):(e.toNat:Int)<256:=by have:=e.toNat_lt;omega
def bCl (a b:Mono):Int:=U3 a.E b.E
theorem zS(a b:UInt8)(l m:List UInt8):U3 (a::l) (b::m)=if b.toNat<a.toNat then 1 else if a.toNat<b.toNat then-1 else U3 l m:=by
 rw[U3];simp only[UInt8.lt_iff_toNat_lt]
 by_cases h:a.toNat<b.toNat
 .rw[if_pos h,if_neg j5,if_pos h]
 .rw[if_neg h]
  by_cases c:b.toNat<a.toNat
  .rw[if_pos c,if_pos c]
  .rw[if_neg c,if_neg c,if_neg h]
def fP (w:World)(b o:Nat)(m:Mono):Prop:=
 w.cell? ⟨b,o,none⟩=some (.int .i64 m.n)/\w.cell? ⟨b,o+1,none⟩=some (.int .u8 m.e0.toNat)/\w.cell? ⟨b,o+2,none⟩=some (.int .u8 m.q.toNat)/\
 w.cell? ⟨b,o+3,none⟩=some (.int .u8 m.o.toNat)/\w.cell? ⟨b,o+4,none⟩=some (.int .u8 m.j.toNat)/\w.cell? ⟨b,o+5,none⟩=some (.int .u8 m.d.toNat)/\
 w.cell? ⟨b,o+6,none⟩=some (.int .u8 m.Z.toNat)
def lR (w:World)(A:Option Addr)(l:List Mono):Prop:=
 ∀k m,l[k]?=some m-> ∃b o,A=some ⟨b,o,none⟩/\b<w.heap.size/\fP w b (o+k*7) m
theorem fP.below{w w':World}{B b o:Nat}{m:Mono}(h:fP w b o m)(hb:Below B w w')(hB:b<B):fP w' b o m:=by
 obtain⟨h0,h1,h2,h3,h4,c,a⟩:=h
 exact⟨(hb.cell (p:=⟨b,o,none⟩) hB).trans h0,(hb.cell (p:=⟨b,o+1,none⟩) hB).trans h1,(hb.cell (p:=⟨b,o+2,none⟩) hB).trans h2,(hb.cell (p:=⟨b,o+3,none⟩) hB).trans h3,
  (hb.cell (p:=⟨b,o+4,none⟩) hB).trans h4,(hb.cell (p:=⟨b,o+5,none⟩) hB).trans c,(hb.cell (p:=⟨b,o+6,none⟩) hB).trans a⟩
theorem lR.below{w w':World}{A:Option Addr}{l:List Mono}(h:lR w A l)(hb:Below w.heap.size w w'):lR w' A l:=λk m c=>by obtain⟨b,o,e,hB,a⟩:=h k m c;exact⟨b,o,e,B2 hB hb.size,a.below hb hB⟩
theorem lR.nil{w:World}{A:Option Addr}:lR w A []:=λk m h=>by simp at h
def Mono.eqB(a b:Mono):Bool:=a.n==b.n&&(a.e0==b.e0&&(a.q==b.q&&(a.o==b.o&&(a.j==b.j&&(a.d==b.d&&a.Z==b.Z)))))
theorem Mono.eqB_iff(a b:Mono):a.eqB b=true↔a=b:=by obtain⟨n,p,o,m,l,k,j⟩:=a;obtain⟨c,i,h,g,f,e,d⟩:=b;simp[Mono.eqB]
def fG:Option Mono->List Mono->Bool
 |_,[]=>true
 |none,m::l=>hJ m&&fG (some m) l
 |some a,m::l=>hJ m&&(decide (ord a m<0)&&fG (some m) l)
def cK (p:List Mono):Bool:=decide (p.length<=48)&&fG none p
theorem mS{l:List Mono}{k:Nat}(h:k<l.length): ∃m,l[k]?=some m/\l.drop k=m::l.drop (k+1):=
 ⟨l[k],G1 h,List.drop_eq_getElem_cons h⟩
theorem fP.later{W:World}{b o:Nat}{m:Mono}(h:fP W b o m):(∀x:gG W,x.w.cell? ⟨b,o,none⟩=some (j3 m.n))/\(∀x:gG W,x.w.cell? ⟨b,o+1,none⟩=some (j4 m.e0.toNat))/\(∀x:gG W,x.w.cell? ⟨b,o+2,none⟩=some (j4 m.q.toNat))/\(∀x:gG W,x.w.cell? ⟨b,o+3,none⟩=some (j4 m.o.toNat))/\(∀x:gG W,x.w.cell? ⟨b,o+4,none⟩=some (j4 m.j.toNat))/\(∀x:gG W,x.w.cell? ⟨b,o+5,none⟩=some (j4 m.d.toNat))/\(∀x:gG W,x.w.cell? ⟨b,o+6,none⟩=some (j4 m.Z.toNat)):=by obtain⟨h0,h1,h2,h3,h4,c,a⟩:=h;exact⟨gG.cell h0,gG.cell h1,gG.cell h2,gG.cell h3,gG.cell h4,gG.cell c,gG.cell a⟩
theorem fP.zero{W:World}{b:Nat}{m:Mono}(h:fP W b 0 m):W.cell? ⟨b,0,none⟩=some (j3 m.n)/\W.cell? ⟨b,1,none⟩=some (j4 m.e0.toNat)/\W.cell? ⟨b,2,none⟩=some (j4 m.q.toNat)/\W.cell? ⟨b,3,none⟩=some (j4 m.o.toNat)/\W.cell? ⟨b,4,none⟩=some (j4 m.j.toNat)/\W.cell? ⟨b,5,none⟩=some (j4 m.d.toNat)/\W.cell? ⟨b,6,none⟩=some (j4 m.Z.toNat):=by simpa[fP]using h
theorem fP.later0{W:World}{b:Nat}{m:Mono}(h:fP W b 0 m):(∀x:gG W,x.w.cell? ⟨b,0,none⟩=some (j3 m.n))/\(∀x:gG W,x.w.cell? ⟨b,1,none⟩=some (j4 m.e0.toNat))/\(∀x:gG W,x.w.cell? ⟨b,2,none⟩=some (j4 m.q.toNat))/\(∀x:gG W,x.w.cell? ⟨b,3,none⟩=some (j4 m.o.toNat))/\(∀x:gG W,x.w.cell? ⟨b,4,none⟩=some (j4 m.j.toNat))/\(∀x:gG W,x.w.cell? ⟨b,5,none⟩=some (j4 m.d.toNat))/\(∀x:gG W,x.w.cell? ⟨b,6,none⟩=some (j4 m.Z.toNat)):=by obtain⟨h0,h1,h2,h3,h4,c,a⟩:=h.zero;exact⟨gG.cell h0,gG.cell h1,gG.cell h2,gG.cell h3,gG.cell h4,gG.cell c,gG.cell a⟩
def vG (w:World)(b o:Nat):List UInt8->Prop
 |[]=>True
 |x::l=>w.cell? ⟨b,o,none⟩=some (.int .u8 x.toNat)/\vG w b (o+1) l
theorem push_append(acc:ByteArray)(x:UInt8)(l:List UInt8):((acc.push x).data++l.toArray)=acc.data++(x::l).toArray:=by apply E2;simp[ByteArray.push]
theorem vM{P:Program}(w:World)(b:Nat): ∀(l:List UInt8) (o:Nat) (acc:ByteArray),vG w b o l->
  (Extern.Bytes.loadBytes ⟨b,o,none⟩ l.length acc).run P w= .ok ⟨acc.data++l.toArray⟩ w
 |[],o,acc,_=>by simp[Extern.Bytes.loadBytes]
 |x::l,o,acc,⟨h,t⟩=>by
  have ih:=vM (P:=P) w b l (o+1) (acc.push x) t;rw[push_append]at ih;simp only[Extern.Bytes.loadBytes,G5,J0];have hl:(load ⟨b,o,none⟩).run P w= .ok (.int .u8 x.toNat) w:=by simp[go_sem,h]
  rw[hl];simp only[J6];have e:((x.toNat:Int)).toNat.toUInt8=x:=by simp
  rw[e];exact ih
theorem run_compare{P:Program}(w:World)(b c o p k k':Nat)(x y:List UInt8)(hx:vG w b o x)(hy:vG w c p y):
  (Extern.BytealgCompare.compare #[.slice (some ⟨b,o,none⟩) x.length k,.slice (some ⟨c,p,none⟩) y.length k']).run P w= .ok (j3 (U3 x y)) w:=by change Sem.run P (do pure (goInt (Extern.BytealgCompare.cmp (<-Extern.Bytes.bytesOf (.slice (some ⟨b,o,none⟩) x.length k)) (<-Extern.Bytes.bytesOf (.slice (some ⟨c,p,none⟩) y.length k'))))) w=_;simp only[Extern.Bytes.bytesOf,J0,vM w b x o _ hx,vM w c y p _ hy,J6,J1,Lib.cmp_eq];simp[goInt]
set_option maxHeartbeats 400000 in
theorem compare_any(b c o p:Nat)(k k':Nat)(x y:List UInt8)(w:World)(hx:vG w b o x)(hy:vG w c p y):
  Calls prog 169 #[.slice (some ⟨b,o,none⟩) x.length k,.slice (some ⟨c,p,none⟩) y.length k'] w λe w'=>e= .returned (j3 (U3 x y))/\w=w':=by
 go_enter func169,ntmps169
 go_wp2
 rw[run_callFunc_extern func223 j8 j8 j8 (e:=Extern.BytealgCompare.compare) j8,run_compare w b c o p k k' x y hx hy];simp only[X2];rw[Oper.upon_value]
 go_wp2
 go_ret
 exact⟨rfl,rfl⟩
set_option maxHeartbeats 400000 in
theorem bUz(a b:Mono)(w:World):
  Calls prog 99 #[.agg #[j3 a.n,j4 a.e0.toNat,j4 a.q.toNat,j4 a.o.toNat,j4 a.j.toNat,j4 a.d.toNat,j4 a.Z.toNat],.agg #[j3 b.n,j4 b.e0.toNat,j4 b.q.toNat,j4 b.o.toNat,j4 b.j.toNat,j4 b.d.toNat,j4 b.Z.toNat]] w λe w'=>e= .returned (j3 (ord a b))/\ ∃q o1 o2,w'=((w.alloc o1).alloc o2).drewN q:=by
 have hc:=λn=>compare_any (w.heap.size+1) w.heap.size 1 1 6 6 b.E a.E (((w.alloc (.cells #[.int .i64 a.n,.int .u8 a.e0.toNat,.int .u8 a.q.toNat,.int .u8 a.o.toNat,.int .u8 a.j.toNat,.int .u8 a.d.toNat,.int .u8 a.Z.toNat] 111)).alloc (.cells #[.int .i64 b.n,.int .u8 b.e0.toNat,.int .u8 b.q.toNat,.int .u8 b.o.toNat,.int .u8 b.j.toNat,.int .u8 b.d.toNat,.int .u8 b.Z.toNat] 111)).drewN n) (by simp[vG,Mono.E,go_sem]) (by simp[vG,Mono.E,go_sem]);have HC:=U4 hc;clear hc
 go_enter func99,ntmps99
 go_wp2
 go_quiet ((go_at_call 169;exact Calls.quiet_of_same ((HC.out _).mono λ_ _ h=>⟨h.1,h.2.symm⟩)))
 go_wp2
 go_ret
 exact⟨rfl,_,_,_,rfl⟩
end
section
open Go.Proofs.Tryz
def num:List UInt8->Nat
 |[]=>0
 |a::l=>a.toNat*256^l.length+num l
theorem bNl: ∀l:List UInt8,num l<256^l.length
 |[]=>by simp[num]
 |a::l=>by have b:=bNl l;have c:=a.toNat_lt;have h:(a.toNat+1)*256^l.length<=256*256^l.length:=D2 _ j5;rw[C9,D0]at h;rw[num,G5,Nat.pow_succ,Nat.mul_comm (256^l.length) 256];omega
theorem cmp_num: ∀l m:List UInt8,l.length=m.length->U3 l m=if num m<num l then 1 else if num l<num m then-1 else 0
 |[],[],_=>by simp[num,U3]
 |[],_::_,h=>by simp at h
 |_::_,[],h=>by simp at h
 |a::l,b::m,h=>by
  have hl:l.length=m.length:=by simpa using h
  have c:=cmp_num l m hl;have d:=bNl l;have nm:=bNl m;rw[zS,num,num,<-hl];rw[<-hl]at nm;generalize 256^l.length=p at*
  by_cases h1:b.toNat<a.toNat
  .have:(b.toNat+1)*p<=a.toNat*p:=D2 _ h1;rw[C9,D0]at this;rw[if_pos h1,if_pos j5]
  .rw[if_neg h1]
   by_cases h2:a.toNat<b.toNat
   .have:(a.toNat+1)*p<=b.toNat*p:=D2 _ h2;rw[C9,D0]at this;rw[if_pos h2,if_neg j5,if_pos j5]
   .have e:a.toNat=b.toNat:=j5
    rw[if_neg h2,c,e];simp only[Nat.add_lt_add_iff_left]
def Mono.key(m:Mono):Nat:=num m.E
theorem ord_key(a b:Mono):ord a b=if a.key<b.key then 1 else if b.key<a.key then-1 else 0:=cmp_num b.E a.E rfl
theorem bTk(a b:Mono):bCl a b=if b.key<a.key then 1 else if a.key<b.key then-1 else 0:=cmp_num a.E b.E rfl
theorem ord_lt(a b:Mono):ord a b<0↔b.key<a.key:=by
 rw[ord_key];split
 .constructor<;>intro h<;>omega
 .split<;>simp_all
theorem num_inj: ∀l m:List UInt8,l.length=m.length->num l=num m->l=m
 |[],[],_,_=>rfl
 |[],_::_,h,_=>by simp at h
 |_::_,[],h,_=>by simp at h
 |a::l,b::m,h,hn=>by
  have hl:l.length=m.length:=by simpa using h
  have c:=bNl l;have nm:=bNl m;rw[num,num,<-hl]at hn;rw[<-hl]at nm
  have e:a.toNat=b.toNat:=by
   rcases Nat.lt_trichotomy a.toNat b.toNat with h1|h1|h1
   .have:(a.toNat+1)*256^l.length<=b.toNat*256^l.length:=D2 _ h1;rw[C9,D0]at this;omega
   .exact h1
   .have:(b.toNat+1)*256^l.length<=a.toNat*256^l.length:=D2 _ h1;rw[C9,D0]at this;omega
  rw[e]at hn;rw[X3.1 e,num_inj l m hl j5]
theorem key_E{a b:Mono}:a.key=b.key↔a.E=b.E:=⟨λh=>num_inj _ _ rfl h,λh=>by unfold Mono.key;rw[h]⟩
theorem eq_of_key{a b:Mono}(h:a.key=b.key)(hn:a.n=b.n):a=b:=by have:=key_E.1 h;obtain⟨n,q,p,o,m,l,k⟩:=a;obtain⟨c,j,i,g,f,e,d⟩:=b;simp only[Mono.E,List.cons.injEq,and_true]at this;obtain⟨rfl,rfl,rfl,rfl,rfl,rfl⟩:=this;simp at hn;rw[hn]
def pS (l:List Mono):Prop:=l.Pairwise (λa b=>b.key<a.key)
def jQ (l:List Mono):Prop:=l.Pairwise (λa b=>a.key≠b.key)
theorem pS.apart{l:List Mono}(h:pS l):jQ l:=List.Pairwise.imp (λh=>by omega) h
theorem pS.ext: ∀{l m:List Mono},pS l->pS m->(∀x,x∈l↔x∈m)->l=m
 |[],[],_,_,_=>rfl
 |[],b::m,_,_,h=>absurd ((h b).2 m9) m9
 |a::l,[],_,_,h=>absurd ((h a).1 m9) m9
 |a::l,b::m,h1,h2,h=>by
  obtain⟨g,hl⟩:=F4.1 h1;obtain⟨hb,i⟩:=F4.1 h2
  have e:a=b:=by
   have d:a∈b::m:=(h a).1 m9;have c:b∈a::l:=(h b).2 m9
   rcases F1.1 d with e|d
   .exact e
   .rcases F1.1 c with e|c
    .exact e.symm
    .have:=hb a d;have:=g b c;omega
  subst e;rw[pS.ext hl i λx=>?_];constructor
  .intro hx;have:=(h x).1 aa1
   rcases F1.1 this with rfl|f
   .have:=g x hx;omega
   .exact f
  .intro hx;have:=(h x).2 aa1
   rcases F1.1 this with rfl|f
   .have:=hb x hx;omega
   .exact f
def lV (L:List Mono):List Mono:=(L.filter (λm=>m.n !=0)).mergeSort (λa b=>decide (b.key<=a.key))
theorem bIs{L:List Mono}{x:Mono}:x∈lV L↔x∈L/\x.n≠0:=by unfold lV;rw[(U5 _ _).mem_iff];simp
theorem falls_of{l:List Mono}(h1:l.Pairwise (λa b=>b.key<=a.key))(h2:jQ l):pS l:=
 List.Pairwise.imp (λ⟨a,b⟩=>by omega) (List.Pairwise.and h1 h2)
theorem jQ.perm{l m:List Mono}(h:jQ l)(hp:l.Perm m):jQ m:=hp.pairwise h (λh=>Ne.symm h)
theorem jQ.filter{l:List Mono}(p:Mono->Bool)(h:jQ l):jQ (l.filter p):=List.Pairwise.filter _ h
theorem bAh{L:List Mono}(h:jQ L):pS (lV L):=by refine falls_of ?_ ((h.filter _).perm (U5 _ _).symm);have:=List.pairwise_mergeSort (le:=λa b:Mono=>decide (b.key<=a.key)) o6 o6 (L.filter (λm=>m.n !=0));exact List.Pairwise.imp (λh=>by simpa using h) this
theorem canon_of{L S:List Mono}(h:jQ L)(hp:S.Perm (L.filter (λm=>m.n !=0)))(hs:S.Pairwise (λa b=>b.key<=a.key)):S=lV L:=
 pS.ext (falls_of hs ((h.filter _).perm hp.symm)) (bAh h) λx=>by rw[hp.mem_iff,bIs];simp
end
section
open Go.RowKit Go.Sort Go.Proofs.Tryz
set_option maxRecDepth 100000
theorem bGg(a b:Mono):ltOf ord a b=decide (b.key<a.key):=by unfold ltOf;rw[decide_eq_decide];exact ord_lt a b
theorem swo_ord:SWO (ltOf ord) where
 irrefl x:=by rw[bGg];simp
 trans x y z h1 h2:=by rw[bGg]at*;simp at*;omega
 ntrans x y z h1 h2:=by rw[bGg]at*;simp at*;omega
theorem bSk(blk off size:Nat)(w:World):CmpLays prog 99 #[] Mono.cells 7 ord blk off size w:=
 λm d e _ x y=>by
  show Calls prog 99 #[.agg #[.int .i64 x.n,.int .u8 x.e0.toNat,.int .u8 x.q.toNat,.int .u8 x.o.toNat,.int .u8 x.j.toNat,.int .u8 x.d.toNat,.int .u8 x.Z.toNat],.agg #[.int .i64 y.n,.int .u8 y.e0.toNat,.int .u8 y.q.toNat,.int .u8 y.o.toNat,.int .u8 y.j.toNat,.int .u8 y.d.toNat,.int .u8 y.Z.toNat]] _ _
  exact(bUz x y _).mono λ_ _ ⟨he,q,b,a,c⟩=>⟨he,q,#[b,a],by rw[c,alloc_eq_grow,alloc_eq_grow,grow_grow];rfl⟩
theorem bVb(x:Mono): ∀v∈x.cells,v.oneCell'=true:=λv a=>by
 simp only[Mono.cells,F1,List.not_mem_nil,or_false]at a
 rcases a with rfl|rfl|rfl|rfl|rfl|rfl|rfl<;>rfl
def Row (w:World)(g:Nat)(l:List Mono):Prop:=HoldsK Mono.cells 7 w g 0 l.toArray
theorem sort_any(g cap:Nat)(l:List Mono)(w:World)(hH:Row w g l)(hg:g<w.heap.size)(hl:l.length<4611686018427387904):
  Calls prog 218 #[.slice (some ⟨g,0,none⟩) l.length cap,.func (.func 99) #[] #[]] w λe w'=>
   e= .returned (.tuple #[])/\ ∃l':List Mono,l'.Perm l/\l'.Pairwise (λa b=>b.key<=a.key)/\Row w' g l'/\w.heap.size<=w'.heap.size/\w'.os=w.os/\w'.tape=w.tape/\w'.output=w.output/\(∀k,k<w.heap.size->k≠g->w'.heap[k]?=w.heap[k]?):=by
 have A: ∀args w,(callFunc 99 args).run prog w= .ok (.enter 99 args) w:=enters_of func99 j8 rfl;have f:=AnyQ.slices_SortFunc Tryz.sortL 7 Tryz.isAgg111 Tryz.sizeOf111 Mono.cells (λ_=>rfl) bVb ord swo_ord 99 #[] g 0 cap l.toArray w A (bSk _ _ _ _) hH hg (by simpa using hl);change Calls prog 218 #[.slice (some ⟨g,0,none⟩) l.length cap,.func (.func 99) #[] #[]] w _ at f;refine f.mono ?_;rintro e w' ⟨he,c,n,os,v,u,rfl⟩;obtain⟨d,_,m⟩:=v;have t:c.size=l.length:=by simpa using d
 refine⟨he,c.toList,?_,?_,?_,?_,rfl,rfl,rfl,?_⟩
 .have C:c.extract 0 l.toArray.size=c:=by apply W7;rw[d];exact B8 _
  have B:l.toArray.extract 0 l.toArray.size=l.toArray:=W7 (B8 _);rw[C,B]at m;exact m
 .rw[List.pairwise_iff_getElem];intro i j z y r;have o:j<c.size:=by simpa using y
  have s:i<c.size:=by simpa using z
  have h:=u i j (S6 _) r (by rw[<-d];exact o);rw[getElem!_pos c j o,getElem!_pos c i s,bGg]at h
  simpa using h
 .show HoldsK Mono.cells 7 _ g 0 c;refine holdsK_grow Mono.cells 7 _ os g 0 c (by simp[putRowK,Sort.ahead];exact hg) ?_;exact holdsK_putRowK Mono.cells 7 _ g 0 l.toArray c hH d
 .simp[sortWorldK,grow,putRowK,Sort.ahead]
 .intro k x p;have q:k<(putRowK Mono.cells 7 (Sort.ahead w n) g 0 c).heap.size:=by simp[putRowK,Sort.ahead];exact x
  simp only[sortWorldK,grow];rw[Array.getElem?_append_left q];simp only[putRowK,putRow,mapBlock,Sort.ahead];rw[Array.getElem?_modify,if_neg (Ne.symm p)]
theorem sort_none(A:Option Addr)(cap:Nat)(w:World):
  Calls prog 218 #[.slice A 0 cap,.func (.func 99) #[] #[]] w λe w'=>e= .returned (.tuple #[])/\Below w.heap.size w w':=by
 have h:=AnyF.slices_SortFunc_none Tryz.sortL A cap (.func (.func 99) #[] #[]) w;change Calls prog 218 _ w _ at h
 exact h.mono λ_ _ ⟨he,a⟩=>⟨he,by rw[a];exact Below.refl _ _⟩
end
section
open Go.RowKit Go.Proofs.Tryz
set_option maxRecDepth 100000
theorem u8_eq(a b:UInt8):((a.toNat:Int)==(b.toNat:Int))=(a==b):=by
 rw[Bool.eq_iff_iff];simp only[beq_iff_eq];constructor
 .intro h;exact X3.1 j5
 .rintro rfl;rfl
def Mono.sameE(a b:Mono):Bool:=a.e0==b.e0&&(a.q==b.q&&(a.o==b.o&&(a.j==b.j&&(a.d==b.d&&a.Z==b.Z))))
theorem bRq(a:Mono)(w:World):(part 5 #[j4 a.e0.toNat,j4 a.q.toNat,j4 a.o.toNat,j4 a.j.toNat,j4 a.d.toNat,j4 a.Z.toNat] (0*1)).run prog w= .ok (j4 a.e0.toNat) w/\(part 5 #[j4 a.e0.toNat,j4 a.q.toNat,j4 a.o.toNat,j4 a.j.toNat,j4 a.d.toNat,j4 a.Z.toNat] (1*1)).run prog w= .ok (j4 a.q.toNat) w/\
  (part 5 #[j4 a.e0.toNat,j4 a.q.toNat,j4 a.o.toNat,j4 a.j.toNat,j4 a.d.toNat,j4 a.Z.toNat] (2*1)).run prog w= .ok (j4 a.o.toNat) w/\(part 5 #[j4 a.e0.toNat,j4 a.q.toNat,j4 a.o.toNat,j4 a.j.toNat,j4 a.d.toNat,j4 a.Z.toNat] (3*1)).run prog w= .ok (j4 a.j.toNat) w/\
  (part 5 #[j4 a.e0.toNat,j4 a.q.toNat,j4 a.o.toNat,j4 a.j.toNat,j4 a.d.toNat,j4 a.Z.toNat] (4*1)).run prog w= .ok (j4 a.d.toNat) w/\(part 5 #[j4 a.e0.toNat,j4 a.q.toNat,j4 a.o.toNat,j4 a.j.toNat,j4 a.d.toNat,j4 a.Z.toNat] (5*1)).run prog w= .ok (j4 a.Z.toNat) w:=
 ⟨j8,j8,j8,j8,j8,j8⟩
theorem bCo(d:Nat)(a b:Mono)(w:World):(Op.equalIn (d+2) 109 (.agg #[j4 a.e0.toNat,j4 a.q.toNat,j4 a.o.toNat,j4 a.j.toNat,j4 a.d.toNat,j4 a.Z.toNat]) (.agg #[j4 b.e0.toNat,j4 b.q.toNat,j4 b.o.toNat,j4 b.j.toNat,j4 b.d.toNat,j4 b.Z.toNat])).run prog w= .ok (a.sameE b) w:=by
 obtain⟨s,c⟩: ∃i,prog.info? 5=some i:=⟨_,rfl⟩
 have r:prog.cellsOf 5=1:=j8
 obtain⟨q,p,o,n,m,l⟩:=bRq a w;obtain⟨k,j,h,g,f,e⟩:=bRq b w;rw[run_equalIn_array w (d+1) _ _ underlying109 c,r];have hr:List.range 6=[0,1,2,3,4,5]:=rfl;rw[hr];simp only[Op.eqItems,J0,X1,J1,q,p,o,n,m,l,k,j,h,g,f,e,J6,run_equalIn_int w d 5 .u8 .u8 _ _ underlying5,u8_eq];unfold Mono.sameE;cases a.e0==b.e0<;>cases a.q==b.q<;>cases a.o==b.o<;>cases a.j==b.j<;>cases a.d==b.d<;>cases a.Z==b.Z<;>rfl
theorem bHu(d:Nat)(a b:Mono)(w:World):(Op.equalIn (d+3) 111 (.agg #[j3 a.n,j4 a.e0.toNat,j4 a.q.toNat,j4 a.o.toNat,j4 a.j.toNat,j4 a.d.toNat,j4 a.Z.toNat]) (.agg #[j3 b.n,j4 b.e0.toNat,j4 b.q.toNat,j4 b.o.toNat,j4 b.j.toNat,j4 b.d.toNat,j4 b.Z.toNat])).run prog w= .ok (a.eqB b) w:=by
 have h:prog.underlying 111=some (.struct (prog.fieldsOf 111)):=j8
 have g:prog.stoodInHeld 111=false:=j8
 have i:(prog.fieldsOf 111).toList=[⟨ "N",2,0,false, "", "",0⟩,⟨ "E",109,1,false, "", "",8⟩]:=j8
 have f: ∀m:Mono,(part 2 #[.int .i64 m.n,.int .u8 m.e0.toNat,.int .u8 m.q.toNat,.int .u8 m.o.toNat,.int .u8 m.j.toNat,.int .u8 m.d.toNat,.int .u8 m.Z.toNat] 0).run prog w= .ok (.int .i64 m.n) w:=λm=>by kernel_rfl
 have c: ∀m:Mono,(part 109 #[.int .i64 m.n,.int .u8 m.e0.toNat,.int .u8 m.q.toNat,.int .u8 m.o.toNat,.int .u8 m.j.toNat,.int .u8 m.d.toNat,.int .u8 m.Z.toNat] 1).run prog w= .ok (.agg #[.int .u8 m.e0.toNat,.int .u8 m.q.toNat,.int .u8 m.o.toNat,.int .u8 m.j.toNat,.int .u8 m.d.toNat,.int .u8 m.Z.toNat]) w:=λm=>by kernel_rfl
 rw[run_equalIn_agg w (d+2) 111 _ _ h g,i];simp only[Op.eqFields,J0,X1,J1,f,c,J6,run_equalIn_int w (d+1) 2 .i64 .i64 _ _ underlying2,bCo d a b w];have e:a.eqB b=(a.n==b.n&&a.sameE b):=rfl;rw[e];cases a.n==b.n<;>cases a.sameE b<;>simp
theorem run_neq_mono(a b:Mono)(w:World):(binOp .neq 111 (.agg #[j3 a.n,j4 a.e0.toNat,j4 a.q.toNat,j4 a.o.toNat,j4 a.j.toNat,j4 a.d.toNat,j4 a.Z.toNat]) (.agg #[j3 b.n,j4 b.e0.toNat,j4 b.q.toNat,j4 b.o.toNat,j4 b.j.toNat,j4 b.d.toNat,j4 b.Z.toNat])).run prog w= .ok (.bool (!a.eqB b)) w:=by rw[run_neq_struct,bHu 9997 a b w];rfl
end
section
open Go.RowKit Go.Proofs.Tryz
set_option maxRecDepth 100000
open Go.ChangeMaps (setBlock)
def kvM (m:Mono):Value×Value:=(.agg #[.int .u8 m.e0.toNat,.int .u8 m.q.toNat,.int .u8 m.o.toNat,.int .u8 m.j.toNat,.int .u8 m.d.toNat,.int .u8 m.Z.toNat],.int .i64 m.n)
def kvE (e:MapEntry):Value×Value:=(e.key,e.val)
def nZ (w:World)(r:Nat)(L:List Mono):Prop:=
 ∃es clock,w.heap[r]?=some (.map es clock)/\es.toList.map kvE=L.map kvM/\(∀x∈es.toList,x.born<clock)/\(es.toList.map (·.born)).Nodup
def pW (k:Mono):List Mono->Int
 |[]=>0
 |m::l=>if k.sameE m then m.n else pW k l
def setTo (k:Mono)(x:Int):List Mono->List Mono
 |[]=>[{k with n:=x}]
 |m::l=>if k.sameE m then {k with n:=x}::l else m::setTo k x l
def findAt(k:Mono):List Mono->Nat->Option (Nat×Value)
 |[],_=>none
 |m::l,i=>if k.sameE m then some (i,.int .i64 m.n)else findAt k l (i+1)
theorem yY(k:Mono)(w:World): ∀(es:List MapEntry) (L:List Mono) (i:Nat),es.map kvE=L.map kvM->(X4 109 (.agg #[j4 k.e0.toNat,j4 k.q.toNat,j4 k.o.toNat,j4 k.j.toNat,j4 k.d.toNat,j4 k.Z.toNat]) es i).run prog w= .ok (findAt k L i) w
 |[],[],_,_=>by simp[X4,findAt]
 |[],_::_,_,h=>by simp at h
 |_::_,[],_,h=>by simp at h
 |e::es,m::L,i,h=>by
  simp only[H6,List.cons.injEq,kvE,kvM,Prod.mk.injEq]at h;obtain⟨⟨h1,h2⟩,h3⟩:=h;have a:=yY k w es L (i+1) h3
  have he:(Op.equal 109 (.agg #[.int .u8 k.e0.toNat,.int .u8 k.q.toNat,.int .u8 k.o.toNat,.int .u8 k.j.toNat,.int .u8 k.d.toNat,.int .u8 k.Z.toNat]) e.key).run prog w= .ok (k.sameE m) w:=by rw[h1];exact bCo 9998 k m w
  simp only[X4,J0,X1,J1,he,J6,findAt,h2];cases k.sameE m
  .simpa using a
  .simp
theorem zV(k:Mono)(w:World)(es:List MapEntry)(L:List Mono)(h:es.map kvE=L.map kvM):(K7 109 (.agg #[j4 k.e0.toNat,j4 k.q.toNat,j4 k.o.toNat,j4 k.j.toNat,j4 k.d.toNat,j4 k.Z.toNat]) es).run prog w= .ok (findAt k L 0) w:=by
 have a:=yY k w es L 0 h;unfold K7;simp only[J0,run_underlying underlying109,J6]
 cases es with
 |nil=>
  cases L with
  |nil=>simp[K9,findAt]
  |cons m L=>simp at h
 |cons e es=>simpa[K9,Instr.sameNow]using a
theorem xT(b:Bool)(k:Mono)(w:World):(Instr.checkKey b 10000 109 (.agg #[j4 k.e0.toNat,j4 k.q.toNat,j4 k.o.toNat,j4 k.j.toNat,j4 k.d.toNat,j4 k.Z.toNat])).run prog w= .ok () w:=by kernel_rfl
theorem run_stays(k:Mono)(w:World):(R5 (.agg #[j4 k.e0.toNat,j4 k.q.toNat,j4 k.o.toNat,j4 k.j.toNat,j4 k.d.toNat,j4 k.Z.toNat]) (.agg #[j4 k.e0.toNat,j4 k.q.toNat,j4 k.o.toNat,j4 k.j.toNat,j4 k.d.toNat,j4 k.Z.toNat])).run prog w= .ok (.agg #[j4 k.e0.toNat,j4 k.q.toNat,j4 k.o.toNat,j4 k.j.toNat,j4 k.d.toNat,j4 k.Z.toNat]) w:=by unfold R5;simp[Instr.sameBits]
theorem findAt_none{k:Mono}{x:Int}: ∀{L:List Mono} {i:Nat},findAt k L i=none->pW k L=0/\setTo k x L=L++[{k with n:=x}]
 |[],_,_=>⟨rfl,rfl⟩
 |m::L,i,h=>by
  unfold findAt at h;cases a:k.sameE m
  .rw[a]at h;simp only[L8,if_false]at h;obtain⟨h1,h2⟩:=findAt_none (x:=x) h;simp[pW,setTo,a,h1,h2]
  .rw[a]at h;simp at h
theorem coef_app{k:Mono}: ∀{L:List Mono} {i:Nat},findAt k L i=none-> ∀M:List Mono,pW k (L++M)=pW k M
 |[],_,_,_=>rfl
 |m::L,i,h,M=>by
  unfold findAt at h;cases a:k.sameE m
  .rw[a]at h;simp only[L8,if_false]at h;simp[pW,a,coef_app h M]
  .rw[a]at h;simp at h
theorem sameE_self(k:Mono)(x:Int):k.sameE {k with n:=x}=true:=by simp[Mono.sameE]
theorem zU{k:Mono}{x:Int}{j:Nat}{v:Value}: ∀{L:List Mono} {i:Nat},findAt k L i=some (j,v)-> ∃d m,j=i+d/\L[d]?=some m/\k.sameE m=true/\v= j3 m.n/\pW k L=m.n/\setTo k x L=L.set d {k with n:=x}
 |[],_,h=>by simp[findAt]at h
 |m::L,i,h=>by
  unfold findAt at h;cases a:k.sameE m
  .rw[a]at h;simp only[L8,if_false]at h;obtain⟨d,b,h1,h2,h3,h4,e,c⟩:=zU (x:=x) h;exact⟨d+1,b,j5,by simpa using h2,h3,h4,by simp[pW,a,e],by simp[setTo,a,c]⟩
  .rw[a]at h;simp only[if_true,Option.some.injEq,Prod.mk.injEq]at h;exact⟨0,m,j5,rfl,a,h.2.symm,by simp[pW,a],by simp[setTo,a]⟩
theorem nH(k:Mono){w:World}{r:Nat}{L:List Mono}(h:nZ w r L):
  (X5 282 (.map (some r)) (.agg #[j4 k.e0.toNat,j4 k.q.toNat,j4 k.o.toNat,j4 k.j.toNat,j4 k.d.toNat,j4 k.Z.toNat]) false).run prog w= .ok (j3 (pW k L)) w:=by
 obtain⟨g,b,hb,a,_,_⟩:=h;have e:(zeroValue 2).run prog w= .ok (.int .i64 0) w:=j8
 unfold X5;simp only[J0,run_underlying underlying282,J6,T5 hb,J1,xT,zV k w g.toList L a]
 cases c:findAt k L 0 with
 |none=>simp[(findAt_none (x:=0) c).1,e]
 |some p=>
  obtain⟨j,v⟩:=p;obtain⟨d,m,_,_,_,rfl,f,_⟩:=zU (x:=0) c;simp[f]
theorem bVm{k m:Mono}(h:k.sameE m=true):(Value.agg #[j4 m.e0.toNat,j4 m.q.toNat,j4 m.o.toNat,j4 m.j.toNat,j4 m.d.toNat,j4 m.Z.toNat])= .agg #[j4 k.e0.toNat,j4 k.q.toNat,j4 k.o.toNat,j4 k.j.toNat,j4 k.d.toNat,j4 k.Z.toNat]:=by simp only[Mono.sameE,L9,beq_iff_eq]at h;obtain⟨h0,h1,h2,h3,h4,a⟩:=h;rw[h0,h1,h2,h3,h4,a]
theorem map_set_kv{es:Array MapEntry}{L:List Mono}{d:Nat}{k m:Mono}{e:MapEntry}(hkv:es.toList.map kvE=L.map kvM)(hd:L[d]?=some m)(hs:k.sameE m=true)(he:es[d]?=some e)(x:Int):
  (es.modify d λe=>{e with val:= j3 x}).toList.map kvE=(L.set d {k with n:=x}).map kvM:=by
 have b:e.key= .agg #[.int .u8 k.e0.toNat,.int .u8 k.q.toNat,.int .u8 k.o.toNat,.int .u8 k.j.toNat,.int .u8 k.d.toNat,.int .u8 k.Z.toNat]:=by
  have h1:(es.toList.map kvE)[d]?=some (kvE e):=by simp[he]
  rw[hkv,F7,hd]at h1;simp only[N5,Option.some.injEq,kvE,kvM,Prod.mk.injEq]at h1;rw[<-h1.1];exact bVm hs
 have a:es.toList[d]?=some e:=by simpa using he
 rw[W8,ChangeMaps.modify_eq_set _ _ _ _ a,U6,U6,hkv]
 congr 1
 simp[kvE,kvM,b]
theorem zP(k:Mono)(x:Int){w:World}{r:Nat}{L:List Mono}(h:nZ w r L): ∃v0 st w1 w2,
  (R7 282 (.map (some r)) (.agg #[j4 k.e0.toNat,j4 k.q.toNat,j4 k.o.toNat,j4 k.j.toNat,j4 k.d.toNat,j4 k.Z.toNat])).run prog w= .ok (.tuple #[v0,j3 st]) w1/\
  (X5 282 (.map (some r)) (.agg #[j4 k.e0.toNat,j4 k.q.toNat,j4 k.o.toNat,j4 k.j.toNat,j4 k.d.toNat,j4 k.Z.toNat]) false).run prog w1= .ok (j3 (pW k L)) w1/\
  (X6 282 (.map (some r)) (j3 st) (j3 x)).run prog w1= .ok () w2/\
  nZ w2 r (setTo k x L)/\ ∃o,w2=setBlock w r o:=by
 obtain⟨f,b,hb,g,hlt,A⟩:=h;have V:(zeroValue 2).run prog w= .ok (.int .i64 0) w:=j8
 cases G:findAt k L 0 with
 |none=>
  obtain⟨K,l⟩:=findAt_none (x:=x) G;obtain⟨_,P⟩:=findAt_none (x:=0) G;have i:(setBlock w r (.map (f.push ⟨.agg #[.int .u8 k.e0.toNat,.int .u8 k.q.toNat,.int .u8 k.o.toNat,.int .u8 k.j.toNat,.int .u8 k.d.toNat,.int .u8 k.Z.toNat],.int .i64 0,b⟩) (b+1))).heap[r]?=some (.map (f.push ⟨.agg #[.int .u8 k.e0.toNat,.int .u8 k.q.toNat,.int .u8 k.o.toNat,.int .u8 k.j.toNat,.int .u8 k.d.toNat,.int .u8 k.Z.toNat],.int .i64 0,b⟩) (b+1)):=ChangeMaps.heap_setBlock_same hb _
  have q: ∀v,((f.push ⟨.agg #[.int .u8 k.e0.toNat,.int .u8 k.q.toNat,.int .u8 k.o.toNat,.int .u8 k.j.toNat,.int .u8 k.d.toNat,.int .u8 k.Z.toNat],v,b⟩).toList.map (·.born)).Nodup:=λv=>by simp only[W9,List.map_append,H6,List.map_nil];refine List.nodup_append.2 ⟨A,m9,λa Y c K e1=>?_⟩;simp only[Q7]at K;obtain⟨y,B,rfl⟩:=P5.1 Y;have:=hlt y B;omega
  have C: ∀v,∀y∈(f.push ⟨.agg #[.int .u8 k.e0.toNat,.int .u8 k.q.toNat,.int .u8 k.o.toNat,.int .u8 k.j.toNat,.int .u8 k.d.toNat,.int .u8 k.Z.toNat],v,b⟩).toList,y.born<b+1:=λv y B=>by
   simp only[W9,List.mem_append,Q7]at B
   rcases B with B|rfl
   .have:=hlt y B;omega
   .simp
  have D: ∀n:Int,(f.push ⟨.agg #[.int .u8 k.e0.toNat,.int .u8 k.q.toNat,.int .u8 k.o.toNat,.int .u8 k.j.toNat,.int .u8 k.d.toNat,.int .u8 k.Z.toNat],.int .i64 n,b⟩).toList.map kvE=(L++[{k with n:=n}]).map kvM:=λn=>by simp[g,kvE,kvM]
  refine⟨.int .i64 0,b,setBlock w r (.map (f.push ⟨.agg #[.int .u8 k.e0.toNat,.int .u8 k.q.toNat,.int .u8 k.o.toNat,.int .u8 k.j.toNat,.int .u8 k.d.toNat,.int .u8 k.Z.toNat],.int .i64 0,b⟩) (b+1)),setBlock w r (.map (f.push ⟨.agg #[.int .u8 k.e0.toNat,.int .u8 k.q.toNat,.int .u8 k.o.toNat,.int .u8 k.j.toNat,.int .u8 k.d.toNat,.int .u8 k.Z.toNat],.int .i64 x,b⟩) (b+1)),?_,?_,?_,?_,⟨_,rfl⟩⟩
  .unfold R7;simp only[J0,run_underlying underlying282,J6,T5 hb,J1,xT,zV k w f.toList L g,G,V];simp[T6 _ hb,X2,setBlock,goInt]
  .have X:nZ (setBlock w r (.map (f.push ⟨.agg #[.int .u8 k.e0.toNat,.int .u8 k.q.toNat,.int .u8 k.o.toNat,.int .u8 k.j.toNat,.int .u8 k.d.toNat,.int .u8 k.Z.toNat],.int .i64 0,b⟩) (b+1))) r (L++[{k with n:=0}]):=⟨_,_,i,D 0,C _,q _⟩
   rw[nH k X,K,coef_app G];simp[pW,sameE_self]
  .have s:(f.push ⟨.agg #[.int .u8 k.e0.toNat,.int .u8 k.q.toNat,.int .u8 k.o.toNat,.int .u8 k.j.toNat,.int .u8 k.d.toNat,.int .u8 k.Z.toNat],.int .i64 0,b⟩).findIdx? (λe=>((e.born:Nat):Int)==((b:Nat):Int))=some f.size:=by rw[WideElems.findIdx_arr];exact WideElems.findIdx_born (j:=f.size) (e0:=⟨.agg #[.int .u8 k.e0.toNat,.int .u8 k.q.toNat,.int .u8 k.o.toNat,.int .u8 k.j.toNat,.int .u8 k.d.toNat,.int .u8 k.Z.toNat],.int .i64 0,b⟩) (q _) m9
   have I:(f.push ⟨.agg #[.int .u8 k.e0.toNat,.int .u8 k.q.toNat,.int .u8 k.o.toNat,.int .u8 k.j.toNat,.int .u8 k.d.toNat,.int .u8 k.Z.toNat],.int .i64 0,b⟩).modify f.size (λe=>{e with val:= .int .i64 x})=f.push ⟨.agg #[.int .u8 k.e0.toNat,.int .u8 k.q.toNat,.int .u8 k.o.toNat,.int .u8 k.j.toNat,.int .u8 k.d.toNat,.int .u8 k.Z.toNat],.int .i64 x,b⟩:=by apply E2;rw[W8,W9,W9,<-O1,WideElems.modify_last]
   simp only[X6,J0,T5 i,J6,asInt,asIntOf,J1,s,I,T6 _ i];simp[setBlock]
  .rw[l];exact⟨_,_,ChangeMaps.heap_setBlock_same hb _,D x,C _,q _⟩
 |some p=>
  obtain⟨j,v⟩:=p;obtain⟨d,m,hj,hd,R,W,K,l⟩:=zU (x:=x) G;obtain rfl:j=d:=j5
  subst W
  have J:f.size=L.length:=by
   have:=congrArg U7 g
   simpa using this
  have Q:j<f.size:=by rw[J];exact(G3.1 hd).1
  obtain⟨e,he⟩: ∃e,f[j]?=some e:=⟨f[j],Array.getElem?_eq_getElem Q⟩
  have U:e.key= .agg #[.int .u8 k.e0.toNat,.int .u8 k.q.toNat,.int .u8 k.o.toNat,.int .u8 k.j.toNat,.int .u8 k.d.toNat,.int .u8 k.Z.toNat]:=by
   have h1:(f.toList.map kvE)[j]?=some (kvE e):=by simp[he]
   rw[g,F7,hd]at h1;simp only[N5,Option.some.injEq,kvE,kvM,Prod.mk.injEq]at h1;rw[<-h1.1];exact bVm R
  have t:f.toList[j]?=some e:=by simpa using he
  have E:f.modify j (λe=>{e with key:= .agg #[.int .u8 k.e0.toNat,.int .u8 k.q.toNat,.int .u8 k.o.toNat,.int .u8 k.j.toNat,.int .u8 k.d.toNat,.int .u8 k.Z.toNat]})=f:=by apply E2;rw[W8,ChangeMaps.modify_eq_set _ _ _ _ t,<-U];exact WideElems.set_self _ _ _ t
  have i:(setBlock w r (.map f b)).heap[r]?=some (.map f b):=ChangeMaps.heap_setBlock_same hb _;refine⟨.int .i64 m.n,e.born,setBlock w r (.map f b),setBlock w r (.map (f.modify j λe=>{e with val:= .int .i64 x}) b),?_,?_,?_,?_,⟨_,rfl⟩⟩
  .unfold R7;simp only[J0,run_underlying underlying282,J6,T5 hb,J1,xT,zV k w f.toList L g,G,he,N5,Option.getD_some,U,run_stays];rw[E,T6 _ hb];simp[setBlock,goInt]
  .exact nH k ⟨_,_,i,g,hlt,A⟩
  .have s:f.findIdx? (λZ=>((Z.born:Nat):Int)==((e.born:Nat):Int))=some j:=by rw[WideElems.findIdx_arr];exact WideElems.findIdx_born A t
   simp only[X6,J0,T5 i,J6,asInt,asIntOf,J1,s,T6 _ i];simp[setBlock]
  .rw[l]
   have u:(f.modify j λe=>{e with val:= .int .i64 x}).toList.map (·.born)=f.toList.map (·.born):=by rw[W8,ChangeMaps.modify_eq_set _ _ _ _ t,U6];exact WideElems.set_self _ _ _ (by simp[t])
   refine⟨_,_,ChangeMaps.heap_setBlock_same hb _,map_set_kv g hd R he x,λy B=>?_,by rw[u];exact A⟩;have O:y.born∈f.toList.map (·.born):=by rw[<-u];exact P5.2 ⟨y,B,rfl⟩
   obtain⟨z,N,M⟩:=P5.1 O;rw[<-M];exact hlt z N
end
section
open Go.RowKit Go.Sort Go.Proofs.Tryz
set_option maxRecDepth 100000
def flat (l:List Mono):List Value:=l.flatMap Mono.cells
theorem flat_snoc(l:List Mono)(m:Mono):flat (l++[m])=flat l++m.cells:=by simp[flat]
theorem flat_get: ∀(l:List Mono) (k j:Nat) (m:Mono),l[k]?=some m->j<7->(flat l)[k*7+j]?=m.cells[j]?
 |[],k,j,m,h,_=>by simp at h
 |a::l,0,j,m,h,hj=>by
  simp at h;subst h;simp only[flat,List.flatMap_cons,Nat.zero_mul,D1];exact List.getElem?_append_left (by rw[Mono.cells_length];exact hj)
 |a::l,k+1,j,m,h,hj=>by
  have b:=flat_get l k j m ab6 hj;have e:flat (a::l)=a.cells++flat l:=by simp[flat]
  rw[e,List.getElem?_append_right (by rw[Mono.cells_length];omega),Mono.cells_length];rw[<-b]
  congr 1
  omega
def bSf (w:World)(B:Nat)(v:Value)(l:List Mono):Prop:=w.ownsRow B 111 7 v l.length (flat l)
theorem bSf.row{w:World}{B g cap:Nat}{l:List Mono}(h:bSf w B (.slice (some ⟨g,0,none⟩) l.length cap) l):Row w g l:=λt d=>by
 have a:t<l.length*7:=by simpa using d
 have f:=World.ownsRow.cellAt h t a;refine⟨?_,by simpa using World.ownsRow.frozenAt h t⟩;rw[get_flatK _ _ _ _ (by simpa using a)];have b:t/7<l.length:=j5
 have hg:=flat_get l (t/7) (t%7) l[t/7] (G1 b) (Nat.mod_lt _ j5);have e:t/7*7+t%7=t:=j5
 rw[e]at hg;rw[D1,f,hg];have i:l.toArray[t/7]! =l[t/7]:=by simp[b]
 rw[i];have c:t%7<(l[t/7]).cells.length:=by rw[Mono.cells_length];exact Nat.mod_lt _ j5
 rw[G1 c,getElem!_pos (l[t/7]).cells (t%7) c];rfl
theorem Row.monos{w:World}{g:Nat}{l:List Mono}(h:Row w g l):lR w (some ⟨g,0,none⟩) l:=λk m d=>by
 have a:k<l.toArray.size:=by simpa using (G3.1 d).1
 have e:l.toArray[k]! =m:=by
  rw[getElem!_pos l.toArray k a];have:=(G3.1 d).2
  simpa using this
 have c:=λj (f:j<7)=>(HoldsK.cell h a f).1;rw[e]at c
 have hlt:g<w.heap.size:=by
  rcases A8 g w.heap.size with b|b
  .exact b
  .have:=c 0 j5;simp[D8,E0 b]at this
 refine⟨g,0,rfl,hlt,?_⟩;exact⟨c 0 j5,c 1 j5,c 2 j5,c 3 j5,c 4 j5,c 5 j5,c 6 j5⟩
theorem Row.below{w w':World}{B g:Nat}{l:List Mono}(h:Row w g l)(hb:Below B w w')(hg:g<B):Row w' g l:=λt a=>by obtain⟨h1,h2⟩:=h t a;exact⟨(hb.cell (p:=⟨g,0+t,none⟩) hg).trans h1,(hb.frozen (p:=⟨g,0+t,none⟩) hg).trans h2⟩
theorem Row.lt{w:World}{g:Nat}{l:List Mono}(h:Row w g l)(hl:l≠[]):g<w.heap.size:=by
 cases l with
 |nil=>exact absurd rfl hl
 |cons m l=>
  obtain⟨b,o,e,hb,_⟩:=h.monos 0 m rfl;injection e with e
  injection e with e
  omega
def Res (B:Nat)(w:World)(v:Value)(l:List Mono):Prop:=
 ∃A c,v= .slice A l.length c/\(l=[]\/ ∃g,A=some ⟨g,0,none⟩/\B<=g/\Row w g l)
theorem Res.monos{B:Nat}{w:World}{A:Option Addr}{n c:Nat}{l:List Mono}(h:Res B w (.slice A n c) l):lR w A l/\n=l.length:=by
 obtain⟨b,a,e,h⟩:=h;injection e with e1 e2 e3
 subst e1 e2
 rcases h with rfl|⟨g,rfl,_,hr⟩
 .exact⟨lR.nil,rfl⟩
 .exact⟨hr.monos,rfl⟩
theorem Res.below{B:Nat}{w w':World}{v:Value}{l:List Mono}(h:Res B w v l)(hb:Below w.heap.size w w'):Res B w' v l:=by
 obtain⟨A,c,e,h⟩:=h;refine⟨A,c,e,?_⟩
 by_cases hl:l=[]
 .exact .inl hl
 .rcases h with h|⟨g,b,a,hr⟩
  .exact .inl h
  .exact .inr ⟨g,b,a,hr.below hb (hr.lt hl)⟩
theorem Res.mono{B B':Nat}{w:World}{v:Value}{l:List Mono}(h:Res B w v l)(hB:B'<=B):Res B' w v l:=by
 obtain⟨A,c,e,h⟩:=h;refine⟨A,c,e,?_⟩
 rcases h with h|⟨g,b,a,hr⟩
 .exact .inl h
 .exact .inr ⟨g,b,C0 hB a,hr⟩
theorem Res.nil(B:Nat)(w:World)(c:Nat)(A:Option Addr):Res B w (.slice A 0 c) []:=⟨A,c,rfl,.inl rfl⟩
end
section
open Go.RowKit Go.Proofs.Tryz
set_option maxRecDepth 100000
set_option maxHeartbeats 400000 in
theorem bMd(m:Mono)(w:World):
  Calls prog 170 #[.agg #[j3 m.n,j4 m.e0.toNat,j4 m.q.toNat,j4 m.o.toNat,j4 m.j.toNat,j4 m.d.toNat,j4 m.Z.toNat]] w λe w'=>e= .returned (j3 m.deg)/\Below w.heap.size w w':=by
 have h0:=yJ m.e0;have h1:=yJ m.q;have h2:=yJ m.o;have h3:=yJ m.j;have h4:=yJ m.d;have h5:=yJ m.Z
 go_enter func170,ntmps170
 go_wp2
 go_rounds 7
 go_ret
 refine⟨?_,by go_grown⟩;simp[Mono.deg]
set_option maxHeartbeats 400000 in
theorem bIb(m:Mono)(w:World):
  Calls prog 98 #[.agg #[j3 m.n,j4 m.e0.toNat,j4 m.q.toNat,j4 m.o.toNat,j4 m.j.toNat,j4 m.d.toNat,j4 m.Z.toNat]] w λe w'=>e= .returned (.bool (hJ m))/\Below w.heap.size w w':=by
 have h0:=yJ m.e0;have h1:=yJ m.q;have h2:=yJ m.o;have h3:=yJ m.j;have h4:=yJ m.d;have h5:=yJ m.Z;have i0: ∀w,(X7 109 (.agg #[.int .u8 m.e0.toNat,.int .u8 m.q.toNat,.int .u8 m.o.toNat,.int .u8 m.j.toNat,.int .u8 m.d.toNat,.int .u8 m.Z.toNat]) (.int .i64 0)).run prog w= .ok (.int .u8 m.e0.toNat) w:=λ_=>by kernel_rfl
 have i1: ∀w,(X7 109 (.agg #[.int .u8 m.e0.toNat,.int .u8 m.q.toNat,.int .u8 m.o.toNat,.int .u8 m.j.toNat,.int .u8 m.d.toNat,.int .u8 m.Z.toNat]) (.int .i64 1)).run prog w= .ok (.int .u8 m.q.toNat) w:=λ_=>by kernel_rfl
 have i2: ∀w,(X7 109 (.agg #[.int .u8 m.e0.toNat,.int .u8 m.q.toNat,.int .u8 m.o.toNat,.int .u8 m.j.toNat,.int .u8 m.d.toNat,.int .u8 m.Z.toNat]) (.int .i64 2)).run prog w= .ok (.int .u8 m.o.toNat) w:=λ_=>by kernel_rfl
 have i3: ∀w,(X7 109 (.agg #[.int .u8 m.e0.toNat,.int .u8 m.q.toNat,.int .u8 m.o.toNat,.int .u8 m.j.toNat,.int .u8 m.d.toNat,.int .u8 m.Z.toNat]) (.int .i64 3)).run prog w= .ok (.int .u8 m.j.toNat) w:=λ_=>by kernel_rfl
 have i4: ∀w,(X7 109 (.agg #[.int .u8 m.e0.toNat,.int .u8 m.q.toNat,.int .u8 m.o.toNat,.int .u8 m.j.toNat,.int .u8 m.d.toNat,.int .u8 m.Z.toNat]) (.int .i64 4)).run prog w= .ok (.int .u8 m.d.toNat) w:=λ_=>by kernel_rfl
 have i5: ∀w,(X7 109 (.agg #[.int .u8 m.e0.toNat,.int .u8 m.q.toNat,.int .u8 m.o.toNat,.int .u8 m.j.toNat,.int .u8 m.d.toNat,.int .u8 m.Z.toNat]) (.int .i64 5)).run prog w= .ok (.int .u8 m.Z.toNat) w:=λ_=>by kernel_rfl
 go_enter func98,ntmps98
 go_wp2
 go_rounds 7
 all_goals go_ret
 all_goals refine⟨kV ?_,by go_grown⟩
 all_goals clear i0 i1 i2 i3 i4 i5
 all_goals go_light
 all_goals unfold hJ Mono.deg
 all_goals try exact(decide_eq_false j5).symm
 have hn:(m.n !=0)=true:=by simpa using ‹¬m.n=0›
 rw[hn,Bool.true_and];exact decide_eq_decide.2 j5
end
section
open Go.RowKit Go.Proofs.Tryz
set_option maxRecDepth 100000
theorem order_below(a b:Mono)(w:World):
  Calls prog 99 #[.agg #[j3 a.n,j4 a.e0.toNat,j4 a.q.toNat,j4 a.o.toNat,j4 a.j.toNat,j4 a.d.toNat,j4 a.Z.toNat],.agg #[j3 b.n,j4 b.e0.toNat,j4 b.q.toNat,j4 b.o.toNat,j4 b.j.toNat,j4 b.d.toNat,j4 b.Z.toNat]] w λe w'=>e= .returned (j3 (ord a b))/\Below w.heap.size w w':=
 (bUz a b w).mono λe w' ⟨he,q,f,d,c⟩=>⟨he,by rw[c];exact bKb (((Below.refl _ _).alloc (B8 _) _).alloc m9 _) _⟩
set_option maxHeartbeats 1000000 in
theorem gU(A:Option Addr)(c:Nat)(xs:List Mono)(w:World)(ha:lR w A xs)(hx:xs.length<=140737488355328):
  Calls prog 43 #[.slice A xs.length c] w λe w'=>e= .returned (.bool (cK xs))/\Below w.heap.size w w':=by
 by_cases hl:xs.length<=48
 .have hl1:decide ((48:Int)<(xs.length:Int))=false:=by simp;omega
  have Ha:=U4 ha;clear ha
  go_enter func43,ntmps43
  go_wp2
  go_loopw [10] (λi wr=> ∃k:Nat,k<=xs.length/\i= .int .i64 k/\Hid (cK xs=fG (if k=0 then none else xs[k-1]?) (xs.drop k))/\Below w.heap.size w wr) (λi _=>xs.length-(intOf i).toNat)
  case atStart=>exact⟨0,S6 _,rfl,by show _=_;simp[cK,hl],Below.refl _ _⟩
  case round=>
   obtain⟨k,hk,rfl,hs,hbl⟩:=hrel
   by_cases hlt:k<xs.length
   .obtain⟨m,hm,dm⟩:=mS hlt;obtain⟨b,o,rfl,hB,c0,c1,c2,c3,c4,c5,c6⟩:=Ha.out.below hbl k m hm;have q0:fP (wr.alloc (.cells #[.int .i64 m.n,.int .u8 m.e0.toNat,.int .u8 m.q.toNat,.int .u8 m.o.toNat,.int .u8 m.j.toNat,.int .u8 m.d.toNat,.int .u8 m.Z.toNat] 111)) wr.heap.size 0 m:=by simp[fP,go_sem]
    have hb0:Below w.heap.size w (wr.alloc (.cells #[.int .i64 m.n,.int .u8 m.e0.toNat,.int .u8 m.q.toNat,.int .u8 m.o.toNat,.int .u8 m.j.toNat,.int .u8 m.d.toNat,.int .u8 m.Z.toNat] 111)):=hbl.alloc hbl.size _;have hz:wr.heap.size<(wr.alloc (.cells #[.int .i64 m.n,.int .u8 m.e0.toNat,.int .u8 m.q.toNat,.int .u8 m.o.toNat,.int .u8 m.j.toNat,.int .u8 m.d.toNat,.int .u8 m.Z.toNat] 111)).heap.size:=by simp
    have HB0:=U4 hb0;have Q0:=U4 q0;have Hz:=U4 hz;have hm':=hm;clear q0 hb0 hz hm hB;cases hsb:hJ m
    .have HS:=U4 (show cK xs=false by rw[hs.out,dm];split<;>(try cases xs[k-1]?)<;>simp[fG,hsb]);clear dm hs
     go_wp2
     clear c0 c1 c2 c3 c4 c5 c6;generalize hb:wr.heap.size=B at Q0 Hz⊢;generalize wr.alloc (.cells #[.int .i64 m.n,.int .u8 m.e0.toNat,.int .u8 m.q.toNat,.int .u8 m.o.toNat,.int .u8 m.j.toNat,.int .u8 m.d.toNat,.int .u8 m.Z.toNat] 111)=W0 at Q0 HB0 Hz⊢;clear hb hbl;have Hsm:=U4 (gG.calls (W0:=W0) λW _=>bIb m W);rw[hsb]at Hsm;obtain⟨r0,r1,r2,r3,r4,r5,r6⟩:=Q0.out.later0;clear Q0 Hz;refine mN j8 j8 ?_
     repeat (go_big_quiet_step ((go_at_call 98;exact Hsm.out _)))
     refine wpQuiet_nil ?_;rintro _ ⟨x,rfl⟩
     go_wp2
     go_ret
     exact⟨kV HS.out.symm,HB0.out.trans (x.h.mono HB0.out.size)⟩
    .rcases Nat.eq_zero_or_pos k with hk0|hk0
     .have hk1:decide (0<k)=false:=by simp;omega
      have HS:=U4 (show cK xs=fG (if k+1=0 then none else xs[k+1-1]?) (xs.drop (k+1)) by rw[hs.out,dm,if_pos hk0,if_neg j5,show k+1-1=k from rfl,hm'];simp[fG,hsb]);clear dm hs hk0 hm'
      go_wp2
      clear c0 c1 c2 c3 c4 c5 c6;generalize hb:wr.heap.size=B at Q0 Hz⊢;generalize wr.alloc (.cells #[.int .i64 m.n,.int .u8 m.e0.toNat,.int .u8 m.q.toNat,.int .u8 m.o.toNat,.int .u8 m.j.toNat,.int .u8 m.d.toNat,.int .u8 m.Z.toNat] 111)=W0 at Q0 HB0 Hz⊢;clear hb hbl;have Hsm:=U4 (gG.calls (W0:=W0) λW _=>bIb m W);rw[hsb]at Hsm;obtain⟨r0,r1,r2,r3,r4,r5,r6⟩:=Q0.out.later0;clear Q0 Hz;refine mN j8 j8 ?_
      repeat (go_big_quiet_step ((go_at_call 98;exact Hsm.out _)))
      refine wpQuiet_nil ?_;rintro _ ⟨x,rfl⟩
      go_wp2
      go_roundw
      case rel=>exact⟨k+1,j5,by go_num,HS,HB0.out.trans (x.h.mono HB0.out.size)⟩
      case measure=>simp[intOf];omega
     .have hk1:decide (0<k)=true:=by simp;omega
      obtain⟨j,rfl⟩: ∃j,k=j+1:=⟨k-1,j5⟩
      obtain⟨q,hq⟩: ∃q,xs[j]?=some q:=⟨xs[j]'j5,G1 _⟩
      have HS:=U4 (show cK xs=(decide (ord q m<0)&&fG (some m) (xs.drop (j+1+1))) by rw[hs.out,dm,if_neg j5,show j+1-1=j from rfl,hq];simp[fG,hsb]);have HM:=U4 hm'
      have p0:fP (wr.alloc (.cells #[.int .i64 m.n,.int .u8 m.e0.toNat,.int .u8 m.q.toNat,.int .u8 m.o.toNat,.int .u8 m.j.toNat,.int .u8 m.d.toNat,.int .u8 m.Z.toNat] 111)) b (o+j*7) q:=by
       obtain⟨b1,o1,e1,hB1,hm1⟩:=Ha.out.below hbl j q hq;injection e1 with e1
       injection e1 with e1 e2
       subst e1 e2;exact hm1.below ((Below.refl _ _).alloc (B8 _) _) hB1
      have P0:=U4 p0;clear dm hs hk0 hm' hq p0
      go_wp2
      clear c0 c1 c2 c3 c4 c5 c6;generalize hb:wr.heap.size=B at Q0 Hz⊢;generalize wr.alloc (.cells #[.int .i64 m.n,.int .u8 m.e0.toNat,.int .u8 m.q.toNat,.int .u8 m.o.toNat,.int .u8 m.j.toNat,.int .u8 m.d.toNat,.int .u8 m.Z.toNat] 111)=W0 at Q0 HB0 Hz P0⊢;clear hb hbl;have Hsm:=U4 (gG.calls (W0:=W0) λW _=>bIb m W);rw[hsb]at Hsm;have Hor:=U4 (gG.calls (W0:=W0) λW _=>order_below q m W);obtain⟨r0,r1,r2,r3,r4,r5,r6⟩:=Q0.out.later0;obtain⟨s0,s1,s2,s3,s4,s5,s6⟩:=P0.out.later;clear Q0 Hz P0;refine mN j8 j8 ?_
      repeat (go_big_quiet_step ((first|(go_at_call 98;exact Hsm.out _)|(go_at_call 99;exact Hor.out _))))
      refine wpQuiet_nil ?_;rintro _ ⟨x,rfl⟩;clear r0 r1 r2 r3 r4 r5 r6 s0 s1 s2 s3 s4 s5 s6 Hsm Hor;have HBX:=U4 (show Below w.heap.size w x.w from HB0.out.trans (x.h.mono HB0.out.size));clear HB0
      by_cases ho:ord q m<0
      .have ho1:decide ((0:Int)<=ord q m)=false:=by simp;omega
       go_wp2
       go_roundw
       case rel=>exact⟨j+1+1,j5,by go_num,w9,HBX.out⟩
       case measure=>simp[intOf];omega
      .have ho1:decide ((0:Int)<=ord q m)=true:=by simp;omega
       go_wp2
       go_ret
       exact⟨kV ac0,HBX.out⟩
   .have hk':k=xs.length:=j5
    go_wp2
    go_ret
    refine⟨kV ?_,hbl⟩;rw[hs.out,U8 j5];split<;>(try cases xs[k-1]?)<;>simp[fG]
 .have hl1:decide ((48:Int)<(xs.length:Int))=true:=by simp;omega
  go_enter func43,ntmps43
  go_wp2
  go_ret
  exact⟨kV (by simp[cK,hl]),Below.refl _ _⟩
end
section
open Go.RowKit Go.Sort Go.Proofs.Tryz
set_option maxRecDepth 100000
open Go.ChangeMaps (setBlock)
theorem bWd{α:Type}(f:α->Nat): ∀{l:List α},(l.map f).Nodup-> ∀p∈l,l.Perm (p::l.filter (λq=>f q !=f p))
 |[],_,p,hp=>by simp at hp
 |a::l,hn,p,hp=>by
  simp only[H6,List.nodup_cons]at hn
  rcases F1.1 hp with rfl|b
  .have e:l.filter (λq=>f q !=f p)=l:=by rw[List.filter_eq_self];intro q hq;rw[bne_iff_ne];intro h;exact hn.1 (P5.2 ⟨q,hq,h⟩)
   simp[e]
  .have c:f a≠f p:=λh=>hn.1 (P5.2 ⟨p,b,h.symm⟩);rw[U9 (by rw[bne_iff_ne];exact c)];exact((bWd f hn.2 p b).cons a).trans (List.Perm.swap _ _ _)
def yN (Z:List (MapEntry×Mono))(seen:Array Nat):List (MapEntry×Mono):=Z.filter λp=>!seen.contains p.1.born
def nz (m:Mono):Bool:=m.n !=0
theorem zip_mem{es:List MapEntry}{L:List Mono}(h:es.map kvE=L.map kvM){p:MapEntry×Mono}(hp:p∈es.zip L):kvE p.1=kvM p.2:=by
 induction es generalizing L with
 |nil=>simp at hp
 |cons e es ih=>
  cases L with
  |nil=>simp at hp
  |cons m L=>
   simp only[H6,List.cons.injEq]at h;simp only[List.zip_cons_cons,F1]at hp
   rcases hp with rfl|hp
   .exact h.1
   .exact ih h.2 hp
theorem bGx{es:Array MapEntry}{L:List Mono}(hl:es.toList.length=L.length)(seen:Array Nat):(yN (es.toList.zip L) seen).map (·.1)=(leftOf es seen).toList:=by unfold yN leftOf;rw[X0];rw[show(es.toList.zip L).filter (λp=>!seen.contains p.1.born)=(es.toList.zip L).filter ((λe:MapEntry=>!seen.contains e.born)∘Prod.fst)from rfl];rw[<-List.filter_map,V0 j5]
theorem left_step{es:Array MapEntry}{L:List Mono}(hkv:es.toList.map kvE=L.map kvM)(hnd:(es.toList.map (·.born)).Nodup){seen:Array Nat}{e:MapEntry}(he:e∈(leftOf es seen).toList):
  ∃m,e.key= .agg #[j4 m.e0.toNat,j4 m.q.toNat,j4 m.o.toNat,j4 m.j.toNat,j4 m.d.toNat,j4 m.Z.toNat]/\e.val= j3 m.n/\(yN (es.toList.zip L) seen).Perm ((e,m)::yN (es.toList.zip L) (seen.push e.born)):=by
 have hl:es.toList.length=L.length:=by simpa using congrArg U7 hkv
 rw[<-bGx hl]at he;obtain⟨⟨d,m⟩,c,rfl⟩:=P5.1 he;have b:=zip_mem hkv (V1.1 c).1;simp only[kvE,kvM,Prod.mk.injEq]at b;refine⟨m,b.1,b.2,?_⟩
 have a:((yN (es.toList.zip L) seen).map λp=>p.1.born).Nodup:=by
  have h1:((es.toList.zip L).map λp=>p.1.born).Nodup:=by rw[show(λp:MapEntry×Mono=>p.1.born)=(·.born)∘Prod.fst from rfl,<-List.map_map,V0 j5];exact hnd
  exact h1.sublist (List.Sublist.map _ List.filter_sublist)
 have h:=bWd (λp:MapEntry×Mono=>p.1.born) a (d,m) c;refine h.trans (List.Perm.of_eq ?_)
 congr 1
 unfold yN;rw[List.filter_filter];apply List.filter_congr;intro p _;simp only[Array.contains_push,Bool.not_or];cases seen.contains p.1.born<;>simp[bne]
def gV (L:List Mono):List Mono×Int:=if cK (lV L)then (lV L,0)else ([],21)
def bKj (w:World)(r:List Mono×Int)(e:Ending)(w':World):Prop:=
 ∃v,e= .returned (.tuple #[v,.int .i64 r.2])/\Below w.heap.size w w'/\Res w.heap.size w' v r.1
theorem bKj.B{w w':World}{r:List Mono×Int}{e:Ending}(h:bKj w r e w'): ∃A c,e= .returned (.tuple #[.slice A r.1.length c,j3 r.2])/\Below w.heap.size w w'/\lR w' A r.1:=by obtain⟨v,rfl,hb,A,c,rfl,hr⟩:=h;exact⟨A,c,rfl,hb,(Res.monos (B:=w.heap.size) ⟨A,c,rfl,hr⟩).1⟩
theorem bQd(m:Mono)(w:World):(Instr.build 111 #[(0,j3 m.n),(1,.agg #[j4 m.e0.toNat,j4 m.q.toNat,j4 m.o.toNat,j4 m.j.toNat,j4 m.d.toNat,j4 m.Z.toNat])]).run prog w= .ok (.agg #[j3 m.n,j4 m.e0.toNat,j4 m.q.toNat,j4 m.o.toNat,j4 m.j.toNat,j4 m.d.toNat,j4 m.Z.toNat]) w:=run_build w _ _ _ j8
theorem info_mono:(prog.info? 111).map (λi=>(i.zero,i.size,i.bytes))=some (some (.agg #[j3 0,j4 0,j4 0,j4 0,j4 0,j4 0,j4 0]),7,16):=j8
theorem cells_at{W:World}{g:Nat}{t:TypeId}{m:Mono}(hb:W.heap[g]?=some (.cells #[j3 m.n,j4 m.e0.toNat,j4 m.q.toNat,j4 m.o.toNat,j4 m.j.toNat,j4 m.d.toNat,j4 m.Z.toNat] t)): ∀j u,m.cells[j]?=some u->W.cell? ((⟨g,0,none⟩:Addr).add j)=some u:=λj u hu=>by
 have e:((⟨g,0,none⟩:Addr).add j)=⟨g,j,none⟩:=by unfold Addr.add;split<;>simp_all
 rw[e];unfold D8;rw[hb]
 simpa[Mono.cells]using hu
theorem bNf{w w1:World}{r:Nat}(o:Obj)(h:w1=w\/w1=w.drew):w.grownBy (setBlock w1 r o) (some r):=by
 have b: ∀h:Array Obj,h.size<=(h.setIfInBounds r o).size:=λh=>by simp
 have c: ∀(h:Array Obj) (i:Nat),r≠i->(h.setIfInBounds r o)[i]?=h[i]?:=λh i a=>by simp[a]
 rcases h with rfl|rfl<;>exact⟨rfl,rfl,rfl,b _,λi d a=>c _ _ (λe=>a (by rw[e]))⟩
theorem left_eq{W:World}{b r:Nat}{es:Array MapEntry}{L:List Mono}{c c' s:Nat}{x:Option Nat}{seen:Array Nat}(hl:es.toList.length=L.length)(h1:W.heap[b]?=some (.map es c))(h2:W.heap[r]?=some (.mapIter x s seen c')):
  W.rangeLeft b r=(yN (es.toList.zip L) seen).length:=by unfold World.rangeLeft;rw[h1,h2];show(leftOf es seen).size=_;rw[<-O1,<-bGx hl,I2]
theorem perm_skip{C F:List Mono}{Z Z':List (MapEntry×Mono)}{e:MapEntry}{m:Mono}(h:(C++(Z.map (·.2)).filter nz).Perm F)(hp:Z.Perm ((e,m)::Z'))(hm:nz m=false):(C++(Z'.map (·.2)).filter nz).Perm F:=by
 have h1:(Z.map (·.2)).Perm (m::Z'.map (·.2)):=by simpa using hp.map (·.2)
 have h2:=h1.filter nz;rw[List.filter_cons_of_neg (by rw[hm];simp)]at h2;exact(h2.symm.append_left C).trans h
theorem perm_take1{C F:List Mono}{Z Z':List (MapEntry×Mono)}{e:MapEntry}{m:Mono}(h:(C++(Z.map (·.2)).filter nz).Perm F)(hp:Z.Perm ((e,m)::Z'))(hm:nz m=true):(C++[m]++(Z'.map (·.2)).filter nz).Perm F:=by
 have h1:(Z.map (·.2)).Perm (m::Z'.map (·.2)):=by simpa using hp.map (·.2)
 have h2:=h1.filter nz;rw[U9 hm]at h2;rw[List.append_assoc];exact(h2.symm.append_left C).trans h
theorem owns_far{w w':World}{B it:Nat}{v:Value}{C:List Mono}(h:bSf w B v C)(hg:w.grownBy w' (some it))(hit:it<B):bSf w' B v C:=by
 refine World.ownsRow.kept h hg ?_
 rcases h.2 with ⟨rfl,_⟩|⟨g,b,a,rfl,hb,_⟩
 .exact .inl rfl
 .refine .inr λe=>?_;simp[Value.ownBlock]at e;omega
theorem own_ne{w:World}{B it:Nat}{v:Value}{C:List Mono}(h:bSf w B v C)(hit:it<B):some it≠v.ownBlock:=by
 rcases h.2 with ⟨rfl,_⟩|⟨g,b,a,rfl,hb,_⟩
 .simp[Value.ownBlock]
 .intro e;simp[Value.ownBlock]at e;omega
theorem bKf{B:Nat}{a w w':World}{row:Option Nat}(h:Below B a w)(hg:w.grownBy w' row)(hB:B<=w.heap.size)(hr: ∀k,row=some k->B<=k):Below B a w':=h.grown hg hB hr
set_option maxHeartbeats 1000000 in
theorem bNi(r:Nat)(L:List Mono)(w:World)(hm:nZ w r L)(hA:jQ L)(hL:L.length<=1000000):
  Calls prog 163 #[.map (some r)] w (bKj w (gV L)):=by
 obtain⟨es,clock,hb,hkv,hlt,hnd⟩:=hm;have hr:r<w.heap.size:=(N9.1 hb).1
 have hrange:(Instr.range 282 (.map (some r))).run prog w= .ok (.pointer (some ⟨w.heap.size,0,none⟩)) (w.alloc (.mapIter (some r) clock #[] clock)):=by unfold Instr.range;simp only[J0,run_underlying underlying282,J6,T5 hb,J1];rfl
 have HA:=U4 hA;have Hkv:=U4 hkv;have Hnd:=U4 hnd;have Hlt:=U4 hlt;have Hb:=U4 hb;clear hA hkv hnd hlt hb
 go_enter func163,ntmps163
 go_wp2
 go_loopw [4] (λv wr=> ∃(seen:Array Nat) (C:List Mono),wr.heap[w.heap.size]?=some (.mapIter (some r) clock seen clock)/\bSf wr (w.heap.size+1) v C/\Hid ((C++((yN (es.toList.zip L) seen).map (·.2)).filter nz).Perm (L.filter nz))/\Below w.heap.size w wr) (λ_ wr=>wr.rangeLeft r w.heap.size)
 case atStart=>
  refine⟨#[],[],heap_alloc_new _ _,World.ownsRow_nil _ _ _ _,?_,(Below.refl _ _).alloc (B8 _) _⟩;show List.Perm _ _;have hl:es.toList.length=L.length:=by simpa using congrArg U7 Hkv.out
  have e:yN (es.toList.zip L) #[]=es.toList.zip L:=by simp[yN]
  rw[e,List.map_snd_zip j5];simp
 case round=>
  obtain⟨seen,C,hit,hown,hperm,hbl⟩:=hrel;have hbr:wr.heap[r]?=some (.map es clock):=(hbl.block r hr).trans Hb.out
  rcases run_next_at (P:=prog) wr 0 w.heap.size r clock clock seen es clock hit hbr Hlt.out (B8 _)with ⟨h0,hn⟩|⟨e,he,w1,hw1,hn⟩
  .have hl:es.toList.length=L.length:=by simpa using congrArg U7 Hkv.out
   have hz:yN (es.toList.zip L) seen=[]:=by have h1:=bGx hl seen;rw[show(leftOf es seen).toList=[]from P8 (by simpa using h0)]at h1;exact List.map_eq_nil_iff.1 h1
   have hpm:C.Perm (L.filter nz):=by have:=hperm.out;rw[hz]at this;simpa using this
   have hCl:C.length<=1000000:=by have h1:=hpm.length_eq;have h2:=V2 nz L;omega
   have HC:=U4 (show ∀T:List Mono,T.Perm C->T.Pairwise (λa b=>b.key<=a.key)->T=lV L from λT h1 h2=>canon_of HA.out (h1.trans hpm) h2);have Hown:=U4 hown;have HBL:=U4 hbl;clear hit hbr hperm hpm hz hl h0 hown hbl
   rcases Hown.out.2 with ⟨hnil,hC⟩|⟨g,cap,cur,hv,hg,_⟩
   .go_wp2_with fail
    rw[hnil];refine(sort_none _ _ _).mono ?_;rintro e w1 ⟨rfl,hb1⟩;obtain rfl:C=[]:=P8 hC;have hcan:lV L=[]:=(HC.out [] (List.Perm.refl _) List.Pairwise.nil).symm;have Hcan:=U4 hcan;clear hcan;have hb1':=U4 hb1;clear hb1
    go_wp2_with fail
    refine(gU none 0 [] _ lR.nil m9).mono ?_;rintro e w2 ⟨rfl,hb2⟩;have hrb:cK []=true:=rfl;have HB2:=U4 (show Below w.heap.size w w2 from (HBL.out.trans (hb1'.out.mono HBL.out.size)).trans (hb2.mono (by have:=HBL.out.size;have:=hb1'.out.size;omega)));clear hb2 hb1' HBL
    go_wp2
    go_ret2
    have e:gV L=([],0):=by unfold gV;rw[Hcan.out];rfl
    rw[e];exact⟨_,rfl,HB2.out,Res.nil _ _ _ _⟩
   .have hrow:Row wr g C:=by have h:=Hown.out;rw[hv]at h;exact bSf.row h
    have hgl:g<wr.heap.size:=(World.ownsRow.lt Hown.out g (by rw[hv];rfl)).2;have HG:=U4 hg;have HR:=U4 hrow;clear hrow hg
    go_wp2_with fail
    rw[hv];refine(sort_any g cap C wr HR.out hgl j5).mono ?_;rintro e w1 ⟨rfl,T,hTp,hTs,hTr,hsz,hos,htp,hou,hkeep⟩;have hT:T=lV L:=HC.out T hTp hTs;have hTl:T.length=C.length:=hTp.length_eq;have hb1:Below w.heap.size w w1:=HBL.out.trans ⟨hos,htp,hou,hsz,λk hk=>hkeep k (B2 hk HBL.out.size) (by have:=HG.out;omega)⟩;have HB1:=U4 hb1;have hgl1:g<w1.heap.size:=B2 hgl hsz;have HTr:=U4 hTr;have HT:=U4 hT;have HTl:=U4 hTl;clear hTp hTs hTr hsz hos htp hou hkeep hT hTl hb1 HR HBL
    go_wp2_with fail
    rw[<-HTl.out];refine(gU _ cap T _ HTr.out.monos (by rw[HTl.out];omega)).mono ?_;rintro e w2 ⟨rfl,hb2⟩;have HB2:=U4 (show Below w.heap.size w w2 from HB1.out.trans (hb2.mono HB1.out.size));have HTr2:=U4 (show Row w2 g T from HTr.out.below hb2 hgl1);clear hb2 HB1 HTr;cases hrb:cK T
    .go_wp2
     go_ret2
     have e:gV L=([],21):=by unfold gV;rw[<-HT.out,hrb];rfl
     rw[e];exact⟨_,rfl,HB2.out,Res.nil _ _ _ _⟩
    .go_wp2
     go_ret2
     have e:gV L=(T,0):=by unfold gV;rw[<-HT.out,hrb];rfl
     rw[e];refine⟨_,rfl,HB2.out,some ⟨g,0,none⟩,cap,?_,.inr ⟨g,rfl,by have:=HG.out;omega,HTr2.out⟩⟩;simp[HTl.out]
  .obtain⟨m,hk,hv,hp⟩:=left_step Hkv.out Hnd.out he;rw[hk,hv]at hn
   obtain⟨W1,hW1⟩: ∃W1,W1=setBlock w1 w.heap.size (.mapIter (some r) clock (seen.push e.born) clock):=⟨_,rfl⟩
   rw[<-hW1]at hn;have hg1:wr.grownBy W1 (some w.heap.size):=by rw[hW1];exact bNf _ hw1
   have hit1:W1.heap[w.heap.size]?=some (.mapIter (some r) clock (seen.push e.born) clock):=by
    rw[hW1]
    have hlt:w.heap.size<w1.heap.size:=by
     have:=(N9.1 hit).1
     rcases hw1 with rfl|rfl<;>exact this
    simp[setBlock,hlt]
   have hbr1:W1.heap[r]?=some (.map es clock):=(hg1.block r (N9.1 hbr).1 (by intro h;injection h with h;omega)).trans hbr
   have hen:(Instr.entry (.pointer (some ⟨w.heap.size,0,none⟩))).run prog W1= .ok (.tuple #[.agg #[.int .u8 m.e0.toNat,.int .u8 m.q.toNat,.int .u8 m.o.toNat,.int .u8 m.j.toNat,.int .u8 m.d.toNat,.int .u8 m.Z.toNat],.int .i64 m.n]) W1:=by
    have:=run_entry_at (P:=prog) W1 w.heap.size r clock seen es clock e hit1 hbr1 (by
     have:=he;unfold leftOf at this;rw[X0]at this
     exact(V1.1 this).1) Hnd.out
    rw[hk,hv]at this;exact this
   have Hown:=U4 (owns_far hown hg1 (R9 _));have HBL:=U4 (bKf hbl hg1 hbl.size (λk hk=>by injection hk with hk;omega));have Hit:=U4 hit1;have Hbr:=U4 hbr1;have hl:es.toList.length=L.length:=by simpa using congrArg U7 Hkv.out
   have Hmes:=U4 (show wr.rangeLeft r w.heap.size=(yN (es.toList.zip L) (seen.push e.born)).length+1 by rw[left_eq hl hbr hit,hp.length_eq];rfl);have Hl:=U4 hl
   have hCl:C.length<=1000000:=by have h1:=hperm.out.length_eq;have h2:=V2 nz L;simp only[G4]at h1;omega
   have Hp:=U4 hp;clear hl hp;clear hW1 hg1 hit1 hbr1 hit hbr hown hbl hw1 he hk hv;have hbu:=bQd m
   by_cases hz:m.n=0
   .have hz1:(m.n !=0)=false:=by simp[hz]
    have Hz:=U4 hz;clear hz
    go_wp2
    have q1:(W1.alloc (.cells #[.int .u8 m.e0.toNat,.int .u8 m.q.toNat,.int .u8 m.o.toNat,.int .u8 m.j.toNat,.int .u8 m.d.toNat,.int .u8 m.Z.toNat] 109)).heap[w.heap.size]?=some (.mapIter (some r) clock (seen.push e.born) clock):=(Below.heap_alloc _ _ _ (N9.1 Hit.out).1).trans Hit.out;have q2:(W1.alloc (.cells #[.int .u8 m.e0.toNat,.int .u8 m.q.toNat,.int .u8 m.o.toNat,.int .u8 m.j.toNat,.int .u8 m.d.toNat,.int .u8 m.Z.toNat] 109)).heap[r]?=some (.map es clock):=(Below.heap_alloc _ _ _ (N9.1 Hbr.out).1).trans Hbr.out
    go_roundw
    case rel=>exact⟨seen.push e.born,C,q1,Hown.out.alloc _,perm_skip hperm.out Hp.out (by simp[nz,Hz.out]),HBL.out.alloc HBL.out.size _⟩
    case measure=>rw[left_eq Hl.out q2 q1,Hmes.out];omega
   .have hz1:(m.n !=0)=true:=by simp[hz]
    clear hz;obtain⟨i0,hi0,hi1,hi2,hi3⟩:=info_parts info_mono
    go_wp2_with (at_builtin;refine wpList_append_own_at _ rfl (.tmp 16) (.tmp 20) 43 rfl (w.heap.size+1) 111 i0 _ 7 16 underlying43 hi0 hi1 hi2 hi3 rfl l4 _ C.length (flat C) rfl ((Hown.out.alloc _).alloc _) ⟨W1.heap.size+1,0,none⟩ 1 1 m.cells rfl rfl ?hx ?h1 ?h2 ?h3 ?h4 ?_)
    case hx=>exact cells_at (by rw[<-World.size_alloc];exact heap_alloc_new _ _)
    case h1=>exact bVb m
    case h2=>unfold maxLen;omega
    case h3=>omega
    case h4=>have:=HBL.out.size;simp;omega
    intro v' w2 hown2 hgrow2 _ _;have hs2:=HBL.out.size
    have e1:((W1.alloc (.cells #[.int .u8 m.e0.toNat,.int .u8 m.q.toNat,.int .u8 m.o.toNat,.int .u8 m.j.toNat,.int .u8 m.d.toNat,.int .u8 m.Z.toNat] 109)).alloc (.cells #[.int .i64 m.n,.int .u8 m.e0.toNat,.int .u8 m.q.toNat,.int .u8 m.o.toNat,.int .u8 m.j.toNat,.int .u8 m.d.toNat,.int .u8 m.Z.toNat] 111)).heap[w.heap.size]?=some (.mapIter (some r) clock (seen.push e.born) clock):=by rw[Below.heap_alloc _ _ _ (by have:=(N9.1 Hit.out).1;simp;omega),Below.heap_alloc _ _ _ (N9.1 Hit.out).1];exact Hit.out
    have e2:((W1.alloc (.cells #[.int .u8 m.e0.toNat,.int .u8 m.q.toNat,.int .u8 m.o.toNat,.int .u8 m.j.toNat,.int .u8 m.d.toNat,.int .u8 m.Z.toNat] 109)).alloc (.cells #[.int .i64 m.n,.int .u8 m.e0.toNat,.int .u8 m.q.toNat,.int .u8 m.o.toNat,.int .u8 m.j.toNat,.int .u8 m.d.toNat,.int .u8 m.Z.toNat] 111)).heap[r]?=some (.map es clock):=by rw[Below.heap_alloc _ _ _ (by have:=(N9.1 Hbr.out).1;simp;omega),Below.heap_alloc _ _ _ (N9.1 Hbr.out).1];exact Hbr.out
    have q1:w2.heap[w.heap.size]?=some (.mapIter (some r) clock (seen.push e.born) clock):=(hgrow2.block _ (N9.1 e1).1 (own_ne Hown.out (R9 _))).trans e1;have q2:w2.heap[r]?=some (.map es clock):=(hgrow2.block _ (N9.1 e2).1 (own_ne Hown.out j5)).trans e2;have hb2:Below w.heap.size w ((W1.alloc (.cells #[.int .u8 m.e0.toNat,.int .u8 m.q.toNat,.int .u8 m.o.toNat,.int .u8 m.j.toNat,.int .u8 m.d.toNat,.int .u8 m.Z.toNat] 109)).alloc (.cells #[.int .i64 m.n,.int .u8 m.e0.toNat,.int .u8 m.q.toNat,.int .u8 m.o.toNat,.int .u8 m.j.toNat,.int .u8 m.d.toNat,.int .u8 m.Z.toNat] 111)):=(HBL.out.alloc hs2 _).alloc o6 _
    have hb3:Below w.heap.size w w2:=bKf hb2 hgrow2 hb2.size (λk hk=>by
     have:=(World.ownsRow.lt Hown.out k hk).1
     omega)
    have Q1:=U4 q1;have Q2:=U4 q2
    have HO2:=U4 (show bSf w2 (w.heap.size+1) v' (C++[m]) by
     have:=hown2;unfold bSf;rw[flat_snoc,G4]
     exact this)
    have HB3:=U4 hb3;clear e1 e2 q1 q2 hb2 hb3 hown2 hgrow2 Hown HBL Hit Hbr hs2 hi0 hi1 hi2 hi3 hbu hen hn
    go_wp2
    go_roundw
    case rel=>exact⟨seen.push e.born,C++[m],Q1.out,HO2.out,perm_take1 hperm.out Hp.out hz1,HB3.out⟩
    case measure=>rw[left_eq Hl.out Q2.out Q1.out,Hmes.out];omega
end
section
open Go.RowKit Go.Sort Go.Proofs.Tryz
set_option maxRecDepth 100000
open Go.ChangeMaps (setBlock)
def uF (m:Mono)(v:Int)(L:List Mono):List Mono:=setTo m (wrap64 (pW m L+v)) L
def gN (g:Mono->Int):List Mono->List Mono->List Mono
 |L,[]=>L
 |L,m::p=>gN g (uF m (g m) L) p
def bothP (p q:List Mono)(s:Int):List Mono×Int:=if cK p&&cK q then gV (gN (λm=>wrap64 (s*m.n)) (gN Mono.n [] p) q)else ([],20)
theorem nZ.alloc{w:World}{r:Nat}{L:List Mono}(h:nZ w r L)(o:Obj):nZ (w.alloc o) r L:=by obtain⟨b,a,hb,h1,h2,h3⟩:=h;exact⟨b,a,(Below.heap_alloc _ _ _ (N9.1 hb).1).trans hb,h1,h2,h3⟩
theorem nZ.drew{w:World}{r:Nat}{L:List Mono}(h:nZ w r L):nZ w.drew r L:=h
theorem nZ.new(w:World):nZ (w.alloc (.map #[] 0)) w.heap.size []:=⟨#[],0,heap_alloc_new _ _,rfl,m9,m9⟩
theorem sameE_E{k m:Mono}:k.sameE m=true↔k.key=m.key:=by rw[key_E];simp[Mono.sameE,Mono.E]
theorem bBd{k y:Mono}{x:Int}: ∀{L:List Mono},y∈setTo k x L->y={k with n:=x}\/(y∈L)
 |[],h=>by simp[setTo]at h;exact .inl h
 |m::L,h=>by
  unfold setTo at h;split at h
  .rcases F1.1 h with h|h
   .exact .inl h
   .exact .inr ab4
  .rcases F1.1 h with h|h
   .exact .inr ab4
   .rcases bBd h with h|h
    .exact .inl h
    .exact .inr ab4
theorem zR(k:Mono)(x:Int): ∀{L:List Mono},jQ L->jQ (setTo k x L)
 |[],_=>by simp[setTo,jQ]
 |m::L,h=>by
  obtain⟨h1,h2⟩:=F4.1 h;unfold setTo;split
  .rename_i b;have e:k.key=m.key:=sameE_E.1 b;refine F4.2 ⟨λy a=>?_,h2⟩;show k.key≠y.key;rw[e];exact h1 y a
  .rename_i b;refine F4.2 ⟨λy a=>?_,zR k x h2⟩
   rcases bBd a with rfl|a
   .intro e;exact b (sameE_E.2 e.symm)
   .exact h1 y a
theorem mG(g:Mono->Int): ∀(p:List Mono) {L:List Mono},jQ L->jQ (gN g L p)
 |[],_,h=>h
 |m::p,_,h=>mG g p (zR m _ h)
theorem tL(k:Mono)(x:Int): ∀L:List Mono,(setTo k x L).length<=L.length+1
 |[]=>by simp[setTo]
 |m::L=>by
  unfold setTo;split
  .simp
  .have:=tL k x L;simp;omega
theorem uE{B:Nat}{a w:World}{r:Nat}(h:Below B a w)(hB:B<=r)(o:Obj):Below B a (setBlock w r o):=
 ⟨h.os,h.tape,h.output,by
  have:=h.size
  simpa[setBlock]using this,λi c=>by
  have b:r≠i:=j5
  have:=h.block i c;rw[<-this]
  simp[setBlock,b]⟩
set_option maxHeartbeats 1000000 in
theorem both_any(A B:Option Addr)(c d:Nat)(p q:List Mono)(s:Int)(w:World)(ha:lR w A p)(hb:lR w B q)(hp:p.length<=140737488355328)(hq:q.length<=140737488355328):
  Calls prog 167 #[.slice A p.length c,.slice B q.length d,j3 s] w (bKj w (bothP p q s)):=by
 have Ha:=U4 ha;have Hb:=U4 hb;clear ha hb;cases hrp:cK p
 .have e:bothP p q s=([],20):=by unfold bothP;rw[hrp];rfl
  rw[e]
  go_enter func167,ntmps167
  go_wp2_with (go_at_call 43;refine(gU A c p _ Ha.out hp).mono ?_;rintro e w1 ⟨rfl,hb1⟩)
  go_ret2
  exact⟨_,rfl,hb1,Res.nil _ _ _ _⟩
 .cases hrq:cK q
  .have e:bothP p q s=([],20):=by unfold bothP;rw[hrp,hrq];rfl
   rw[e]
   go_enter func167,ntmps167
   go_wp2_with fail
   refine(gU A c p _ Ha.out hp).mono ?_;rintro e w1 ⟨rfl,hb1⟩;have H1:=U4 hb1;clear hb1
   go_wp2_with fail
   refine(gU B d q _ (Hb.out.below H1.out) hq).mono ?_;rintro e w2 ⟨rfl,hb2⟩;have H2:=U4 (show Below w.heap.size w w2 from H1.out.trans (hb2.mono H1.out.size));clear hb2
   go_wp2
   go_ret2
   exact⟨_,rfl,H2.out,Res.nil _ _ _ _⟩
  .have e:bothP p q s=gV (gN (λm=>wrap64 (s*m.n)) (gN Mono.n [] p) q):=by unfold bothP;rw[hrp,hrq];rfl
   rw[e]
   have hp48:p.length<=48:=by unfold cK at hrp;simp at hrp;exact hrp.1
   have hq48:q.length<=48:=by unfold cK at hrq;simp at hrq;exact hrq.1
   have hmm:= @run_makeMap prog
   go_enter func167,ntmps167
   go_wp2_with fail
   refine(gU A c p _ Ha.out hp).mono ?_;rintro e w1 ⟨rfl,hb1⟩;have H1:=U4 hb1;clear hb1
   go_wp2_with fail
   refine(gU B d q _ (Hb.out.below H1.out) hq).mono ?_;rintro e w2 ⟨rfl,hb2⟩;have H2:=U4 (show Below w.heap.size w w2 from H1.out.trans (hb2.mono H1.out.size));clear hb2 H1
   go_wp2
   generalize hr:w2.heap.size=r;have hrw:w.heap.size<=r:=by have:=H2.out.size;omega
   have hm0:nZ (w2.alloc (.map #[] 0)) r []:=by rw[<-hr];exact nZ.new _
   have hb0:Below w.heap.size w (w2.alloc (.map #[] 0)):=H2.out.alloc H2.out.size _;have HM0:=U4 hm0;have HB0:=U4 hb0;clear hm0 hb0 hr H2
   go_loopw [24] (λi wr=> ∃(k:Nat) (L:List Mono),k<=p.length/\i= .int .i64 k/\nZ wr r L/\L.length<=k/\Hid (gN Mono.n [] p=gN Mono.n L (p.drop k))/\Below w.heap.size w wr) (λi _=>p.length-(intOf i).toNat)
   case atStart=>exact⟨0,[],S6 _,rfl,HM0.out,m9,rfl,HB0.out⟩
   case round=>
    obtain⟨k,L,hk,rfl,hm,hLk,hL,hbl⟩:=hrel;have HM:=U4 hm;clear hm
    by_cases hlt:k<p.length
    .obtain⟨m,hm,dm⟩:=mS hlt;obtain⟨b,o,rfl,hB,c0,c1,c2,c3,c4,c5,c6⟩:=Ha.out.below hbl k m hm;have q0:fP (wr.alloc (.cells #[.int .i64 m.n,.int .u8 m.e0.toNat,.int .u8 m.q.toNat,.int .u8 m.o.toNat,.int .u8 m.j.toNat,.int .u8 m.d.toNat,.int .u8 m.Z.toNat] 111)) wr.heap.size 0 m:=by simp[fP,go_sem]
     have Q0:=U4 q0;have HM1:=U4 (HM.out.alloc (.cells #[.int .i64 m.n,.int .u8 m.e0.toNat,.int .u8 m.q.toNat,.int .u8 m.o.toNat,.int .u8 m.j.toNat,.int .u8 m.d.toNat,.int .u8 m.Z.toNat] 111));have HB1:=U4 (hbl.alloc hbl.size (.cells #[.int .i64 m.n,.int .u8 m.e0.toNat,.int .u8 m.q.toNat,.int .u8 m.o.toNat,.int .u8 m.j.toNat,.int .u8 m.d.toNat,.int .u8 m.Z.toNat] 111));have HL:=U4 (show gN Mono.n [] p=gN Mono.n (uF m m.n L) (p.drop (k+1)) by rw[hL.out,dm,gN]);clear q0 hm dm hB HM hL
     go_wp2
     clear c0 c1 c2 c3 c4 c5 c6;generalize hb:wr.heap.size=X at Q0⊢;generalize wr.alloc (.cells #[.int .i64 m.n,.int .u8 m.e0.toNat,.int .u8 m.q.toNat,.int .u8 m.o.toNat,.int .u8 m.j.toNat,.int .u8 m.d.toNat,.int .u8 m.Z.toNat] 111)=W0 at Q0 HM1 HB1⊢;clear hb hbl;obtain⟨q0,q1,q2,q3,q4,q5,q6⟩:=Q0.out.zero;have hlk:=nH m HM1.out.drew;obtain⟨v0,st,w3,w4,hme,hlk1,hes,hm4,o4,hw4⟩:=zP m (wrap64 (pW m L+m.n)) HM1.out.drew;have HM4:=U4 hm4;have HB4:=U4 (show Below w.heap.size w w4 by rw[hw4];exact uE HB1.out.drew hrw _);clear hm4 hw4 HM1 HB1 Q0
     go_region
     clear hlk hme hlk1 hes q0 q1 q2 q3 q4 q5 q6
     go_wp2
     go_roundw
     case rel=>exact⟨k+1,uF m m.n L,j5,by go_num,HM4.out,C0 (tL _ _ _) j5,HL,HB4.out⟩
     case measure=>simp[intOf];omega
    .have HL:=U4 (show gN Mono.n [] p=L by rw[hL.out,U8 j5,gN]);have hLk':L.length<=48:=j5
     have HBL:=U4 hbl;clear hL hbl
     go_wp2
     go_loopw [40] (λi wr=> ∃(k:Nat) (T:List Mono),k<=q.length/\i= .int .i64 k/\nZ wr r T/\T.length<=48+k/\Hid (gN (λm=>wrap64 (s*m.n)) L q=gN (λm=>wrap64 (s*m.n)) T (q.drop k))/\Below w.heap.size w wr) (λi _=>q.length-(intOf i).toNat)
     case atStart=>exact⟨0,L,S6 _,rfl,HM.out,j5,rfl,HBL.out⟩
     case round=>
      obtain⟨j,T,hj,rfl,hm,hTk,hT,hbl⟩:=hrel;have HMT:=U4 hm;clear hm HM HBL
      by_cases hlt2:j<q.length
      .obtain⟨m,hm,dm⟩:=mS hlt2;obtain⟨b,o,rfl,hB,c0,c1,c2,c3,c4,c5,c6⟩:=Hb.out.below hbl j m hm;have q0:fP (wr.alloc (.cells #[.int .i64 m.n,.int .u8 m.e0.toNat,.int .u8 m.q.toNat,.int .u8 m.o.toNat,.int .u8 m.j.toNat,.int .u8 m.d.toNat,.int .u8 m.Z.toNat] 111)) wr.heap.size 0 m:=by simp[fP,go_sem]
       have Q0:=U4 q0;have HM1:=U4 (HMT.out.alloc (.cells #[.int .i64 m.n,.int .u8 m.e0.toNat,.int .u8 m.q.toNat,.int .u8 m.o.toNat,.int .u8 m.j.toNat,.int .u8 m.d.toNat,.int .u8 m.Z.toNat] 111));have HB1:=U4 (hbl.alloc hbl.size (.cells #[.int .i64 m.n,.int .u8 m.e0.toNat,.int .u8 m.q.toNat,.int .u8 m.o.toNat,.int .u8 m.j.toNat,.int .u8 m.d.toNat,.int .u8 m.Z.toNat] 111));have HT:=U4 (show gN (λm=>wrap64 (s*m.n)) L q=gN (λm=>wrap64 (s*m.n)) (uF m (wrap64 (s*m.n)) T) (q.drop (j+1)) by rw[hT.out,dm,gN]);clear q0 hm dm hB HMT hT
       go_wp2
       clear c0 c1 c2 c3 c4 c5 c6;generalize hb:wr.heap.size=X at Q0⊢;generalize wr.alloc (.cells #[.int .i64 m.n,.int .u8 m.e0.toNat,.int .u8 m.q.toNat,.int .u8 m.o.toNat,.int .u8 m.j.toNat,.int .u8 m.d.toNat,.int .u8 m.Z.toNat] 111)=W0 at Q0 HM1 HB1⊢;clear hb hbl;obtain⟨q0,q1,q2,q3,q4,q5,q6⟩:=Q0.out.zero;have hlk:=nH m HM1.out.drew;obtain⟨v0,st,w3,w4,hme,hlk1,hes,hm4,o4,hw4⟩:=zP m (wrap64 (pW m T+wrap64 (s*m.n))) HM1.out.drew;have HM4:=U4 hm4;have HB4:=U4 (show Below w.heap.size w w4 by rw[hw4];exact uE HB1.out.drew hrw _);clear hm4 hw4 HM1 HB1 Q0
       go_region
       clear hlk hme hlk1 hes q0 q1 q2 q3 q4 q5 q6
       go_wp2
       go_roundw
       case rel=>exact⟨j+1,uF m (wrap64 (s*m.n)) T,j5,by go_num,HM4.out,C0 (tL _ _ _) j5,HT,HB4.out⟩
       case measure=>simp[intOf];omega
      .have HT:=U4 (show gN (λm=>wrap64 (s*m.n)) (gN Mono.n [] p) q=T by rw[HL.out,hT.out,U8 j5,gN]);have HBL:=U4 hbl;have hT96:T.length<=1000000:=j5
       clear hT hbl HL
       go_wp2_with fail
       refine(bNi r T _ HMT.out (by rw[<-HT.out];exact mG _ _ (mG _ _ List.Pairwise.nil)) hT96).mono ?_;rintro e w5 ⟨v,rfl,hb5,hv⟩;have HV:=U4 (hv.mono HBL.out.size);have HB5:=U4 (HBL.out.trans (hb5.mono HBL.out.size));clear hb5 hv
       go_wp2
       go_ret2
       rw[HT.out];exact⟨_,rfl,HB5.out,HV.out⟩
end
section
open Go.RowKit Go.Sort Go.Proofs.Tryz
set_option maxRecDepth 100000
open Go.ChangeMaps (setBlock)
def mulM (a b:Mono):Mono:=⟨wrap64 (a.n*b.n),a.e0+b.e0,a.q+b.q,a.o+b.o,a.j+b.j,a.d+b.d,a.Z+b.Z⟩
def mH (a:Mono):List Mono->List Mono->List Mono
 |L,[]=>L
 |L,b::q=>mH a (uF (mulM a b) (wrap64 (a.n*b.n)) L) q
def iQ (q:List Mono):List Mono->List Mono->List Mono
 |L,[]=>L
 |L,a::p=>iQ q (mH a L q) p
def nD (p q:List Mono):List Mono×Int:=if cK p&&cK q then gV (iQ q [] p)else ([],20)
theorem bGf(a:Mono): ∀(q:List Mono) {L:List Mono},jQ L->jQ (mH a L q)
 |[],_,h=>h
 |_::q,_,h=>bGf a q (zR _ _ h)
theorem tP(q:List Mono): ∀(p:List Mono) {L:List Mono},jQ L->jQ (iQ q L p)
 |[],_,h=>h
 |a::p,_,h=>tP q p (bGf a q h)
theorem fP.setBlock_far{w:World}{b o r:Nat}{m:Mono}(h:fP w b o m)(hne:b≠r)(x:Obj):fP (setBlock w r x) b o m:=by
 have a: ∀c,(setBlock w r x).cell? ⟨b,c,none⟩=w.cell? ⟨b,c,none⟩:=λc=>by
  have:(w.heap.setIfInBounds r x)[b]?=w.heap[b]?:=by simp[Ne.symm hne]
  simp only[D8,setBlock,this]
 obtain⟨h0,h1,h2,h3,h4,e,d⟩:=h;exact⟨(a _).trans h0,(a _).trans h1,(a _).trans h2,(a _).trans h3,(a _).trans h4,(a _).trans e,(a _).trans d⟩
theorem fP.lt{w:World}{b o:Nat}{m:Mono}(h:fP w b o m):b<w.heap.size:=by
 rcases A8 b w.heap.size with hlt|a
 .exact hlt
 .have:=h.1;simp[D8,E0 a]at this
theorem bHg(a b:UInt8):((a.toNat:Int)+(b.toNat:Int))%256=((a+b).toNat:Int):=by rw[UInt8.toNat_add];omega
def ExpAt (w:World)(b:Nat)(m:Mono):Prop:=
 w.cell? ⟨b,0,none⟩=some (.int .u8 m.e0.toNat)/\w.cell? ⟨b,1,none⟩=some (.int .u8 m.q.toNat)/\w.cell? ⟨b,2,none⟩=some (.int .u8 m.o.toNat)/\
 w.cell? ⟨b,3,none⟩=some (.int .u8 m.j.toNat)/\w.cell? ⟨b,4,none⟩=some (.int .u8 m.d.toNat)/\w.cell? ⟨b,5,none⟩=some (.int .u8 m.Z.toNat)
set_option maxHeartbeats 2000000 in
theorem mul_any(A B:Option Addr)(c d:Nat)(p q:List Mono)(w:World)(ha:lR w A p)(hb:lR w B q)(hp:p.length<=140737488355328)(hq:q.length<=140737488355328):
  Calls prog 94 #[.slice A p.length c,.slice B q.length d] w (bKj w (nD p q)):=by
 have Ha:=U4 ha;have Hb:=U4 hb;clear ha hb;cases hrp:cK p
 .have e:nD p q=([],20):=by unfold nD;rw[hrp];rfl
  rw[e]
  go_enter func94,ntmps94
  go_wp2_with (go_at_call 43;refine(gU A c p _ Ha.out hp).mono ?_;rintro e w1 ⟨rfl,hb1⟩)
  go_ret2
  exact⟨_,rfl,hb1,Res.nil _ _ _ _⟩
 .cases hrq:cK q
  .have e:nD p q=([],20):=by unfold nD;rw[hrp,hrq];rfl
   rw[e]
   go_enter func94,ntmps94
   go_wp2_with fail
   refine(gU A c p _ Ha.out hp).mono ?_;rintro e w1 ⟨rfl,hb1⟩;have H1:=U4 hb1;clear hb1
   go_wp2_with fail
   refine(gU B d q _ (Hb.out.below H1.out) hq).mono ?_;rintro e w2 ⟨rfl,hb2⟩;have H2:=U4 (show Below w.heap.size w w2 from H1.out.trans (hb2.mono H1.out.size));clear hb2
   go_wp2
   go_ret2
   exact⟨_,rfl,H2.out,Res.nil _ _ _ _⟩
  .have e:nD p q=gV (iQ q [] p):=by unfold nD;rw[hrp,hrq];rfl
   rw[e]
   have hp48:p.length<=48:=by unfold cK at hrp;simp at hrp;exact hrp.1
   have hq48:q.length<=48:=by unfold cK at hrq;simp at hrq;exact hrq.1
   have hmm:= @run_makeMap prog
   go_enter func94,ntmps94
   go_wp2_with fail
   refine(gU A c p _ Ha.out hp).mono ?_;rintro e w1 ⟨rfl,hb1⟩;have H1:=U4 hb1;clear hb1
   go_wp2_with fail
   refine(gU B d q _ (Hb.out.below H1.out) hq).mono ?_;rintro e w2 ⟨rfl,hb2⟩;have H2:=U4 (show Below w.heap.size w w2 from H1.out.trans (hb2.mono H1.out.size));clear hb2 H1
   go_wp2
   generalize hr:w2.heap.size=r;have hrw:w.heap.size<=r:=by have:=H2.out.size;omega
   have hm0:nZ (w2.alloc (.map #[] 0)) r []:=by rw[<-hr];exact nZ.new _
   have hb0:Below w.heap.size w (w2.alloc (.map #[] 0)):=H2.out.alloc H2.out.size _;have HM0:=U4 hm0;have HB0:=U4 hb0;clear hm0 hb0 hr H2
   go_loopw [24] (λi wr=> ∃(k:Nat) (L:List Mono),k<=p.length/\i= .int .i64 k/\nZ wr r L/\L.length<=k*48/\Hid (iQ q [] p=iQ q L (p.drop k))/\Below w.heap.size w wr) (λi _=>p.length-(intOf i).toNat)
   case atStart=>exact⟨0,[],S6 _,rfl,HM0.out,m9,rfl,HB0.out⟩
   case round=>
    obtain⟨k,L,hk,rfl,hm,hLk,hL,hbl⟩:=hrel;have HM:=U4 hm;clear hm
    by_cases hlt:k<p.length
    .obtain⟨a,hm,dm⟩:=mS hlt;obtain⟨b,o,rfl,hB,c0,c1,c2,c3,c4,c5,c6⟩:=Ha.out.below hbl k a hm;have q0:fP (wr.alloc (.cells #[.int .i64 a.n,.int .u8 a.e0.toNat,.int .u8 a.q.toNat,.int .u8 a.o.toNat,.int .u8 a.j.toNat,.int .u8 a.d.toNat,.int .u8 a.Z.toNat] 111)) wr.heap.size 0 a:=by simp[fP,go_sem]
     have hrx:r<wr.heap.size:=by obtain⟨es,cl,h,_⟩:=HM.out;exact(N9.1 h).1
     have Q0:=U4 q0;have HM1:=U4 (HM.out.alloc (.cells #[.int .i64 a.n,.int .u8 a.e0.toNat,.int .u8 a.q.toNat,.int .u8 a.o.toNat,.int .u8 a.j.toNat,.int .u8 a.d.toNat,.int .u8 a.Z.toNat] 111));have HB1:=U4 (hbl.alloc hbl.size (.cells #[.int .i64 a.n,.int .u8 a.e0.toNat,.int .u8 a.q.toNat,.int .u8 a.o.toNat,.int .u8 a.j.toNat,.int .u8 a.d.toNat,.int .u8 a.Z.toNat] 111));have HL:=U4 (show iQ q [] p=iQ q (mH a L q) (p.drop (k+1)) by rw[hL.out,dm,iQ]);clear q0 hm dm hB HM hL
     go_wp2
     clear c0 c1 c2 c3 c4 c5 c6;generalize wr.heap.size=X at Q0 hrx⊢;generalize wr.alloc (.cells #[.int .i64 a.n,.int .u8 a.e0.toNat,.int .u8 a.q.toNat,.int .u8 a.o.toNat,.int .u8 a.j.toNat,.int .u8 a.d.toNat,.int .u8 a.Z.toNat] 111)=W0 at Q0 HM1 HB1⊢;clear hbl
     go_loopw [30] (λi wi=> ∃(j:Nat) (T:List Mono),j<=q.length/\i= .int .i64 j/\nZ wi r T/\T.length<=k*48+j/\Hid (mH a L q=mH a T (q.drop j))/\Below w.heap.size w wi/\fP wi X 0 a) (λi _=>q.length-(intOf i).toNat)
     case atStart=>exact⟨0,L,S6 _,rfl,HM1.out,j5,rfl,HB1.out,Q0.out⟩
     case round=>
      obtain⟨j,T,hj,rfl,hm,hTk,hT,hbl,ha0⟩:=hrel;have HMT:=U4 hm;have HA0:=U4 ha0;clear hm ha0 HM1 HB1 Q0
      by_cases hlt2:j<q.length
      .obtain⟨b',hm,dm⟩:=mS hlt2;obtain⟨g,o',rfl,hB,d0,d1,d2,d3,d4,d5,d6⟩:=Hb.out.below hbl j b' hm;obtain⟨a0,a1,a2,a3,a4,a5,a6⟩:=HA0.out.zero;have hX:X<wr.heap.size:=fP.lt HA0.out
       obtain⟨t,ht⟩: ∃t,t=mulM a b':=⟨_,rfl⟩
       have HT:=U4 (show mH a L q=mH a (uF t (wrap64 (a.n*b'.n)) T) (q.drop (j+1)) by rw[hT.out,dm,mH,ht]);have s0:((a.e0.toNat:Int)+(b'.e0.toNat:Int))%256=(t.e0.toNat:Int):=by rw[ht];exact bHg a.e0 b'.e0
       have s1:((a.q.toNat:Int)+(b'.q.toNat:Int))%256=(t.q.toNat:Int):=by rw[ht];exact bHg a.q b'.q
       have s2:((a.o.toNat:Int)+(b'.o.toNat:Int))%256=(t.o.toNat:Int):=by rw[ht];exact bHg a.o b'.o
       have s3:((a.j.toNat:Int)+(b'.j.toNat:Int))%256=(t.j.toNat:Int):=by rw[ht];exact bHg a.j b'.j
       have s4:((a.d.toNat:Int)+(b'.d.toNat:Int))%256=(t.d.toNat:Int):=by rw[ht];exact bHg a.d b'.d
       have s5:((a.Z.toNat:Int)+(b'.Z.toNat:Int))%256=(t.Z.toNat:Int):=by rw[ht];exact bHg a.Z b'.Z
       have S0:=U4 s0;have S1:=U4 s1;have S2:=U4 s2;have S3:=U4 s3;have S4:=U4 s4;have S5:=U4 s5;have HBL:=U4 hbl;clear hm dm hT ht s0 s1 s2 s3 s4 s5 hbl hB
       go_wp2
       clear d0 d1 d2 d3 d4 d5 d6;refine wp_loop_rounds 7 ?_;rw[rounds_succ]
       go_wp2
       go_region
       go_wp2
       rw[rounds_succ]
       go_wp2
       go_region
       go_wp2
       rw[rounds_succ]
       go_wp2
       go_region
       go_wp2
       rw[rounds_succ]
       go_wp2
       go_region
       go_wp2
       rw[rounds_succ]
       go_wp2
       go_region
       go_wp2
       rw[rounds_succ]
       go_wp2
       go_region
       go_wp2
       rw[rounds_succ]
       go_wp2
       rw[S0.out,S1.out,S2.out,S3.out,S4.out,S5.out];have kE:ExpAt ((wr.alloc (.cells #[.int .i64 b'.n,.int .u8 b'.e0.toNat,.int .u8 b'.q.toNat,.int .u8 b'.o.toNat,.int .u8 b'.j.toNat,.int .u8 b'.d.toNat,.int .u8 b'.Z.toNat] 111)).alloc (.cells #[.int .u8 t.e0.toNat,.int .u8 t.q.toNat,.int .u8 t.o.toNat,.int .u8 t.j.toNat,.int .u8 t.d.toNat,.int .u8 t.Z.toNat] 109)).drew.drew.drew.drew.drew.drew (wr.heap.size+1) t:=by simp[ExpAt,go_sem]
       have kB:fP ((wr.alloc (.cells #[.int .i64 b'.n,.int .u8 b'.e0.toNat,.int .u8 b'.q.toNat,.int .u8 b'.o.toNat,.int .u8 b'.j.toNat,.int .u8 b'.d.toNat,.int .u8 b'.Z.toNat] 111)).alloc (.cells #[.int .u8 t.e0.toNat,.int .u8 t.q.toNat,.int .u8 t.o.toNat,.int .u8 t.j.toNat,.int .u8 t.d.toNat,.int .u8 t.Z.toNat] 109)).drew.drew.drew.drew.drew.drew wr.heap.size 0 b':=by simp[fP,go_sem]
       have kX:Below wr.heap.size wr ((wr.alloc (.cells #[.int .i64 b'.n,.int .u8 b'.e0.toNat,.int .u8 b'.q.toNat,.int .u8 b'.o.toNat,.int .u8 b'.j.toNat,.int .u8 b'.d.toNat,.int .u8 b'.Z.toNat] 111)).alloc (.cells #[.int .u8 t.e0.toNat,.int .u8 t.q.toNat,.int .u8 t.o.toNat,.int .u8 t.j.toNat,.int .u8 t.d.toNat,.int .u8 t.Z.toNat] 109)).drew.drew.drew.drew.drew.drew:=by go_grown
       have kA:=HA0.out.below kX hX;have kM:nZ ((wr.alloc (.cells #[.int .i64 b'.n,.int .u8 b'.e0.toNat,.int .u8 b'.q.toNat,.int .u8 b'.o.toNat,.int .u8 b'.j.toNat,.int .u8 b'.d.toNat,.int .u8 b'.Z.toNat] 111)).alloc (.cells #[.int .u8 t.e0.toNat,.int .u8 t.q.toNat,.int .u8 t.o.toNat,.int .u8 t.j.toNat,.int .u8 t.d.toNat,.int .u8 t.Z.toNat] 109)).drew.drew.drew.drew.drew.drew r T:=(HMT.out.alloc _).alloc _;have kW:=HBL.out.trans (kX.mono HBL.out.size);have KE:=U4 kE;have KB:=U4 kB;have KA:=U4 kA;have KM:=U4 kM;have KW:=U4 kW;clear kE kB kX kA kM kW a0 a1 a2 a3 a4 a5 a6 S0 S1 S2 S3 S4 S5 HMT HBL HA0 hX;generalize ((wr.alloc (.cells #[.int .i64 b'.n,.int .u8 b'.e0.toNat,.int .u8 b'.q.toNat,.int .u8 b'.o.toNat,.int .u8 b'.j.toNat,.int .u8 b'.d.toNat,.int .u8 b'.Z.toNat] 111)).alloc (.cells #[.int .u8 t.e0.toNat,.int .u8 t.q.toNat,.int .u8 t.o.toNat,.int .u8 t.j.toNat,.int .u8 t.d.toNat,.int .u8 t.Z.toNat] 109)).drew.drew.drew.drew.drew.drew=W5 at KE KB KA KM KW⊢;generalize wr.heap.size=Y at KE KB⊢;obtain⟨x0,x1,x2,x3,x4,x5⟩:=KE.out;obtain⟨y0,y1,y2,y3,y4,y5,y6⟩:=KB.out.zero;obtain⟨z0,z1,z2,z3,z4,z5,z6⟩:=KA.out.zero;have hlk:=nH t KM.out.drew;obtain⟨v0,st,w3,w4,hme,hlk1,hes,hm4,o4,hw4⟩:=zP t (wrap64 (pW t T+wrap64 (a.n*b'.n))) KM.out.drew;have HM4:=U4 hm4;have HB4:=U4 (show Below w.heap.size w w4 by rw[hw4];exact uE KW.out.drew hrw _);have HA4:=U4 (show fP w4 X 0 a by rw[hw4];exact fP.setBlock_far (show fP W5.drew X 0 a from KA.out) j5 _);clear hm4 hw4 KE KB KA KM KW
       go_region
       clear hlk hme hlk1 hes x0 x1 x2 x3 x4 x5 y0 y1 y2 y3 y4 y5 y6 z0 z1 z2 z3 z4 z5 z6
       go_wp2
       go_roundw
       case rel=>exact⟨j+1,uF t (wrap64 (a.n*b'.n)) T,j5,by go_num,HM4.out,C0 (tL _ _ _) j5,HT,HB4.out,HA4.out⟩
       case measure=>simp[intOf];omega
      .have HT:=U4 (show iQ q [] p=iQ q T (p.drop (k+1)) by rw[HL.out,hT.out,U8 j5,mH]);have HBL:=U4 hbl;have hT2:T.length<=(k+1)*48:=j5
       clear hT hbl HL HA0
       go_wp2
       go_roundw
       case rel=>exact⟨k+1,T,j5,by go_num,HMT.out,hT2,HT,HBL.out⟩
       case measure=>simp[intOf];omega
    .have HT:=U4 (show iQ q [] p=L by rw[hL.out,U8 j5,iQ]);have HBL:=U4 hbl;have hT96:L.length<=1000000:=j5
     clear hL hbl
     go_wp2_with fail
     refine(bNi r L _ HM.out (by rw[<-HT.out];exact tP _ _ List.Pairwise.nil) hT96).mono ?_;rintro e w5 ⟨v,rfl,hb5,hv⟩;have HV:=U4 (hv.mono HBL.out.size);have HB5:=U4 (HBL.out.trans (hb5.mono HBL.out.size));clear hb5 hv
     go_wp2
     go_ret2
     rw[HT.out];exact⟨_,rfl,HB5.out,HV.out⟩
end
section
open Go.Proofs.Tryz
namespace X
open Go.RowKit Go.Proofs.Tryz
noncomputable section
def monoO (cs:List V):Option Mono:=match cs with
 |[n,a,b,c,d,e,f]=>asI n λk z=>gd (isI64 k) (ob (byteX a) λa=>ob (byteX b) λb=>ob (byteX c) λc=>ob (byteX d) λd=>ob (byteX e) λe=>ob (byteX f) λf=>some ⟨z,N8 a,N8 b,N8 c,N8 d,N8 e,N8 f⟩)
 |_=>none
def monoV (m:Mono):List V:=[.i .i64 m.n,.i .u8 m.e0.toNat,.i .u8 m.q.toNat,.i .u8 m.o.toNat,.i .u8 m.j.toNat,.i .u8 m.d.toNat,.i .u8 m.Z.toNat]
def insK (m:Mono):List Mono->List Mono
 |[]=>[m]
 |x::r=>sel (Nat.ble m.key x.key) (x::insK m r) (m::x::r)
def sortK:List Mono->List Mono
 |[]=>[]
 |m::r=>insK m (sortK r)
def bLp (L:List Mono):List Mono×Int:=(λc=>sel (cK c) (c,0) ([],21)) (sortK (L.filter λm=>m.n !=0))
def bothF (p q:List Mono)(s:Int):List Mono×Int:=sel (cK p&&cK q) (bLp (gN (λm=>wrap64 (s*m.n)) (gN Mono.n [] p) q)) ([],20)
def mulF (p q:List Mono):List Mono×Int:=sel (cK p&&cK q) (bLp (iQ q [] p)) ([],20)
end
theorem bHc(m:Mono): ∀l:List Mono,(insK m l).Perm (m::l)
 |[]=> .refl _
 |x::r=>by
  unfold insK;rw[cP];split
  .exact((bHc m r).cons x).trans (.swap m x r)
  .exact .refl _
theorem bKq(m:Mono): ∀l:List Mono,l.Pairwise (λa b=>b.key<=a.key)->(insK m l).Pairwise (λa b=>b.key<=a.key)
 |[],_=>by simp[insK]
 |x::r,h=>by
  obtain⟨h1,h2⟩:=F4.1 h;unfold insK;rw[cP];split
  .rename_i d;refine F4.2 ⟨λy c=>?_,bKq m r h2⟩
   rcases F1.1 ((bHc m r).mem_iff.1 c)with rfl|c
   .exact gB d
   .exact h1 y c
  .rename_i d
   have d:x.key<=m.key:=by
    rcases A8 m.key x.key with h|h
    .exact absurd (show Nat.ble m.key x.key=true by rw[Nat.ble_eq];exact Nat.le_of_lt h) d
    .exact h
   refine F4.2 ⟨λy c=>?_,h⟩
   rcases F1.1 c with rfl|c
   .exact d
   .exact C0 (h1 y c) d
theorem bOx: ∀l:List Mono,(sortK l).Perm l
 |[]=> .refl _
 |m::r=>(bHc m _).trans ((bOx r).cons m)
theorem bEo: ∀l:List Mono,(sortK l).Pairwise (λa b=>b.key<=a.key)
 |[]=> .nil
 |m::r=>bKq m _ (bEo r)
theorem bPm{L:List Mono}(h:jQ L):bLp L=gV L:=by unfold bLp gV;rw[canon_of h (bOx _) (bEo _)];show sel (cK (lV L)) (lV L,0) ([],21)=_;rw[cP]
theorem bothF_eq(p q:List Mono)(s:Int):bothF p q s=bothP p q s:=by unfold bothF bothP;rw[cP,bPm (mG _ _ (mG _ _ List.Pairwise.nil))]
theorem mulF_eq(p q:List Mono):mulF p q=nD p q:=by unfold mulF nD;rw[cP,bPm (tP _ _ List.Pairwise.nil)]
section
variable [Ctx] {α : As} {s s' : St} {w w' : World}
omit [Ctx]in
theorem bBo{v:V}{n:Nat}(h:byteX v=some n):v= .i .u8 (.ofNat n)/\n<256:=by
 unfold byteX at h;split at h
 .rename_i x;obtain⟨h1,h2⟩:=bQ h;cases h2;exact⟨rfl,by simpa using h1⟩
 .cases h
omit [Ctx]in
theorem mono_is{cs:List V}{m:Mono}(h:monoO cs=some m):cs=monoV m:=by
 unfold monoO at h;split at h
 .rename_i n a b c d e f;obtain⟨k,z,rfl,h1⟩:=mM h;obtain⟨h2,h3⟩:=bQ h1;obtain⟨y,r,h3⟩:=bB h3;obtain⟨x,hb,h3⟩:=bB h3;obtain⟨w,q,h3⟩:=bB h3;obtain⟨v,hd,h3⟩:=bB h3;obtain⟨t,he,h3⟩:=bB h3;obtain⟨s,p,h3⟩:=bB h3;cases h3;obtain⟨rfl,l⟩:=bBo r;obtain⟨rfl,j⟩:=bBo hb;obtain⟨rfl,lc⟩:=bBo q;obtain⟨rfl,i⟩:=bBo hd;obtain⟨rfl,le⟩:=bBo he;obtain⟨rfl,g⟩:=bBo p;have u: ∀n:Nat,n<256->(N8 n).toNat=n:=λn hn=>by simp;omega
  have o:k= .i64:=by cases k<;>first|rfl|cases h2
  subst o;simp only[monoV,u _ l,u _ j,u _ lc,u _ i,u _ le,u _ g];rfl
 .cases h
end
end X
end
section
open Go.Proofs.Tryz
namespace X
open Go.RowKit Go.Proofs.Tryz
noncomputable section
def upN (n0 d k:Nat):Nat:=sel (C2 k n0) k (k+d)
def Cap.up(dc:Nat):Cap->Cap
 |.n c=> .n c
 |.s k d=> .s (k+dc) d
def upD (n0 d dc f:Nat):V->V:=Nat.rec (motive:=λ_=>V->V) (λv=>v) (λ_ ih v=>match v with
 |.p k o=> .p (upN n0 d k) o
 |.l k o n c=> .l (upN n0 d k) o n (c.up dc)
 |.z k o o' c=> .z (upN n0 d k) o o' (c+dc)
 |.y c=> .y (c+dc)
 |.m k=> .m (upN n0 d k)
 |.f fn a c=> .f fn (a.map ih) (c.map ih)
 |.e t v=> .e t (ih v)
 |.g cs=> .g (cs.map ih)
 |.t vs=> .t (vs.map ih)
 |v=>v) f
def V.up (n0 d dc:Nat)(v:V):V:=upD n0 d dc 5 v
def Blk.up(n0 d dc:Nat):Blk->Blk
 |.cells cs t ext ro=> .cells (cs.map (V.up n0 d dc)) t (ext.map λk=>k+dc) ro
 |.map es c=> .map (es.map λx=>(x.1.up n0 d dc,x.2.1.up n0 d dc,x.2.2)) c
 |.win cs=> .win (cs.map (V.up n0 d dc))
 |b=>b
def baseH (K:List (Nat×Nat)):T Blk:=List.rec .lf (λx _ ih=>ih.set (some (.know x.2)) fuelT x.1) K
def yH (D:List Nat)(s:St):Option (List (Nat×Blk)):=bKv (λk=>ob (s.h.get k) λx=>some (k,x)) D
section
variable [Ctx]
def baseS (K:List (Nat×Nat)):St:={h:=baseH K,n:=Ctx.n0,c:=0}
end
end
def As.up (α β:As)(n c d:Nat):As:={blk:=λk=>if k<n then α.blk k else β.blk (k-d),room:=λk=>if k<c then α.room k else β.room (k-c),place:=λk=>if k<c then α.place k else β.place (k-c)}
section
variable {α β : As} {n0 n c d n1 c1 : Nat}
theorem bIk: ∀{K:List (Nat×Nat)} {k:Nat} {x:Blk},(baseH K).get k=some x-> ∃m,(k,m)∈K/\x= .know m
 |[],_,_,h=>by cases h
 |y::K,k,x,h=>by
  have h:((baseH K).set (some (.know y.2)) fuelT y.1).get k=some x:=h
  rcases T.get_set_fuel _ _ _ _ _ _ h with ⟨rfl,e⟩|⟨_,h⟩
  .cases e;exact⟨y.2,F9 ..,rfl⟩
  .obtain⟨m,a,h1⟩:=bIk h;exact⟨m,F3 _ a,h1⟩
end
section
variable [Ctx] {α β : As} {s : St} {w w' : World} {n0 n c d n1 c1 : Nat}
variable [Good]
theorem ran_true{f:FuncId}{N:Nat}{K:List (Nat×Nat)}{s':St}(h:callF f (bDd N) [] (baseS K)=some (.b true,s'))(hs:Sim α (baseS K) w):
  (callFunc f #[]).run Ctx.P w= .ok (.enter f #[]) w/\Calls Ctx.P f #[] w λe w'=>e= .returned (.bool true)/\Below w.heap.size w w':=by
 obtain⟨h1,h2⟩:=bMf (run_ok N) hs h λx hx=>by cases hx
 refine⟨h1,h2.mono ?_⟩;rintro e w' ⟨u,rfl,β,rfl,a⟩
 exact⟨rfl,a.fr.os,a.fr.tape,a.fr.output,a.fr.size,λb hb=>a.fr.block b hb λk x c hr=>by
  obtain⟨m,_,rfl⟩:=bIk c
  cases hr⟩
end
end X
end
section
open Go.RowKit Go.Proofs.Tryz
inductive Tr where
 |nil
 |fl (k:Nat) (r:Tr)
 |op (k:Nat) (r:Tr)
 |two (k l:Nat) (r s:Tr)
def Tr.len:Tr->Nat
 |.nil=>0
 |.fl _ r=>r.len+1
 |.op _ r=>r.len+1
 |.two _ _ r _=>r.len+1
section
variable {P : Program} {ops : Array Oper} {md : Region.Mode} {C : World -> Prop} {Q : Exit -> Act -> World -> Prop}
def jH (P:Program)(ops:Array Oper)(C:World->Prop)(Q:Exit->Act->World->Prop):Tr->Act->World->Prop
 |.nil,a,w=>Q .normal a w
 |.fl k r,a,w=> ∃o v,ops[k]?=some o/\Fl P ops C o v a/\jH P ops C Q r (a.put o.dst v) w
 |.op k r,a,w=>fOp P ops k (λa w=>C w/\jH P ops C Q r a w) a w
 |.two k l r s,a,w=>fOp P ops k (λa w=>C w/\jH P ops C Q r a w) a w/\fOp P ops l (λa w=>C w/\jH P ops C Q s a w) a w
def jT (md:Region.Mode)(ops:Array Oper):Tr->Array Bool->Bool
 |.nil,listed=>(I4 md ops listed).isEmpty
 |.fl k r,listed=>(I4 md ops listed).contains k&&Region.free md ops listed k&&jT md ops r (listed.setIfInBounds k true)
 |.op k r,listed=>(I4 md ops listed==[k])&&jT md ops r (listed.setIfInBounds k true)
 |.two k l r s,listed=>(I4 md ops listed==[k,l])&&Nat.beq r.len s.len&&jT md ops r (listed.setIfInBounds k true)&&jT md ops s (listed.setIfInBounds l true)
theorem sF(hs:I7 ops=true): ∀(l:Tr) (listed:Array Bool) (a:Act) (w:World),jT md ops l listed=true->C w->jH P ops C Q l a w->bCt P md ops C Q l.len listed a w
 |.nil,listed,a,w,hB,hC,h=>⟨hC,by simpa[jT]using hB,h⟩
 |.fl k r,listed,a,w,hB,hC,h=>by
  simp only[jT,L9]at hB;obtain⟨o,v,ho,f,g⟩:=h;exact xS ho (Region.noSelect_spec hs) r.len listed a w (Region.free_spec ho hB.1.2) (by simpa using hB.1.1) f (sF hs r _ _ _ hB.2 hC g)
 |.op k r,listed,a,w,hB,hC,h=>by
  simp only[jT,L9,beq_iff_eq]at hB;refine⟨hC,λh0=>aa5,λi c=>?_⟩;rw[hB.1]at c;have:i=k:=by simpa using c
  subst this;exact gL (λd w' b=>sF hs r _ _ _ hB.2 b.1 b.2) h
 |.two k l r s,listed,a,w,hB,hC,h=>by
  simp only[jT,L9,beq_iff_eq]at hB;obtain⟨⟨⟨h1,h2⟩,h3⟩,h4⟩:=hB;refine⟨hC,λh0=>ad7,λi c=>?_⟩;rw[h1]at c;have c:i=k\/i=l:=by simpa using c
  rcases c with rfl|rfl
  .exact gL (λd w' b=>sF hs r _ _ _ h3 b.1 b.2) h.1
  .have e:Tr.len (.two k i r s)=s.len+1:=by simp only[Tr.len,B5 h2]
   have j:r.len=s.len:=B5 h2;rw[j];exact gL (λd w' b=>sF hs s _ _ _ h4 b.1 b.2) h.2
def zH (l:Tr)(ops:Array Oper):Bool:=I7 ops&&Nat.beq l.len ops.size&&jT .any ops l (E5 ops.size false)
end
section
variable {P : Program} {β : dY} {n : Nat} {Γ : Env} {H : List bD} {F : List bC} {Q : Exit -> Act -> World -> Prop} {Hk : List bD} {F0 : List bC} {ops : Array Oper}
theorem at_mixT{id:Nat}{l:List Oper}(Hk:List bD)(F0:List bC)(od:Tr)(hm:P.follows .mixedOrders=true)(hB:zH od l.toArray=true)(hH:Sel H Hk)(hF:bA F F0)
  (h:At β n Γ H F (jH P l.toArray (StF β Hk F0) Q od)):At β n Γ H F ((Code.region id l.toArray true).wp P Q):=λa w S f s k=>by
 simp only[zH,L9]at hB;have d:=StF.drew ⟨S,s,k⟩;obtain⟨c,s',b⟩:=d;refine wp_region_any hm (rL (C:=StF β Hk F0) _ _ _ _ ?_);have:=sF (P:=P) (md:= .any) (C:=StF β Hk F0) (Q:=Q) hB.1.1 od (E5 l.toArray.size false) a _ hB.2 (StF.sel hH hF ⟨c,s',b⟩) (h a _ c f s' b)
 rwa[B5 hB.1.2]at this
theorem att_nil{C:World->Prop}(h:At β n Γ H F (Q .normal)):At β n Γ H F (jH P ops C Q .nil):=h
theorem bFg{r:Tr}{o:Oper}{k d:Nat}{v:Value}(hk:ops[k]?=some o)(hw:want ops Γ o=some true)(hd:o.dst=some d)(hn:C2 d n=true)(h:Sti P β n Γ Hk F0 o v)
  (K:At β n ((d,v)::Γ) H F (jH P ops (StF β Hk F0) Q r)):At β n Γ H F (jH P ops (StF β Hk F0) Q (.fl k r)):=λa w S f s c=>by refine⟨o,v,hk,.inl ⟨f.want hw,λw' ⟨e,s',b⟩=>h a w' e f s' b⟩,?_⟩;rw[hd];exact K _ _ S (f.put m8 v) s c
theorem sqT{r:Tr}{o:Oper}{k d:Nat}{v:Value}(hk:ops[k]?=some o)(h:Sti P β n Γ Hk F0 o v)(K:At β n ((d,v)::Γ) H F (jH P ops (StF β Hk F0) Q r))(hw:want ops Γ o=some true:=by exact rfl)(hd:o.dst=some d:=by exact rfl)(hn:Nat.blt d n=true:=by exact rfl):At β n Γ H F (jH P ops (StF β Hk F0) Q (.fl k r)):=bFg hk hw hd hn h K
theorem pvT{r:Tr}{o:Oper}{k d:Nat}{v:Value}{T:Tab}(hT:fC P T)(K:At β n ((d,v)::Γ) H F (jH P ops (StF β Hk F0) Q r))(hk:ops[k]?=some o:=by exact rfl)(hw:want ops Γ o=some true:=by exact rfl)(hd:o.dst=some d:=by exact rfl)(hn:Nat.blt d n=true:=by exact rfl)(h:pD T Γ o.op=some v:=by exact rfl):At β n Γ H F (jH P ops (StF β Hk F0) Q (.fl k r)):=bFg hk hw hd hn (λ_ w _ f _ _=>bDw hT f h w) K
theorem att_skipped{r:Tr}{o:Oper}{k d:Nat}{C:World->Prop}(hk:ops[k]?=some o)(hw:want ops Γ o=some false)(hd:o.dst=some d)(hn:C2 d n=true)
  (K:At β n ((d,undef)::Γ) H F (jH P ops C Q r)):At β n Γ H F (jH P ops C Q (.fl k r)):=λa w S f s b=>by refine⟨o,undef,hk,.inr ⟨f.want hw,rfl⟩,?_⟩;rw[hd];exact K _ _ S (f.put m8 undef) s b
theorem xZ{o:Oper}{k:Nat}{K:Act->World->Prop}(hk:ops[k]?=some o)(h:At β n Γ H F (wpList P ops (Nm K) [o])):At β n Γ H F (fOp P ops k K):=λa w S f s d c b=>by have:c=o:=Option.some.inj (b.symm.trans hk);subst this;exact h a w S f s d
theorem bPt{r:Tr}{o:Oper}{k:Nat}{C:World->Prop}(hk:ops[k]?=some o)(h:At β n Γ H F (wpList P ops (Nm λa w=>C w/\jH P ops C Q r a w) [o])):At β n Γ H F (jH P ops C Q (.op k r)):=xZ hk h
theorem vF{r s:Tr}{o o':Oper}{k l:Nat}{C:World->Prop}(hk:ops[k]?=some o)(hl:ops[l]?=some o')(h:At β n Γ H F (wpList P ops (Nm λa w=>C w/\jH P ops C Q r a w) [o]))(h':At β n Γ H F (wpList P ops (Nm λa w=>C w/\jH P ops C Q s a w) [o'])):
  At β n Γ H F (jH P ops C Q (.two k l r s)):=λa w S f st b=>⟨xZ hk h a w S f st b,xZ hl h' a w S f st b⟩
theorem bDn{r:Tr}(hH:Sel H Hk)(hF:bA F F0)(h:At β n Γ H F (jH P ops (StF β Hk F0) Q r)):At β n Γ H F (wpList P ops (Nm λa w=>StF β Hk F0 w/\jH P ops (StF β Hk F0) Q r a w) []):=λa w S f s k=>
 ⟨rfl,StF.sel hH hF ⟨S,s,k⟩,h a w S f s k⟩
end
section
variable {P : Program} {ops : Array Oper} {md : Region.Mode} {C : World -> Prop} {R : Array Bool -> Act -> World -> Prop}
def bBu (P:Program)(ops:Array Oper)(K:Act->World->Prop):List Nat->Act->World->Prop
 |[],a,w=>K a w
 |l::r,a,w=>fOp P ops l (bBu P ops K r) a w
def uK (P:Program)(ops:Array Oper)(C:World->Prop)(Q:Exit->Act->World->Prop)(ls:List Nat):List (Bool×Nat)->Act->World->Prop
 |[],a,w=>bBu P ops (Q .normal) ls a w
 |(true,k)::r,a,w=> ∃o v,ops[k]?=some o/\Fl P ops C o v a/\uK P ops C Q ls r (a.put o.dst v) w
 |(false,k)::r,a,w=>fOp P ops k (λa w=>C w/\uK P ops C Q ls r a w) a w
end
section
variable {P : Program} {β : dY} {n : Nat} {Γ : Env} {H : List bD} {F : List bC} {Q : Exit -> Act -> World -> Prop} {Hk : List bD} {F0 : List bC} {ops : Array Oper} {ls : List Nat}
theorem ats_sti{r:List (Bool×Nat)}{o:Oper}{k d:Nat}{v:Value}(hk:ops[k]?=some o)(hw:want ops Γ o=some true)(hd:o.dst=some d)(hn:C2 d n=true)(h:Sti P β n Γ Hk F0 o v)
  (K:At β n ((d,v)::Γ) H F (uK P ops (StF β Hk F0) Q ls r)):At β n Γ H F (uK P ops (StF β Hk F0) Q ls ((true,k)::r)):=λa w S f s c=>by refine⟨o,v,hk,.inl ⟨f.want hw,λw' ⟨e,s',b⟩=>h a w' e f s' b⟩,?_⟩;rw[hd];exact K _ _ S (f.put m8 v) s c
theorem ats_op{r:List (Bool×Nat)}{o:Oper}{k:Nat}{C:World->Prop}(hk:ops[k]?=some o)(h:At β n Γ H F (wpList P ops (Nm λa w=>C w/\uK P ops C Q ls r a w) [o])):At β n Γ H F (uK P ops C Q ls ((false,k)::r)):=λa w S f s d c b=>by have:c=o:=Option.some.inj (b.symm.trans hk);subst this;exact h a w S f s d
theorem ats_go{r:List (Bool×Nat)}(hH:Sel H Hk)(hF:bA F F0)(h:At β n Γ H F (uK P ops (StF β Hk F0) Q ls r)):At β n Γ H F (wpList P ops (Nm λa w=>StF β Hk F0 w/\uK P ops (StF β Hk F0) Q ls r a w) []):=λa w S f s k=>
 ⟨rfl,StF.sel hH hF ⟨S,s,k⟩,h a w S f s k⟩
theorem ats_tail{C:World->Prop}(h:At β n Γ H F (bBu P ops (Q .normal) ls)):At β n Γ H F (uK P ops C Q ls []):=h
theorem ats_last{K:Act->World->Prop}{o:Oper}{l:Nat}(hk:ops[l]?=some o)(h:At β n Γ H F (wpList P ops (Nm (bBu P ops K ls)) [o])):At β n Γ H F (bBu P ops K (l::ls)):=λa w S f s d c b=>by have:c=o:=Option.some.inj (b.symm.trans hk);subst this;exact h a w S f s d
theorem ats_nil{K:Act->World->Prop}(h:At β n Γ H F K):At β n Γ H F (bBu P ops K []):=h
end
section
variable {P : Program} {β : dY} {n : Nat} {Γ : Env} {H : List bD} {F : List bC} {Q : Exit -> Act -> World -> Prop} {K : Act -> World -> Prop} {T : Tab} {ops : Array Oper} {rest : List Oper} {o : Oper} {d : Nat} {v : Value}
theorem ldqO(hT:fC P T){t b q:Nat}{p:Operand}{cs:List Value}{i:TI}(ho:o.op= .load t p:=by exact rfl)(hp:Γ.ev p=some (.pointer (some ⟨b,q,none⟩)):=by exact rfl)(ht:T.get t=some i:=by exact rfl)(ha:aggD i.desc=false:=by exact rfl)(hk:lT β H F b q cs:=by first|exact bU bZ.head|exact bU kT1|exact bU kT2|exact bU kT3|exact bU kT4|exact bU kT5|exact bU kT6|exact bU kT7|exact bU kT8|exact bU kT9|exact bU bIu|exact bU bHd|exact bU bGz|exact bU bHl)(hv:cs[0]?=some v:=by exact rfl):Sti P β n Γ H F o v:=bI hT hk ho hp ht ha hv
theorem ldqN(hT:fC P T){t b q:Nat}{p:Operand}{cs l:List Value}{i:TI}(ho:o.op= .load t p:=by exact rfl)(hp:Γ.ev p=some (.pointer (some ⟨b,q,none⟩)):=by exact rfl)(ht:T.get t=some i:=by exact rfl)(ha:aggD i.desc=true:=by exact rfl)(hk:lT β H F b q cs:=by first|exact bU bZ.head|exact bU kT1|exact bU kT2|exact bU kT3|exact bU kT4|exact bU kT5|exact bU kT6|exact bU kT7|exact bU kT8|exact bU kT9|exact bU bIu|exact bU bHd|exact bU bGz|exact bU bHl)(hv:cut cs 0 i.size=some l:=by exact rfl):Sti P β n Γ H F o (.agg l.toArray):=iC hT hk ho hp ht ha hv
theorem stoq(hT:fC P T){t t' b off:Nat}{p x:Operand}{vs cs cs':List Value}{i:TI}{H':List bD}(k:At β n Γ (.obj b (.cells cs'.toArray t')::H') F (wpList P ops Q rest))(ho:o.op= .store t p x:=by exact rfl)(hp:Γ.ev p=some (.pointer (some ⟨b,off,none⟩)):=by exact rfl)(hx:Γ.ev x=some v:=by exact rfl)(hH:bZ H (.obj b (.cells cs.toArray t')) H':=by first|exact bZ.head|exact kT1|exact kT2|exact kT3|exact kT4|exact kT5|exact kT6|exact kT7|exact kT8|exact kT9|exact bIu|exact bHd|exact bGz|exact bHl)(ht:T.get t=some i:=by exact rfl)(hc:v.cells=vs.toArray:=by exact rfl)(hs:Nat.beq vs.length i.size=true:=by exact rfl)(h1:vs.all (·.oneCell')=true:=by exact rfl)(hput:tC cs off vs=some cs':=by exact rfl)(hw:want ops Γ o=some true:=by exact rfl)(hd:o.dst=none:=by exact rfl):At β n Γ H F (wpList P ops Q (o::rest)):=at_store hT hw ho hd hp hx hH ht hc hs h1 hput k
theorem gdC{c:Code}(h:At β n Γ H F (c.wp P Q)):At β n Γ H F (c.wp P Q):=h
theorem gdW{l:List Oper}(h:At β n Γ H F (wpList P ops Q l)):At β n Γ H F (wpList P ops Q l):=h
theorem gdN(h:At β n Γ H F (wpList P ops Q [])):At β n Γ H F (wpList P ops Q []):=h
theorem gdT{e:Exit}(h:At β n Γ H F (Exit.then K Q e)):At β n Γ H F (Exit.then K Q e):=h
theorem gdB{i:Nat}{e:Exit}(h:At β n Γ H F (Exit.inBlock i Q e)):At β n Γ H F (Exit.inBlock i Q e):=h
theorem gdS{e:Exit}(h:At β n Γ H F (Exit.noGoto Q e)):At β n Γ H F (Exit.noGoto Q e):=h
theorem gdM{C:World->Prop}{r:List (Bool×Nat)}(h:At β n Γ H F (qG P ops C Q r)):At β n Γ H F (qG P ops C Q r):=h
theorem gdL{C:World->Prop}{r:List (Bool×Nat)}{l:Nat}(h:At β n Γ H F (nE P ops C Q l r)):At β n Γ H F (nE P ops C Q l r):=h
theorem gdX{C:World->Prop}{r:Tr}(h:At β n Γ H F (jH P ops C Q r)):At β n Γ H F (jH P ops C Q r):=h
theorem gdY{C:World->Prop}{ls:List Nat}{r:List (Bool×Nat)}(h:At β n Γ H F (uK P ops C Q ls r)):At β n Γ H F (uK P ops C Q ls r):=h
theorem jA0{p:Prop}(h:p:=by first|exact bA.drop 0|exact bA.drop 1|exact bA.drop 2|exact bA.drop 3|exact bA.drop 4|exact bA.drop 5|exact bA.drop 6|exact bA.drop 7|exact bA.drop 8|exact bA.drop 9|exact bA.drop 10|exact bA.drop 11|exact bA.drop 12|exact bA.drop 13|exact bA.drop 14|exact bA.drop 15|exact bA.drop 16|exact bA.drop 17|exact bA.drop 18|exact bA.drop 19|exact bA.drop 20|exact bA.drop 21|exact bA.drop 22|exact bA.drop 23|exact bA.drop 24|exact bA.drop 25|exact bA.drop 26|exact bA.drop 27|exact bA.drop 28|exact bA.drop 29|exact bA.drop 30|exact bA.drop 31|exact bA.drop 32|exact bA.drop 33|exact bA.drop 34|exact bA.drop 35|exact bA.drop 36|exact bA.drop 37|exact bA.drop 38|exact bA.drop 39|exact bA.drop 40|exact bA.drop 41|exact bA.drop 42|exact bA.drop 43|exact bA.drop 44|exact bA.drop 45|exact bA.drop 46|exact bA.drop 47|exact bA.drop 48|exact bA.drop 49|exact bA.drop 50|exact bA.drop 51|exact bA.drop 52|exact bA.drop 53|exact bA.drop 54|exact bA.drop 55|exact bA.drop 56|exact bA.drop 57|exact bA.drop 58|exact bA.drop 59|exact bA.drop 60|exact bA.drop 61|exact bA.drop 62|exact bA.drop 63|exact bA.drop 64|exact bA.drop 65|exact bA.drop 66|exact bA.drop 67|exact bA.drop 68|exact bA.drop 69):p:=h
theorem one{R G:Prop}(k:R)(h:R->G:=by
  intro k_
  first
  |((with_reducible refine gdC ?_);first|with_reducible exact cH k_|with_reducible exact bX k_|with_reducible exact lX k_|with_reducible exact dS k_|with_reducible exact gY k_|with_reducible exact oR k_|with_reducible exact at_scope k_|with_reducible exact at_label k_|exact gT rfl rfl k_|exact jE rfl rfl k_)
  |((with_reducible refine gdW ?_);first|((with_reducible refine gdN ?_);first|((with_reducible refine kP ?_ ?_ k_);(repeat (first|exact Sel.nil|refine Sel.cons bZ.head ?_|refine Sel.cons kT1 ?_|refine Sel.cons kT2 ?_|refine Sel.cons kT3 ?_|refine Sel.cons kT4 ?_|refine Sel.cons kT5 ?_|refine Sel.cons kT6 ?_|refine Sel.cons kT7 ?_|refine Sel.cons kT8 ?_|refine Sel.cons kT9 ?_|refine Sel.cons bIu ?_|refine Sel.cons bHd ?_|refine Sel.cons bGz ?_|refine Sel.cons bHl ?_));(first|exact trivial|exact jA0))|((with_reducible refine atl_go ?_ ?_ k_);(repeat (first|exact Sel.nil|refine Sel.cons bZ.head ?_|refine Sel.cons kT1 ?_|refine Sel.cons kT2 ?_|refine Sel.cons kT3 ?_|refine Sel.cons kT4 ?_|refine Sel.cons kT5 ?_|refine Sel.cons kT6 ?_|refine Sel.cons kT7 ?_|refine Sel.cons kT8 ?_|refine Sel.cons kT9 ?_|refine Sel.cons bIu ?_|refine Sel.cons bHd ?_|refine Sel.cons bGz ?_|refine Sel.cons bHl ?_));(first|exact trivial|exact jA0))|((with_reducible refine bDn ?_ ?_ k_);(repeat (first|exact Sel.nil|refine Sel.cons bZ.head ?_|refine Sel.cons kT1 ?_|refine Sel.cons kT2 ?_|refine Sel.cons kT3 ?_|refine Sel.cons kT4 ?_|refine Sel.cons kT5 ?_|refine Sel.cons kT6 ?_|refine Sel.cons kT7 ?_|refine Sel.cons kT8 ?_|refine Sel.cons kT9 ?_|refine Sel.cons bIu ?_|refine Sel.cons bHd ?_|refine Sel.cons bGz ?_|refine Sel.cons bHl ?_));(first|exact trivial|exact jA0))|((with_reducible refine ats_go ?_ ?_ k_);(repeat (first|exact Sel.nil|refine Sel.cons bZ.head ?_|refine Sel.cons kT1 ?_|refine Sel.cons kT2 ?_|refine Sel.cons kT3 ?_|refine Sel.cons kT4 ?_|refine Sel.cons kT5 ?_|refine Sel.cons kT6 ?_|refine Sel.cons kT7 ?_|refine Sel.cons kT8 ?_|refine Sel.cons kT9 ?_|refine Sel.cons bIu ?_|refine Sel.cons bHd ?_|refine Sel.cons bGz ?_|refine Sel.cons bHl ?_));(first|exact trivial|exact jA0))|with_reducible exact atl_end k_|with_reducible exact jL k_)|exact jI rfl rfl rfl (gD hT rfl) k_|exact bOs rfl rfl rfl k_|exact jI rfl rfl rfl (ldqO hT) k_|exact jI rfl rfl rfl (ldqN hT) k_|exact stoq hT k_)
  |((with_reducible refine gdT ?_);first|with_reducible exact cZ k_|with_reducible exact iT k_|with_reducible exact lA k_)
  |((with_reducible refine gdB ?_);first|with_reducible exact gX k_|with_reducible exact mC k_|with_reducible exact oO k_|((with_reducible refine x_pass ?_ k_);exact rfl))
  |((with_reducible refine gdS ?_);first|with_reducible exact n_scope k_|with_reducible exact r_scope k_|with_reducible exact x_scope k_)
  |((with_reducible refine gdM ?_);first|with_reducible exact atm_nil k_|exact bFl rfl rfl rfl rfl (gD hT rfl) k_|exact atm_skipped rfl rfl rfl rfl k_|with_reducible exact atm_op rfl k_|exact bFl rfl rfl rfl rfl (ldqO hT) k_|exact bFl rfl rfl rfl rfl (ldqN hT) k_)
  |((with_reducible refine gdL ?_);first|exact bLk rfl rfl rfl rfl (gD hT rfl) k_|with_reducible exact atl_op rfl k_|with_reducible exact atl_last rfl k_|exact bLk rfl rfl rfl rfl (ldqO hT) k_|exact bLk rfl rfl rfl rfl (ldqN hT) k_)
  |((with_reducible refine gdX ?_);first|with_reducible exact att_nil k_|exact bFg rfl rfl rfl rfl (gD hT rfl) k_|exact att_skipped rfl rfl rfl rfl k_|with_reducible exact bPt rfl k_|exact bFg rfl rfl rfl rfl (ldqO hT) k_|exact bFg rfl rfl rfl rfl (ldqN hT) k_)
  |((with_reducible refine gdY ?_);first|with_reducible exact ats_tail k_|exact ats_sti rfl rfl rfl rfl (gD hT rfl) k_|with_reducible exact ats_op rfl k_|exact ats_sti rfl rfl rfl rfl (ldqO hT) k_|exact ats_sti rfl rfl rfl rfl (ldqN hT) k_)
  |with_reducible exact ats_last rfl k_
  |with_reducible exact ats_nil k_):G:=h k
theorem g2{R G:Prop}(k:R)(h:R->G:=by intro k_;(iterate 2 refine one ?_);exact k_):G:=h k
theorem g3{R G:Prop}(k:R)(h:R->G:=by intro k_;(iterate 3 refine one ?_);exact k_):G:=h k
theorem g4{R G:Prop}(k:R)(h:R->G:=by intro k_;(iterate 4 refine one ?_);exact k_):G:=h k
theorem g5{R G:Prop}(k:R)(h:R->G:=by intro k_;(iterate 5 refine one ?_);exact k_):G:=h k
theorem g6{R G:Prop}(k:R)(h:R->G:=by intro k_;(iterate 6 refine one ?_);exact k_):G:=h k
theorem g7{R G:Prop}(k:R)(h:R->G:=by intro k_;(iterate 7 refine one ?_);exact k_):G:=h k
theorem g8{R G:Prop}(k:R)(h:R->G:=by intro k_;(iterate 8 refine one ?_);exact k_):G:=h k
theorem g9{R G:Prop}(k:R)(h:R->G:=by intro k_;(iterate 9 refine one ?_);exact k_):G:=h k
theorem g10{R G:Prop}(k:R)(h:R->G:=by intro k_;(iterate 10 refine one ?_);exact k_):G:=h k
theorem g11{R G:Prop}(k:R)(h:R->G:=by intro k_;(iterate 11 refine one ?_);exact k_):G:=h k
theorem g12{R G:Prop}(k:R)(h:R->G:=by intro k_;(iterate 12 refine one ?_);exact k_):G:=h k
theorem g13{R G:Prop}(k:R)(h:R->G:=by intro k_;(iterate 13 refine one ?_);exact k_):G:=h k
theorem g14{R G:Prop}(k:R)(h:R->G:=by intro k_;(iterate 14 refine one ?_);exact k_):G:=h k
theorem g15{R G:Prop}(k:R)(h:R->G:=by intro k_;(iterate 15 refine one ?_);exact k_):G:=h k
theorem g16{R G:Prop}(k:R)(h:R->G:=by intro k_;(iterate 16 refine one ?_);exact k_):G:=h k
theorem g17{R G:Prop}(k:R)(h:R->G:=by intro k_;(iterate 17 refine one ?_);exact k_):G:=h k
theorem g18{R G:Prop}(k:R)(h:R->G:=by intro k_;(iterate 18 refine one ?_);exact k_):G:=h k
theorem g19{R G:Prop}(k:R)(h:R->G:=by intro k_;(iterate 19 refine one ?_);exact k_):G:=h k
theorem g20{R G:Prop}(k:R)(h:R->G:=by intro k_;(iterate 20 refine one ?_);exact k_):G:=h k
theorem g21{R G:Prop}(k:R)(h:R->G:=by intro k_;(iterate 21 refine one ?_);exact k_):G:=h k
theorem g22{R G:Prop}(k:R)(h:R->G:=by intro k_;(iterate 22 refine one ?_);exact k_):G:=h k
theorem g23{R G:Prop}(k:R)(h:R->G:=by intro k_;(iterate 23 refine one ?_);exact k_):G:=h k
theorem g24{R G:Prop}(k:R)(h:R->G:=by intro k_;(iterate 24 refine one ?_);exact k_):G:=h k
theorem g25{R G:Prop}(k:R)(h:R->G:=by intro k_;(iterate 25 refine one ?_);exact k_):G:=h k
theorem g26{R G:Prop}(k:R)(h:R->G:=by intro k_;(iterate 26 refine one ?_);exact k_):G:=h k
theorem g27{R G:Prop}(k:R)(h:R->G:=by intro k_;(iterate 27 refine one ?_);exact k_):G:=h k
theorem g28{R G:Prop}(k:R)(h:R->G:=by intro k_;(iterate 28 refine one ?_);exact k_):G:=h k
theorem g30{R G:Prop}(k:R)(h:R->G:=by intro k_;(iterate 30 refine one ?_);exact k_):G:=h k
theorem g32{R G:Prop}(k:R)(h:R->G:=by intro k_;(iterate 32 refine one ?_);exact k_):G:=h k
theorem g33{R G:Prop}(k:R)(h:R->G:=by intro k_;(iterate 33 refine one ?_);exact k_):G:=h k
theorem g35{R G:Prop}(k:R)(h:R->G:=by intro k_;(iterate 35 refine one ?_);exact k_):G:=h k
theorem g37{R G:Prop}(k:R)(h:R->G:=by intro k_;(iterate 37 refine one ?_);exact k_):G:=h k
theorem g38{R G:Prop}(k:R)(h:R->G:=by intro k_;(iterate 38 refine one ?_);exact k_):G:=h k
theorem g40{R G:Prop}(k:R)(h:R->G:=by intro k_;(iterate 40 refine one ?_);exact k_):G:=h k
end
section
variable {P : Program} {β : dY} {n : Nat} {Γ : Env} {H : List bD} {F : List bC} {Q : Exit -> Act -> World -> Prop} {K : Act -> World -> Prop} {T : Tab} {c : Operand} {x y : Code} {d : Nat}
theorem dO{a b:Int}(ht:a<b->At β n Γ H F (x.wp P Q))(hf:b<=a->At β n Γ H F (y.wp P Q))(hc:Γ.ev c=some (.bool (decide (a<b))):=by exact rfl):At β n Γ H F ((Code.cond c x y).wp P Q):=cD hc (λh=>ht (of_decide_eq_true h)) (λh=>hf (Int.not_lt.1 (of_decide_eq_false h)))
theorem nO{a b:Int}(ht:a<b->At β n ((d,.bool true)::Γ) H F K)(hf:b<=a->At β n ((d,.bool false)::Γ) H F K):At β n ((d,.bool (decide (a<b)))::Γ) H F K:=cE (λh=>ht (of_decide_eq_true h)) (λh=>hf (Int.not_lt.1 (of_decide_eq_false h)))
theorem bOr{a b:Int}(ht:a<=b->At β n Γ H F (x.wp P Q))(hf:b<a->At β n Γ H F (y.wp P Q))(hc:Γ.ev c=some (.bool (decide (a<=b))):=by exact rfl):At β n Γ H F ((Code.cond c x y).wp P Q):=cD hc (λh=>ht (of_decide_eq_true h)) (λh=>hf (Int.not_le.1 (of_decide_eq_false h)))
theorem k_le{a b:Int}(ht:a<=b->At β n ((d,.bool true)::Γ) H F K)(hf:b<a->At β n ((d,.bool false)::Γ) H F K):At β n ((d,.bool (decide (a<=b)))::Γ) H F K:=cE (λh=>ht (of_decide_eq_true h)) (λh=>hf (Int.not_le.1 (of_decide_eq_false h)))
theorem jU{α:Type} [BEq α] [LawfulBEq α]{a b:α}(ht:a=b->At β n Γ H F (x.wp P Q))(hf:a≠b->At β n Γ H F (y.wp P Q))(hc:Γ.ev c=some (.bool (a==b)):=by exact rfl):At β n Γ H F ((Code.cond c x y).wp P Q):=cD hc (λh=>ht (eq_of_beq h)) (λh=>hf (beq_eq_false_iff_ne.1 h))
theorem bHb{α:Type} [BEq α] [LawfulBEq α]{a b:α}(ht:a=b->At β n ((d,.bool true)::Γ) H F K)(hf:a≠b->At β n ((d,.bool false)::Γ) H F K):At β n ((d,.bool (a==b))::Γ) H F K:=cE (λh=>ht (eq_of_beq h)) (λh=>hf (beq_eq_false_iff_ne.1 h))
theorem bEh{α:Type} [BEq α] [LawfulBEq α]{a b:α}(ht:a≠b->At β n Γ H F (x.wp P Q))(hf:a=b->At β n Γ H F (y.wp P Q))(hc:Γ.ev c=some (.bool (a !=b)):=by exact rfl):At β n Γ H F ((Code.cond c x y).wp P Q):=cD hc (λh=>ht (bne_iff_ne.1 h)) (λh=>hf (bne_eq_false_iff_eq.1 h))
theorem k_ne{α:Type} [BEq α] [LawfulBEq α]{a b:α}(ht:a≠b->At β n ((d,.bool true)::Γ) H F K)(hf:a=b->At β n ((d,.bool false)::Γ) H F K):At β n ((d,.bool (a !=b))::Γ) H F K:=cE (λh=>ht (bne_iff_ne.1 h)) (λh=>hf (bne_eq_false_iff_eq.1 h))
theorem tQ{b:Bool}(ht:b=false->At β n Γ H F (x.wp P Q))(hf:b=true->At β n Γ H F (y.wp P Q))(hc:Γ.ev c=some (.bool (!b)):=by exact rfl):At β n Γ H F ((Code.cond c x y).wp P Q):=cD hc (λh=>ht (bEl h)) (λh=>hf (bFi h))
theorem bHr{b:Bool}(ht:b=false->At β n ((d,.bool true)::Γ) H F K)(hf:b=true->At β n ((d,.bool false)::Γ) H F K):At β n ((d,.bool (!b))::Γ) H F K:=cE (λh=>ht (bEl h)) (λh=>hf (bFi h))
theorem vN{b:Bool}(ht:b=true->At β n Γ H F (x.wp P Q))(hf:b=false->At β n Γ H F (y.wp P Q))(hc:Γ.ev c=some (.bool b):=by exact rfl):At β n Γ H F ((Code.cond c x y).wp P Q):=cD hc ht hf
theorem inc{k:IntKind}{z:Int}(m:Nat)(h:At β n ((d,.int k m)::Γ) H F K)(hz:z=(m:Int):=by exact jG j5 j5):At β n ((d,.int k z)::Γ) H F K:=bM hz h
theorem gx{α:Type}(l:List α)(i:Nat)(h:i<l.length:=by omega): ∃x,l[i]?=some x:=⟨_,G1 h⟩
theorem rvcq(hT:fC P T){t ty b q:Nat}{i:TI}{cs l:List Value}(h:Γ.get t=some (.pointer (some ⟨b,q,none⟩)):=by exact rfl)(ht:T.get ty=some i:=by exact rfl)(ha:aggD i.desc=true:=by exact rfl)(hk:lT β H F b q cs:=by first|exact bU bZ.head|exact bU kT1|exact bU kT2|exact bU kT3|exact bU kT4|exact bU kT5|exact bU kT6|exact bU kT7|exact bU kT8|exact bU kT9|exact bU bIu|exact bU bHd|exact bU bGz|exact bU bHl)(hv:cut cs 0 i.size=some l:=by exact rfl):RV P β n Γ H F (.cell t ty) (.agg l.toArray):=rR hT hk h ht ha hv
theorem rvc1q(hT:fC P T){t ty b q:Nat}{i:TI}{cs:List Value}{v:Value}(h:Γ.get t=some (.pointer (some ⟨b,q,none⟩)):=by exact rfl)(ht:T.get ty=some i:=by exact rfl)(ha:aggD i.desc=false:=by exact rfl)(hk:lT β H F b q cs:=by first|exact bU bZ.head|exact bU kT1|exact bU kT2|exact bU kT3|exact bU kT4|exact bU kT5|exact bU kT6|exact bU kT7|exact bU kT8|exact bU kT9|exact bU bIu|exact bU bHd|exact bU bGz|exact bU bHl)(hv:cs[0]?=some v:=by exact rfl):RV P β n Γ H F (.cell t ty) v:=rv_cell1 hT hk h ht ha hv
theorem rvt{r:ResultVar}{v:Value}(h:RV P β n Γ H F r v:=by first|exact rv_tmp rfl|exact rvcq hT|exact rvc1q hT):RV P β n Γ H F r v:=h
theorem selt{R:List bD}(h:Sel H R:=by repeat (first|exact Sel.nil|refine Sel.cons bZ.head ?_|refine Sel.cons kT1 ?_|refine Sel.cons kT2 ?_|refine Sel.cons kT3 ?_|refine Sel.cons kT4 ?_|refine Sel.cons kT5 ?_|refine Sel.cons kT6 ?_|refine Sel.cons kT7 ?_|refine Sel.cons kT8 ?_|refine Sel.cons kT9 ?_|refine Sel.cons bIu ?_|refine Sel.cons bHd ?_|refine Sel.cons bGz ?_|refine Sel.cons bHl ?_)):Sel H R:=h
theorem subt{Δ:Env}(h:Γ.Sub Δ:=by repeat (first|exact trivial|refine And.intro rfl ?_)):Γ.Sub Δ:=h
theorem hdt{G:List bC}(h:bA F G:=by first|exact trivial|exact jA0):bA F G:=h
section
variable {ι : Type} {fn : Func} {val : ι -> Value} {Hout : ι -> List bD} {post : ι -> List bC} {r1 r2 r3 : ResultVar} {v1 v2 v3 : Value}
theorem rs1(x:ι)(hF:bA F (post x))(hr:fn.results= #[r1]:=by exact rfl)(h1:RV P β n Γ H F r1 v1:=by exact rvt)(hH:Sel H (Hout x):=by exact selt)(he:v1=val x:=by exact rfl):At β n Γ H F (bodyPost P fn (bKw β val Hout post) .ret):=mU x hr h1 hH hF he
theorem rs2(x:ι)(hF:bA F (post x))(hr:fn.results= #[r1,r2]:=by exact rfl)(h1:RV P β n Γ H F r1 v1:=by exact rvt)(h2:RV P β n Γ H F r2 v2:=by exact rvt)(hH:Sel H (Hout x):=by exact selt)(he: .tuple #[v1,v2]=val x:=by exact rfl):At β n Γ H F (bodyPost P fn (bKw β val Hout post) .ret):=lK x hr h1 h2 hH hF he
theorem rs3(x:ι)(hF:bA F (post x))(hr:fn.results= #[r1,r2,r3]:=by exact rfl)(h1:RV P β n Γ H F r1 v1:=by exact rvt)(h2:RV P β n Γ H F r2 v2:=by exact rvt)(h3:RV P β n Γ H F r3 v3:=by exact rvt)(hH:Sel H (Hout x):=by exact selt)(he: .tuple #[v1,v2,v3]=val x:=by exact rfl):At β n Γ H F (bodyPost P fn (bKw β val Hout post) .ret):=at_res3 x hr h1 h2 h3 hH hF he
theorem bk2{G:ι->Env}{Δ:Env}{HH:ι->List bD}{Hr:List bD}{FF:ι->List bC}{F0:List bC}{μ:ι->Nat}{m:Nat}(x:ι)(hF:bA F (FF x))(hμ:μ x<m:=by first|omega|(dsimp only;omega))(hG:Γ.Sub (G x):=by exact subt)(hΔ:Γ.Sub Δ:=by exact subt)(hH:Sel H (HH x++Hr):=by exact selt)(hF0:bA F F0:=by exact hdt):At β n Γ H F (Back β n (λx=>G x++Δ) (λx=>HH x++Hr) (λx=>FF x++F0) μ m):=dB x hμ hG hΔ hH hF hF0
end
end
section
variable {P : Program} {β : dY} {n : Nat} {Γ : Env} {H : List bD} {F : List bC} {T : Tab} {α : Type} {E : Flat α}
theorem Ho{g:bC}(h:g∈F:=by repeat (first|exact List.Mem.head _|refine List.Mem.tail _ ?_)):Has F g:=Has.of h
theorem rdt{A:Option Addr}{xs:List α}(h:cF β H F E A xs:=by first|exact bH Ho|exact bN o7|exact dV o7|exact fD o7 rfl):cF β H F E A xs:=h
theorem ixs{o:Oper}{t e l c:Nat}{x i:Operand}{kk:IntKind}{z:Int}{sz:Nat}{de:TD}{A:Option Addr}{xs:List α}(k:Nat)(hT:fC P T:=by exact hT)(ho:o.op= .indexAddr t x i:=by exact rfl)(hx:Γ.ev x=some (.slice A l c):=by exact rfl)(hi:Γ.ev i=some (.int kk z):=by exact rfl)(hr:cF β H F E A xs:=by exact rdt)(ht:T.get t=some ⟨.slice e,sz⟩:=by exact rfl)(he:T.get e=some ⟨de,E.size⟩:=by exact rfl)(hl:l=xs.length:=by exact rfl)(hz:z=(k:Nat):=by exact rfl)(hk:k<xs.length:=by omega):Sti P β n Γ H F o (.pointer (some ⟨bRd A,bNg A+k*E.size,none⟩)):=bE hT hr ho hx hi ht he hl hz hk
theorem fV{o:Oper}{t:Nat}{p:Operand}{i:TI}{A:Option Addr}{xs:List α}{k:Nat}{x:α}{v:Value}(hx:xs[k]?=some x)(fo:Nat)(hT:fC P T:=by exact hT)(ho:o.op= .load t p:=by exact rfl)(hr:cF β H F E A xs:=by exact rdt)(hp:Γ.ev p=some (.pointer (some ⟨bRd A,bNg A+k*E.size+fo,none⟩)):=by exact rfl)(ht:T.get t=some i:=by exact rfl)(ha:aggD i.desc=false:=by exact rfl)(hv:((E.cells x).drop fo)[0]?=some v:=by exact rfl):Sti P β n Γ H F o (v):=bI hT (hr.knows hx fo) ho hp ht ha hv
theorem lI{o:Oper}{t:Nat}{p:Operand}{i:TI}{A:Option Addr}{xs:List α}{k:Nat}{x:α}{l:List Value}(hx:xs[k]?=some x)(fo:Nat)(hT:fC P T:=by exact hT)(ho:o.op= .load t p:=by exact rfl)(hr:cF β H F E A xs:=by exact rdt)(hp:Γ.ev p=some (.pointer (some ⟨bRd A,bNg A+k*E.size+fo,none⟩)):=by exact rfl)(ht:T.get t=some i:=by exact rfl)(ha:aggD i.desc=true:=by exact rfl)(hv:cut ((E.cells x).drop fo) 0 i.size=some l:=by exact rfl):Sti P β n Γ H F o (.agg l.toArray):=iC hT (hr.knows hx fo) ho hp ht ha hv
theorem u8{α:Type}{a0 a1 a2 a3 a4 a5 a6 a7 x:α}{l:List α}(h:x∈l):x∈a0::a1::a2::a3::a4::a5::a6::a7::l:= tQ4 (.tail _ (.tail _ (.tail _ (.tail _ h))))
end
set_option maxRecDepth 100000
def vV (m:Mono):Bool:=decide (m.n<0)
def jJ (p:List Mono):Bool:=cK p&& !(p.any vV)
set_option maxHeartbeats 400000 in
theorem neg_any(m:Mono)(w:World):Calls prog 211 #[.agg #[j3 m.n,j4 m.e0.toNat,j4 m.q.toNat,j4 m.o.toNat,j4 m.j.toNat,j4 m.d.toNat,j4 m.Z.toNat]] w λe w'=>e= .returned (.bool (vV m))/\Below w.heap.size w w':=by
 go_enter func211,ntmps211
 go_wp2
 go_ret
 exact⟨rfl,by go_grown⟩
def IdxPost(w:World)(b:Bool)(e:Ending)(w':World):Prop:= ∃i:Int,e= .returned (.int .i64 i)/\decide (0<=i)=b/\Below w.heap.size w w'
set_option maxHeartbeats 1000000 in
theorem index_any(A:Option Addr)(c:Nat)(xs:List Mono)(w:World)(ha:lR w A xs)(hx:xs.length<=140737488355328):
  Calls prog 247 #[.slice A xs.length c,.func (.func 211) #[] #[]] w (IdxPost w (xs.any vV)):=by
 have Ha:=U4 ha;clear ha
 go_enter func247,ntmps247
 go_wp2
 go_loopw [8] (λi wr=> ∃k:Nat,k<=xs.length/\i= .int .i64 k/\Hid (xs.any vV=(xs.drop k).any vV)/\Below w.heap.size w wr) (λi _=>xs.length-(intOf i).toNat)
 case atStart=>exact⟨0,S6 _,rfl,rfl,Below.refl _ _⟩
 case round=>
  obtain⟨k,hk,rfl,hs,hbl⟩:=hrel
  by_cases hlt:k<xs.length
  .obtain⟨m,hm,dm⟩:=mS hlt;obtain⟨b,o,rfl,hB,c0,c1,c2,c3,c4,c5,c6⟩:=Ha.out.below hbl k m hm;have HS:=U4 (show xs.any vV=(vV m || (xs.drop (k+1)).any vV) by rw[hs.out,dm,V3]);have HBL:=U4 hbl;clear hs hm dm hB hbl
   go_wp2_with (go_at_call 211;refine(neg_any m _).mono ?_;rintro e w1 ⟨rfl,hb1⟩)
   .have hng:vV m=true:=by assumption
    go_ret
    exact⟨k,rfl,by rw[HS.out,hng,X8];simp,HBL.out.trans (hb1.mono HBL.out.size)⟩
   .have hng:vV m=false:=by assumption
    go_roundw
    case rel=>exact⟨k+1,j5,by go_num,(by show _=_;rw[HS.out,hng,Bool.false_or]),HBL.out.trans (hb1.mono HBL.out.size)⟩
    case measure=>simp[intOf];omega
  .have HS:=U4 (show xs.any vV=false by rw[hs.out,U8 j5];rfl);clear hs
   go_wp2
   go_ret
   exact⟨-1,rfl,by rw[HS.out];rfl,hbl⟩
set_option maxHeartbeats 400000 in
theorem contains_any(A:Option Addr)(c:Nat)(xs:List Mono)(w:World)(ha:lR w A xs)(hx:xs.length<=140737488355328):
  Calls prog 210 #[.slice A xs.length c,.func (.func 211) #[] #[]] w λe w'=>e= .returned (.bool (xs.any vV))/\Below w.heap.size w w':=by
 have Ha:=U4 ha;clear ha
 go_enter func210,ntmps210
 go_wp2_with fail
 refine(index_any A c xs _ Ha.out hx).mono ?_;rintro e w1 ⟨i,rfl,hi,hb1⟩;have Hi:=U4 hi;clear hi
 go_wp2
 go_ret
 exact⟨kV Hi.out,hb1⟩
set_option maxHeartbeats 400000 in
theorem grows_any(A:Option Addr)(c:Nat)(xs:List Mono)(w:World)(ha:lR w A xs)(hx:xs.length<=140737488355328):
  Calls prog 149 #[.slice A xs.length c] w λe w'=>e= .returned (.bool (jJ xs))/\Below w.heap.size w w':=by
 have Ha:=U4 ha;clear ha;cases hr:cK xs
 .go_enter func149,ntmps149
  go_wp2_with fail
  refine(gU A c xs _ Ha.out hx).mono ?_;rintro e w1 ⟨rfl,hb1⟩
  go_wp2
  go_ret
  exact⟨kV (by unfold jJ;rw[hr];rfl),hb1⟩
 .go_enter func149,ntmps149
  go_wp2_with fail
  refine(gU A c xs _ Ha.out hx).mono ?_;rintro e w1 ⟨rfl,hb1⟩;have H1:=U4 hb1;clear hb1
  go_wp2_with fail
  refine(contains_any A c xs _ (Ha.out.below H1.out) hx).mono ?_;rintro e w2 ⟨rfl,hb2⟩;have H2:=U4 (H1.out.trans (hb2.mono H1.out.size));clear hb2
  go_wp2
  go_ret
  exact⟨kV (by unfold jJ;rw[hr,Bool.true_and]),H2.out⟩
end
section
open Go.RowKit Go.Proofs.Tryz
def dM:Flat Mono where
 size:=7
 cells:=Mono.cells
 len:=λ_=>rfl
 one:=λx u hu=>by
  simp[Mono.cells]at hu
  rcases hu with rfl|rfl|rfl|rfl|rfl|rfl|rfl<;>rfl
 pos:=l4
theorem monos_of{S:kZ}{w:World}{A:Option Addr}{k c:Nat}{l:List Mono}(hS: ∀b,S b->b<w.heap.size)(h:(dM.sl (.slice A k c) l).p S w):lR w A l/\k=l.length:=by
 obtain⟨q,n,e,h⟩:=h;injection e with g f a
 subst g f;refine⟨λk m i=>?_,rfl⟩;obtain⟨b,o,j,g,f,a,d⟩:=h k m i;have d:j=m.cells:=d;subst d;exact⟨b,o,g,hS b f,a 0 _ rfl,a 1 _ rfl,a 2 _ rfl,a 3 _ rfl,a 4 _ rfl,a 5 _ rfl,a 6 _ rfl⟩
theorem sl_of{w:World}{A:Option Addr}{c:Nat}{l:List Mono}(h:lR w A l):(dM.sl (.slice A l.length c) l).p (λb=>b<w.heap.size) w:=by
 refine⟨A,c,rfl,λk m d=>?_⟩;obtain⟨b,o,e,hb,h0,h1,h2,h3,h4,g,f⟩:=h k m d;refine⟨b,o,m.cells,e,hb,λj u a=>?_,rfl⟩;have hlt:=(G3.1 a).1;rw[Mono.cells_length]at hlt
 match j,hlt with
 |0,_=>simp[Mono.cells]at a;subst a;exact h0
 |1,_=>simp[Mono.cells]at a;subst a;exact h1
 |2,_=>simp[Mono.cells]at a;subst a;exact h2
 |3,_=>simp[Mono.cells]at a;subst a;exact h3
 |4,_=>simp[Mono.cells]at a;subst a;exact h4
 |5,_=>simp[Mono.cells]at a;subst a;exact g
 |6,_=>simp[Mono.cells]at a;subst a;exact f
abbrev PolV:=Sl Mono
def cR (p:PolV):bC:=(dM.sl (.slice p.O p.B.length p.cap) p.B).and (bC.pure (p.B.length<=8796093022208))
section
variable (p : PolV)
theorem lE{p:PolV}{S:kZ}{w:World}(hS: ∀b,S b->b<w.heap.size)(h:(cR p).p S w):lR w p.O p.B:=(monos_of hS h.1).1
theorem bMi(hp:p.B.length<=140737488355328):cJ prog 149 [f9 p] [] [cR p] (λ_:Unit=> .bool (jJ p.B)) (λ_=>[]) (λ_=>[]):=
 mE λ_ w a h=>grows_any _ _ _ w (lE a (h _ (.head _))) hp
theorem polR_spec(hp:p.B.length<=140737488355328):cJ prog 43 [f9 p] [] [cR p] (λ_:Unit=> .bool (cK p.B)) (λ_=>[]) (λ_=>[]):=
 mE λ_ w a h=>gU _ _ _ w (lE a (h _ (.head _))) hp
end
end
section
open Go.RowKit Go.ChangeShapes Go.WideShapes Go.Proofs.Tryz
def fF:Flat PolV:=slE Mono
def gK:Flat Bool where
 size:=1
 cells:=λx=>[.bool x]
 len:=λ_=>rfl
 one:=λx u hu=>by simp at hu;subst hu;rfl
 pos:=l4
structure OpV where
 N:Int
 k:Int
 n:Int
 p:PolV
 fn:Int
 deriving Inhabited
def opE:Flat OpV where
 size:=5
 cells:=λx=>[.int .i64 x.N,.int .i64 x.k,.int .i64 x.n,.slice x.p.O x.p.B.length x.p.cap,.int .u8 x.fn]
 len:=λ_=>rfl
 one:=λx u hu=>by
  simp at hu
  rcases hu with rfl|rfl|rfl|rfl|rfl<;>rfl
 pos:=l4
structure jW where
 K:(Sl PolV)
 L:Int
 deriving Inhabited
def sU:Flat jW where
 size:=2
 cells:=λx=>[.slice x.K.O x.K.B.length x.K.cap,.int .i64 x.L]
 len:=λ_=>rfl
 one:=λx u hu=>by
  simp at hu
  rcases hu with rfl|rfl<;>rfl
 pos:=l4
structure gA where
 N:Int
 I:Int
 at_:PolV
 H:(Sl PolV)
 fn:Int
 ops:(Sl OpV)
 deriving Inhabited
def pU:Flat gA where
 size:=6
 cells:=λx=>[.int .i64 x.N,.int .i64 x.I,.slice x.at_.O x.at_.B.length x.at_.cap,.slice x.H.O x.H.B.length x.H.cap,.int .u8 x.fn,.slice x.ops.O x.ops.B.length x.ops.cap]
 len:=λ_=>rfl
 one:=λx u hu=>by
  simp at hu
  rcases hu with rfl|rfl|rfl|rfl|rfl|rfl<;>rfl
 pos:=l4
structure fX where
 vars:Int
 C:(Sl jW)
 D:(Sl gA)
 Q:(Sl Int)
 deriving Inhabited
def coreE:Flat fX where
 size:=4
 cells:=λx=>[.int .i64 x.vars,.slice x.C.O x.C.B.length x.C.cap,.slice x.D.O x.D.B.length x.D.cap,.slice x.Q.O x.Q.B.length x.Q.cap]
 len:=λ_=>rfl
 one:=λx u hu=>by
  simp at hu
  rcases hu with rfl|rfl|rfl|rfl<;>rfl
 pos:=l4
structure dX where
 from_:Int
 za:Int
 deriving Inhabited
def kI:Flat dX where
 size:=2
 cells:=λx=>[.int .i64 x.from_,.int .i64 x.za]
 len:=λ_=>rfl
 one:=λx u hu=>by
  simp at hu
  rcases hu with rfl|rfl<;>rfl
 pos:=l4
def coreT:Tab:=[(3,⟨.int .i64,1⟩),(2,⟨.int .i64,1⟩),(5,⟨.int .u8,1⟩),(4,⟨.bool,1⟩),(77,⟨.int .u8,1⟩),(32,⟨.int .i64,1⟩),(43,⟨.slice 111,1⟩),(42,⟨.slice 43,1⟩),(172,⟨.struct [(3,0),(3,1),(2,2),(43,3),(77,4)],5⟩),(78,⟨.slice 172,1⟩),(95,⟨.struct [(42,0),(3,1)],2⟩),(22,⟨.slice 95,1⟩),(80,⟨.struct [(3,0),(3,1),(43,2),(42,3),(77,4),(78,5)],6⟩),(23,⟨.slice 80,1⟩),(24,⟨.slice 3,1⟩),(99,⟨.slice 4,1⟩),(26,⟨.struct [(3,0),(22,1),(23,2),(24,3)],4⟩),(114,⟨.struct [(3,0),(3,1)],2⟩),(97,⟨.slice 114,1⟩),(201,⟨.struct [(3,0),(3,1),(3,2),(99,3)],4⟩),(198,⟨.array 64 4,64⟩),(111,⟨.struct [(2,0),(109,1)],7⟩),(109,⟨.array 6 5,6⟩),(290,⟨.slice 5,1⟩),(224,⟨.int .u64,1⟩),(199,⟨.other,1⟩),(274,⟨.other,1⟩),(126,⟨.other,1⟩)]
theorem dF:fC prog coreT:=uM.ok
 ⟨⟨by rw[underlying3];rfl,j8⟩,
  ⟨by rw[underlying2];rfl,j8⟩,
  ⟨by rw[underlying5];rfl,j8⟩,
  ⟨by rw[underlying4];rfl,j8⟩,
  ⟨by rw[underlying77];rfl,j8⟩,
  ⟨by rw[underlying32];rfl,j8⟩,
  ⟨by rw[underlying43];rfl,j8⟩,
  ⟨by rw[underlying42];rfl,j8⟩,
  ⟨by rw[underlying172];rfl,j8⟩,
  ⟨by rw[underlying78];rfl,j8⟩,
  ⟨by rw[underlying95];rfl,j8⟩,
  ⟨by rw[underlying22];rfl,j8⟩,
  ⟨by rw[underlying80];rfl,j8⟩,
  ⟨by rw[underlying23];rfl,j8⟩,
  ⟨by rw[underlying24];rfl,j8⟩,
  ⟨by rw[underlying99];rfl,j8⟩,
  ⟨by rw[underlying26];rfl,j8⟩,
  ⟨by rw[underlying114];rfl,j8⟩,
  ⟨by rw[underlying97];rfl,j8⟩,
  ⟨by rw[underlying201];rfl,j8⟩,
  ⟨by rw[underlying198];rfl,j8⟩,
  ⟨by rw[underlying111];rfl,j8⟩,
  ⟨by rw[underlying109];rfl,j8⟩,
  ⟨by rw[underlying290];rfl,j8⟩,
  ⟨by rw[underlying224];rfl,j8⟩,
  ⟨by rw[underlying199];rfl,j8⟩,
  ⟨by rw[underlying274];rfl,j8⟩,
  ⟨by rw[underlying126];rfl,j8⟩,e9⟩
end
section
open Go.RowKit Go.Proofs.Tryz
instance : DecidableEq Mono := λa b => decidable_of_iff (a.eqB b = true) (Mono.eqB_iff a b)
structure OpC where
 N:Int
 k:Int
 n:Int
 p:List Mono
 fn:Int
 deriving DecidableEq
structure jX where
 K:List (List Mono)
 L:Int
 deriving DecidableEq
structure cT where
 N:Int
 I:Int
 at_:List Mono
 H:List (List Mono)
 fn:Int
 ops:List OpC
 deriving DecidableEq
structure dR where
 vars:Int
 C:List jX
 D:List cT
 Q:List Int
 deriving DecidableEq
structure LifeC where
 from_:Int
 za:Int
 deriving DecidableEq
def gQ (f:Int)(two:Bool):Bool:=if f<1\/17<f then false else if f=16 then !two else two || decide (f<=7)
def cO (h:Int):Int:=if h=1\/h=2\/h=3 then 0 else if h=4\/h=5 then 1 else if h=6 then 2 else-1
def oQ:List OpC->Int->Int->Int
 |[],most,now=>if now=1 then most else-1
 |o::r,most,now=>if cO o.N<0\/now<cO o.N then-1 else oQ r (max most (now+(1-cO o.N))) (now+(1-cO o.N))
def mJ (l:List OpC):Int:=oQ l 0 0
def clampK(vars:Int):Nat:=(min (max vars 0) 6).toNat
def ofB (p:List Mono)(vars:Int):Bool:=p.all (λm=>(m.E.drop (clampK vars)).all (λe=>e==0))&&cK p
def iL (l:List (List Mono))(vars:Int):Bool:=l.all (λp=>ofB p vars&&jJ p)&&decide (l.length<=4)
def opB (vars loops buf:Int)(made:List Bool)(o:OpC):Bool:=
 if o.N=1 then o.k==0&&(o.p.isEmpty&&o.fn==0)
 else if o.N=2 then ofB o.p vars&&(o.n==0&&(o.k==0&&o.fn==0))
 else if o.N=3 then decide (0<=o.k/\o.k<loops)&&(o.n==0&&(o.p.isEmpty&&o.fn==0))
 else if o.N=4 then decide (0<=o.k/\o.k≠buf)&&(made.getD o.k.toNat false&&(o.n==0&&(o.p.isEmpty&&o.fn==0)))
 else if o.N=5\/o.N=6 then gQ o.fn (o.N==6)&&(o.n==0&&(o.k==0&&o.p.isEmpty))
 else false
def mV (vars:Int)(made:List Bool)(x:cT):Bool:=
 (ofB x.at_ vars&&jJ x.at_)&&(iL x.H vars&&(decide (x.ops.length<=256)&&(decide (0<=mJ x.ops)&&
  ((if x.N=1 then x.fn==0 else if x.N=2\/x.N=3 then !x.H.isEmpty&&gQ x.fn true else false)&&x.ops.all (opB vars x.H.length x.I made)))))
def sH (vars:Int):List jX->List Int->Bool
 |[],_=>true
 |b::r,seen=>iL b.K vars&&(decide (-1<=b.L/\b.L<64)&&(!(seen.contains b.L)&&sH vars r (if 0<=b.L then b.L::seen else seen)))
def lQ (vars:Int)(bufs:List jX):List cT->List Bool->Bool
 |[],_=>true
 |x::r,made=>(decide (0<=x.I)&&(match bufs[x.I.toNat]? with
   |some b=>decide (b.L<0)
   |none=>false))&&(mV vars made x&&lQ vars bufs r (made.set x.I.toNat true))
def uL (bufs:List jX):List Bool:=bufs.map λb=>decide (0<=b.L)
def dC (c:dR):Bool:=
 decide (0<=c.vars/\c.vars<=6/\c.C.length<=1024/\c.D.length<=1024/\c.Q.length<=64)&&(sH c.vars c.C []&&(lQ c.vars c.C c.D (uL c.C)&&c.Q.all λk=>decide (0<=k/\k<c.C.length)))
def wO (l:List OpC):List Nat:=l.filterMap λo=>if o.N=4 then some o.k.toNat else none
def iZ (i:Int)(l:List LifeC)(k:Nat):List LifeC:=l.modify k λx=>{x with za:=i}
def bBb (i:Int)(l:List LifeC)(k:Nat):List LifeC:=l.modify k λx=>{x with from_:=i}
def lP (i:Int)(x:cT)(s:List LifeC×List Bool):List LifeC×List Bool:=
 (iZ i (if s.2.getD x.I.toNat false=true then (wO x.ops).foldl (iZ i) s.1 else bBb i ((wO x.ops).foldl (iZ i) s.1) x.I.toNat) x.I.toNat,s.2.set x.I.toNat true)
def sR:Int->List cT->List LifeC×List Bool->List LifeC×List Bool
 |_,[],s=>s
 |i,x::r,s=>sR (i+1) r (lP i x s)
def xP (outs:List Int):Nat->List jX->List LifeC
 |_,[]=>[]
 |k,b::r=>⟨if 0<=b.L\/outs.contains (k:Int)=true then-1 else 0,-1⟩::xP outs (k+1) r
def livesC(c:dR):List LifeC:=(c.Q.map Int.toNat).foldl (iZ c.D.length) (sR 0 c.D (xP c.Q 0 c.C,V4 c.C.length false)).1
section
variable {i j : Int} {l : List LifeC} {k b : Nat}
theorem bSw:(iZ i l k).length=l.length:=V5 ..
theorem setFrom_len:(bBb i l k).length=l.length:=V5 ..
theorem bTj:(iZ i l k)[b]?=(l[b]?).map λx=>if k=b then {x with za:=i}else x:=by
 unfold iZ;rw[V6]
 by_cases h:k=b
 .simp[h]
 .simp[h]
theorem setFrom_get:(bBb i l k)[b]?=(l[b]?).map λx=>if k=b then {x with from_:=i}else x:=by
 unfold bBb;rw[V6]
 by_cases h:k=b
 .simp[h]
 .simp[h]
theorem qW: ∀(ks:List Nat) (l:List LifeC),(ks.foldl (iZ i) l)[b]?=(l[b]?).map λx=>if b∈ks then {x with za:=i}else x
 |[],l=>by simp
 |k::ks,l=>by
  rw[V7,qW ks,bTj,Option.map_map]
  congr 1
  funext x
  by_cases h1:k=b
  .subst h1
   by_cases h2:k∈ks<;>simp[h2]
  .by_cases h2:b∈ks
   .simp[h1,h2]
   .have: ¬b=k:=λe=>h1 e.symm;simp[h1,h2,this]
theorem xC: ∀(ks:List Nat) (l:List LifeC),(ks.foldl (iZ i) l).length=l.length
 |[],_=>rfl
 |k::ks,l=>by rw[V7,xC ks,bSw]
end
theorem liveStep_get{i:Int}{x:cT}{s:List LifeC×List Bool}{b:Nat}{y:LifeC}(hy:s.1[b]?=some y):(lP i x s).1[b]?=some ⟨if x.I.toNat=b/\s.2.getD b false=false then i else y.from_,if x.I.toNat=b\/b∈wO x.ops then i else y.za⟩:=by
 unfold lP;simp only;rw[bTj]
 by_cases a:s.2.getD x.I.toNat false=true
 .rw[if_pos a,qW,hy];simp only[N5]
  congr 1
  by_cases h1:x.I.toNat=b
  .subst h1;simp only[true_and,true_or,if_true,a,X9,if_false]
   by_cases h2:x.I.toNat∈wO x.ops<;>simp[h2]
  .by_cases h2:b∈wO x.ops<;>simp[h1,h2]
 .rw[if_neg a,setFrom_get,qW,hy];have a:s.2.getD x.I.toNat false=false:=by simpa using a
  simp only[N5]
  congr 1
  by_cases h1:x.I.toNat=b
  .subst h1;simp only[true_and,true_or,if_true,a]
  .by_cases h2:b∈wO x.ops<;>simp[h1,h2]
theorem yE{i:Int}{x:cT}{s:List LifeC×List Bool}:(lP i x s).1.length=s.1.length:=by
 unfold lP;simp only;rw[bSw];split
 .rw[xC]
 .rw[setFrom_len,xC]
theorem bDr: ∀(outs:List Int) (k:Nat) (bufs:List jX),(xP outs k bufs).length=bufs.length
 |_,_,[]=>rfl
 |outs,k,b::r=>by rw[xP,G5,G5,bDr]
def sX (x:cT)(b:Int):Bool:=x.ops.any (λo=>o.N==4&&o.k==b) || x.I==b
def kU (b:Int):Int->List cT->Int->Int
 |_,[],d=>d
 |i,x::r,d=>if x.I=b then i else kU b (i+1) r d
def mX (b:Int):Int->List cT->Int->Int
 |_,[],d=>d
 |i,x::r,d=>mX b (i+1) r (if sX x b=true then i else d)
def rN (b:Int)(l:List cT):Bool:=l.any λx=>sX x b
def pO (c:dR)(b:Nat)(u:jX):LifeC:=
 if (rN b c.D || (c.Q.contains (b:Int) || decide (0<=u.L)))=false then ⟨0,-1⟩
 else ⟨kU b 0 c.D (-1),if c.Q.contains (b:Int)=true then c.D.length else mX b 0 c.D (-1)⟩
def vW (c:dR):List LifeC:=c.C.mapIdx (pO c)
def wholeS(x:cT)(sides:List (List Mono)):Bool:=x.at_.isEmpty&&decide ((if x.N=2 then x.H.dropLast else x.H)=sides)
def qS (steps:List cT)(b:Nat)(u:jX):Bool:=match steps.filter (λx=>x.I==(b:Int))with
 |[x]=>wholeS x u.K
 |_=>false
def fullC (c:dR):List Bool:=c.C.mapIdx (qS c.D)
section
variable {b i d : Int} {r : List cT} {x : cT}
theorem qE: ∀{r:List cT} {i d:Int},rN b r=false->mX b i r d=d
 |[],_,_,_=>rfl
 |x::r,i,d,h=>by unfold rN at h;rw[V3,Bool.or_eq_false_iff]at h;rw[mX,if_neg (by rw[h.1];simp)];exact qE h.2
theorem lastAsk_any: ∀{r:List cT} {i d d':Int},rN b r=true->mX b i r d=mX b i r d'
 |[],_,_,_,h=>by cases h
 |x::r,i,d,d',h=>by
  rw[mX,mX]
  cases hr:rN b r with
  |true=>exact lastAsk_any hr
  |false=>
   rw[qE hr,qE hr];unfold rN at h hr;rw[V3,hr,Bool.or_false]at h;rw[if_pos h,if_pos h]
theorem xH: ∀{r:List cT} {i d:Int},(∀x∈r,x.I≠b)->kU b i r d=d
 |[],_,_,_=>rfl
 |x::r,i,d,h=>by rw[kU,if_neg (h x (F9 ..))];exact xH λy a=>h y (F3 _ a)
theorem bFj: ∀{r:List cT} {i d d':Int},(∃x∈r,x.I=b)->kU b i r d=kU b i r d'
 |[],_,_,_,h=>by obtain⟨x,hx,_⟩:=h;cases hx
 |x::r,i,d,d',h=>by
  rw[kU,kU]
  by_cases e:x.I=b
  .rw[if_pos e,if_pos e]
  .rw[if_neg e,if_neg e];obtain⟨y,a,c⟩:=h
   rcases F1.1 a with rfl|a
   .exact absurd c e
   .exact bFj ⟨y,a,c⟩
end
def NatStep(x:cT):Prop:=0<=x.I/\ ∀o∈x.ops,o.N=4->0<=o.k
theorem bRl{x:cT}{b:Nat}(h:NatStep x):sX x b=true↔x.I.toNat=b\/b∈wO x.ops:=by
 unfold sX;rw[Bool.or_eq_true,V8];constructor
 .rintro(⟨o,ho,h1⟩|h1)
  .right;simp only[L9,beq_iff_eq]at h1;exact V9.2 ⟨o,ho,by rw[if_pos h1.1,h1.2];rfl⟩
  .left;rw[beq_iff_eq]at h1;omega
 .rintro(h1|h1)
  .right;rw[beq_iff_eq];have:=h.1;omega
  .left;obtain⟨o,ho,h2⟩:=V9.1 h1;split at h2
   .rename_i h4;have:=h.2 o ho h4;cases h2;refine⟨o,ho,?_⟩;simp only[L9,beq_iff_eq];exact⟨h4,j5⟩
   .cases h2
theorem bKi: ∀{r:List cT} {i:Int} {s:List LifeC×List Bool} {b:Nat} {y:LifeC},(∀x∈r,NatStep x)->s.1[b]?=some y->b<s.2.length->
  (sR i r s).1[b]?=some ⟨if s.2.getD b false=true then y.from_ else kU b i r y.from_,mX b i r y.za⟩
 |[],i,s,b,y,_,a,_=>by
  rw[sR,a,kU,mX];simp
 |x::r,i,s,b,y,hn,a,hb=>by
  have hx:=hn x (F9 ..);rw[sR,bKi (λy a=>hn y (F3 _ a)) (liveStep_get a) (show b<(lP i x s).2.length by unfold lP;simpa using hb)]
  have g:(lP i x s).2.getD b false=(decide (x.I.toNat=b) || s.2.getD b false):=by
   show(s.2.set x.I.toNat true).getD b false=_;rw[W2,W3]
   by_cases e:x.I.toNat=b
   .rw[if_pos e,if_pos j5];simp[e]
   .rw[if_neg e];simp[e,W2]
  rw[g,kU,mX]
  have c:x.I.toNat=b↔x.I=(b:Int):=by have:=hx.1;omega
  congr 2
  .by_cases e:x.I.toNat=b
   .have d:=c.1 e
    cases f:s.2.getD b false with
    |true=>simp[e]
    |false=>simp[d]
   .have d: ¬x.I=(b:Int):=λh=>e (c.2 h)
    cases f:s.2.getD b false with
    |true=>simp[e]
    |false=>simp[d,e]
  .by_cases e:sX x b=true
   .rw[if_pos e,if_pos ((bRl hx).1 e)]
   .rw[if_neg e,if_neg (λh=>e ((bRl hx).2 h))]
theorem yV: ∀{outs:List Int} {k:Nat} {bufs:List jX} {b:Nat},(xP outs k bufs)[b]?=(bufs[b]?).map λu=>⟨if 0<=u.L\/outs.contains ((k+b:Nat):Int)=true then-1 else 0,-1⟩
 |_,_,[],_=>rfl
 |outs,k,u::r,0=>rfl
 |outs,k,u::r,b+1=>by have:=yV (outs:=outs) (k:=k+1) (bufs:=r) (b:=b);rw[xP,W4,W4,this,show k+1+b=k+(b+1) by omega]
theorem bCy{vars:Int}{bufs:List jX}: ∀{r:List cT} {made:List Bool},lQ vars bufs r made=true-> ∀x∈r,NatStep x
 |[],_,_,x,hx=>by cases hx
 |y::r,made,h,x,hx=>by
  rw[lQ,L9,L9,L9]at h;obtain⟨⟨h1,_⟩,h2,h3⟩:=h
  rcases F1.1 hx with rfl|hx
  .refine⟨by simpa using h1,λo ho h4=>?_⟩
   have a:x.ops.all (opB vars x.H.length x.I made)=true:=by unfold mV at h2;simp only[L9]at h2;exact h2.2.2.2.2.2
   have:=G0.1 a o ho;unfold opB at this;rw[if_neg j5,if_neg j5,if_neg j5,if_pos h4]at this;simp only[L9,decide_eq_true_eq]at this;exact this.1.1
  .exact bCy h3 x hx
theorem bJn{vars:Int}{bufs:List jX}: ∀{r:List cT} {made:List Bool},lQ vars bufs r made=true-> ∀x∈r,∀b∈wO x.ops,made.getD b false=true\/ ∃y∈r,y.I.toNat=b
 |[],_,_,x,hx=>by cases hx
 |y::r,made,h,x,hx=>λb hb=>by
  rw[lQ,L9,L9,L9]at h;obtain⟨⟨h1,_⟩,h2,h3⟩:=h
  rcases F1.1 hx with rfl|hx
  .left
   have c:x.ops.all (opB vars x.H.length x.I made)=true:=by unfold mV at h2;simp only[L9]at h2;exact h2.2.2.2.2.2
   obtain⟨o,ho,a⟩:=V9.1 hb;split at a
   .rename_i d;cases a;have:=G0.1 c o ho;unfold opB at this;rw[if_neg j5,if_neg j5,if_neg j5,if_pos d]at this;simp only[L9]at this;exact this.2.1
   .cases a
  .rcases bJn h3 x hx b hb with h4|⟨z,f,e⟩
   .rw[W2,W3]at h4
    by_cases e:y.I.toNat=b
    .exact .inr ⟨y,F9 ..,e⟩
    .rw[if_neg e]at h4;exact .inl (by rw[W2];exact h4)
   .exact .inr ⟨z,F3 _ f,e⟩
theorem iP{c:dR}(h:dC c=true):(0<=c.vars/\c.vars<=6/\c.C.length<=1024/\c.D.length<=1024/\c.Q.length<=64)/\sH c.vars c.C []=true/\lQ c.vars c.C c.D (uL c.C)=true/\ ∀k∈c.Q,0<=k/\k<c.C.length:=by simp only[dC,L9,decide_eq_true_eq,G0]at h;exact h
theorem lives_eq{c:dR}(h:dC c=true):livesC c=vW c:=by
 obtain⟨h1,h2,h3,h4⟩:=iP h;have hn:=bCy h3;apply List.ext_getElem?;intro b;unfold livesC vW;rw[qW,List.getElem?_mapIdx]
 cases hu:c.C[b]? with
 |none=>
  have hb:c.C.length<=b:=List.getElem?_eq_none_iff.1 hu
  have hl:(sR 0 c.D (xP c.Q 0 c.C,V4 c.C.length false)).1.length=c.C.length:=by
   have: ∀(r:List cT) (i:Int) (s:List LifeC×List Bool),(sR i r s).1.length=s.1.length:=λr=>by
    induction r with
    |nil=>intro i s;rfl
    |cons x r ih=>intro i s;rw[sR,ih,yE]
   rw[this,bDr]
  rw[List.getElem?_eq_none j5];rfl
 |some u=>
  have hb:b<c.C.length:=(G3.1 hu).1
  have l:(xP c.Q 0 c.C)[b]?=some ⟨if 0<=u.L\/c.Q.contains (b:Int)=true then-1 else 0,-1⟩:=by rw[yV,hu,D1];rfl
  have p:(V4 c.C.length false).getD b false=false:=by rw[W2,List.getElem?_replicate];split<;>rfl
  rw[bKi hn l (by simpa using hb)];simp only[N5,p,L8,if_false]
  have a:b∈c.Q.map Int.toNat↔c.Q.contains (b:Int)=true:=by
   rw[P5,List.contains_iff_mem];constructor
   .rintro⟨k,n,e⟩;have:=(h4 k n).1;have e:k=(b:Int):=j5
    rwa[<-e]
   .exact λn=>⟨_,n,m9⟩
  unfold pO
  congr 1
  by_cases f: ∃x∈c.D,x.I=(b:Int)
  .have j:rN b c.D=true:=by obtain⟨x,hx,e⟩:=f;exact V8.2 ⟨x,hx,by unfold sX;simp[e]⟩
   rw[j,bFj f (d':= -1)];simp only[X8,X9,if_false]
   by_cases ho:c.Q.contains (b:Int)=true
   .rw[if_pos (a.2 ho),if_pos ho]
   .rw[if_neg (λe=>ho (a.1 e)),if_neg ho]
  .have d: ∀x∈c.D,x.I≠(b:Int):=λx hx e=>f ⟨x,hx,e⟩;rw[xH d,xH d]
   by_cases o:0<=u.L
   .simp only[o,true_or,if_true,decide_true,Bool.or_true,X9,if_false]
    by_cases ho:c.Q.contains (b:Int)=true
    .rw[if_pos (a.2 ho),if_pos ho]
    .rw[if_neg (λe=>ho (a.1 e)),if_neg ho]
   .by_cases ho:c.Q.contains (b:Int)=true
    .rw[ho];simp only[or_true,if_true,X8,Bool.or_true,X9,if_false];rw[if_pos (a.2 ho)]
    .have m:c.Q.contains (b:Int)=false:=by simpa using ho
     have g:rN b c.D=false:=by
      cases q:rN b c.D with
      |false=>rfl
      |true=>
       exfalso
       obtain⟨x,hx,e⟩:=V8.1 q
       rcases (bRl (hn x hx)).1 e with e|e
       .exact d x hx (by have:=(hn x hx).1;omega)
       .rcases bJn h3 x hx b e with e|⟨y,l,e⟩
        .unfold uL at e;rw[W2,F7,hu]at e;simp at e;exact o e
        .exact d y l (by have:=(hn y l).1;omega)
     rw[g,m,qE g];rw[if_neg (λe=>ho (a.1 e))];simp[o]
def zX (l:List cT)(b:Nat):Nat:=(l.filter λx=>x.I==(b:Int)).length
section
variable {l : List cT} {x : cT} {b : Nat} {u : jX}
theorem bDu:zX (l++[x]) b=zX l b+if x.I=(b:Int)then 1 else 0:=by
 unfold zX;rw[W6,G4]
 by_cases e:x.I=(b:Int)<;>simp[e]
theorem bEv(e:x.I≠(b:Int)):qS (l++[x]) b u=qS l b u:=by unfold qS;rw[W6];simp[e]
theorem bKm(e:x.I=(b:Int)):qS (l++[x]) b u=(decide (zX l b+1=1)&&wholeS x u.K):=by
 unfold qS zX;rw[W6]
 cases h:l.filter (λx=>x.I==(b:Int))with
 |nil=>simp[e]
 |cons y r=>simp[e]
end
section
variable {P : Program} {β : dY} {n : Nat} {Γ : Env} {H : List bD} {F : List bC} {Q : Exit -> Act -> World -> Prop} {K : Act -> World -> Prop} {T : Tab} {α : Type} {E : Flat α}
theorem elem_of{t e:Nat}(hu:P.underlying t=some (.slice e)):P.elem t=e:=by simp[Program.elem,hu]
theorem run_cutTo(hT:fC P T){t e sz:Nat}{ei:TI}(ht:T.get t=some ⟨.slice e,sz⟩)(he:T.get e=some ei){A:Option Addr}{l c k:Nat}(hk:k<=c)(kk:IntKind)(w:World):(K5 t (.slice A l c) none (some (.int kk (k:Nat))) none).run P w= .ok (.slice A k c) w:=by
 obtain⟨d,hu,hd⟩:=hT.any ht;cases d<;>simp[TD.of]at hd
 subst hd;have hel:=elem_of hu;rw[run_sliceAt_slice w t _ _ _ _ ab3,run_slice_h w t A l c ab3 kk (k:Int) j5 j5,hel,hT.size he];simp only[J6,sliced,Int.toNat_natCast,Nat.zero_mul,Nat.sub_zero]
 congr 2
 split
 .rfl
 .cases A<;>simp[Addr.add]
theorem run_cutFrom(hT:fC P T){t e sz:Nat}{ei:TI}(ht:T.get t=some ⟨.slice e,sz⟩)(he:T.get e=some ei){A:Option Addr}{l c k:Nat}(hk:k<=l)(kk:IntKind)(w:World):(K5 t (.slice A l c) (some (.int kk (k:Nat))) none none).run P w= .ok (.slice (cutA A k ei.size c) (l-k) (c-k)) w:=by
 obtain⟨d,hu,hd⟩:=hT.any ht;cases d<;>simp[TD.of]at hd
 subst hd;have hel:=elem_of hu;rw[run_sliceAt_slice w t _ _ _ _ ab3,run_slice_l w t A l c ab3 kk (k:Int) j5 j5,hel,hT.size he];simp only[J6,sliced,Int.toNat_natCast,cutA]
theorem lB{b:Nat}{cs:List Value}{t:TypeId}{H':List bD}(hH:bZ H (.obj b (.cells cs.toArray t)) H')(h:At β n Γ H' (bC.cells b 0 cs::F) K):At β n Γ H F K:=λa w S f s k=>by
 have e:=s.perm hH.perm;have m:w.heap[b]?=some (.cells cs.toArray t):=e.ok _ (F9 ..);have d:=F4.1 e.sep;have i:=e.own _ (F9 ..);have g:All F (λx=>S x\/x=b) w:=All.mono (λ_ h=> .inl h) (λ_ _=>rfl) k;refine h a w (λx=>S x\/x=b) f ⟨e.kept,λc l=>e.ok c (F3 _ l),λc l x hx=>?_,d.2,λx hx=>?_⟩ (All.cons ?_ g)
 .obtain⟨h1,h2,h3⟩:=e.own c (F3 _ l) x hx;refine⟨h1,h2,λh=>?_⟩
  rcases h with h|h
  .exact h3 h
  .subst h;exact d.1 c l _ rfl hx
 .rcases hx with hx|hx
  .exact e.zb x hx
  .subst hx;obtain⟨h1,h2,_⟩:=i _ rfl;exact⟨h1,.inr h2⟩
 .refine⟨.inr rfl,λj u o=>?_⟩;unfold D8;rw[m]
  simpa using o
theorem Has.cons{f g:bC}{F:List bC}(h:Has F g):Has (f::F) g:=λS w k=>h S w λx hx=>k x (F3 _ hx)
theorem Has.each_nil{α:Type}{g:α->bC}{F:List bC}:Has F (bC.each [] g):=λ_ _ _ x hx=>by simp at hx
theorem Has.each_cons{α:Type}{g:α->bC}{F:List bC}{x:α}{l:List α}(hx:Has F (g x))(hl:Has F (bC.each l g)):Has F (bC.each (x::l) g):=λS w k y a=>by
 rcases F1.1 a with rfl|a
 .exact hx S w k
 .exact hl S w k y a
theorem wP(hT:fC P T){o:Oper}{t e sz k l cap:Nat}{ei:TI}{x i:Operand}{kk:IntKind}{z:Int}{A:Option Addr}(ho:o.op= .slice t x none (some i) none)(hx:Γ.ev x=some (.slice A l cap))(hi:Γ.ev i=some (.int kk z))
  (ht:T.get t=some ⟨.slice e,sz⟩) (he:T.get e=some ei) (hz:z=(k:Nat)) (hk:k<=cap):Sti P β n Γ H F o (.slice A k cap):=λa w S f s b=>by subst hz;unfold execOp;simp only[ho,f.ev hx,N5,N6,f.ev hi];rw[J0,run_cutTo hT ht he hk];rfl
theorem bKt(hT:fC P T){o:Oper}{t e sz k l cap:Nat}{ei:TI}{x i:Operand}{kk:IntKind}{z:Int}{A:Option Addr}(ho:o.op= .slice t x (some i) none none)(hx:Γ.ev x=some (.slice A l cap))(hi:Γ.ev i=some (.int kk z))
  (ht:T.get t=some ⟨.slice e,sz⟩) (he:T.get e=some ei) (hz:z=(k:Nat)) (hk:k<=l):Sti P β n Γ H F o (.slice (cutA A k ei.size cap) (l-k) (cap-k)):=λa w S f s b=>by subst hz;unfold execOp;simp only[ho,f.ev hx,N5,N6,f.ev hi];rw[J0,run_cutFrom hT ht he hk];rfl
theorem bMp{A:Option Addr}{l c k:Nat}{xs:List α}(h:Has F (E.sl (.slice A l c) xs))(hk:k<=xs.length):Has F (E.sl (.slice A k c) (xs.take k)):=λS w q=>by
 obtain⟨d,b,e,h⟩:=h S w q;injection e with e1 e2 e3
 subst e1 e3;refine⟨A,c,by rw[List.length_take,Nat.min_eq_left hk],λj x a=>?_⟩;rw[List.getElem?_take]at a;split at a
 .exact h j x a
 .cases a
theorem bAl{A:Option Addr}{t:TypeId}{m cap:Nat}{xs:List α}{H':List bD}(hH:bZ H (E.row (.slice A m cap) t xs) H')(h:xs.length<=cap->At β n Γ H F K):At β n Γ H F K:=λa w S f s k=>by
 have b:w.ownsRow 0 t E.size (.slice A m cap) xs.length (E.all xs):=s.ok _ hH.mem;refine h ?_ a w S f s k
 rcases b.2 with ⟨_,i⟩|⟨g,d,e,c,h1,h2,h3,_⟩
 .omega
 .injection c with c e2 e3
  subst e3;omega
end
theorem dJ:prog.follows .mixedOrders=true:=j8
def bLo (a b:Mono):Bool:=a.eqB b
theorem bGi{β:dY}{n:Nat}{Γ:Env}{H:List bD}{F:List bC}{o:Oper}{a b:Operand}{tt:TypeId}(x y:Mono)(ho:o.op= .binOp .neq 111 a b tt)(hx:Γ.ev a=some (.agg #[j3 x.n,j4 x.e0.toNat,j4 x.q.toNat,j4 x.o.toNat,j4 x.j.toNat,j4 x.d.toNat,j4 x.Z.toNat]))(hy:Γ.ev b=some (.agg #[j3 y.n,j4 y.e0.toNat,j4 y.q.toNat,j4 y.o.toNat,j4 y.j.toNat,j4 y.d.toNat,j4 y.Z.toNat])):Sti prog β n Γ H F o (.bool (!bLo x y)):=λc w S f s k=>by
 have hq:prog.eqGuardType prog.depth 111=false:=j8
 have hg:(eqGuard .neq 111 a b (.agg #[.int .i64 x.n,.int .u8 x.e0.toNat,.int .u8 x.q.toNat,.int .u8 x.o.toNat,.int .u8 x.j.toNat,.int .u8 x.d.toNat,.int .u8 x.Z.toNat]) (.agg #[.int .i64 y.n,.int .u8 y.e0.toNat,.int .u8 y.q.toNat,.int .u8 y.o.toNat,.int .u8 y.j.toNat,.int .u8 y.d.toNat,.int .u8 y.Z.toNat])).run prog w= .ok () w:=by unfold eqGuard;have d:(program:Sem Program).run prog w= .ok prog w:=rfl;simp[d,hq]
 unfold execOp;simp only[ho,f.ev hx,f.ev hy];rw[J0,J0,hg,J6,run_neq_mono];rfl
theorem mono_eq{x y:Mono}:bLo x y=true↔x=y:=Mono.eqB_iff x y
theorem mono_t{x y:Mono}(h:(!bLo x y)=true):x≠y:=λe=>by rw[mono_eq.2 e]at h;cases h
theorem mono_f{x y:Mono}(h:(!bLo x y)=false):x=y:=mono_eq.1 ab6
def polsL (l:List PolV):List (List Mono):=l.map (·.B)
theorem bS(l:List PolV):(polsL l).length=l.length:=I2 _
theorem cG{l:List PolV}{i:Nat}{p:PolV}(h:l[i]?=some p):(polsL l)[i]?=some p.B:=by unfold polsL;rw[F7,h];rfl
def OpV.c (o:OpV):OpC:=⟨o.N,o.k,o.n,o.p.B,o.fn⟩
def opsL (l:List OpV):List OpC:=l.map OpV.c
def jW.c (b:jW):jX:=⟨polsL b.K.B,b.L⟩
def gA.c (s:gA):cT:=⟨s.N,s.I,s.at_.B,polsL s.H.B,s.fn,opsL s.ops.B⟩
def bAj (l:List gA):List cT:=l.map gA.c
def vE (l:List jW):List jX:=l.map jW.c
def fX.c (c:fX):dR:=⟨c.vars,vE c.C.B,bAj c.D.B,c.Q.B⟩
theorem fQ(l:List OpV):(opsL l).length=l.length:=I2 _
theorem cS(l:List gA):(bAj l).length=l.length:=I2 _
theorem cQ(l:List jW):(vE l).length=l.length:=I2 _
theorem iO{l:List OpV}{i:Nat}{x:OpV}(h:l[i]?=some x):(opsL l)[i]?=some x.c:=by unfold opsL;rw[F7,h];rfl
theorem cN{l:List gA}{i:Nat}{x:gA}(h:l[i]?=some x):(bAj l)[i]?=some x.c:=by unfold bAj;rw[F7,h];rfl
theorem cM{l:List jW}{i:Nat}{x:jW}(h:l[i]?=some x):(vE l)[i]?=some x.c:=by unfold vE;rw[F7,h];rfl
theorem bIw{α:Type} [DecidableEq α]{a b:List α}(h:a≠b):Value.bool false= .bool (decide (a=b)):=by simp[h]
theorem eqT_of{α:Type} [DecidableEq α]{a b:List α}(h:a=b):Value.bool true= .bool (decide (a=b)):=by simp[h]
theorem nil_pol{α:Type}{E:Flat α}{F:List bC}:Has F (E.sl (.slice none 0 0) []):=λ_ _ _=>⟨none,0,rfl,λk x a=>by simp at a⟩
def yG (l:List PolV):bC:=bC.each l cR
theorem fT{F:List bC}{p:PolV}(h:Has F (cR p)):Has F (dM.sl (f9 p) p.B):=h.left
theorem bMs{F:List bC}{p:PolV}(h:Has F (cR p)):Has F (bC.pure (p.B.length<=8796093022208)):=h.right
theorem dI{F:List bC}{p:PolV}(h:Has F (cR p)):Has F (bC.pure (p.B.length<=140737488355328)):=λS w k=>C0 (bMs h S w k) l4
theorem polF_nil: ∀{F:List bC},Has F (cR ⟨none,0,[]⟩):=Has.and nil_pol (f4 l4)
def bKg {α:Type}(b:Nat)(l:Sl α):bC:=bC.pure (l.B.length<=l.cap/\l.B.length*b<=140737488355328)
def nL (l:Sl PolV):bC:=((fF.sl (.slice l.O l.B.length l.cap) l.B).and (yG l.B)).and (bKg 24 l)
def opF (x:OpV):bC:=cR x.p
def bRx (l:Sl OpV):bC:=((opE.sl (.slice l.O l.B.length l.cap) l.B).and (bC.each l.B opF)).and (bKg 56 l)
def mO (x:gA):bC:=(cR x.at_).and ((nL x.H).and (bRx x.ops))
def bIr (l:Sl gA):bC:=((pU.sl (.slice l.O l.B.length l.cap) l.B).and (bC.each l.B mO)).and (bKg 96 l)
def bSc (x:jW):bC:=nL x.K
def bufsF (l:Sl jW):bC:=((sU.sl (.slice l.O l.B.length l.cap) l.B).and (bC.each l.B bSc)).and (bKg 32 l)
def outsF (l:Sl Int):bC:=(dA.sl (.slice l.O l.B.length l.cap) l.B).and (bKg 8 l)
def lH (c:fX):bC:=(bufsF c.C).and ((bIr c.D).and (outsF c.Q))
section
variable {F : List bC} {c : fX} {s : gA} {l : Sl PolV} {ol : Sl OpV} {bl : Sl jW} {xl : Sl gA} {il : Sl Int}
theorem gC(h:Has F (lH c)):Has F (bufsF c.C):=h.left
theorem gS(h:Has F (lH c)):Has F (bIr c.D):=h.right.left
theorem bEq(h:Has F (lH c)):Has F (outsF c.Q):=h.right.right
theorem bFk(h:Has F (mO s)):Has F (cR s.at_):=h.left
theorem nA(h:Has F (mO s)):Has F (nL s.H):=h.right.left
theorem mA(h:Has F (mO s)):Has F (bRx s.ops):=h.right.right
theorem mW(h:Has F (nL l)):Has F (fF.sl (f9 l) l.B):=h.left.left
theorem mY(h:Has F (nL l)):Has F (yG l.B):=h.left.right
theorem qB(h:Has F (nL l)):Has F (bKg 24 l):=h.right
theorem bHk(h:Has F (bRx ol)):Has F (opE.sl (f9 ol) ol.B):=h.left.left
theorem opsF_e(h:Has F (bRx ol)):Has F (bC.each ol.B opF):=h.left.right
theorem opsF_c(h:Has F (bRx ol)):Has F (bKg 56 ol):=h.right
theorem lM(h:Has F (bIr xl)):Has F (pU.sl (f9 xl) xl.B):=h.left.left
theorem oM(h:Has F (bIr xl)):Has F (bC.each xl.B mO):=h.left.right
theorem stepsF_c(h:Has F (bIr xl)):Has F (bKg 96 xl):=h.right
theorem kG(h:Has F (bufsF bl)):Has F (sU.sl (f9 bl) bl.B):=h.left.left
theorem rV(h:Has F (bufsF bl)):Has F (bC.each bl.B bSc):=h.left.right
theorem bEi(h:Has F (outsF il)):Has F (dA.sl (f9 il) il.B):=h.left
