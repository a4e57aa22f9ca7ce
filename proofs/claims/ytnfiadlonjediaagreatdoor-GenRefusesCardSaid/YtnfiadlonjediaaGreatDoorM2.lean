/- A part of one proof. -/
import Derived.Test.YtnfiadlonjediaaGreatDoorM1
import Derived.Deep.Upon
import Derived.Lib.AppendZeros
import Derived.Deep.Slices
namespace Go.Proofs.YtnfiadlonjediaaGreatDoor
open Sem renaming run_bind->J0,run_pure->J1
open Result renaming andThen_ok->J6
open _root_.Array renaming ext'->E2,getElem?_eq_some_iff->N9,range->O0,length_toList->O1,map_empty->O2,ext->O3,getElem_modify->O4,getElem?_modify->E3,getElem?_eq_none->E0,setIfInBounds_comm->E4,replicate->E5,getD_eq_getD_getElem?->E1
open Builtin renaming cap_->O5,lenOf->O6,firstCells->O7,append_->O8,zeroCells->O9,delete_->P1,clear_->P2,copy_->P3
open _root_.List renaming getElem?_map->F7,map_congr_left->H7,map_append->P4,mem_map->P5,length_map->I2,take_append_of_le_length->P6,mem_append->F2,mem_of_mem_take->P7,mem_of_mem_drop->H4,eq_nil_of_length_eq_zero->P8,nil_append->P9,length_append->G4,size_toArray->Q4,drop_zero->Q5,all_eq_true->G0,mem_cons_of_mem->F3,mem_cons_self->F9,map_nil->Q6,mem_cons->F1,mem_singleton->Q7,findIdx?_cons->Q8,getElem?_eq_some_iff->G3,getElem?_eq_getElem->G1,range->Q9,length_set->R0,getElem?_set_self->G8,getElem?_set_ne->R1,append_nil->R2,pairwise_cons->F4
open Instr renaming sureAddr->J8,buildSlice->R3,storeAt->K0,makeMap->R4,keyThatStays->R5,mapUpdate->R6,mapEntry->R7
open _root_.Nat renaming beq_eq->D6,lt_of_lt_of_le->B2,le_refl->B8,le_trans->C0,le_succ->R8,lt_succ_self->R9,add_zero->C5,beq->B1,ble->C7,zero_add->D1,lt_or_ge->A8,add_mul->C9,mul_le_mul_right->D2,blt_eq->D7,blt->C2,eq_of_beq_eq_true->B5,zero_le->S6,not_lt_zero->S7,lt_succ_of_lt->S8
open World renaming cell?->D8,freeze->S9
open Program renaming cellsOf->T0
open _root_.Option renaming map_some->N5,getD_some->T1,map_none->N6,isNone_iff_eq_none->T2
open _root_.Bool renaming and_eq_true->L9,not_eq_true'->T3,false_eq_true->L8,or_eq_true->M0
open MapKept renaming run_keyThatStays->T4,run_getObj_map->T5,run_setObj_map->T6
open Region renaming wanted->I3,ready->I4,binds->I5,noSelect->I7,noSelect_spec->I8
open Oper renaming wp->L2,apart_spec->T7,upon_skip->L4,upon_value->L3,upon_enter->L5
open Code renaming wp_mono->T8,rounds->E9
section
namespace X
open Go.RowKit
theorem cY{P:Program}{S:Sem Value}{v:Value}{w w':World}(h:S.run P w= .ok v w'):(do pure (Next.value (<-S)):Sem Next).run P w= .ok (.value v) w':=by rw[J0,h];rfl
theorem nU(f:Operand->Value)(b:Builtin)(args:Array Operand)(ts:Array TypeId)(ty:TypeId){P:Program}(w:World):(do let d<-resolve f ⟨.builtin b,args,ts⟩ ty;invoke d.target d.args:Sem Next).run P w=(builtin b ts ty (args.map λ|.const _=>true|_=>false) (args.map f)).run P w:=by simp only[resolve,J0,J1,J6,invoke];rfl
theorem bLq{args:Array Operand}{x:Operand}(h:args.toList=[x])(f:Operand->Value):args.map f= #[f x]:=by
 have:args= #[x]:=by apply E2;simpa using h
 subst this;simp
theorem wD{args:Array Operand}{x y:Operand}(h:args.toList=[x,y])(f:Operand->Value):args.map f= #[f x,f y]:=by
 have:args= #[x,y]:=by apply E2;simpa using h
 subst this;simp
section
variable [Ctx] {α : As} {s : St} {w : World} {N : Nat} {e : E} {a : Act}
theorem call_run(hs:Sim α s w)(he:EOk α s N e a){b:Builtin}{args:Array Operand}{ts:Array TypeId}{v:V}(h:pCall b args.toList ts.toList s e=some v)(ty:TypeId):
  (do let d<-resolve a.eval ⟨.builtin b,args,ts⟩ ty;invoke d.target d.args:Sem Next).run Ctx.P w= .ok (.value (v.inst α)) w:=by
 rw[nU];cases b<;>try cases h
 case len=>
  have h:(match args.toList,ts.toList with
   |[x],[t]=>pLen e x t s
   |_,_=>none)=some v:=h
  split at h
  .rename_i x t hx g;have j:ts= #[t]:=by apply E2;simpa using g
   obtain⟨u,hu,h1⟩:=bB h;obtain⟨d,hd,h2⟩:=bB h1;obtain⟨n,hn,h3⟩:=bB h2;cases h3;rw[bLq hx,(cA hs he hu).1,j];exact cY (len_run hs hd hn ty)
  .cases h
 case cap=>
  have h:(match args.toList,ts.toList with
   |[x],[t]=>ob (evX x e) λu=>gd (isSl t) (capX u)
   |_,_=>none)=some v:=h
  split at h
  .rename_i x t hx g;have j:ts= #[t]:=by apply E2;simpa using g
   obtain⟨u,hu,h1⟩:=bB h;obtain⟨h2,h3⟩:=bQ h1
   have i: ∃el,Ctx.P.underlying t=some (.slice el):=by
    unfold isSl at h2;split at h2
    .exact⟨_,by assumption⟩
    .cases h2
   obtain⟨el,hel⟩:=i;rw[bLq hx,(cA hs he hu).1,j];refine cY ?_
   cases u with
   |l0=>
    cases h3;simp[O5,run_underlying hel,V.inst,goInt]
   |l k o n c=>
    cases c<;>cases h3
    simp[O5,run_underlying hel,V.inst,goInt,Cap.inst]
   |_=>cases h3
  .cases h
 case unsafeSliceData=>
  have h:(match args.toList with
   |[x]=>ob (evX x e) dataX
   |_=>none)=some v:=h
  split at h
  .rename_i x hx;obtain⟨u,hu,h1⟩:=bB h;rw[bLq hx,(cA hs he hu).1];refine cY ?_
   cases u with
   |l0=>
    cases h1;exact Lib.run_unsafeSliceData_nil w ts ty 0 0
   |l k o n c=>
    obtain⟨h2,h3⟩:=bQ (show gd _ _=some v from h1);cases h3;refine Lib.run_unsafeSliceData_row w ts ty ⟨α.blk k,o,none⟩ n (c.inst α) ?_;have:=bFr c α;intro z;rw[z]at this;have:c.least=0:=j5
    rw[this]at h2;cases h2
   |_=>cases h1
  .cases h
 case max=>
  have h:(match args.toList with
   |[x,y]=>pMost e true x y
   |_=>none)=some v:=h
  split at h
  .rename_i x y hx;obtain⟨u,hu,h1⟩:=bB h;obtain⟨m,f,h2⟩:=bB h1;obtain⟨k,p,rfl,h3⟩:=mM h2;obtain⟨r,q,rfl,h4⟩:=mM h3;cases h4;rw[wD hx,(cA hs he hu).1,(cA hs he f).1];refine cY ?_;simp only[V.inst,cP,ilt_eq];simp[Builtin.max_,Builtin.max2]
  .cases h
 case min=>
  have h:(match args.toList with
   |[x,y]=>pMost e false x y
   |_=>none)=some v:=h
  split at h
  .rename_i x y hx;obtain⟨u,hu,h1⟩:=bB h;obtain⟨m,f,h2⟩:=bB h1;obtain⟨k,p,rfl,h3⟩:=mM h2;obtain⟨r,q,rfl,h4⟩:=mM h3;cases h4;rw[wD hx,(cA hs he hu).1,(cA hs he f).1];refine cY ?_;simp only[V.inst,cP,ilt_eq];simp[Builtin.min_,Builtin.min2]
  .cases h
theorem bPx{t:TypeId}{q:Bool}(h:isIf t=some q)(hq:(!q)=true): ∃d,Ctx.P.underlying t=some d/\ ∀ms,d≠ .interface ms:=by obtain⟨d,hd,h1⟩:=bB h;refine⟨d,hd,λms a=>?_⟩;subst a;cases h1;cases hq
theorem pure_run(hs:Sim α s w)(he:EOk α s N e a){o:Oper}{v:V}(h:pureX o.op s e=some v):(execOp a.eval o).run Ctx.P w= .ok (.value (v.inst α)) w:=by
 unfold execOp;cases ho:o.op<;>rw[ho]at h<;>simp only
 case move x=>
  rw[(cA hs he (show evX x e=some v from h)).1];rfl
 case assign x=>
  rw[(cA hs he (show evX x e=some v from h)).1];rfl
 case pick c x y=>
  obtain⟨u,hu,h1⟩:=bB (show ob (evX c e) _=some v from h);obtain⟨t,rfl,h2⟩:=bRi h1;rw[cP]at h2;rw[(cA hs he hu).1];cases t
  .simp at h2;simp[V.inst,asBool,(cA hs he h2).1]
  .simp at h2;simp[V.inst,asBool,(cA hs he h2).1]
 case binOp op t x y t'=>
  obtain⟨u,hu,h1⟩:=bB (show ob (evX x e) _=some v from h);obtain⟨I,A,h2⟩:=bB h1;rw[(cA hs he hu).1,(cA hs he A).1];exact cY (bin_run h2)
 case unOp op t x=>
  obtain⟨u,hu,h1⟩:=bB (show ob (evX x e) _=some v from h);rw[(cA hs he hu).1];refine cY ?_;cases op<;>try cases h1
  case neg=>
   obtain⟨k,z,rfl,h2⟩:=mM (show asI u _=some v from h1);cases h2;simp[Op.unary,Op.intArith,V.inst,bEp]
   congr 1
   exact(Int.zero_sub z).symm
  case not=>
   obtain⟨z,rfl,h2⟩:=bRi (show asB u _=some v from h1);cases h2;simp[Op.unary,V.inst]
 case convert src d x=>
  obtain⟨u,hu,h1⟩:=bB (show ob (evX x e) _=some v from h);rw[(cA hs he hu).1];exact cY (conv_run hs h1)
 case extract x i=>
  obtain⟨u,hu,h1⟩:=bB (show ob (evX x e) _=some v from h);obtain⟨X,rfl,h2⟩:=asT_some h1;rw[jM]at h2;rw[(cA hs he hu).1];refine cY ?_;rw[inst_t];simp[Instr.extract,F7,h2]
 case load t x=>
  obtain⟨u,hu,h1⟩:=bB (show ob (evX x e) _=some v from h);obtain⟨k,q,rfl,h2⟩:=qQ h1;rw[(cA hs he hu).1];refine cY ?_;simp only[V.inst,Instr.loadAt,J8,J0,J1,J6,bOg hs h2]
 case fieldAddr t x f=>
  obtain⟨Q,m,h1⟩:=bB (show ob (fieldAt t f) _=some v from h);obtain⟨u,hu,h2⟩:=bB h1;obtain⟨k,q,rfl,h3⟩:=qQ h2;cases h3;rw[(cA hs he hu).1];exact cY (bSh m)
 case field t x f=>
  obtain⟨⟨ft,Q⟩,m,h1⟩:=bB (show ob (bFq t f) _=some v from h);obtain⟨u,hu,h2⟩:=bB h1;obtain⟨W,rfl,h3⟩:=wJ h2;rw[(cA hs he hu).1];exact cY (field_run m h3)
 case indexAddr t x i=>
  obtain⟨z,l,h1⟩:=bB (show ob (evX i e) _=some v from h);obtain⟨k,n,rfl,h2⟩:=uN h1;obtain⟨q,hq,h3⟩:=bB h2;obtain⟨u,hu,h4⟩:=bB h3;rw[(cA hs he l).1,(cA hs he hu).1];exact cY (bSm hq h4)
 case index t x i=>
  obtain⟨z,l,h1⟩:=bB (show ob (evX i e) _=some v from h);obtain⟨k,n,rfl,h2⟩:=uN h1;obtain⟨u,hu,h3⟩:=bB h2;rw[(cA hs he l).1,(cA hs he hu).1];exact cY (index_run h3)
 case slice t x lo hi mx=>
  obtain⟨u,hu,h1⟩:=bB (show ob (evX x e) _=some v from h);rw[(cA hs he hu).1];exact cY (slice_run hs he h1)
 case nilCheck x=>
  obtain⟨u,hu,h1⟩:=bB (show ob (evX x e) _=some v from h);rw[(cA hs he hu).1]
  cases u with
  |p k q=>
   cases h1;rfl
  |f fn x y=>
   cases fn<;>cases h1
   rw[bOf];rfl
  |_=>cases h1
 case makeFunc fn first cap=>
  obtain⟨x,hx,h1⟩:=bB (show ob (evsX first.toList e) _=some v from h);obtain⟨y,J,h2⟩:=bB h1;cases h2;have U:first.map a.eval=(x.map (V.inst α)).toArray:=by apply E2;simpa using (bAy hs he hx).1
  have R:cap.map a.eval=(y.map (V.inst α)).toArray:=by apply E2;simpa using (bAy hs he J).1
  rw[U,R,bOf];rfl
 case makeInterface t x=>
  obtain⟨q,hq,h1⟩:=bB (show ob (isIf t) _=some v from h);obtain⟨h2,h3⟩:=bQ h1;obtain⟨u,hu,h4⟩:=bB h3;cases h4;obtain⟨d,hd,j⟩:=bPx hq h2;rw[(cA hs he hu).1];refine cY ?_;unfold Instr.makeInterface;rw[J0,run_underlying hd,J6];cases d<;>first|exact absurd rfl (j _)|rfl
 case typeAssert x xt t ok=>
  obtain⟨q,hq,h1⟩:=bB (show ob (isIf t) _=some v from h);obtain⟨h2,h3⟩:=bQ h1;obtain⟨u,hu,h4⟩:=bB h3;obtain⟨t',I,rfl,E⟩:=asE_some h4;obtain⟨r,D⟩:=bQ E;cases D;have r:t'=t:=by simpa[D6]using r
  subst r;obtain⟨d,hd,j⟩:=bPx hq h2;rw[(cA hs he hu).1];refine cY ?_;unfold Instr.typeAssert;rw[J0,run_underlying hd,J6];cases d<;>first|exact absurd rfl (j _)|(cases ok<;>simp[V.inst,cP,V.instL])
 case build t parts=>
  obtain⟨z,l,h1⟩:=bB (show ob (zeroX t) _=some v from h);obtain⟨pl,L,h2⟩:=bB h1;obtain⟨Z,B,h3⟩:=bB h2;obtain⟨W,O,h4⟩:=bB h3;cases h4;exact cY (build_run l L O (by simpa using (vH hs he B).1))
 case call c=>
  obtain⟨g,G,Y⟩:=c
  cases g with
  |builtin b=>exact call_run hs he h o.type
  |_=>cases h
 case lookup t x ix ok=>
  obtain⟨⟨kt,et⟩,K,h1⟩:=bB (show ob (bNc t) _=some v from h);obtain⟨u,hu,h2⟩:=bB h1;obtain⟨k,M,h3⟩:=bB h2;obtain⟨h4,E⟩:=bQ h3;obtain⟨es,C,r⟩:=bB E;obtain⟨f,m,D⟩:=bB r;rw[(cA hs he hu).1,(cA hs he M).1];exact cY (lookup_run hs K h4 C m D)
 all_goals cases h
end
end X
end
section
namespace X
open Go.RowKit
def Blk.ro:Blk->Bool
 |.cells _ _ _ ro=>ro
 |.win _=>true
 |.know _=>true
 |_=>false
structure Fr (α:As) (s:St) (w w':World):Prop where
 os:w'.os=w.os
 tape:w'.tape=w.tape
 output:w'.output=w.output
 size:w.heap.size<=w'.heap.size
 block: ∀b,b<w.heap.size->(∀k x,s.h.get k=some x->x.ro=false->α.blk k≠b)->w'.heap[b]?=w.heap[b]?
section
variable [Ctx]
structure Stp (α:As) (s:St) (w:World) (α':As) (s':St) (w':World):Prop where
 same:nM s.n s.c α α'
 n:s.n<=s'.n
 c:s.c<=s'.c
 zc:Sim α' s' w'
 fr:Fr α s w w'
 new: ∀k x,s'.h.get k=some x->(∃k0 x0,s.h.get k0=some x0/\(x.ro=false->x0.ro=false)/\α.blk k0=α'.blk k)\/w.heap.size<=α'.blk k
section
variable {α α' α'' : As} {s s' s'' : St} {w w' w'' : World}
theorem Blk.Is.ext{x:Blk}{n c r r':Nat}(hx:x.Sc n c)(hs:nM n c α α')(hr:w'.heap[r']?=w.heap[r]?)(h:x.Is α w r):x.Is α' w' r':=by
 cases x with
 |cells cs t ext ro=>
  have a:cs.map (V.inst α)=cs.map (V.inst α'):=H7 λv e=>(hx.1 v e).1.ext hs
  cases ext with
  |none=>
   show w'.heap[r']?=_;rw[hr,<-a];exact h
  |some k=>
   obtain⟨rest,h1,h2⟩:=h;refine⟨rest,?_,?_⟩
   .rw[h1,hs.room k (hx.2 k rfl)]
   .rw[hr,<-a];exact h2
 |map es clock=>
  have a:es.map (entI α)=es.map (entI α'):=H7 λy b=>by simp only[entI,(hx y b).1.ext hs,(hx y b).2.ext hs]
  show w'.heap[r']?=_;rw[hr,<-a];exact h
 |sit y pos=>
  show w'.heap[r']?=_;rw[hr];exact h
 |mit m since seen last=>
  have a:m.map α.blk=m.map α'.blk:=by
   cases m with
   |none=>rfl
   |some k=>simp[hs.blk k (hx k rfl)]
  show w'.heap[r']?=_;rw[hr,<-a];exact h
 |win cs=>
  obtain⟨h1,h2⟩:=h;refine⟨?_,λi v d=>?_⟩
  .have:w'.heap[r']?=some w.heap[r]:=by rw[hr];exact Array.getElem?_eq_getElem h1
   exact(N9.1 this).1
  .rw[<-(hx v (f5 d)).1.ext hs,<-h2 i v d];unfold D8;simp only[hr]
 |know n=>
  obtain⟨o,h1,h2⟩:=h;exact⟨o,hr.trans h1,h2⟩
theorem Blk.Is.lt{x:Blk}{r:Nat}(h:x.Is α w r):r<w.heap.size:=by
 have key: ∀o:Obj,w.heap[r]?=some o->r<w.heap.size:=λo ho=>(N9.1 ho).1
 cases x with
 |cells cs t ext ro=>
  cases ext with
  |none=>exact key _ h
  |some k=>exact h.elim λrest h=>key _ h.2
 |map es clock=>exact key _ h
 |sit y pos=>exact key _ h
 |mit m since seen last=>exact key _ h
 |win cs=>exact h.1
 |know n=>exact h.elim λo h=>key _ h.1
omit [Ctx]in
theorem Blk.Sc.mono{x:Blk}{n c n' c':Nat}(h:x.Sc n c)(hn:n<=n')(hc:c<=c'):x.Sc n' c':=by
 cases x with
 |cells cs t ext ro=>exact⟨λv a=>⟨(h.1 v a).1.mono hn hc,(h.1 v a).2⟩,λk b=>B2 (h.2 k b) hc⟩
 |map es clock=>exact λy d=>⟨(h y d).1.mono hn hc,(h y d).2.mono hn hc⟩
 |sit y pos=>trivial
 |mit m since seen last=>exact λk b=>B2 (h k b) hn
 |win cs=>exact λv a=>⟨(h v a).1.mono hn hc,(h v a).2⟩
 |know n=>trivial
theorem Sim.grow(h:Sim α s w)(hb:Below w.heap.size w w'):Sim α s w':=
 ⟨h.gl,h.lt,h.sc,λk x a=>(h.is k x a).ext (h.sc k x a) (nM.refl _ _ _) (hb.block _ (h.is k x a).lt),h.ne⟩
omit [Ctx]in
theorem Fr.refl:Fr α s w w:=⟨rfl,rfl,rfl,B8 _,λ_ _ _=>rfl⟩
theorem Stp.refl(h:Sim α s w):Stp α s w α s w:=⟨nM.refl _ _ _,B8 _,B8 _,h,Fr.refl,λk x a=> .inl ⟨k,x,a,id,rfl⟩⟩
theorem Stp.trans(h:Stp α s w α' s' w')(k:Stp α' s' w' α'' s'' w''):Stp α s w α'' s'' w'' where
 same:=h.same.trans k.same h.n h.c
 n:=C0 h.n k.n
 c:=C0 h.c k.c
 zc:=k.zc
 fr:=⟨k.fr.os.trans h.fr.os,k.fr.tape.trans h.fr.tape,k.fr.output.trans h.fr.output,C0 h.fr.size k.fr.size,λb hb hn=>by
  refine(k.fr.block b (B2 hb h.fr.size) λi x f hr e=>?_).trans (h.fr.block b hb hn)
  rcases h.new i x f with ⟨d,a,h1,h2,h3⟩|h1
  .exact hn d a h1 (h2 hr) (h3.trans e)
  .omega⟩
 new:=λi x f=>by
  rcases k.new i x f with ⟨d,a,h1,h2,h3⟩|h1
  .rcases h.new d a h1 with ⟨j,g,h4,m,l⟩|h4
   .exact .inl ⟨j,g,h4,λhr=>m (h2 hr),l.trans h3⟩
   .exact .inr (by rw[<-h3];exact h4)
  .exact .inr (C0 h.fr.size h1)
theorem Stp.make(hs:Sim α s w)(M:Nat->Prop)(same:nM s.n s.c α α')(hn:s.n<=s'.n)(hc:s.c<=s'.c)(ho:w'.os=w.os)(ht:w'.tape=w.tape)(hp:w'.output=w.output)(hz:w.heap.size<=w'.heap.size)
  (kept: ∀b,b<w.heap.size-> ¬M b->w'.heap[b]?=w.heap[b]?) (hM: ∀b,M b->b<w.heap.size-> ∃k x,s.h.get k=some x/\x.ro=false/\α.blk k=b)
  (old: ∀k x,s'.h.get k=some x->(s.h.get k=some x/\ ¬M (α.blk k))\/(k<s'.n/\x.Sc s'.n s'.c/\x.Is α' w' (α'.blk k)/\(w.heap.size<=α'.blk k\/ ∃k0 x0,s.h.get k0=some x0/\x0.ro=false/\α.blk k0=α'.blk k)))
  (ne: ∀k k' x x',s'.h.get k=some x->s'.h.get k'=some x'->α'.blk k=α'.blk k'->k=k'):Stp α s w α' s' w' where
 same:=same
 n:=hn
 c:=hc
 zc:=⟨λg k a=>by
   obtain⟨h1,h2⟩:=hs.gl g k a
   exact⟨B2 h1 hn,by rw[<-same.blk k h1];exact h2⟩,
  λk x a=>by
   rcases old k x a with ⟨h1,_⟩|h1
   .exact B2 (hs.lt k x h1) hn
   .exact h1.1,
  λk x a=>by
   rcases old k x a with ⟨h1,_⟩|h1
   .exact(hs.sc k x h1).mono hn hc
   .exact h1.2.1,
  λk x a=>by
   rcases old k x a with ⟨h1,h2⟩|h1
   .have h3:=hs.is k x h1;rw[<-same.blk k (hs.lt k x h1)];exact h3.ext (hs.sc k x h1) same (kept _ h3.lt h2)
   .exact h1.2.2.1,
  ne⟩
 fr:=⟨ho,ht,hp,hz,λb hb d=>kept b hb λe=>by
  obtain⟨k,x,h1,h2,h3⟩:=hM b e hb
  exact d k x h1 h2 h3⟩
 new:=λk x a=>by
  rcases old k x a with ⟨h1,_⟩|h1
  .exact .inl ⟨k,x,h1,id,same.blk k (hs.lt k x h1)⟩
  .rcases h1.2.2.2 with h2|⟨k0,x0,h2,h3,h4⟩
   .exact .inr h2
   .exact .inl ⟨k0,x0,h2,λ_=>h3,h4⟩
omit [Ctx]in
theorem gW{t:T Blk}{v:Option Blk}{n j:Nat}{u:Blk}(h:(t.set v fuelT n).get j=some u):(j=n/\v=some u)\/(j≠n/\t.get j=some u):=T.get_set_fuel v fuelT t n j u h
def As.new(α:As)(n r c m:Nat):As:={α with blk:=λk=>if k=n then r else α.blk k,room:=λk=>if k=c then m else α.room k}
omit [Ctx]in
theorem oF(α:As)(n r c m:Nat):nM n c α (α.new n r c m):=
 ⟨λk a=>by simp[As.new];omega,λk a=>by simp[As.new];omega,λ_ _=>rfl⟩
theorem Stp.alloc(hs:Sim α s w){x:Blk}{c' r m:Nat}(hw:Below w.heap.size w w')(hr:w.heap.size<=r)(hc:s.c<=c')(hx:x.Sc (s.n+1) c')(hi:x.Is (α.new s.n r s.c m) w' r):
  Stp α s w (α.new s.n r s.c m) {h:=s.h.set (some x) fuelT s.n,n:=s.n+1,c:=c'} w':=by
 have hb: ∀k y,s.h.get k=some y->(α.new s.n r s.c m).blk k=α.blk k/\α.blk k<w.heap.size:=λk y a=>by have:=hs.lt k y a;refine⟨by simp[As.new];omega,(hs.is k y a).lt⟩
 have hb0:(α.new s.n r s.c m).blk s.n=r:=by simp[As.new]
 refine Stp.make hs (λ_=>False) (oF _ _ _ _ _) (R8 _) hc hw.os hw.tape hw.output hw.size (λb hb _=>hw.block b hb) (λ_ h=>h.elim) (λk y a=>?_) (λk f y d a g e=>?_)
 .rcases gW a with ⟨rfl,e⟩|⟨_,h⟩
  .injection e with e
   subst e;exact .inr ⟨R9 _,hx,by rw[hb0];exact hi,.inl (by rw[hb0];exact hr)⟩
  .exact .inl ⟨h,λh=>h⟩
 .rcases gW a with ⟨rfl,_⟩|⟨h1,h⟩<;>rcases gW g with ⟨rfl,_⟩|⟨j,i⟩
  .rfl
  .have:=hb f d i;rw[hb0]at e;omega
  .have:=hb k y h;rw[hb0]at e;omega
  .rw[(hb k y h).1,(hb f d i).1]at e;exact hs.ne k f y d h i e
theorem Stp.put(hs:Sim α s w){k:Nat}{x0 x:Blk}(hk:s.h.get k=some x0)(hro:x0.ro=false)(ho:w'.os=w.os)(ht:w'.tape=w.tape)(hp:w'.output=w.output)(hz:w.heap.size<=w'.heap.size)
  (kept: ∀b,b<w.heap.size->b≠α.blk k->w'.heap[b]?=w.heap[b]?) (hx:x.Sc s.n s.c) (hi:x.Is α w' (α.blk k)):Stp α s w α (s.put k x) w':=by
 refine Stp.make hs (λb=>b=α.blk k) (nM.refl _ _ _) (B8 _) (B8 _) ho ht hp hz kept (λb hb _=>⟨k,x0,hk,hro,hb.symm⟩) (λj y d=>?_) (λj l y i d a e=>?_)
 .rcases gW d with ⟨rfl,e⟩|⟨h1,h⟩
  .injection e with e
   subst e;exact .inr ⟨hs.lt _ _ hk,hx,hi,.inr ⟨_,x0,hk,hro,rfl⟩⟩
  .exact .inl ⟨h,λe=>h1 (hs.ne j k y x0 h hk e)⟩
 .rcases gW d with ⟨rfl,_⟩|⟨h1,h⟩<;>rcases gW a with ⟨rfl,_⟩|⟨g,f⟩
  .rfl
  .exact hs.ne _ _ _ _ hk f e
  .exact hs.ne _ _ _ _ h hk e
  .exact hs.ne _ _ _ _ h f e
theorem Stp.drop(hs:Sim α s w){k:Nat}{x0:Blk}(hk:s.h.get k=some x0)(hro:x0.ro=false)(ho:w'.os=w.os)(ht:w'.tape=w.tape)(hp:w'.output=w.output)(hz:w.heap.size<=w'.heap.size)
  (kept: ∀b,b<w.heap.size->b≠α.blk k->w'.heap[b]?=w.heap[b]?):Stp α s w α (s.drop k) w':=by
 refine Stp.make hs (λb=>b=α.blk k) (nM.refl _ _ _) (B8 _) (B8 _) ho ht hp hz kept (λb hb _=>⟨k,x0,hk,hro,hb.symm⟩) (λj y c=>?_) (λj i y g c a e=>?_)
 .rcases gW c with ⟨_,e⟩|⟨h1,h⟩
  .cases e
  .exact .inl ⟨h,λe=>h1 (hs.ne j k y x0 h hk e)⟩
 .rcases gW c with ⟨_,d⟩|⟨_,h⟩
  .cases d
  .rcases gW a with ⟨_,d⟩|⟨_,f⟩
   .cases d
   .exact hs.ne _ _ _ _ h f e
theorem Stp.move(hs:Sim α s w){k m c':Nat}{x0 x:Blk}(hk:s.h.get k=some x0)(hro:x0.ro=false)(ho:w'.os=w.os)(ht:w'.tape=w.tape)(hp:w'.output=w.output)(hz:w.heap.size<=w'.heap.size)
  (kept: ∀b,b<w.heap.size->b≠α.blk k->w'.heap[b]?=w.heap[b]?) (hc:s.c<=c') (hx:x.Sc (s.n+1) c') (hi:x.Is (α.new s.n (α.blk k) s.c m) w' (α.blk k)):
  Stp α s w (α.new s.n (α.blk k) s.c m) {h:=(s.h.set none fuelT k).set (some x) fuelT s.n,n:=s.n+1,c:=c'} w':=by
 have hb: ∀j y,s.h.get j=some y->(α.new s.n (α.blk k) s.c m).blk j=α.blk j:=λj y a=>by have:=hs.lt j y a;simp[As.new];omega
 have hb0:(α.new s.n (α.blk k) s.c m).blk s.n=α.blk k:=by simp[As.new]
 refine Stp.make hs (λb=>b=α.blk k) (oF _ _ _ _ _) (R8 _) hc ho ht hp hz kept (λb hb _=>⟨k,x0,hk,hro,hb.symm⟩) (λj y a=>?_) (λj l y i a f e=>?_)
 .rcases gW a with ⟨rfl,e⟩|⟨_,h⟩
  .injection e with e
   subst e;exact .inr ⟨R9 _,hx,by rw[hb0];exact hi,.inr ⟨k,x0,hk,hro,hb0.symm⟩⟩
  .rcases gW h with ⟨_,e⟩|⟨h1,h⟩
   .cases e
   .exact .inl ⟨h,λe=>h1 (hs.ne j k y x0 h hk e)⟩
 .have two: ∀j y,(s.h.set none fuelT k).get j=some y->j≠k/\s.h.get j=some y:=λj y h=>by
   rcases gW h with ⟨_,e⟩|h
   .cases e
   .exact h
  rcases gW a with ⟨rfl,_⟩|⟨_,h⟩<;>rcases gW f with ⟨rfl,_⟩|⟨_,g⟩
  .rfl
  .obtain⟨h1,h2⟩:=two _ _ g;rw[hb0,hb _ _ h2]at e;exact absurd (hs.ne _ _ _ _ hk h2 e).symm h1
  .obtain⟨h1,h2⟩:=two _ _ h;rw[hb0,hb _ _ h2]at e;exact absurd (hs.ne _ _ _ _ h2 hk e) h1
  .obtain⟨_,h2⟩:=two _ _ h;obtain⟨_,d⟩:=two _ _ g;rw[hb _ _ h2,hb _ _ d]at e;exact hs.ne _ _ _ _ h2 d e
end
end
end X
end
section
namespace X
open Go.RowKit
theorem range_rep(z:List Value): ∀n:Nat,((O0 (n*z.length)).map λi=>z.toArray[i%z.length]!)=(sQ n z).toArray:=by
 intro n;apply E2;simp only[Array.toList_map,Array.toList_range];rw[bLm]
 induction n with
 |zero=>simp
 |succ n ih=>
  rw[List.replicate_succ,List.flatten_cons,<-ih,Nat.succ_mul,Nat.add_comm,List.range_add,P4]
  congr 1
  .apply List.ext_getElem
   .simp
   .intro i h1 h2;simp at h1;simp[Nat.mod_eq_of_lt h1,h1]
  .simp[List.map_map,Function.comp_def]
section
variable [Ctx] {α : As} {s : St} {w : World} {N : Nat} {e : E} {a : Act}
theorem vD{t:TypeId}{z:V}(h:zeroX t=some z)(n c:Nat):z.Sc n c:=by obtain⟨i,_,h1⟩:=bB h;obtain⟨u,_,h2⟩:=bB h1;exact ofV_sc h2 n c
theorem wA(hs:Sim α s w){cs:List V}(t:TypeId)(hc: ∀v∈cs,v.Sc s.n s.c/\v.one=true): ∃α',Stp α s w α' (s.new (.cells cs t none false)) (w.alloc (.cells (cs.map (V.inst α)).toArray t))/\α'.blk s.n=w.heap.size:=by refine⟨α.new s.n w.heap.size s.c 0,Stp.alloc hs (c':=s.c) ((Below.refl _ _).alloc (B8 _) _) (B8 _) (B8 _) ⟨λv a=>⟨(hc v a).1.mono (R8 _) (B8 _),(hc v a).2⟩,λk b=>by cases b⟩ ?_,by simp[As.new]⟩;show(w.alloc _).heap[w.heap.size]?=_;rw[heap_alloc_new];have:cs.map (V.inst α)=cs.map (V.inst (α.new s.n w.heap.size s.c 0)):=H7 λv a=>(hc v a).1.ext (oF _ _ _ _ _);rw[this]
theorem new_obj(hs:Sim α s w){x:Blk}{o:Obj}(hx:x.Sc s.n s.c)(hi: ∀β w' r,w'.heap[r]?=some o->x.Is β w' r): ∃α',Stp α s w α' (s.new x) (w.alloc o)/\α'.blk s.n=w.heap.size:=by refine⟨α.new s.n w.heap.size s.c 0,Stp.alloc hs (c':=s.c) ((Below.refl _ _).alloc (B8 _) _) (B8 _) (B8 _) (hx.mono (R8 _) (B8 _)) (hi _ _ _ (heap_alloc_new _ _)),by simp[As.new]⟩
def bLb (o:Oper)(a:Act)(α:As)(s:St)(w:World):R->Prop
 |.v v s'=> ∃α' w',(execOp a.eval o).run Ctx.P w= .ok (.value (v.inst α')) w'/\Stp α s w α' s' w'
 |.sk s'=> ∃α' w',(execOp a.eval o).run Ctx.P w= .ok .skip w'/\Stp α s w α' s' w'
 |.call f args s'=>s'=s/\(execOp a.eval o).run Ctx.P w=(callFunc f (args.map (V.inst α)).toArray).run Ctx.P w/\ ∀v∈args,v.Sc s.n s.c
omit [Ctx]in
theorem bFo{P:Program}{S:Sem Unit}{w w':World}(h:S.run P w= .ok () w'):(do S;pure Next.skip:Sem Next).run P w= .ok .skip w':=by rw[J0,h];rfl
theorem wC(hs:Sim α s w){k o:Nat}{vs:List V}{s':St}(h:bDo k o vs s=some s')(hv: ∀v∈vs,v.Sc s.n s.c)(h1: ∀v∈vs,v.one=true):
  ∃w',(storeCells ⟨α.blk k,o,none⟩ (vs.map (V.inst α))).run Ctx.P w= .ok () w'/\Stp α s w α s' w':=by
 obtain⟨x,hx,h2⟩:=bB h;obtain⟨m,t,ext,ro,rfl,h3⟩:=zQ h2;obtain⟨g,h4⟩:=bQ h3;obtain⟨j,q,r⟩:=bB h4;cases r;have g:ro=false:=by simpa using g
 subst g;obtain⟨y,p⟩:=sB _ _ _ _ q;obtain⟨rest,hr,h0⟩:=hs.cells hx
 have f:=run_storeCells_at (P:=Ctx.P) (α.blk k) o t (vs.map (V.inst α)) 0 (m.map (V.inst α)++rest).toArray w hr o6 (λu hu=>by
  obtain⟨v,hv,rfl⟩:=P5.1 hu
  exact one_inst α (h1 v hv))
 simp only[C5,I2]at f
 have d:((m.map (V.inst α)++rest).toArray.toList.take o++vs.map (V.inst α)++(m.map (V.inst α)++rest).toArray.toList.drop (o+vs.length))=j.map (V.inst α)++rest:=by rw[p];simp only[P4,List.map_take,List.map_drop];rw[P6 o6,List.drop_append_of_le_length o6];simp
 rw[d]at f;refine⟨_,f,Stp.put hs hx rfl rfl rfl rfl m9 (λb hb l=>setRow_other _ _ _ _ l) ⟨λv a=>?_,(hs.sc _ _ hx).2⟩ ?_⟩
 .rw[p]at a
  rcases F2.1 a with a|a
  .rcases F2.1 a with a|a
   .exact(hs.sc _ _ hx).1 v (P7 a)
   .exact⟨hv v a,h1 v a⟩
  .exact(hs.sc _ _ hx).1 v (H4 a)
 .have hb:=setRow_heap w (α.blk k) _ (j.map (V.inst α)++rest).toArray t _ hr
  cases ext with
  |none=>
   have:=h0 rfl;subst this
   simpa[Blk.Is]using hb
  |some c=>
   obtain⟨e,hl,i⟩:=hs.is _ _ hx;rw[hr]at i;have:rest=e:=by simpa using i
   subst this;exact⟨rest,hl,hb⟩
theorem src_run(hs:Sim α s w){sz n:Nat}{u:V}{news:List V}{tx:TypeId}(ht:(∃q,Ctx.P.underlying tx=some (.slice q))\/Ctx.P.underlying tx=some .string)(h:newsX sz u s=some (n,news)):
  Src Ctx.P sz tx (u.inst α) n (news.map (V.inst α)) w/\(∀v∈news,v.Sc s.n s.c/\v.one=true)/\news.length=n*sz:=by
 have f:Sim α s w.drew:=hs.grow ((Below.refl _ _).drew)
 have nil: ∀v:Value,(∀w':World,(O6 v).run Ctx.P w'= .ok 0 w')->(∀w':World,(O7 sz 0 v).run Ctx.P w'= .ok #[] w')->Src Ctx.P sz tx v 0 (([]:List V).map (V.inst α)) w/\(∀v∈([]:List V),v.Sc s.n s.c/\v.one=true)/\([]:List V).length=0*sz:=λv h1 h2=>
  ⟨⟨ht,h1,h2 w,h2 w.drew,m9,m9⟩,m9,m9⟩
 cases u<;>try cases h
 case s x=>
  obtain⟨h1,h2⟩:=bQ (show gd _ _=some (n,news)from h);cases h2;have h1:sz=1:=by simpa[D6]using h1
  subst h1
  have r:(x.map λy=>V.i .u8 (.ofNat (y%256))).map (V.inst α)=byteCells (bW x):=by simp only[byteCells,bW,List.map_map];exact H7 λy _=>by simp[V.inst]
  have a:=pF x;refine⟨?_,λv e=>?_,m9⟩
  .rw[r];refine⟨ht,λ_=>by simp[V.inst,O6,a],?_,?_,by rw[byteCells_length,a,Nat.mul_one],λu hu=>?_⟩
   .have:=firstCells_string (P:=Ctx.P) (bW x) w;rw[a]at this;exact this
   .have:=firstCells_string (P:=Ctx.P) (bW x) w.drew;rw[a]at this;exact this
   .obtain⟨_,_,rfl⟩:=P5.1 hu;rfl
  .obtain⟨y,_,rfl⟩:=P5.1 e;exact⟨⟨1,by rw[jY]⟩,rfl⟩
 case l0=>exact nil _ (λ_=>rfl) (λ_=>rfl)
 case z k o o' c=>exact nil _ (λ_=>rfl) (λ_=>by simp[V.inst,O7,loadCells,loadCellsFrom])
 case y c=>exact nil _ (λ_=>rfl) (λ_=>by simp only[V.inst];cases α.place c<;>simp[O7,loadCells,loadCellsFrom])
 case l k o m c=>
  obtain⟨t,g,h1⟩:=bB (show ob (bIh s k o (m*sz)) _=some (n,news)from h);cases h1;obtain⟨h2,h3⟩:=qZ hs g;obtain⟨_,p⟩:=qZ f g
  have key: ∀w:World,(∀j v,news[j]?=some v->w.cell? ⟨α.blk k,o+j,none⟩=some (v.inst α))->(O7 sz n (.slice (some ⟨α.blk k,o,none⟩) n (c.inst α))).run Ctx.P w= .ok (news.map (V.inst α)).toArray w:=λw h3=>by
   have:=run_loadCells_list (P:=Ctx.P) w ⟨α.blk k,o,none⟩ (news.map (V.inst α)) (λj u d=>by
    rw[F7]at d
    cases hu:news[j]? with
    |none=>rw[hu]at d;cases d
    |some u'=>
     rw[hu]at d;cases d;rw[mZ]
     exact h3 j u' hu)
   rw[I2,h2]at this;exact this
  have b:=row_sc hs g
  exact⟨⟨ht,λ_=>rfl,key w h3,key w.drew p,by rw[I2,h2],λu hu=>by
   obtain⟨v,e,rfl⟩:=P5.1 hu
   exact one_inst α (b v e).2⟩,b,h2⟩
theorem drop_stp(hs:Sim α s w){k:Nat}{x0:Blk}(hk:s.h.get k=some x0)(hro:x0.ro=false):Stp α s w α (s.drop k) w:=Stp.drop hs hk hro rfl rfl rfl (B8 _) (λ_ _ _=>rfl)
section
variable {t t' ty el : TypeId} {i : TypeInfo} {z0 : Value}
theorem bGy(hs:Sim α s w)(hu:Ctx.P.underlying t=some (.slice el))(hi:Ctx.P.info? el=some i)(hz0:i.zero=some z0)(hzc:z0.cells.size=i.size){base:Option Addr}{m cap n:Nat}{olds news:List V}{x:Value}
  (hold:(O7 i.size m (.slice base m cap)).run Ctx.P w.drew= .ok (olds.map (V.inst α)).toArray w.drew) (hsrc:Src Ctx.P i.size t' x n (news.map (V.inst α)) w)
  (ho: ∀v∈olds,v.Sc s.n s.c/\v.one=true) (hn: ∀v∈news,v.Sc s.n s.c/\v.one=true) (hg:cap<m+n) (h63:m+n<=pow47) (hb:(m+n)*i.bytes<=pow47):
  ∃α' w',(O8 #[t,t'] ty #[.slice base m cap,x]).run Ctx.P w= .ok ((V.l s.n 0 (m+n) (.s s.c (m+n))).inst α') w'/\
   Stp α s w α' {h:=s.h.set (some (.cells (olds++news) el (some s.c) false)) fuelT s.n,n:=s.n+1,c:=s.c+1} w':=by
 have hr:=run_append_grow_src (P:=Ctx.P) w t t' ty el i z0 hu hi hz0 base m cap (olds.map (V.inst α)) hold x n (news.map (V.inst α)) hsrc hg (by simp only[pow47]at h63;omega) (growslice_fits hg hb);have d:=grownCap_ge w (m+n) cap el;generalize grownCap w (m+n) cap el=C at hr d
 have a: ∀v∈olds++news,v.Sc s.n s.c/\v.one=true:=λv b=>by
  rcases F2.1 b with b|b
  .exact ho v b
  .exact hn v b
 have e:Below w.heap.size w (w.drew.alloc (.cells ((olds.map (V.inst α)++news.map (V.inst α)).toArray++O9 z0.cells (C-(m+n))) el)):=(Below.refl _ _).drew.alloc (B8 _) _;refine⟨α.new s.n w.heap.size s.c (C-(m+n)),_,?_,Stp.alloc hs (c':=s.c+1) e (B8 _) (R8 _) ⟨λv b=>⟨(a v b).1.mono (R8 _) (R8 _),(a v b).2⟩,λk g=>by cases g;exact R9 _⟩ ?_⟩
 .rw[hr];simp only[V.inst,Cap.inst,As.new,if_true]
  congr 2
  omega
 .refine⟨(O9 z0.cells (C-(m+n))).toList,?_,?_⟩
  .simp only[O1,size_zeroCells,hzc,As.new,if_true,T0,hi,N5,T1]
  .have f:(olds++news).map (V.inst (α.new s.n w.heap.size s.c (C-(m+n))))=olds.map (V.inst α)++news.map (V.inst α):=by rw[<-P4];exact(H7 λv b=>(a v b).1.ext (oF _ _ _ _ _)).symm
   rw[f];show(w.drew.alloc _).heap[w.drew.heap.size]?=_;rw[heap_alloc_new]
   congr 2
   apply E2;simp
theorem nothing_run(hu:Ctx.P.underlying t=some (.slice el))(hi:Ctx.P.info? el=some i){base:Option Addr}{m cap:Nat}{x:Value}(hm:m<=cap)(hsrc:Src Ctx.P i.size t' x 0 [] w):
  (O8 #[t,t'] ty #[.slice base m cap,x]).run Ctx.P w= .ok (.slice base m cap) w:=by
 rcases hsrc.kind with ⟨e',a⟩|a<;>cases base<;>simp[O8,run_underlying hu,run_underlying a,sizeOf,typeInfo,hi,hsrc.len,hm,hsrc.cells,storeCells]
theorem append_run(hs:Sim α s w){sz by_:Nat}{u v z:V}{r:R}(hu:Ctx.P.underlying t=some (.slice el))(hsz:sizeX el=some sz)(hz:zeroX el=some z)(hzl:z.cells.length=sz)(hby:bytesOf el=some by_)
  (ht:(∃q,Ctx.P.underlying t'=some (.slice q))\/Ctx.P.underlying t'=some .string) (h:appendX el sz by_ u v s=some r):
  ∃α' w' x s',r= .v x s'/\(O8 #[t,t'] ty #[u.inst α,v.inst α]).run Ctx.P w= .ok (x.inst α') w'/\Stp α s w α' s' w':=by
 obtain⟨i,J,rfl⟩:=kQ hsz
 obtain⟨i',K,h1⟩:=bB hby
 obtain rfl:i=i':=Option.some.inj (J.symm.trans K);cases h1;obtain⟨i',K,h1⟩:=bB hz;obtain rfl:i=i':=Option.some.inj (J.symm.trans K);obtain⟨z0,X,h2⟩:=bB h1
 have W:z0.cells.size=i.size:=by rw[<-vZ (α:=α) h2,jB,<-hzl];simp
 clear h1 h2 K;obtain⟨⟨n,a⟩,hn,h1⟩:=bB h;obtain⟨e,f,hnl⟩:=src_run hs ht hn;have h1:apX el i.size i.bytes u n a s=some r:=h1
 have zero: ∀{base:Option Addr} {m cap:Nat},n=0->m<=cap->(O8 #[t,t'] ty #[.slice base m cap,v.inst α]).run Ctx.P w= .ok (.slice base m cap) w:=λ{base m cap} hn0 hm=>by subst hn0;have:a=[]:=P8 (by simpa using hnl);subst this;exact nothing_run hu J hm e
 have hsD:Sim α s w.drew:=hs.grow ((Below.refl _ _).drew)
 have A: ∀{k o m cap:Nat} {olds:List V},bIh s k o (m*i.size)=some olds->(O7 i.size m (.slice (some ⟨α.blk k,o,none⟩) m cap)).run Ctx.P w.drew= .ok (olds.map (V.inst α)).toArray w.drew:=λ{k o m cap olds} ho=>by
  obtain⟨h2,h3⟩:=qZ hsD ho
  have:=run_loadCells_list (P:=Ctx.P) w.drew ⟨α.blk k,o,none⟩ (olds.map (V.inst α)) (λj u hj=>by
   rw[F7]at hj
   cases hu:olds[j]? with
   |none=>rw[hu]at hj;cases hj
   |some u'=>
    rw[hu]at hj;cases hj;rw[mZ]
    exact h3 j u' hu)
  rw[I2,h2]at this;exact this
 cases u with
 |l0=>
  have h1:sel (B1 n 0) (some (R.v .l0 s)) (gd (C7 n pow47&&C7 (n*i.bytes) pow47) (some (bOm el n a s)))=some r:=h1;rw[cP]at h1
  by_cases hn0:B1 n 0=true
  .rw[if_pos hn0]at h1;cases h1;exact⟨α,w,_,_,rfl,zero ac8 (B8 _),Stp.refl hs⟩
  .rw[if_neg hn0]at h1;obtain⟨h2,h3⟩:=bQ h1;cases h3;rw[L9]at h2;have hn0:n≠0:=λe0=>hn0 (by rw[e0];rfl);obtain⟨α',w',h4,M⟩:=bGy (ty:=ty) (t:=t) (t':=t') hs hu J X W (base:=none) (m:=0) (cap:=0) (olds:=[]) rfl e m9 f j5 (by simpa using gB h2.1) (by simpa using gB h2.2);simp only[D1,P9]at h4 M;exact⟨α',w',_,_,rfl,h4,M⟩
 |l k o m c=>
  have h1:apL el i.bytes i.size k o m n a c s=some r:=h1
  cases c with
  |n c=>
   have h1:sel (C7 (m+n) c) (apFits k o m (.n c) i.size n a) (apGrows el i.bytes k o m i.size n a) s=some r:=h1;rw[cP]at h1
   by_cases g:C7 (m+n) c=true
   .rw[if_pos g]at h1;have g:=gB g;have h1:sel (B1 n 0) (some (R.v (.l k o m (.n c)) s)) (ob (bDo k (o+m*i.size) a s) λs'=>some (.v (.l k o (m+n) (.n c)) s'))=some r:=h1;rw[cP]at h1
    by_cases hn0:B1 n 0=true
    .rw[if_pos hn0]at h1;cases h1;exact⟨α,w,_,_,rfl,zero ac8 (show m<=c by omega),Stp.refl hs⟩
    .rw[if_neg hn0]at h1;obtain⟨s',B,h2⟩:=bB h1;cases h2;obtain⟨w',hw,C⟩:=wC hs B (λv y=>(f v y).1) (λv y=>(f v y).2);refine⟨α,w',_,_,rfl,?_,C⟩;have p:(⟨α.blk k,o,none⟩:Addr).add (m*i.size)=⟨α.blk k,o+m*i.size,none⟩:=mZ _ _ _
     rcases e.kind with ⟨e',U⟩|U<;>simp[O8,run_underlying hu,run_underlying U,sizeOf,typeInfo,J,e.len,g,e.cells,V.inst,Cap.inst,p,hw]
   .rw[if_neg g]at h1;obtain⟨h2,h3⟩:=bQ (show gd _ _=some r from h1);obtain⟨olds,ho,h4⟩:=bB h3;cases h4;rw[L9]at h2
    have hlt:c<m+n:=by
     rcases A8 c (m+n)with hh|hh
     .exact hh
     .exact absurd (show C7 (m+n) c=true by rw[Nat.ble_eq];exact hh) g
    obtain⟨α',w',M,h6⟩:=bGy (ty:=ty) (t:=t) (t':=t') hs hu J X W (base:=some ⟨α.blk k,o,none⟩) (m:=m) (cap:=c) (A ho) e (row_sc hs ho) f hlt (gB h2.1) (gB h2.2);exact⟨α',w',_,_,rfl,M,h6⟩
  |s cn d=>
   have h1:sel (C7 (m+n) d) (apFits k o m (.s cn d) i.size n a) (λs=>gd (B1 o 0) (apRow el i.bytes k m cn d i.size n a s)) s=some r:=h1;rw[cP]at h1
   by_cases g:C7 (m+n) d=true
   .rw[if_pos g]at h1;have g:=gB g;have hfit2:m+n<=d+α.room cn:=j5
    have h1:sel (B1 n 0) (some (R.v (.l k o m (.s cn d)) s)) (ob (bDo k (o+m*i.size) a s) λs'=>some (.v (.l k o (m+n) (.s cn d)) s'))=some r:=h1;rw[cP]at h1
    by_cases hn0:B1 n 0=true
    .rw[if_pos hn0]at h1;cases h1;exact⟨α,w,_,_,rfl,zero ac8 (show m<=d+α.room cn by omega),Stp.refl hs⟩
    .rw[if_neg hn0]at h1;obtain⟨s',B,h2⟩:=bB h1;cases h2;obtain⟨w',hw,C⟩:=wC hs B (λv y=>(f v y).1) (λv y=>(f v y).2);refine⟨α,w',_,_,rfl,?_,C⟩;have p:(⟨α.blk k,o,none⟩:Addr).add (m*i.size)=⟨α.blk k,o+m*i.size,none⟩:=mZ _ _ _
     rcases e.kind with ⟨e',U⟩|U<;>simp[O8,run_underlying hu,run_underlying U,sizeOf,typeInfo,J,e.len,hfit2,e.cells,V.inst,Cap.inst,p,hw]
   rw[if_neg g]at h1;obtain⟨Z,h2⟩:=bQ (show gd _ _=some r from h1);have Z:o=0:=by simpa[D6]using Z
   subst Z;obtain⟨x,hx,h3⟩:=bB h2;obtain⟨cs,el',ext,ro,rfl,h4⟩:=zQ h3
   cases ext with
   |none=>cases h4
   |some cn'=>
    obtain⟨M,h6⟩:=bQ (show gd _ _=some r from h4);obtain⟨olds,E,h7⟩:=bB h6;cases h7;simp only[L9,T3,D6]at M;obtain⟨Y,rfl,rfl,hd,hmd,h63,hb⟩:=M;have hmd:=gB hmd
    have O:bIh s k 0 (m*i.size)=some olds:=by show ob (s.h.get k) _=_;rw[hx];exact E
    obtain⟨rest,hrl,I⟩:=hs.is _ _ hx;have hco:Ctx.P.cellsOf el=i.size:=by simp[T0,J]
    rw[hco]at hrl;obtain⟨hoe,hol⟩:=nW _ _ _ _ E;have holen:olds.length=m*i.size:=by rw[hoe];simp;omega
    have Q:=row_sc hs O
    by_cases D:m+n<=d+α.room cn
    .
     have N:(cs.map (V.inst α)++rest).length=(d+α.room cn)*i.size:=by rw[G4,I2,hrl,<-hd,C9]
     have hmn:(m+n)*i.size<=(d+α.room cn)*i.size:=D2 _ D
     have hle:0+m*i.size+(a.map (V.inst α)).length<=(cs.map (V.inst α)++rest).toArray.size:=by rw[Q4,N,I2,hnl,D1,<-C9];exact hmn
     have B:=run_storeCells_at (P:=Ctx.P) (α.blk k) (0+m*i.size) el (a.map (V.inst α)) 0 (cs.map (V.inst α)++rest).toArray w I (by simpa using hle) e.one;simp only[C5,I2]at B;generalize hcs:((cs.map (V.inst α)++rest).toArray.toList.take (0+m*i.size)++a.map (V.inst α)++(cs.map (V.inst α)++rest).toArray.toList.drop (0+m*i.size+a.length))=L at B;have p:(⟨α.blk k,0,none⟩:Addr).add (m*i.size)=⟨α.blk k,0+m*i.size,none⟩:=mZ _ _ _;simp only[D1]at B p;have hdc:(s.drop k).c=s.c:=rfl;have hdn:(s.drop k).n=s.n:=rfl
     have hrun:(O8 #[t,t'] ty #[(V.l k 0 m (.s cn d)).inst α,v.inst α]).run Ctx.P w= .ok (.slice (some ⟨α.blk k,0,none⟩) (m+n) (d+α.room cn)) (w.setRow (α.blk k) L.toArray):=by
      rcases e.kind with ⟨e',U⟩|U<;>simp[O8,run_underlying hu,run_underlying U,sizeOf,typeInfo,J,e.len,D,e.cells,V.inst,Cap.inst,p,B]
     have G: ∀v∈olds++a,v.Sc s.n s.c/\v.one=true:=λv y=>by
      rcases F2.1 y with y|y
      .exact Q v y
      .exact f v y
     refine⟨α.new s.n (α.blk k) s.c (d+α.room cn-(m+n)),_,_,_,rfl,?_,Stp.move hs hx Y (w':=w.setRow (α.blk k) L.toArray) rfl rfl rfl m9 (λb hb hne=>setRow_other _ _ _ _ hne) (R8 _) ⟨λv y=>⟨(G v y).1.mono (R8 _) (R8 _),(G v y).2⟩,λj hj=>by cases hj;exact R9 _⟩ ?_⟩
     .rw[hrun];simp only[V.inst,Cap.inst,As.new,hdc,hdn,if_true]
      congr 2
      omega
     .refine⟨(cs.map (V.inst α)++rest).drop (m*i.size+a.length),?_,?_⟩
      .rw[List.length_drop,N,hco,hnl,<-C9,<-Nat.sub_mul];simp[As.new,hdc]
      .have hm:(olds++a).map (V.inst (α.new s.n (α.blk k) s.c (d+α.room cn-(m+n))))=olds.map (V.inst α)++a.map (V.inst α):=by rw[<-P4];exact(H7 λv y=>(G v y).1.ext (oF _ _ _ _ _)).symm
       rw[hm,setRow_heap w (α.blk k) _ L.toArray el _ I]
       congr 3
       rw[<-hcs,hoe];simp only[D1,Q5,List.map_take];rw[P6 o6]
    .obtain⟨α',w',M,h6⟩:=bGy (ty:=ty) (t:=t) (t':=t') (s:=s.drop k) (drop_stp hs hx Y).zc hu J X W (base:=some ⟨α.blk k,0,none⟩) (m:=m) (cap:=d+α.room cn) (A O) e Q f j5 (gB h63) (gB hb);exact⟨α',w',_,_,rfl,M,(drop_stp hs hx Y).trans h6⟩
 |_=>cases h1
end
end
end X
end
section
namespace X
open Go.RowKit
section
variable [Ctx] {α : As} {s : St} {w : World} {N : Nat} {e : E} {a : Act}
omit [Ctx]in
theorem all_one{l:List V}(h:allL V.one l=true): ∀v∈l,v.one=true:=by rw[qD,G0]at h;exact h
omit [Ctx]in
theorem fill_sc{P:V->Prop}{place:Nat->Option (Nat×Nat)}: ∀{l:List (Nat×V)} {cs r:List V},bQx place cs l=some r->(∀v∈cs,P v)->(∀x∈l,∀v∈x.2.cells,P v)-> ∀v∈r,P v
 |[],cs,r,h,hc,_=>by
  have h:some cs=some r:=h;cases h;exact hc
 |(i,u)::l,cs,r,h,hc,hl=>by
  obtain⟨⟨o,sz⟩,e,h1⟩:=bB (show ob (place i) _=some r from h);obtain⟨_,h3⟩:=bQ h1;obtain⟨d,b,h4⟩:=bB h3;obtain⟨_,c⟩:=sB _ _ _ _ b;refine fill_sc (l:=l) h4 (λv a=>?_) (λx hx=>hl x (F3 _ hx));rw[c]at a
  rcases F2.1 a with a|a
  .rcases F2.1 a with a|a
   .exact hc v (P7 a)
   .exact hl (i,u) (F9 ..) v a
  .exact hc v (H4 a)
omit [Ctx]in
theorem vI{n:Nat}{z:List V}{v:V}(h:v∈sQ n z):v∈z:=by rw[bLm,List.mem_flatten]at h;obtain⟨l,hl,a⟩:=h;rw[(List.mem_replicate.1 hl).2]at a;exact a
omit [Ctx]in
theorem rep_map(n:Nat)(z:List V):(sQ n z).map (V.inst α)=sQ n (z.map (V.inst α)):=by rw[bLm,bLm];simp[List.map_flatten]
omit [Ctx]in
theorem yZ{z:V}{sz:Nat}(hl:z.cells.length=sz)(n:Nat):((O0 (n*sz)).map λi=>((z.inst α).cells)[i%(z.inst α).cells.size]!)=((sQ n z.cells).map (V.inst α)).toArray:=by rw[rep_map,<-range_rep,jB];simp[hl]
theorem alloc_run(hs:Sim α s w){o:Oper}{t:TypeId}{r:R}(ho:o.op= .alloc t)(h:oAlloc t s e=some r):bLb o a α s w r:=by obtain⟨z,c,h1⟩:=bB h;obtain⟨h2,h3⟩:=bQ h1;cases h3;obtain⟨α',b,hb⟩:=wA hs t (λv d=>⟨(vD c _ _).cells v d,all_one h2 v d⟩);refine⟨α',_,?_,b⟩;unfold execOp;simp only[ho];refine cY ?_;simp only[Instr.alloc,J0,wW c w α,J6,newVar,newRow,run_newObj,J1,jB,V.inst,hb];rfl
theorem box_run(hs:Sim α s w)(he:EOk α s N e a){o:Oper}{t:TypeId}{x:Operand}{r:R}(ho:o.op= .box t x)(h:oBox t x s e=some r):bLb o a α s w r:=by obtain⟨v,d,h1⟩:=bB h;obtain⟨h2,h3⟩:=bQ h1;cases h3;obtain⟨hx,c⟩:=cA hs he d;obtain⟨α',b,hb⟩:=wA hs t (λu hu=>⟨c.cells u hu,all_one h2 u hu⟩);refine⟨α',_,?_,b⟩;unfold execOp;simp only[ho,hx];refine cY ?_;simp only[Instr.box,J0,J6,newVar,newRow,run_newObj,J1,jB,V.inst,hb];rfl
omit [Ctx]in
theorem repL_len{β:Type}(n:Nat)(z:List β):(sQ n z).length=n*z.length:=by
 induction n with
 |zero=>show([]:List β).length=_;simp
 |succ n ih=>
  show(z++sQ n z).length=_;rw[G4,ih,Nat.succ_mul,Nat.add_comm]
theorem bBn{t:TypeId}{z:V}(h:zeroX t=some z){i:TypeInfo}(hi:Ctx.P.info? t=some i):i.zero=some (z.inst α):=by obtain⟨j,a,h1⟩:=bB h;obtain⟨u,hu,h2⟩:=bB h1;obtain rfl:i=j:=Option.some.inj (hi.symm.trans a);rw[hu,vZ (α:=α) h2]
theorem bMo(hs:Sim α s w)(he:EOk α s N e a){o:Oper}{t:TypeId}{n:Nat}{parts:Array (Nat×Operand)}{r:R}(ho:o.op= .buildSlice t n parts)(h:uW t n parts s e=some r):bLb o a α s w r:=by
 obtain⟨⟨q,el,sz⟩,hq,h1⟩:=bB h
 cases q with
 |some _=>cases h1
 |none=>
  obtain⟨z,G,h2⟩:=bB (show ob (zeroX el) _=some r from h1);obtain⟨K,C,h3⟩:=bB h2;obtain⟨h4,P⟩:=bQ h3;obtain⟨Q,J,O⟩:=bB P;obtain⟨M,L⟩:=bQ O;cases L;rw[L9]at h4;obtain⟨hu,j⟩:=mI hq;obtain⟨i,I,rfl⟩:=kQ j;obtain⟨D,k⟩:=vH hs he C;have f:z.cells.length=i.size:=by simpa[D6]using h4.2
  have E: ¬(n*i.size>2^24):=by have:=gB h4.1;simp at this⊢;omega
  have A: ∀v∈Q,v.Sc s.n s.c:=fill_sc J (λv p=>(vD G _ _).cells v (vI p)) (λx hx v p=>(k x hx).cells v p);obtain⟨α',y,hb⟩:=wA hs el (λu hu=>⟨A u hu,all_one M u hu⟩);refine⟨α',_,?_,y⟩;have b:=zK (α:=α) J;unfold execOp;simp only[ho];refine cY ?_;have d:(parts.map λ(i,x)=>(i,a.eval x)).toList=K.map λx=>(x.1,x.2.inst α):=by simpa using D
  have g:(V.l s.n 0 n (.n n)).inst α'= .slice (some ⟨w.heap.size,0,none⟩) n n:=by simp[V.inst,Cap.inst,hb]
  rw[g]
  by_cases h0:n*i.size=0
  .have hr:sQ n z.cells=[]:=P8 (by rw[repL_len,f,h0]);rw[hr,<-d]at b;simp only[Q6]at b;unfold R3;have B:O0 0= #[]:=rfl;have m: ¬((0:Nat)>2^24):=l4
   simp only[J0,run_underlying hu,J6,jD j,h0,if_neg m,if_true,J1,B,O2];rw[show(#[]:Array Value)=([]:List Value).toArray from rfl,b];simp only[J0,newRow,run_newObj,J6,J1];rfl
  .refine run_buildSlice w t el n _ _ i (z.inst α) hu I (bBn G I) E h0 ?_;rw[d,yZ f n];exact b
def tJ (g:Nat):Option Nat->Value
 |none=> .pointer (some ⟨g,0,none⟩)
 |some n=> .slice (some ⟨g,0,none⟩) n n
theorem bs_some{t:TypeId}{n:Nat}{parts:Array (Nat×Operand)}{b:TypeId×Option Nat×List V}(h:bsX (.buildSlice t n parts) e=some b):uW t n parts s e=some (.v (bKl s.n b.2.1) (s.new (.cells b.2.2 b.1 none false))):=by
 obtain⟨⟨q,el,sz⟩,hq,h1⟩:=bB h
 cases q with
 |some _=>cases h1
 |none=>
  obtain⟨z,d,h2⟩:=bB (show ob (zeroX el) _=some b from h1);obtain⟨c,a,h3⟩:=bB h2;obtain⟨h4,l⟩:=bQ h3;obtain⟨m,f,k⟩:=bB l;obtain⟨j,g⟩:=bQ k;cases g;unfold uW;rw[hq];show ob (zeroX el) _=_;rw[d];show ob (partsX parts.toList e) _=_;rw[a];show gd (C7 (n*sz) 16777216&&B1 z.cells.length sz) _=_;rw[h4];show ob (bQx (λi=>some (i*sz,sz)) (sQ n z.cells) c) _=_;rw[f];show gd (allL V.one m) _=_;rw[j];rfl
theorem build_alloc(hs:Sim α s w)(he:EOk α s N e a){o:Oper}{t:TypeId}{n:Nat}{parts:Array (Nat×Operand)}{b:TypeId×Option Nat×List V}(ho:o.op= .buildSlice t n parts)(h:bsX (.buildSlice t n parts) e=some b):
  (execOp a.eval o).run Ctx.P w= .ok (.value (tJ w.heap.size b.2.1)) (w.alloc (.cells (b.2.2.map (V.inst α)).toArray b.1))/\ ∀v∈b.2.2,v.Sc s.n s.c/\v.one=true:=by
 obtain⟨⟨q,el,sz⟩,hq,h1⟩:=bB h
 cases q with
 |some _=>cases h1
 |none=>
  obtain⟨z,C,h2⟩:=bB (show ob (zeroX el) _=some b from h1);obtain⟨G,y,h3⟩:=bB h2;obtain⟨h4,L⟩:=bQ h3;obtain⟨M,E,K⟩:=bB L;obtain⟨J,I⟩:=bQ K;cases I;rw[L9]at h4;obtain⟨hu,j⟩:=mI hq;obtain⟨i,D,rfl⟩:=kQ j;obtain⟨A,k⟩:=vH hs he y;have g:z.cells.length=i.size:=by simpa[D6]using h4.2
  have B: ¬(n*i.size>2^24):=by have:=gB h4.1;simp at this⊢;omega
  have p: ∀v∈M,v.Sc s.n s.c:=fill_sc E (λv m=>(vD C _ _).cells v (vI m)) (λx hx v m=>(k x hx).cells v m);refine⟨?_,λu hu=>⟨p u hu,all_one J u hu⟩⟩;have d:=zK (α:=α) E;unfold execOp;simp only[ho];refine cY ?_;have f:(parts.map λ(i,x)=>(i,a.eval x)).toList=G.map λx=>(x.1,x.2.inst α):=by simpa using A
  by_cases h0:n*i.size=0
  .have hr:sQ n z.cells=[]:=P8 (by rw[repL_len,g,h0]);rw[hr,<-f]at d;simp only[Q6]at d;unfold R3;have r:O0 0= #[]:=rfl;have l: ¬((0:Nat)>2^24):=l4
   simp only[J0,run_underlying hu,J6,jD j,h0,if_neg l,if_true,J1,r,O2];rw[show(#[]:Array Value)=([]:List Value).toArray from rfl,d];simp only[J0,newRow,run_newObj,J6,J1];rfl
  .refine run_buildSlice w t el n _ _ i (z.inst α) hu D (bBn C D) B h0 ?_;rw[f,yZ g n];exact d
theorem late_op{o:Op}{b:TypeId×Option Nat×List V}(h:bsX o e=some b):opX o s e=some (.v (bKl s.n b.2.1) (s.new (.cells b.2.2 b.1 none false))):=by
 cases o with
 |buildSlice t n parts=>exact bs_some h
 |alloc t=>
  obtain⟨z,a,h1⟩:=bB h;obtain⟨h2,h3⟩:=bQ h1;cases h3;show ob (zeroX t) _=_;rw[a];show gd (allL V.one z.cells) _=_;rw[h2];rfl
 |box t x=>
  obtain⟨v,c,h1⟩:=bB h;obtain⟨h2,h3⟩:=bQ h1;cases h3;show ob (evX x e) _=_;rw[c];show gd (allL V.one v.cells) _=_;rw[h2];rfl
 |_=>cases h
theorem bPj(hs:Sim α s w)(he:EOk α s N e a){o:Oper}{b:TypeId×Option Nat×List V}(h:bsX o.op e=some b):
  (execOp a.eval o).run Ctx.P w= .ok (.value (tJ w.heap.size b.2.1)) (w.alloc (.cells (b.2.2.map (V.inst α)).toArray b.1))/\ ∀v∈b.2.2,v.Sc s.n s.c/\v.one=true:=by
 cases ho:o.op with
 |buildSlice t n parts=>
  rw[ho]at h;exact build_alloc hs he ho h
 |alloc t=>
  rw[ho]at h;obtain⟨z,g,h1⟩:=bB h;obtain⟨h2,h3⟩:=bQ h1;cases h3;refine⟨?_,λv d=>⟨(vD g _ _).cells v d,all_one h2 v d⟩⟩;unfold execOp;simp only[ho];refine cY ?_;simp only[Instr.alloc,J0,wW g w α,J6,newVar,newRow,run_newObj,J1,jB];rfl
 |box t x=>
  rw[ho]at h;obtain⟨v,d,h1⟩:=bB h;obtain⟨h2,h3⟩:=bQ h1;cases h3;obtain⟨hx,f⟩:=cA hs he d;refine⟨?_,λu hu=>⟨f.cells u hu,all_one h2 u hu⟩⟩;unfold execOp;simp only[ho,hx];refine cY ?_;simp only[Instr.box,J0,J6,newVar,newRow,run_newObj,J1,jB];rfl
 |_=>rw[ho]at h;cases h
theorem storeOp_run(hs:Sim α s w)(he:EOk α s N e a){o:Oper}{t:TypeId}{x y:Operand}{r:R}(ho:o.op= .store t x y)(h:oStore t x y s e=some r):bLb o a α s w r:=by
 obtain⟨u,hu,h1⟩:=bB h;obtain⟨k,q,rfl,h2⟩:=qQ h1;obtain⟨v,l,h3⟩:=bB h2;obtain⟨sz,c,h4⟩:=bB h3;obtain⟨i,p⟩:=bQ h4;obtain⟨s',d,n⟩:=bB p;cases n;rw[L9]at i;obtain⟨hx,f⟩:=cA hs he l;obtain⟨w',j,b⟩:=wC hs d (λv m=>f.cells v m) (all_one i.2);refine⟨α,w',?_,b⟩;unfold execOp;simp only[ho];refine bFo ?_;have hl:(v.inst α).cells.size=sz:=by rw[jB];simpa[D6]using i.1
 have g: ¬((v.inst α).cells.size≠sz):=j5
 rw[(cA hs he hu).1,hx];simp only[V.inst,K0,J8,J0,J1,J6,storeVar,jD c,if_neg g];rw[jB];exact j
theorem bSb(hs:Sim α s w)(he:EOk α s N e a){o:Oper}{t:TypeId}{l c:Operand}{r:R}(ho:o.op= .makeSlice t l c)(h:bPz t l c s e=some r):bLb o a α s w r:=by
 obtain⟨⟨q,el,sz⟩,hq,h1⟩:=bB h
 cases q with
 |some _=>cases h1
 |none=>
  obtain⟨z,I,h2⟩:=bB (show ob (zeroX el) _=some r from h1);obtain⟨X,D,h3⟩:=bB h2;obtain⟨u,hu,h4⟩:=bB h3;obtain⟨k,n,rfl,U⟩:=uN h4;obtain⟨Y,x,Q⟩:=bB U;obtain⟨K,m,rfl,O⟩:=uN Q;obtain⟨J,M⟩:=bQ O;cases M;simp only[L9]at J;obtain⟨g,b,p,f,G⟩:=J;obtain⟨v,y⟩:=mI hq;obtain⟨i,C,rfl⟩:=kQ y
  obtain⟨L,B,E⟩:=bB D
  obtain rfl:i=L:=Option.some.inj (C.symm.trans B);cases E;have f:z.cells.length=i.size:=by simpa[D6]using f
  have g:=gB g;have b:=gB b;have p:m<9223372036854775808:=by simpa[D7]using p
  obtain⟨α',A,hb⟩:=wA (cs:=sQ m z.cells) hs el (λu hu=>⟨(vD I _ _).cells u (vI hu),all_one G u (vI hu)⟩);refine⟨α',_,?_,A⟩;unfold execOp;simp only[ho];refine cY ?_;rw[(cA hs he hu).1,(cA hs he x).1];have j:(V.l s.n 0 n (.n m)).inst α'= .slice (some ⟨w.heap.size,0,none⟩) n m:=by simp[V.inst,Cap.inst,hb]
  rw[j]
  have d:=run_make (P:=Ctx.P) w t el i (z.inst α) v C (bBn I C) k K (Int.ofNat n) (Int.ofNat m) (Int.natCast_nonneg n) (Int.ofNat_le.2 g) (by
   have:((i.bytes*m:Nat):Int)<=((pow47:Nat):Int):=Int.ofNat_le.2 b;rw[Int.natCast_mul]at this;simp only[pow47]at this;show(i.bytes:Int)*((m:Nat):Int)<=_
   omega) (by show((m:Nat):Int)<=_;omega)
  have W:madeCells (z.inst α).cells ((Int.ofNat m).toNat*i.size)=((sQ m z.cells).map (V.inst α)).toArray:=yZ f m;rw[W]at d;exact d
theorem makeMap_run(hs:Sim α s w)(he:EOk α s N e a){o:Oper}{t:TypeId}{x:Option Operand}{r:R}(ho:o.op= .makeMap t x)(h:oMakeMap t x s e=some r):bLb o a α s w r:=by
 have key:r= .v (.m s.n) (s.new (.map [] 0))/\(R4 t (x.map a.eval)).run Ctx.P w= .ok (.map (some w.heap.size)) (w.alloc (.map #[] 0)):=by
  cases x with
  |none=>
   cases h;exact⟨rfl,run_makeMap t w⟩
  |some x=>
   obtain⟨⟨f,g⟩,hq,h1⟩:=bB (show ob (bNc t) _=some r from h);obtain⟨u,hu,h2⟩:=bB h1;obtain⟨k,n,rfl,h3⟩:=mM h2;cases h3;refine⟨rfl,?_⟩;have hx:=(cA hs he hu).1;simp only[N5,hx,V.inst,R4,J0,run_underlying (bPu hq),J6,asInt,asIntOf,J1,run_newObj];rfl
 obtain⟨rfl,b⟩:=key;obtain⟨α',c,hb⟩:=new_obj hs (x:= .map [] 0) (o:= .map #[] 0) (by intro y d;cases d) (λβ w' r h=>h);refine⟨α',_,?_,c⟩;unfold execOp;simp only[ho];refine cY ?_;rw[b];simp[V.inst,hb]
theorem find_at{kt:TypeId}{k:V}(hk:yL kt k=true): ∀(es:List Ent) (i j:Nat) (v:V),bGq kt k es i=some (some (j,v))-> ∃m x,j=i+m/\es[m]?=some x/\x.2.1=v/\x.1.inst α=k.inst α
 |[],_,_,_,h=>by cases h
 |x::es,i,j,v,h=>by
  obtain⟨c,a,h1⟩:=bB (show ob (eqX 1 kt k x.1) _=some (some (j,v))from h);rw[cP]at h1
  cases c with
  |true=>
   simp only[if_true,Option.some.injEq,Prod.mk.injEq]at h1;obtain⟨rfl,rfl⟩:=h1;refine⟨0,x,rfl,rfl,rfl,?_⟩;unfold yL at hk
   cases hd:Ctx.P.underlying kt with
   |none=>rw[hd]at hk;cases hk
   |some d=>
    rw[hd]at hk;simp only[eqX,hd]at a
    cases d with
    |int kk=>
     cases k with
     |i k1 n1=>
      cases hx:x.1 with
      |i k2 n2=>
       rw[hx]at a;obtain⟨h2,h3⟩:=bQ (show gd (sameKind k1 k2) (some (ieq n1 n2))=some true from a);injection h3 with h3
       rw[bIt]at h3;rw[lU h2,beq_iff_eq.1 h3]
      |_=>rw[hx]at a;cases a
     |_=>cases hk
    |string=>
     cases k with
     |s n1=>
      cases hx:x.1 with
      |s n2=>
       rw[hx]at a;have a:some (seq n1 n2)=some true:=a;injection a with a
       rw[bMy]at a;have:=beq_iff_eq.1 a;rw[ByteArray.toList_eq,ByteArray.toList_eq]at this;simp only[V.inst]
       congr 1
       apply ByteArray.ext;apply E2;exact this.symm
      |_=>rw[hx]at a;cases a
     |_=>cases hk
    |_=>cases hk
  |false=>
   simp only[L8,if_false]at h1;obtain⟨m,y,h2,h3,h4,b⟩:=find_at hk es (i+1) j v h1;exact⟨m+1,y,j5,by simpa using h3,h4,b⟩
theorem bUb{kt:TypeId}{k:V}(hk:yL kt k=true):(R5 (k.inst α) (k.inst α)).run Ctx.P w= .ok (k.inst α) w:=by
 unfold yL at hk
 cases hd:Ctx.P.underlying kt with
 |none=>rw[hd]at hk;cases hk
 |some d=>
  rw[hd]at hk
  cases d with
  |int kk=>
   cases k with
   |i k1 n1=>exact T4 (d:= .int k1) rfl
   |_=>cases hk
  |string=>
   cases k with
   |s n1=>exact T4 (d:= .string) trivial
   |_=>cases hk
  |_=>cases hk
theorem bEd{t:TypeId}{m k:Operand}{f:Found}(hs:Sim α s w)(he:EOk α s N e a)(h:mapAt t m k s e=some f): ∃kt,Ctx.P.underlying t=some (.map kt f.et)/\a.eval m= .map (some (α.blk f.r))/\a.eval k=f.k.inst α/\f.k.Sc s.n s.c/\
  s.h.get f.r=some (.map f.es f.clock)/\yL kt f.k=true/\bGq kt f.k f.es 0=some f.at_:=by obtain⟨⟨kt,et⟩,hq,h1⟩:=bB h;obtain⟨u,hu,h2⟩:=bB h1;obtain⟨r,rfl,h3⟩:=asM_some h2;obtain⟨q,b,h4⟩:=bB h3;obtain⟨x,hx,o⟩:=bB h4;obtain⟨es,c,rfl,l⟩:=xG o;obtain⟨j,i⟩:=bQ l;obtain⟨g,hg,d⟩:=bB i;cases d;have p:=(cA hs he hu).1;exact⟨kt,bPu hq,by rw[p];rfl,(cA hs he b).1,(cA hs he b).2,hx,j,hg⟩
theorem bAk(hs:Sim α s w){k:Nat}{es:List Ent}{c:Nat}(hk:s.h.get k=some (.map es c)):w.heap[α.blk k]?=some (.map (es.map (entI α)).toArray c):=hs.is _ _ hk
theorem bAu(hs:Sim α s w){k:Nat}{es es':List Ent}{c c':Nat}(hk:s.h.get k=some (.map es c))(hsc: ∀x∈es',x.1.Sc s.n s.c/\x.2.1.Sc s.n s.c):
  Stp α s w α (s.put k (.map es' c')) {w with heap:=w.heap.setIfInBounds (α.blk k) (.map (es'.map (entI α)).toArray c')}:=by
 have hb:=bAk hs hk;have hlt:α.blk k<w.heap.size:=(N9.1 hb).1;refine Stp.put hs hk rfl rfl rfl rfl m9 (λb hb a=>?_) hsc ?_
 .simp[Ne.symm a]
 .show(w.heap.setIfInBounds (α.blk k) _)[α.blk k]?=_;simp[hlt]
omit [Ctx]in
theorem setV_map: ∀(es:List Ent) (i:Nat) (v:V),(es.map (entI α)).toArray.modify i (λe=>{e with val:=v.inst α})=((setV es i v).map (entI α)).toArray:=by
 intro es i v;apply E2;rw[Array.toList_modify]
 induction es generalizing i with
 |nil=>simp[setV]
 |cons x es ih=>
  obtain⟨k,u,b⟩:=x
  cases i with
  |zero=>simp[setV,entI]
  |succ i=>simpa[setV,entI]using ih i
omit [Ctx]in
theorem setV_sc{P:Ent->Prop}: ∀{es:List Ent} {i:Nat} {v:V},(∀x∈es,P x)->(∀x∈es,P (x.1,v,x.2.2))-> ∀x∈setV es i v,P x
 |[],_,_,_,_,x,hx=>by cases hx
 |(k,u,b)::es,0,v,h1,h2,x,hx=>by
  rcases F1.1 hx with rfl|hx
  .exact h2 _ (F9 ..)
  .exact h1 _ (F3 _ hx)
 |y::es,i+1,v,h1,h2,x,hx=>by
  rcases F1.1 hx with rfl|hx
  .exact h1 _ (F9 ..)
  .exact setV_sc (λz a=>h1 z (F3 _ a)) (λz a=>h2 z (F3 _ a)) x hx
omit [Ctx]in
theorem bQi{A:Array MapEntry}{i:Nat}{x:MapEntry}(hi:A[i]?=some x){g:MapEntry->MapEntry}:A.modify i (λe=>{g e with key:=x.key})=A.modify i (λe=>{g e with key:=e.key}):=by
 apply O3 m9;intro j h1 h2;simp only[O4];split
 .rename_i a;subst a;simp at h1;have:A[i]=x:=(N9.1 hi).2;rw[this]
 .rfl
theorem bQu(hs:Sim α s w)(he:EOk α s N e a){t:TypeId}{m k x:Operand}{r:R}(h:bMg t m k x s e=some r): ∃s' w',r= .sk s'/\(R6 t (a.eval m) (a.eval k) (a.eval x)).run Ctx.P w= .ok () w'/\Stp α s w α s' w':=by
 obtain⟨f,O,h1⟩:=bB h;obtain⟨v,K,h2⟩:=bB h1;cases h2;obtain⟨U,hu,L,M,A,c,d,b⟩:=bEd hs he O;obtain⟨hx,n⟩:=cA hs he K;have hb:=bAk hs c;have u:=hs.sc _ _ c;have l:=bFd (w:=w) (α:=α) d b;rw[L,M,hx];rw[sY]
 cases D:f.at_ with
 |none=>
  rw[D]at l;refine⟨_,_,rfl,?_,bAu hs c (es':=f.es++[(f.k,v,f.clock)]) (c':=f.clock+1) (λy p=>?_)⟩
  .simp only[R6,J0,run_underlying hu,T5 hb,pI d,l,J6,N6,T6 _ hb]
   congr 2
   simp[entI]
  .rcases F2.1 p with p|p
   .exact u y p
   .rw[Q7.1 p];exact⟨A,n⟩
 |some q=>
  rw[D]at l;obtain⟨j,Q⟩:=q;rw[D]at b;obtain⟨i,y,E,p,J,o⟩:=find_at (α:=α) d _ _ _ _ b;rw[D1]at E;subst E;refine⟨_,_,rfl,?_,bAu hs c (es':=setV f.es j v) (c':=f.clock) (setV_sc u λz I=>⟨(u z I).1,n⟩)⟩;have G:(f.es.map (entI α)).toArray[j]?=some (entI α y):=by simp[p]
  have B:(R5 ((((f.es.map (entI α)).toArray[j]?).map (·.key)).getD (f.k.inst α)) (f.k.inst α)).run Ctx.P w= .ok (f.k.inst α) w:=by rw[G];simp only[N5,T1,entI,o];exact bUb d
  simp only[R6,J0,run_underlying hu,T5 hb,pI d,l,J6,N5,B,T6 _ hb]
  congr 3
  have C:f.k.inst α=(entI α y).key:=by simp[entI,o]
  rw[C];have:=bQi G (g:=λe=>{e with val:=v.inst α});simp only at this;rw[<-setV_map,this]
theorem mapEntry_run(hs:Sim α s w)(he:EOk α s N e a){o:Oper}{t:TypeId}{m k:Operand}{r:R}(ho:o.op= .mapEntry t m k)(h:bVk t m k s e=some r):bLb o a α s w r:=by
 obtain⟨f,X,h1⟩:=bB h;obtain⟨kt,hu,G,I,A,d,c,b⟩:=bEd hs he X;have hb:=bAk hs d;have C:=hs.sc _ _ d;have n:=bFd (w:=w) (α:=α) c b;rw[sY]at h1
 have M: ∀v w',(R7 t (a.eval m) (a.eval k)).run Ctx.P w= .ok v w'->(execOp a.eval o).run Ctx.P w= .ok (.value v) w':=λv w' U=>by unfold execOp;simp only[ho];exact cY U
 cases K:f.at_ with
 |none=>
  rw[K]at h1 n;obtain⟨z,E,h2⟩:=bB (show ob (zeroX f.et) _=some r from h1);cases h2;refine⟨α,_,M _ _ ?_,bAu hs d (es':=f.es++[(f.k,z,f.clock)]) (c':=f.clock+1) (λy p=>?_)⟩
  .rw[G,I];simp only[R7,J0,run_underlying hu,T5 hb,pI c,n,J6,N6,wW E w α,T6 _ hb,J1]
   congr 1
   simp[entI]
  .rcases F2.1 p with p|p
   .exact C y p
   .rw[Q7.1 p];exact⟨A,vD E _ _⟩
 |some q=>
  rw[K]at h1 n b;obtain⟨j,v0⟩:=q;obtain⟨i,y,J,p,Q,u⟩:=find_at (α:=α) c _ _ _ _ b;rw[D1]at J;subst J;obtain⟨Z,l,h2⟩:=bB (show ob (nthL f.es j) _=some r from h1);cases h2;rw[jM,p]at l;injection l with l
  subst l;refine⟨α,w,M _ _ ?_,Stp.refl hs⟩;have L:(f.es.map (entI α)).toArray[j]?=some (entI α y):=by simp[p]
  have B:(R5 (entI α y).key (f.k.inst α)).run Ctx.P w= .ok (f.k.inst α) w:=by rw[show(entI α y).key=f.k.inst α from u];exact bUb c
  have x:({w with heap:=w.heap.setIfInBounds (α.blk f.r) (.map ((f.es.map (entI α)).toArray.modify j λe=>{e with key:=f.k.inst α}) f.clock)}:World)=w:=by
   have D:f.k.inst α=(entI α y).key:=by simp[entI,u]
   have O:=bQi L (g:=λe=>e);simp only at O
   have Y:(f.es.map (entI α)).toArray.modify j (λe=>{e with key:=e.key})=(f.es.map (entI α)).toArray:=by apply O3 m9;intro i h1 h2;simp only[O4];split<;>rfl
   rw[D,O,Y]
   have:w.heap.setIfInBounds (α.blk f.r) (.map (f.es.map (entI α)).toArray f.clock)=w.heap:=by
    apply O3 m9;intro i h1 h2;rw[Array.getElem_setIfInBounds];split
    .rename_i W;subst W;exact(N9.1 hb).2.symm
    .rfl
   rw[this]
  rw[G,I];simp only[R7,J0,run_underlying hu,T5 hb,pI c,n,J6,N5,B,T6 _ hb,J1,L,T1];rw[x,inst_t];simp[V.inst,goInt,entI]
omit [Ctx]in
theorem bRo: ∀(es:List Ent) (j i r:Nat),findB es j i=some r-> ∃m,r=i+m/\m<es.length/\(es.map (entI α)).findIdx? (λe=>(e.born:Int)==(j:Int))=some m
 |[],_,_,_,h=>by cases h
 |x::es,j,i,r,h=>by
  have h:sel (B1 x.2.2 j) (some i) (findB es j (i+1))=some r:=h;rw[cP]at h
  by_cases hb:B1 x.2.2 j=true
  .rw[if_pos hb]at h;cases h;refine⟨0,rfl,m9,?_⟩;have hb:x.2.2=j:=by simpa[D6]using hb
   simp[Q8,entI,hb]
  .rw[if_neg hb]at h;obtain⟨m,h1,h2,h3⟩:=bRo es j (i+1) r h;have hb: ¬x.2.2=j:=by simpa[D6]using hb
   have a:((x.2.2:Int)==(j:Int))=false:=by rw[beq_eq_false_iff_ne];intro b;exact hb (by exact_mod_cast b)
   refine⟨m+1,j5,by simp;omega,?_⟩;rw[List.map_cons,Q8];simp only[entI,a,L8,if_false];rw[h3];rfl
theorem bQy(hs:Sim α s w)(he:EOk α s N e a){o:Oper}{t:TypeId}{m st x:Operand}{r:R}(ho:o.op= .entryStore t m st x)(h:bJs m st x s e=some r):bLb o a α s w r:=by
 obtain⟨u,hu,h1⟩:=bB h;obtain⟨k,rfl,h2⟩:=asM_some h1;obtain⟨b,hb,h3⟩:=bB h2;obtain⟨M,n,rfl,h4⟩:=uN h3;obtain⟨v,D,K⟩:=bB h4;obtain⟨y,j,J⟩:=bB K;obtain⟨A,c,rfl,I⟩:=xG J;obtain⟨i,E,G⟩:=bB I;cases G;obtain⟨hx,d⟩:=cA hs he D;have g:=bAk hs j;have f:=hs.sc _ _ j;obtain⟨q,B,L,p⟩:=bRo (α:=α) A n 0 i E;rw[D1]at B;subst B;refine⟨α,_,?_,bAu hs j (es':=setV A i v) (c':=c) (setV_sc f λz C=>⟨(f z C).1,d⟩)⟩;unfold execOp;simp only[ho];refine bFo ?_;rw[(cA hs he hu).1,(cA hs he hb).1,hx]
 have l:(A.map (entI α)).toArray.findIdx? (λe=>(e.born:Int)==Int.ofNat n)=some i:=by rw[List.findIdx?_toArray];exact p
 simp only[V.inst,Instr.entryStore,J0,T5 g,J6,asInt,asIntOf,J1,l,T6 _ g,setV_map]
theorem range_run(hs:Sim α s w)(he:EOk α s N e a){o:Oper}{t:TypeId}{x:Operand}{r:R}(ho:o.op= .range t x)(h:oRange t x s e=some r):bLb o a α s w r:=by obtain⟨u,hu,h1⟩:=bB h;obtain⟨c,h2⟩:=bQ h1;obtain⟨y,rfl,h3⟩:=lO h2;cases h3;obtain⟨α',b,hb⟩:=new_obj hs (x:= .sit y 0) (o:= .stringIter (bW y) 0) e9 (λβ w' r h=>h);refine⟨α',_,?_,b⟩;unfold execOp;simp only[ho];refine cY ?_;rw[(cA hs he hu).1];have:=run_range_string (P:=Ctx.P) w t (bW y) (bFw c);simp only[V.inst];rw[this];simp[hb,World.iter]
theorem next_run(hs:Sim α s w)(he:EOk α s N e a){o:Oper}{it:Operand}{str:Bool}{r:R}(ho:o.op= .next it str)(h:oNext it str s e=some r):bLb o a α s w r:=by
 obtain⟨i,h1⟩:=bQ h;subst i;obtain⟨u,hu,h2⟩:=bB h1;obtain⟨k,q,rfl,h3⟩:=qQ h2;obtain⟨hq,h4⟩:=bQ h3;have hq:q=0:=by simpa[D6]using hq
 subst hq;obtain⟨x,hx,d⟩:=bB h4
 have n: ∀v w',(Instr.next (.pointer (some ⟨α.blk k,0,none⟩)) true o.type).run Ctx.P w= .ok v w'->(execOp a.eval o).run Ctx.P w= .ok (.value v) w':=λv w' z=>by unfold execOp;simp only[ho];rw[(cA hs he hu).1];exact cY z
 cases x with
 |sit y p=>
  have d:nxStr k y p s=some r:=d;have hb:w.heap[α.blk k]?=some (.stringIter (bW y) p):=hs.is _ _ hx;unfold nxStr at d;rw[cP]at d
  by_cases f:C2 p y.length=true
  .rw[if_pos f]at d;obtain⟨c,A,D⟩:=bB d;cases D;have f:p<y.length:=by simpa[D7]using f
   obtain⟨b,j,C⟩:=bB A;obtain⟨m,B⟩:=bQ C;cases B;have m:b%256<128:=by simpa[D7]using m
   have g:p<(bW y).size:=by rw[pF];exact f
   have E:(bW y)[p]'g=UInt8.ofNat b:=by rw[jM]at j;have:y[p]=b:=(G3.1 j).2;simp[bW,ByteArray.getElem_eq_getElem_data,this]
   have t:((bW y)[p]'g).toNat=b%256:=by rw[E];simp
   refine⟨α,_,n _ _ ?_,Stp.put hs hx (x:= .sit y (p+1)) (w':=w.iterAt (α.blk k) (bW y) (p+1)) rfl rfl rfl rfl (Nat.le_of_eq (Go.Lib.iterAt_size _ _ _ _).symm) (λb hb l=>Go.Lib.iterAt_other _ _ _ _ _ l) e9 (Go.Lib.iterAt_heap _ _ _ _ _ hb)⟩;rw[Go.Lib.run_next_ascii_at w (α.blk k) (bW y) p o.type hb g (by rw[t];exact m),t,inst_t];simp[V.inst]
  .rw[if_neg f]at d;cases d;have f: ¬p<y.length:=by simpa[D7]using f
   refine⟨α,w,n _ _ ?_,Stp.refl hs⟩;rw[Go.Lib.run_next_end_at w (α.blk k) (bW y) p o.type hb (by rw[pF];exact f),inst_t];simp[V.inst]
 |_=>cases d
omit [Ctx]in
theorem bGc{args:List Operand}{ts:List TypeId}{f:Operand->Operand->TypeId->TypeId->St->E->Option R}{r:R}(h:two args ts f s e=some r): ∃x y t t',args=[x,y]/\ts=[t,t']/\f x y t t' s e=some r:=by
 unfold two at h;split at h
 .exact⟨_,_,_,_,rfl,rfl,h⟩
 .cases h
omit [Ctx]in
theorem ts_two{ts:Array TypeId}{t t':TypeId}(h:ts.toList=[t,t']):ts= #[t,t']:=by
 apply E2
 simpa using h
theorem ustr_run(hs:Sim α s w)(he:EOk α s N e a){x y:Operand}{t t' ty:TypeId}{r:R}(h:bNk x y t s e=some r): ∃v s' w',r= .v v s'/\(Builtin.unsafeString_ #[t,t'] ty #[a.eval x,a.eval y]).run Ctx.P w= .ok (v.inst α) w'/\Stp α s w α s' w':=by
 obtain⟨u,hu,h1⟩:=bB h;obtain⟨v,hv,h2⟩:=bB h1;rw[(cA hs he hu).1,(cA hs he hv).1]
 have hn: ∃n,v= .i .i64 (.ofNat n)/\sel (B1 n 0) (usNil u s) (asP u λk o=>gd (B1 o 0) (ob (ptrTo t) λq=>ob (sizeX q) λz=>gd (B1 z 1) (ustrX q k n s)))=some r:=by
  unfold asN6 at h2;split at h2
  .exact⟨_,rfl,h2⟩
  .cases h2
 obtain⟨n,rfl,h3⟩:=hn;rw[cP]at h3
 by_cases h0:B1 n 0=true
 .rw[if_pos h0]at h3;have h0:n=0:=by simpa[D6]using h0
  subst h0
  cases u with
  |p0=>
   cases h3;exact⟨_,_,w,rfl,Go.Lib.run_unsafeString_none (P:=Ctx.P) w t t' ty none,Stp.refl hs⟩
  |p k o=>
   cases h3;exact⟨_,_,w,rfl,Go.Lib.run_unsafeString_none (P:=Ctx.P) w t t' ty (some ⟨α.blk k,o,none⟩),Stp.refl hs⟩
  |_=>cases h3
 .rw[if_neg h0]at h3;have h0:n≠0:=λJ=>h0 (by rw[J];rfl);obtain⟨k,o,rfl,h4⟩:=qQ h3;obtain⟨ho,h5⟩:=bQ h4;have ho:o=0:=by simpa[D6]using ho
  subst ho;obtain⟨q,hq,h6⟩:=bB h5;obtain⟨z,hz,h7⟩:=bB h6;obtain⟨m,h8⟩:=bQ h7;have m:z=1:=by simpa[D6]using m
  subst m;obtain⟨b,hb,h9⟩:=bB h8;obtain⟨cs,el,ext,ro,rfl,h10⟩:=zQ h9;obtain⟨I,Z⟩:=bQ h10;simp only[L9,T3,D6]at I;obtain⟨M,rfl,h8',C⟩:=I;obtain⟨l,hl,Y⟩:=bB (show ob (cutL cs 0 n) _=some r from Z);obtain⟨K,L,X⟩:=bB Y;cases X;obtain⟨e1,e2⟩:=nW _ _ _ _ hl;obtain⟨W,U⟩:=bDt (α:=α) L;obtain⟨rest,A,_⟩:=hs.cells hb;have f:w.shape? (α.blk k)=some (q,(cs.map (V.inst α)++rest).length):=by simp[World.shape?,A]
  have hll:l.length=n:=by rw[e1];simp;omega
  have d:(K.map UInt8.ofNat).length=n:=by rw[I2,U,hll]
  have g:=Go.Lib.run_unsafeString_row (P:=Ctx.P) w t t' ty q (ptrTo_eq hq) (bQb hz) (α.blk k) (cs.map (V.inst α)++rest).length f (K.map UInt8.ofNat) (λJ=>h0 (by rw[<-d,J];rfl)) (by rw[d,G4,I2];omega) (by rw[d];have:=gB C;simp only[pow47]at this;omega) (λj c B=>by
   rw[mZ]
   have Q:j<l.length:=by have:=(G3.1 B).1;rw[d]at this;omega
   obtain⟨lj,D⟩: ∃x,l[j]?=some x:=⟨_,G1 Q⟩
   have hc:=hs.cell_of hb (i:=0+j) (v:=lj) (by
    have G:=D;rw[e1,Q5,List.getElem?_take,if_pos j5]at G;rw[D1]
    exact G)
   rw[hc];have E:=congrArg (λq:List Value=>q[j]?) W;simp only[F7,D,N5]at E;rw[E];rw[F7]at B
   cases hx:K[j]? with
   |none=>rw[hx]at B;cases B
   |some x'=>
    rw[hx]at B;cases B
    rfl)
  rw[d]at g;refine⟨_,_,_,rfl,?_,Stp.drop hs hb M (w':=w.freeze ⟨α.blk k,0,none⟩ n) ?_ ?_ ?_ ?_ (λi hi O=>?_)⟩
  .simpa[V.inst,bW]using g
  .unfold S9;split<;>rfl
  .unfold S9;split<;>rfl
  .unfold S9;split<;>rfl
  .unfold S9;split<;>simp
  .unfold S9;split
   .rfl
   .simp only[E3];rw[if_neg (λJ=>O J.symm)]
theorem append_op0(hs:Sim α s w)(he:EOk α s N e a){x y:Operand}{t t' ty:TypeId}{r:R}(h:oAppend0 x y t t' s e=some r): ∃α' w' v s',r= .v v s'/\(O8 #[t,t'] ty #[a.eval x,a.eval y]).run Ctx.P w= .ok (v.inst α') w'/\Stp α s w α' s' w':=by
 obtain⟨b,h1⟩:=bQ h;obtain⟨⟨q,el,sz⟩,hq,h2⟩:=bB h1
 cases q with
 |some _=>cases h2
 |none=>
  obtain⟨z,i,h3⟩:=bB (show ob (zeroX el) _=some r from h2);obtain⟨c,h4⟩:=bQ h3;obtain⟨n,g,m⟩:=bB h4;obtain⟨u,hu,l⟩:=bB m;obtain⟨v,j,k⟩:=bB l;obtain⟨d,f⟩:=mI hq;rw[(cA hs he hu).1,(cA hs he j).1];refine append_run hs d f i (by simpa[D6]using c) g ?_ k;rw[M0]at b
  rcases b with b|b
  .unfold isSl at b;split at b
   .exact .inl ⟨_,by assumption⟩
   .cases b
  .exact .inr (bFw b)
theorem zeros_op(hs:Sim α s w)(he:EOk α s N e a){x y:Operand}{t t' ty:TypeId}{r:R}(hi':isIntT t'=true)(h:oZeros x y t s e=some r): ∃α' w' v s',r= .v v s'/\(O8 #[t,t'] ty #[a.eval x,a.eval y]).run Ctx.P w= .ok (v.inst α') w'/\Stp α s w α' s' w':=by
 obtain⟨j,hkn⟩: ∃j,Ctx.P.underlying t'=some (.int j):=by
  unfold isIntT at hi';split at hi'
  .exact⟨_,by assumption⟩
  .cases hi'
 obtain⟨⟨q,el,sz⟩,hq,h2⟩:=bB h
 cases q with
 |some _=>cases h2
 |none=>
  obtain⟨z,J,h3⟩:=bB (show ob (zeroX el) _=some r from h2);obtain⟨by_,D,Y⟩:=bB h3;obtain⟨u,hu,X⟩:=bB Y;obtain⟨v,b,W⟩:=bB X;obtain⟨k,n,rfl,U⟩:=uN W;obtain⟨K,I⟩:=bQ U;cases I;simp only[L9]at K;obtain⟨Z,g2,g3,g4,g5,g6,g7⟩:=K;obtain⟨m,p⟩:=mI hq;obtain⟨i,g,rfl⟩:=kQ p
  obtain⟨M,A,G⟩:=bB D
  obtain rfl:i=M:=Option.some.inj (g.symm.trans A);cases G;have o:u= .l0:=by cases u<;>first|rfl|cases Z
  subst o;have g2:0<n:=by simpa[D7]using g2
  have g3:0<i.size:=by simpa[D7]using g3
  have g4:z.cells.length=i.size:=by simpa[D6]using g4
  have g6:=gB g6;have g7:=gB g7;rw[(cA hs he hu).1,(cA hs he b).1];have hr:=Lib.run_append_nil_zeros (P:=Ctx.P) w t t' ty el i (z.inst α) k j m hkn g (bBn J g) n g2 g3 (by simp only[pow47]at g6;omega) (by simp only[pow47]at g7;omega);have B:=grownCap_ge w n 0 el;generalize grownCap w n 0 el=C at hr B
  have d: ∀v∈sQ n z.cells,v.Sc s.n s.c/\v.one=true:=λv b=>⟨(vD J _ _).cells v (vI b),all_one g5 v (vI b)⟩
  have f:((z.inst α).cells).size=i.size:=by rw[jB,<-g4];simp
  have E:Below w.heap.size w (w.drew.alloc (.cells (O9 (z.inst α).cells n++O9 (z.inst α).cells (C-n)) el)):=(Below.refl _ _).drew.alloc (B8 _) _;refine⟨α.new s.n w.heap.size s.c (C-n),_,_,_,rfl,?_,Stp.alloc hs (c':=s.c+1) E (B8 _) (R8 _) ⟨λv b=>⟨(d v b).1.mono (R8 _) (R8 _),(d v b).2⟩,λk Q=>by cases Q;exact R9 _⟩ ?_⟩
  .show(O8 #[t,t'] ty #[.slice none 0 0,.int k (n:Int)]).run Ctx.P w=_;rw[hr];simp only[V.inst,Cap.inst,As.new,if_true]
   congr 2
   omega
  .refine⟨(O9 (z.inst α).cells (C-n)).toList,?_,?_⟩
   .simp only[O1,size_zeroCells,f,As.new,if_true,T0,g,N5,T1]
   .have O:(sQ n z.cells).map (V.inst (α.new s.n w.heap.size s.c (C-n)))=(sQ n z.cells).map (V.inst α):=(H7 λv b=>(d v b).1.ext (oF _ _ _ _ _)).symm
    have l:(O9 (z.inst α).cells n)=((sQ n z.cells).map (V.inst α)).toArray:=by have L:=yZ (α:=α) g4 n;unfold O9;rw[f]at L⊢;exact L
    rw[O];show(w.drew.alloc _).heap[w.drew.heap.size]?=_;rw[heap_alloc_new,l]
    congr 2
    apply E2;simp
theorem append_op(hs:Sim α s w)(he:EOk α s N e a){x y:Operand}{t t' ty:TypeId}{r:R}(h:oAppend x y t t' s e=some r): ∃α' w' v s',r= .v v s'/\(O8 #[t,t'] ty #[a.eval x,a.eval y]).run Ctx.P w= .ok (v.inst α') w'/\Stp α s w α' s' w':=by
 unfold oAppend at h;rw[cP]at h;split at h
 .rename_i b;exact zeros_op hs he b h
 .exact append_op0 hs he h
theorem bSr(hs:Sim α s w)(he:EOk α s N e a){f:Operand}{args:Array Operand}{ts:Array TypeId}{ty:TypeId}{r:R}(h:oCallV f args.toList s e=some r):
  ∃g vs,r= .call g vs s/\(do let d<-resolve a.eval ⟨.value f,args,ts⟩ ty;invoke d.target d.args:Sem Next).run Ctx.P w=(callFunc g (vs.map (V.inst α)).toArray).run Ctx.P w/\ ∀v∈vs,v.Sc s.n s.c:=by
 obtain⟨u,hu,h1⟩:=bB h
 cases u with
 |f fn first cap=>
  cases fn with
  |func g=>
   obtain⟨vs,j,h2⟩:=bB (show ob (evsX args.toList e) _=some r from h1);cases h2;obtain⟨h3,h4⟩:=bAy hs he j;obtain⟨l,k⟩:=cA hs he hu;have i:args.map a.eval=(vs.map (V.inst α)).toArray:=by apply E2;simpa using h3
   refine⟨g,first++(vs++cap),rfl,?_,λv b=>?_⟩
   .simp only[resolve,l,bOf,Deferred.ofValue,J0,J1,J6,invoke,i]
    congr 1
    simp
   .obtain⟨d,hd⟩:=k
    cases d with
    |zero=>cases hd
    |succ d=>
     rw[jY]at hd;simp only[L9,qD,G0]at hd
     rcases F2.1 b with b|b
     .exact⟨d,hd.1 v b⟩
     .rcases F2.1 b with b|b
      .exact h4 v b
      .exact⟨d,hd.2 v b⟩
  |_=>cases h1
 |_=>cases h1
class Meths:Prop where
 ok: ∀t name f,Ctx.meth t name=some (f,none)-> ∀(v:Value) (w:World),(method (Ctx.P.types.size+Made.depth) t v name).run Ctx.P w= .ok (f,v) w
 deref: ∀t name f el,Ctx.meth t name=some (f,some el)-> ∀(b o:Nat) (r:Value) (w:World),(loadVar el ⟨b,o,none⟩).run Ctx.P w= .ok r w->(method (Ctx.P.types.size+Made.depth) t (.pointer (some ⟨b,o,none⟩)) name).run Ctx.P w= .ok (f,r) w
theorem invoke_run [Meths](hs:Sim α s w)(he:EOk α s N e a){x:Operand}{name:String}{args:Array Operand}{ts:Array TypeId}{ty:TypeId}{r:R}(h:oInvoke x name args.toList s e=some r):
  ∃g vs,r= .call g vs s/\(do let d<-resolve a.eval ⟨.invoke x name,args,ts⟩ ty;invoke d.target d.args:Sem Next).run Ctx.P w=(callFunc g (vs.map (V.inst α)).toArray).run Ctx.P w/\ ∀v∈vs,v.Sc s.n s.c:=by
 obtain⟨u,hu,h1⟩:=bB h;obtain⟨t,v,rfl,h2⟩:=asE_some h1;obtain⟨⟨f,el⟩,C,h3⟩:=bB h2;obtain⟨q,hq,h4⟩:=bB h3;obtain⟨vs,l,m⟩:=bB h4;cases m;obtain⟨m,I⟩:=cA hs he hu;obtain⟨G,E⟩:=bAy hs he l;have i:args.map a.eval=(vs.map (V.inst α)).toArray:=by apply E2;simpa using G
 have b:a.eval x= .iface t (v.inst α):=m
 have B:(method (Ctx.P.types.size+Made.depth) t (v.inst α) name).run Ctx.P w= .ok (f,q.inst α) w/\q.Sc s.n s.c:=by
  have hq:recvX el v s=some q:=hq;unfold recvX at hq;rw[sY]at hq
  cases el with
  |none=>
   cases hq;refine⟨Meths.ok t name f C _ w,?_⟩;obtain⟨d,hd⟩:=I
   cases d with
   |zero=>cases hd
   |succ d=>exact⟨d,hd⟩
  |some el=>
   obtain⟨k,o,rfl,D⟩:=qQ hq;obtain⟨r,hr,A⟩:=bB D;obtain⟨z,p⟩:=bQ A;cases p;exact⟨Meths.deref t name f el C _ _ _ w (bOg hs hr),V.Sc.of z⟩
 refine⟨f,q::vs,rfl,?_,λy j=>?_⟩
 .have K:(#[a.eval x]++args.map a.eval)[0]?=some (.iface t (v.inst α)):=by rw[Array.getElem?_append_left m9,b];rfl
  have J:(#[a.eval x]++args.map a.eval).extract 1 (#[a.eval x]++args.map a.eval).size=(vs.map (V.inst α)).toArray:=by rw[i];apply E2;simp only[Q4,Array.size_append];simp[List.take_of_length_le]
  simp only[resolve,J0,J1,J6,invoke,K,J,callMethod,run_program,B.1]
  congr 1
  simp
 .rcases F1.1 j with rfl|j
  .exact B.2
  .exact E y j
omit [Ctx]in
theorem delE_map: ∀(es:List Ent) (i:Nat),((es.map (entI α)).toArray.eraseIdxIfInBounds i)=((delE es i).map (entI α)).toArray:=by
 intro es i;apply E2;rw[Array.toList_eraseIdxIfInBounds]
 induction es generalizing i with
 |nil=>simp[delE]
 |cons x es ih=>
  cases i with
  |zero=>simp[delE]
  |succ i=>simpa[delE]using ih i
omit [Ctx]in
theorem delE_mem: ∀{es:List Ent} {i:Nat} {x:Ent},x∈delE es i->x∈es
 |[],_,_,h=>h
 |_::_,0,_,h=>F3 _ h
 |y::es,i+1,x,h=>by
  rcases F1.1 h with rfl|h
  .exact F9 ..
  .exact F3 _ (delE_mem h)
omit [Ctx]in
theorem one1_some{args:List Operand}{ts:List TypeId}{f:Operand->TypeId->St->E->Option R}{r:R}(h:one1 args ts f s e=some r): ∃x t,args=[x]/\ts=[t]/\f x t s e=some r:=by
 unfold one1 at h;split at h
 .exact⟨_,_,rfl,rfl,h⟩
 .cases h
theorem delete_run(hs:Sim α s w)(he:EOk α s N e a){m k:Operand}{t t' ty:TypeId}{r:R}(h:oDelete m k t s e=some r): ∃v s' w',r= .v v s'/\(P1 #[t,t'] ty #[a.eval m,a.eval k]).run Ctx.P w= .ok (v.inst α) w'/\Stp α s w α s' w':=by
 obtain⟨f,y,h1⟩:=bB h;cases h1;obtain⟨A,hu,p,u,n,b,d,g⟩:=bEd hs he y;have hb:=bAk hs b;have i:=hs.sc _ _ b;have c:=bFd (w:=w) (α:=α) d g;rw[p,u,sY];have l:(V.t []).inst α= .tuple #[]:=by simp[inst_t]
 cases o:f.at_ with
 |none=>
  rw[o]at c;refine⟨_,_,_,rfl,?_,bAu hs b (es':=f.es) (c':=f.clock) i⟩;rw[l];simp[P1,run_underlying hu,T5 hb,pI d,c,J6,T6 _ hb]
 |some q=>
  obtain⟨j,z⟩:=q;rw[o]at c;refine⟨_,_,_,rfl,?_,bAu hs b (es':=delE f.es j) (c':=f.clock) (λx hx=>i x (delE_mem hx))⟩;rw[l,<-delE_map];simp[P1,run_underlying hu,T5 hb,pI d,c,J6,T6 _ hb]
theorem clear_run(hs:Sim α s w)(he:EOk α s N e a){x:Operand}{t ty:TypeId}{r:R}(h:oClear x t s e=some r): ∃v s' w',r= .v v s'/\(P2 #[t] ty #[a.eval x]).run Ctx.P w= .ok (v.inst α) w'/\Stp α s w α s' w':=by
 obtain⟨⟨q,el,sz⟩,hq,h1⟩:=bB h
 cases q with
 |some _=>cases h1
 |none=>
  obtain⟨u,hu,h2⟩:=bB (show ob (evX x e) _=some r from h1);obtain⟨d,C⟩:=mI hq;rw[(cA hs he hu).1];have f:(V.t []).inst α= .tuple #[]:=by simp[inst_t]
  have h2:clearV el sz u s=some r:=h2
  cases u with
  |l0=>
   cases h2;refine⟨_,_,w,rfl,?_,Stp.refl hs⟩;rw[f];simp[P2,run_underlying d,V.inst]
  |z k o o' c=>
   cases h2;refine⟨_,_,w,rfl,?_,Stp.refl hs⟩;rw[f];simp[P2,run_underlying d,V.inst]
  |l k o n c=>
   have h2:sel (B1 n 0) (some (R.v (.t []) s)) (clearX el sz k o n s)=some r:=h2;rw[cP]at h2
   by_cases hn0:B1 n 0=true
   .rw[if_pos hn0]at h2;cases h2;have hn0:n=0:=by simpa[D6]using hn0
    subst hn0;refine⟨_,_,w,rfl,?_,Stp.refl hs⟩;rw[f];simp[P2,run_underlying d,V.inst]
   .rw[if_neg hn0]at h2;have hn0:n≠0:=λI=>hn0 (by rw[I];rfl);obtain⟨z,y,h3⟩:=bB h2;obtain⟨h4,E⟩:=bQ h3;obtain⟨s',j,D⟩:=bB E;cases D;rw[L9]at h4;obtain⟨b,p⟩:=h4;have b:z.cells.length=sz:=by simpa[D6]using b
    obtain⟨w',B,g⟩:=wC hs j (λv f=>(vD y _ _).cells v (vI f)) (λv f=>all_one p v (vI f));refine⟨_,_,w',rfl,?_,g⟩;rw[f]
    have i:(O9 (z.inst α).cells n).toList=(sQ n z.cells).map (V.inst α):=by
     have A:=yZ (α:=α) b n;have G:(z.inst α).cells.size=sz:=by rw[jB,<-b];simp
     unfold O9;rw[G]at A⊢;rw[A]
    obtain⟨n,rfl⟩: ∃m,n=m+1:=⟨n-1,j5⟩
    simp[P2,run_underlying d,V.inst,wW y w α,i,B]
  |_=>cases h2
theorem copy_run(hs:Sim α s w)(he:EOk α s N e a){x y:Operand}{t t' ty:TypeId}{r:R}(h:oCopy x y t s e=some r): ∃v s' w',r= .v v s'/\(P3 #[t,t'] ty #[a.eval x,a.eval y]).run Ctx.P w= .ok (v.inst α) w'/\Stp α s w α s' w':=by
 obtain⟨⟨q,el,sz⟩,hq,h1⟩:=bB h
 cases q with
 |some _=>cases h1
 |none=>
  obtain⟨u,hu,h2⟩:=bB (show ob (evX x e) _=some r from h1);obtain⟨v,B,h3⟩:=bB h2;obtain⟨b,d⟩:=mI hq;rw[(cA hs he hu).1,(cA hs he B).1]
  cases u with
  |l k o m c=>
   have h3:copyX sz k o m v s=some r:=h3
   cases v with
   |l0=>
    cases h3;refine⟨_,_,w,rfl,?_,Stp.refl hs⟩;simp[P3,run_underlying b,V.inst,O6,O7,jD d,storeCells,goInt]
   |l k' o' m' c'=>
    obtain⟨z,p,h4⟩:=bB (show ob (bIh s k' o' ((Nat.min m' m)*sz)) _=some r from h3);obtain⟨s',n,E⟩:=bB h4;cases E;have g:=row_sc hs p;obtain⟨w',A,f⟩:=wC hs n (λu hu=>(g u hu).1) (λu hu=>(g u hu).2);refine⟨_,_,w',rfl,?_,f⟩;obtain⟨D,C⟩:=qZ hs p
    have hl:=run_loadCells_list (P:=Ctx.P) w ⟨α.blk k',o',none⟩ (z.map (V.inst α)) (λj u i=>by
     rw[F7]at i
     cases hu:z[j]? with
     |none=>rw[hu]at i;cases i
     |some u'=>
      rw[hu]at i;cases i;rw[mZ]
      exact C j u' hu)
    rw[I2,D]at hl;simp[P3,run_underlying b,V.inst,O6,O7,jD d,hl,A,goInt]
   |_=>cases h3
  |_=>cases h3
theorem builtin_run(hs:Sim α s w)(he:EOk α s N e a){b:Builtin}{args:Array Operand}{ts:Array TypeId}{ty:TypeId}{r:R}(h:oBuiltin b args.toList ts.toList s e=some r):
  ∃α' w' v s',r= .v v s'/\(do let d<-resolve a.eval ⟨.builtin b,args,ts⟩ ty;invoke d.target d.args:Sem Next).run Ctx.P w= .ok (.value (v.inst α')) w'/\Stp α s w α' s' w':=by
 have g:(ob (pCall b args.toList ts.toList s e) λv=>some (R.v v s))=some r-> ∃α' w' v s',r= .v v s'/\(do let d<-resolve a.eval ⟨.builtin b,args,ts⟩ ty;invoke d.target d.args:Sem Next).run Ctx.P w= .ok (.value (v.inst α')) w'/\Stp α s w α' s' w':=λh=>by obtain⟨v,j,h1⟩:=bB h;cases h1;exact⟨α,w,v,s,rfl,call_run hs he j ty,Stp.refl hs⟩
 cases b with
 |append=>
  obtain⟨x,y,t,t',h1,h2,h3⟩:=bGc (show two args.toList ts.toList oAppend s e=some r from h);obtain⟨α',w',v,s',h4,f,c⟩:=append_op (t':=t') (ty:=ty) hs he h3;refine⟨α',w',v,s',h4,?_,c⟩;rw[nU,wD h1,ts_two h2];exact cY f
 |unsafeString=>
  obtain⟨x,y,t,t',h1,h2,h3⟩:=bGc (show two args.toList ts.toList (λx y t _=>bNk x y t) s e=some r from h);obtain⟨v,s',w',h4,f,c⟩:=ustr_run (t':=t') (ty:=ty) hs he h3;refine⟨α,w',v,s',h4,?_,c⟩;rw[nU,wD h1,ts_two h2];exact cY f
 |delete=>
  obtain⟨x,y,t,t',h1,h2,h3⟩:=bGc (show two args.toList ts.toList (λm k t _=>oDelete m k t) s e=some r from h);obtain⟨v,s',w',h4,f,c⟩:=delete_run (t':=t') (ty:=ty) hs he h3;refine⟨α,w',v,s',h4,?_,c⟩;rw[nU,wD h1,ts_two h2];exact cY f
 |copy=>
  obtain⟨x,y,t,t',h1,h2,h3⟩:=bGc (show two args.toList ts.toList (λx y t _=>oCopy x y t) s e=some r from h);obtain⟨v,s',w',h4,f,c⟩:=copy_run (t':=t') (ty:=ty) hs he h3;refine⟨α,w',v,s',h4,?_,c⟩;rw[nU,wD h1,ts_two h2];exact cY f
 |clear=>
  obtain⟨x,t,h1,h2,h3⟩:=one1_some (show one1 args.toList ts.toList oClear s e=some r from h);obtain⟨v,s',w',h4,f,c⟩:=clear_run (ty:=ty) hs he h3;refine⟨α,w',v,s',h4,?_,c⟩;have i:ts= #[t]:=by apply E2;simpa using h2
  rw[nU,bLq h1,i];exact cY f
 |_=>exact g h
theorem oPure_run(hs:Sim α s w)(he:EOk α s N e a){o:Oper}{r:R}(h:oPure o.op s e=some r):bLb o a α s w r:=by obtain⟨v,b,h1⟩:=bB h;cases h1;exact⟨α,w,pure_run hs he b,Stp.refl hs⟩
theorem op_run [Meths](hs:Sim α s w)(he:EOk α s N e a){o:Oper}{r:R}(h:opX o.op s e=some r):bLb o a α s w r:=by
 cases ho:o.op with
 |alloc t=>rw[ho]at h;exact alloc_run (e:=e) hs ho h
 |box t x=>rw[ho]at h;exact box_run hs he ho h
 |buildSlice t n parts=>rw[ho]at h;exact bMo hs he ho h
 |store t x y=>rw[ho]at h;exact storeOp_run hs he ho h
 |makeSlice t l c=>rw[ho]at h;exact bSb hs he ho h
 |makeMap t x=>rw[ho]at h;exact makeMap_run hs he ho h
 |mapUpdate t m k x=>
  rw[ho]at h;obtain⟨s',w',rfl,h1,h2⟩:=bQu hs he (show bMg t m k x s e=some r from h);refine⟨α,w',?_,h2⟩;unfold execOp;simp only[ho];exact bFo h1
 |insert t m k x=>
  rw[ho]at h;obtain⟨s',w',rfl,h1,h2⟩:=bQu hs he (show bMg t m k x s e=some r from h);refine⟨α,w',?_,h2⟩;unfold execOp;simp only[ho];exact bFo h1
 |mapEntry t m k=>rw[ho]at h;exact mapEntry_run hs he ho h
 |entryStore t m k x=>rw[ho]at h;exact bQy hs he ho h
 |range t x=>rw[ho]at h;exact range_run hs he ho h
 |next x str=>rw[ho]at h;exact next_run hs he ho h
 |call c=>
  rw[ho]at h;obtain⟨i,d,ts⟩:=c
  cases i with
  |builtin b=>
   obtain⟨α',w',v,s',rfl,h1,h2⟩:=builtin_run (ty:=o.type) hs he (show oBuiltin b d.toList ts.toList s e=some r from h);refine⟨α',w',?_,h2⟩;unfold execOp;simp only[ho];exact h1
  |value f=>
   obtain⟨g,j,rfl,h1,h2⟩:=bSr (ts:=ts) (ty:=o.type) hs he (show oCallV f d.toList s e=some r from h);refine⟨rfl,?_,h2⟩;unfold execOp;simp only[ho];exact h1
  |invoke x name=>
   obtain⟨g,j,rfl,h1,h2⟩:=invoke_run (ts:=ts) (ty:=o.type) hs he (show oInvoke x name d.toList s e=some r from h);refine⟨rfl,?_,h2⟩;unfold execOp;simp only[ho];exact h1
 |_=>exact oPure_run hs he (show oPure o.op s e=some r by rw[ho]at h⊢;exact h)
end
end X
end
section
namespace X
open Go.RowKit
section
variable {P : Program} {ops : Array Oper} {md : Region.Mode} {C : World -> Prop} {R : Array Bool -> Act -> World -> Prop}
def bUi (P:Program)(w:World)(v:Value):Result Next->Prop
 |.ok (.value u) w'=>w'=w/\u=v
 |.ok (.enter f args) w'=>w'=w/\Calls P f args w λe w''=>e= .returned v/\Below w.heap.size w w''
 |_=>False
def looksAt(P:Program)(o:Oper)(a:Act)(C:World->Prop)(v:Value):Prop:= ∀w,C w->bUi P w v ((execOp a.eval o).run P w)
def Fq (P:Program)(ops:Array Oper)(C:World->Prop)(o:Oper)(v:Value)(a:Act):Prop:=
 (I3 o (yielded ops a.tmps)=true/\looksAt P o a C v)\/(I3 o (yielded ops a.tmps)=false/\v=undef)
theorem Fq.of_same{o:Oper}{v:Value}{a a':Act}(hy:Fq P ops C o v a)(he:execOp a'.eval o=execOp a.eval o)
  (hw:I3 o (yielded ops a'.tmps)=I3 o (yielded ops a.tmps)):Fq P ops C o v a':=by unfold Fq looksAt at*;rw[he,hw];exact hy
theorem Fq.fOp{i:Nat}{o:Oper}{v:Value}{a:Act}{w:World}(hi:ops[i]?=some o)(hy:Fq P ops C o v a)(hC:C w){K:Act->World->Prop}(h: ∀w',Below w.heap.size w w'->K (a.put o.dst v) w'):fOp P ops i K a w:=λd c=>by
 have:d=o:=Option.some.inj (c.symm.trans hi);subst this;apply mB
 rcases hy with ⟨b,g⟩|⟨b,rfl⟩
 .simp only[b,if_true];have h1:=g w hC;unfold L2;generalize (execOp a.eval d).run P w=r at*
  cases r with
  |ok n w'=>
   cases n<;>simp only[bUi]at h1<;>simp only[Oper.upon]
   case value u=>
    obtain⟨rfl,rfl⟩:=h1;exact h _ (Below.refl _ _)
   case enter f args=>
    obtain⟨rfl,h2⟩:=h1
    exact h2.mono λe w'' ⟨he,hb⟩=>by
     subst he;exact h _ hb
  |halt x w'=>exact h1.elim
 .simp only[b,L8,if_false];exact h _ (Below.refl _ _)
theorem fOp_putq{j:Nat}{oi oj:Oper}{v:Value}(hj:ops[j]?=some oj)(hap:oi.apart ops oj=true)
  (hsi: ∀cs b,oi.op≠ .select cs b) (hsj: ∀cs b,oj.op≠ .select cs b) {K:Act->World->Prop} {a:Act} {w:World}
  (hy:Fq P ops C oi v a) (h:fOp P ops j K (a.put oi.dst v) w):fOp P ops j (λa' w'=>Fq P ops C oi v a'/\K (a'.put oi.dst v) w') a w:=λo ho=>by
 have:o=oj:=Option.some.inj (ho.symm.trans hj);subst this;obtain⟨h1,h2,h3⟩:=T7 hap
 have keep: ∀(a:Act),Fq P ops C oi v a-> ∀u,Fq P ops C oi v (a.put o.dst u):=λa hy u=>
  hy.of_same (execOp_put oi hsi a o.dst u h3) (wanted_put oi a o.dst u h3)
 have h:=wpNm (h o ho);rw[wanted_put o a oi.dst v h1]at h;apply mB;split
 .rename_i c;simp only[c,if_true]at h;refine qA (execOp_put o hsj a oi.dst v h1).symm (λu w' e=>⟨keep a hy u,by rw[<-Act.put_comm a v u h2];exact e⟩) (λd w' e=>?_) h;refine⟨keep {a with defers:=d::a.defers} hy undef,?_⟩;rw[<-Act.put_comm {a with defers:=d::a.defers} v undef h2]
  have:({a.put oi.dst v with defers:=d::(a.put oi.dst v).defers}:Act)=({a with defers:=d::a.defers}:Act).put oi.dst v:=by cases oi.dst<;>rfl
  rw[<-this];exact e
 .rename_i c;simp only[c]at h;exact⟨keep a hy _,by rw[<-Act.put_comm a v undef h2];exact h⟩
def vR (P:Program)(md:Region.Mode)(ops:Array Oper)(C:World->Prop)(R:Array Bool->Act->World->Prop):Nat->Array Bool->Act->World->Prop
 |0,listed,a,w=> ∀w',Below w.heap.size w w'->C w'/\R listed a w'
 |fuel+1,listed,a,w=> ∀w',Below w.heap.size w w'->C w'/\I4 md ops listed≠[]/\ ∀i∈I4 md ops listed,fOp P ops i (vR P md ops C R fuel (listed.setIfInBounds i true)) a w'
theorem pR{a b c:World}(h:Below a.heap.size a b)(k:Below b.heap.size b c):Below a.heap.size a c:=h.trans (k.mono h.size)
theorem vR.grow: ∀{fuel:Nat} {listed:Array Bool} {a:Act} {w w':World},vR P md ops C R fuel listed a w->Below w.heap.size w w'->vR P md ops C R fuel listed a w'
 |0,_,_,_,_,h,hb=>λw'' b=>h w'' (pR hb b)
 |_+1,_,_,_,_,h,hb=>λw'' b=>h w'' (pR hb b)
theorem xU{Q:Exit->Act->World->Prop}(m:Nat)(hR: ∀listed a w,R listed a w->wpAny P md ops Q m listed a w): ∀(fuel:Nat) (listed:Array Bool) (a:Act) (w:World),vR P md ops C R fuel listed a w->wpAny P md ops Q (fuel+m) listed a w
 |0,listed,a,w,h=>by
  rw[D1];exact hR _ _ _ (h w (Below.refl _ _)).2
 |fuel+1,listed,a,w,h=>by
  rw[Nat.succ_add];obtain⟨_,h1,h2⟩:=h w (Below.refl _ _);refine⟨λe=>absurd e h1,λi g=>?_⟩;have j:=h2 i g;unfold wpOp;split
  .rename_i ho;obtain⟨_,k,b,_⟩:=mem_ready.1 g;rw[ho]at b;cases b
  .rename_i o ho;have h1:=wpNm (j o ho);split
   .rename_i c;simp only[c,if_true]at h1;exact .inl (qA rfl (λu w' f=>xU m hR fuel _ _ _ f) (λd w' f=>xU m hR fuel _ _ _ f) h1)
   .rename_i c;simp only[c]at h1;exact xU m hR fuel _ _ _ h1
theorem wpAnyG_first{i:Nat}{oi:Oper}{v:Value}(hi:ops[i]?=some oi)(hsel: ∀(j:Nat) (o:Oper) cs b,ops[j]?=some o->o.op≠ .select cs b)(hR: ∀listed a w,R listed a w-> ∀j∈I4 md ops listed,waits md ops j i=true):
  ∀(fuel:Nat) (listed:Array Bool) (a:Act) (w:World),oZ md ops listed->
   (∀j oj,ops[j]?=some oj->j≠i->listed.getD j true=false->(∀e∈oj.after,I5 md e=true->e.on≠i)->oi.apart ops oj=true)->
   i∈I4 md ops listed->Fq P ops C oi v a->
   vR P md ops C R fuel (listed.setIfInBounds i true) (a.put oi.dst v) w->vR P md ops C R (fuel+1) listed a w:=by
 have d: ∀{listed:Array Bool},i∈I4 md ops listed->listed.getD i false≠true:=λ{listed} hr e=>by
  have h0:=(mem_ready.1 hr).1
  rcases A8 i listed.size with E|E
  .simp[E]at h0 e;rw[h0]at e;cases e
  .simp[E0 E]at e
 intro fuel
 induction fuel with
 |zero=>
  intro listed a w D _ hr y H w' hb;obtain⟨x,t⟩:=H w' hb;refine⟨x,λh=>z8,λj q=>?_⟩
  by_cases c:j=i
  .subst c;exact y.fOp hi x λw'' p=>H.grow (pR hb p)
  .exact absurd q (bUl D (hR _ _ _ t j (ready_mono q c)) (d hr))
 |succ fuel ih=>
  intro listed a w D f hr y H w' hb;obtain⟨x,_,u⟩:=H w' hb;refine⟨x,λh=>z8,λj q=>?_⟩
  by_cases c:j=i
  .subst c;exact y.fOp hi x λw'' p=>H.grow (pR hb p)
  .have h1:=u j (ready_mono q c);obtain⟨m,oj,n,l⟩:=mem_ready.1 q
   have r: ∀e∈oj.after,I5 md e=true->e.on≠i:=λe he hb B=>by have h1:=l e he hb;rw[B]at h1;exact d hr h1
   have h2:=fOp_putq n (f j oj n c m r) (λcs b=>hsel i oi cs b hi) (λcs b=>hsel j oj cs b n) y h1;have g: ∀k ok,ops[k]?=some ok->k≠i->(listed.setIfInBounds j true).getD k true=false->
     (∀e∈ok.after,I5 md e=true->e.on≠i)->oi.apart ops ok=true:=λk ok G A d z=>by
    refine f k ok G A ?_ z
    by_cases s:j=k
    .subst s;exact m
    .rw[getD_set_ne true s]at d;exact d
   refine gL (λa' w' h3=>ih (listed.setIfInBounds j true) a' w' (D.set q) g (ready_mono hr (Ne.symm c)) h3.1 ?_) h2;rw[E4 _ _ c];exact h3.2
def oB (P:Program)(ops:Array Oper)(C:World->Prop)(K:Act->World->Prop):List (Bool×Nat)->Option Nat->Act->World->Prop
 |[],_,a,w=> ∀w',Below w.heap.size w w'->C w'/\K a w'
 |(true,k)::r,p,a,w=> ∃o v,ops[k]?=some o/\Fq P ops C o v a/\oB P ops C K r p (a.put o.dst v) w
 |(false,k)::r,p,a,w=>if p=some k then oB P ops C K r none a w else ∀w',Below w.heap.size w w'->C w'/\(if k<4096 then fOp P ops k (λa w=>oB P ops C K r p a w) a w'
   else if zE<=k then fOp P ops (rG k) (λa w=>oB P ops C K r none a w) a w'/\
    fOp P ops (uH k) (λa w=> ∀w',Below w.heap.size w w'->C w'/\fOp P ops (rG k) (λa w=>oB P ops C K r (some (uH k)) a w) a w') a w'
   else fOp P ops (k%4096) (λa w=> ∀w',Below w.heap.size w w'->C w'/\fOp P ops (k/4096-1) (λa w=>oB P ops C K r p a w) a w') a w'/\
    fOp P ops (k/4096-1) (λa w=> ∀w',Below w.heap.size w w'->C w'/\fOp P ops (k%4096) (λa w=>oB P ops C K r p a w) a w') a w')
def bMm (P:Program)(ops:Array Oper)(K:Act->World->Prop):List Nat->Act->World->Prop
 |[],a,w=>K a w
 |l::r,a,w=>fOp P ops l (bMm P ops K r) a w
def EndT (P:Program)(md:Region.Mode)(ops:Array Oper)(Q:Exit->Act->World->Prop)(ls:List Nat)(listed:Array Bool)(a:Act)(w:World):Prop:=bVs md ops ls listed=true/\bMm P ops (Q .normal) ls a w
theorem bGp{Q:Exit->Act->World->Prop}: ∀(ls:List Nat) (listed:Array Bool) (a:Act) (w:World),EndT P md ops Q ls listed a w->wpAny P md ops Q ls.length listed a w
 |[],listed,a,w,h=>⟨by simpa[bVs]using h.1,h.2⟩
 |l::r,listed,a,w,h=>by
  obtain⟨h1,h2⟩:=h;simp only[bVs,L9,beq_iff_eq]at h1;refine⟨λe=>(by rw[h1.1]at e;cases e),λi g=>?_⟩;rw[h1.1]at g;have:i=l:=by simpa using g
  subst this;unfold wpOp;split
  .rename_i ho;have hl:i∈I4 md ops listed:=by rw[h1.1];simp
   obtain⟨_,j,b,_⟩:=mem_ready.1 hl;rw[ho]at b;cases b
  .rename_i o ho;have h3:=wpNm (h2 o ho);split
   .rename_i c;simp only[c,if_true]at h3;exact .inl (qA rfl (λu w' f=>bGp r _ _ _ ⟨h1.2,f⟩) (λd w' f=>bGp r _ _ _ ⟨h1.2,f⟩) h3)
   .rename_i c;simp only[c]at h3;exact bGp r _ _ _ ⟨h1.2,h3⟩
theorem bHh{j l:Nat}(h:bEs ops j l=true): ∃oj ol,ops[j]?=some oj/\ops[l]?=some ol/\lateO ol=true/\ol.apart ops oj=true/\j≠l:=by
 unfold bEs at h;rw[sY]at h
 cases a:ops[j]? with
 |none=>rw[a]at h;cases h
 |some oj=>
  rw[a]at h;simp only at h;rw[sY]at h
  cases hl:ops[l]? with
  |none=>rw[hl]at h;cases h
  |some ol=>
   rw[hl]at h;simp only[L9,T3]at h;refine⟨oj,ol,rfl,rfl,h.1,h.2.1,λe=>?_⟩;rw[e,Nat.beq_refl]at h;cases h.2.2.2
theorem bEc{j l:Nat}{listed:Array Bool}(h:pairB md ops j l listed=true):bEs ops j l=true/\I4 md ops listed≠[]/\(∀i∈I4 md ops listed,i=j\/i=l)/\j∈I4 md ops listed/\l∈I4 md ops listed/\I4 md ops (listed.setIfInBounds j true)=[l]/\I4 md ops (listed.setIfInBounds l true)=[j]:=by
 unfold pairB at h;simp only[L9,M0,beq_iff_eq]at h;obtain⟨h1,h2,h3,h4⟩:=h
 rcases h2 with h2|h2
 .refine⟨h1,by rw[h2];simp,λi a=>?_,by rw[h2];simp,by rw[h2];simp,h3,h4⟩;rw[h2]at a
  simpa using a
 .refine⟨h1,by rw[h2];simp,λi a=>?_,by rw[h2];simp,by rw[h2];simp,h3,h4⟩;rw[h2]at a;simp at a;exact a.symm
theorem wpAnyG_pair{j l n:Nat}{R:Array Bool->Act->World->Prop}{K:Act->World->Prop}{listed:Array Bool}{a:Act}{w':World}(hp:pairB md ops j l listed=true)
  (hk: ∀a w,K a w->vR P md ops C R n ((listed.setIfInBounds j true).setIfInBounds l true) a w)
  (h:C w'/\fOp P ops j (λa w=> ∀w',Below w.heap.size w w'->C w'/\fOp P ops l K a w') a w'/\fOp P ops l (λa w=> ∀w',Below w.heap.size w w'->C w'/\fOp P ops j K a w') a w'):
  C w'/\I4 md ops listed≠[]/\ ∀i∈I4 md ops listed,fOp P ops i (vR P md ops C R (n+1) (listed.setIfInBounds i true)) a w':=by
 obtain⟨b,k,e,_,_,r1,r2⟩:=bEc hp;obtain⟨_,_,_,_,_,_,o⟩:=bHh b;obtain⟨s,h1,h2⟩:=h;refine⟨s,k,λi r=>?_⟩
 rcases e i r with rfl|rfl
 .refine gL (λt q g=>?_) h1;intro f c;obtain⟨c2,p⟩:=g f c;refine⟨c2,by rw[r1];simp,λm d=>?_⟩;rw[r1]at d;obtain rfl:m=l:=by simpa using d
  exact gL hk p
 .refine gL (λt q g=>?_) h2;intro f c;obtain⟨c2,p⟩:=g f c;refine⟨c2,by rw[r2];simp,λm d=>?_⟩;rw[r2]at d;obtain rfl:m=j:=by simpa using d
  rw[E4 _ _ (Ne.symm o)];exact gL hk p
theorem pair_closed{j l:Nat}{listed:Array Bool}(hc:oZ md ops listed)(hp:pairB md ops j l listed=true):oZ md ops ((listed.setIfInBounds j true).setIfInBounds l true):=by obtain⟨_,_,_,a,_,r1,_⟩:=bEc hp;exact(hc.set a).set (by rw[r1];simp)
theorem bUu{l:Nat}(hl:l<4096): ∀{r:List (Bool×Nat)},zY ops l r=true->yS r none=yS r (some l)+1
 |[],h=>by cases h
 |(true,k)::r,h=>by
  simp only[zY,L9]at h;simp only[yS,bUu hl h.2]
 |(false,k)::r,h=>by obtain rfl:k=l:=B5 h;simp[yS,hl]
theorem late_of{j l:Nat}(h:bVy ops j l=true):bEs ops j l=true/\l<4096/\ ∃ol,ops[l]?=some ol/\isAl ol.op=true:=by
 unfold bVy at h;simp only[L9,D7]at h;refine⟨h.1,h.2.1,?_⟩;have h2:=h.2.2;rw[sY]at h2
 cases hl:ops[l]? with
 |none=>rw[hl]at h2;cases h2
 |some ol=>rw[hl]at h2;exact⟨ol,rfl,h2⟩
theorem bKc{j l:Nat}{listed:Array Bool}(h:earlyB md ops j l listed=true):bVy ops j l=true/\I4 md ops listed≠[]/\(∀i∈I4 md ops listed,i=j\/i=l)/\j∈I4 md ops listed/\l∈I4 md ops listed/\I4 md ops (listed.setIfInBounds l true)=[j]:=by
 unfold earlyB at h;simp only[L9,M0,beq_iff_eq]at h;obtain⟨h1,h2,h4⟩:=h
 rcases h2 with h2|h2
 .refine⟨h1,by rw[h2];simp,λi a=>?_,by rw[h2];simp,by rw[h2];simp,h4⟩;rw[h2]at a
  simpa using a
 .refine⟨h1,by rw[h2];simp,λi a=>?_,by rw[h2];simp,by rw[h2];simp,h4⟩;rw[h2]at a;simp at a;exact a.symm
theorem nI{Q:Exit->Act->World->Prop}{ls:List Nat}(hs:I7 ops=true): ∀(od:List (Bool×Nat)) (p:Option Nat) (listed:Array Bool) (a:Act) (w:World),oZ md ops listed->jT md ops ls od p listed=true->oB P ops C (bMm P ops (Q .normal) ls) od p a w->vR P md ops C (EndT P md ops Q ls) (yS od p) listed a w
 |[],p,listed,a,w,_,hB,h=>λw' hb=>⟨(h w' hb).1,by simp only[jT,L9]at hB;exact hB.2,(h w' hb).2⟩
 |(true,k)::r,p,listed,a,w,hc,hB,h=>by
  simp only[jT,L9]at hB;obtain⟨o,v,ho,I,K⟩:=h
  exact wpAnyG_first ho (I8 hs) (λb _ _ h j g=>by
   have h1:=h.1;have h2:=hB.2.2.1
   revert h1 h2
   cases ls with
   |nil=>
    intro h1 _;have h1:(I4 md ops b).isEmpty=true:=h1;rw[List.isEmpty_iff.1 h1]at g;cases g
   |cons l ls=>
    intro h1 h2;simp only[bVs,L9,beq_iff_eq]at h1;rw[h1.1]at g;obtain rfl:j=l:=by simpa using g
    exact h2) (yS r p) listed a w hc (Region.free_spec ho hB.2.1) (by simpa using hB.1) I (nI hs r p _ _ _ (hc.set (by simpa using hB.1)) hB.2.2.2 K)
 |(false,k)::r,p,listed,a,w,hc,hB,h=>by
  by_cases c:p=some k
  .simp only[jT,c,if_true]at hB;simp only[yS,c,if_true];simp only[oB,c,if_true]at h;exact nI hs r none listed a w hc hB h
  .simp only[oB,c,if_false]at h
   by_cases d:k<4096
   .simp only[jT,c,d,if_false,if_true,L9,beq_iff_eq]at hB;simp only[yS,c,d,if_false,if_true];intro w' hb;obtain⟨z,f⟩:=h w' hb;rw[if_pos d]at f;refine⟨z,λh0=>aa5,λi q=>?_⟩;rw[hB.1]at q;have:i=k:=by simpa using q
    subst this;exact gL (λa' w' N=>nI hs r p _ _ _ (hc.set (by rw[hB.1];simp)) hB.2 N) f
   .by_cases hq:zE<=k
    .simp only[jT,c,d,hq,if_false,if_true,L9]at hB;obtain⟨M,L,J,B,A⟩:=hB;obtain rfl:p=none:=by simpa using J
     simp only[yS,c,d,hq,if_false,if_true];obtain⟨x,u,n,g,hl,r2⟩:=bKc M;intro w' hb;obtain⟨z,f⟩:=h w' hb;rw[if_neg d,if_pos hq]at f;refine⟨z,u,λi q=>?_⟩
     rcases n i q with e|e
     .rw[e];exact gL (λD t h1=>nI hs r none _ D t (hc.set g) B h1) f.1
     .rw[e];rw[bUu (late_of x).2.1 L];refine gL (λD t G=>?_) f.2;intro s y;obtain⟨c2,O⟩:=G s y;refine⟨c2,by rw[r2];simp,λm E=>?_⟩;rw[r2]at E;have e:m=rG k:=Q7.1 E;rw[e];exact gL (λR s h2=>nI hs r _ _ R s ((hc.set hl).set (by rw[r2];simp)) A h2) O
    .simp only[jT,c,d,hq,if_false,L9]at hB;simp only[yS,c,d,hq,if_false];intro w' hb;have f:=h w' hb;rw[if_neg d,if_neg hq]at f;exact wpAnyG_pair hB.1 (λD t h1=>nI hs r p _ _ _ (pair_closed hc hB.1) hB.2 h1) f
theorem region_tail{Q:Exit->Act->World->Prop}{id:Nat}{ls:List Nat}{od:List (Bool×Nat)}{a:Act}{w:World}(hm:P.follows .mixedOrders=true)(hB:zH ls od ops=true)(h:oB P ops C (bMm P ops (Q .normal) ls) od none a w.drew):(Code.region id ops true).wp P Q a w:=by simp only[zH,L9]at hB;refine wp_region_any hm ?_;have:=xU (P:=P) (md:= .any) (C:=C) (R:=EndT P .any ops Q ls) (Q:=Q) ls.length (bGp ls) (yS od none) (E5 ops.size false) a _ (nI hB.1 od none _ a _ oZ.none hB.2.2 h);rw[B5 hB.2.1]at this;exact this
theorem bUv{j:Nat}{oi oj:Oper}{v:Value}(hj:ops[j]?=some oj)(hap:oi.apart ops oj=true)(hsj: ∀cs b,oj.op≠ .select cs b){K:Act->World->Prop}{a:Act}{w:World}
  (h:fOp P ops j (λa' w'=>K (a'.put oi.dst v) w') a w):fOp P ops j K (a.put oi.dst v) w:=λo ho=>by
 have:o=oj:=Option.some.inj (ho.symm.trans hj);subst this;obtain⟨h1,h2,h3⟩:=T7 hap;have h:=wpNm (h o ho);apply mB;rw[wanted_put o a oi.dst v h1];split
 .rename_i e;simp only[e,if_true]at h;refine qA (execOp_put o hsj a oi.dst v h1) (λu w' c=>by rw[Act.put_comm a v u h2];exact c) (λd w' c=>?_) h;have c:K (({a with defers:=d::a.defers}.put o.dst undef).put oi.dst v) w':=c;rw[<-Act.put_comm {a with defers:=d::a.defers} v undef h2]at c
  have:({a.put oi.dst v with defers:=d::(a.put oi.dst v).defers}:Act)=({a with defers:=d::a.defers}:Act).put oi.dst v:=by cases oi.dst<;>rfl
  rw[this];exact c
 .rename_i e;simp only[e]at h;rw[Act.put_comm a v undef h2];exact h
end
end X
end
section
open Go.RowKit Go.ChangeShapes Go.WideShapes
structure Sl (α:Type) where
 O:Option Addr
 cap:Nat
 B:List α
abbrev f9{α:Type}(l:Sl α):Value:= .slice l.O l.B.length l.cap
abbrev j3(z:Int):Value:= .int .i64 z
abbrev j4(z:Int):Value:= .int .u8 z
instance {α : Type} : Inhabited (Sl α) := ⟨none, 0, []⟩
def Sl.v {α:Type}(s:Sl α):Value:= .slice s.O s.B.length s.cap
def bC.and(f g:bC):bC:=⟨λS w=>f.p S w/\g.p S w,λhs ha h=>⟨f.mono hs ha h.1,g.mono hs ha h.2⟩⟩
def bC.each{α:Type}(xs:List α)(g:α->bC):bC:=⟨λS w=> ∀x∈xs,(g x).p S w,λhs ha h x hx=>(g x).mono hs ha (h x hx)⟩
def bC.true:bC:=⟨λ_ _=>True,λ_ _ h=>h⟩
section
variable {F : List bC} {f g : bC} {α : Type}
theorem Has.left(h:Has F (f.and g)):Has F f:=λS w k=>(h S w k).1
theorem Has.right(h:Has F (f.and g)):Has F g:=λS w k=>(h S w k).2
theorem Has.and(h:Has F f)(k:Has F g):Has F (f.and g):=λS w q=>⟨h S w q,k S w q⟩
theorem Has.each{xs:List α}{g:α->bC}(h:Has F (bC.each xs g)){x:α}(hx:x∈xs):Has F (g x):=λS w k=>h S w k x hx
theorem Has.true:Has F bC.true:=λ_ _ _=>trivial
end
structure Ty (α:Type) where
 E:Flat α
 deep:α->bC
def Ty.sl {α:Type}(T:Ty α)(s:Sl α):bC:=(T.E.sl s.v s.B).and (bC.each s.B T.deep)
section
variable {F : List bC} {α : Type} {T : Ty α}
theorem Has.cells{s:Sl α}(h:Has F (T.sl s)):Has F (T.E.sl (f9 s) s.B):=h.left
theorem Has.at{s:Sl α}(h:Has F (T.sl s)){k:Nat}{x:α}(hx:s.B[k]?=some x):Has F (T.deep x):=h.right.each (f5 hx)
end
def sZ {α H:Type}(enc:TypeId×Value->H)(P:Program)(w:World)(t:TypeId)(cells:α->List Value)(deep:α->bC):Prop:=
 ∀fuel cs x,DataW.trod enc P w 0 (λ_=>true) true fuel t cs=some x->(∀n∈x.1.weights P t,n<=reachBytes)-> ∃a,cs=cells a/\(deep a).p (λb=>b<w.heap.size) w
section
variable {H : Type} {enc : TypeId × Value -> H} {P : Program} {w : World} {t e : TypeId}
theorem spotOf{a:Addr}{v:Value}(h:w.cell? a=some v):a.spot=none:=by
 unfold D8 at h;split at h
 .cases b:a.spot with
  |none=>rfl
  |some x=>rw[b]at h;simp at h
 .cases h
theorem lN{k:IntKind}(hu:P.underlying t=some (.int k)):sZ enc P w t (λz:Int=>[.int k z]) (λz=>bC.pure ((Lit.int k z).wf=true)):=λa c x h _=>by obtain⟨n,e,_,b⟩:=DataW.trod_int hu h;exact⟨n,e,b⟩
theorem bKr{d:DataW H}: ∀{ds:List (DataW H)},d∈ds-> ∀n∈d.weights P e,n∈DataW.weightsAll P e ds
 |[],h,_,_=>by simp at h
 |d0::ds,h,n,hn=>by
  rw[DataW.weightsAll,F2]
  rcases F1.1 h with rfl|h
  .exact .inl hn
  .exact .inr (bKr h n hn)
theorem opens_slice{α:Type} [Inhabited α]{T:Ty α}(hu:P.underlying t=some (.slice e))(hc:P.cellsOf e=T.E.size)(he:sZ enc P w e T.E.cells T.deep):
  sZ enc P w t (λs:Sl α=>[s.v]) (λs=>(T.sl s).and (bC.pure (s.B.length*P.bytesOf e<=140737488355328))):=λN Y x h M=>by
 rcases Deep.open_slice hu h with ⟨rfl,_⟩|⟨a,len,g,m,n,D,Z,rfl,_,hl,_,R,rfl,V⟩
 .exact⟨⟨none,0,[]⟩,rfl,⟨⟨none,0,rfl,λk x y=>by simp at y⟩,λx hx=>by simp at hx⟩,by show 0*_<=_;omega⟩
 .have U:len<=m:=by rw[R];simp;exact hl
  have B:len*P.bytesOf e<=140737488355328:=by have:=M ((((Q9 len).map D).length+((Q9 (m-len)).map λj=>D (len+j)).length)*P.bytesOf e) (by simp[DataW.weights,hu]);have h2:len*P.bytesOf e<=(len+(m-len))*P.bytesOf e:=D2 _ j5;simp only[I2,List.length_range]at this;unfold reachBytes at this;omega
  have hel: ∀i,i<len-> ∃q:α,(∀j,j<T.E.size->w.cell? ((a.add (i*T.E.size)).add j)=(T.E.cells q)[j]?)/\(T.deep q).p (λb=>b<w.heap.size) w:=λi c=>by
   obtain⟨X,d,Q⟩:=V i j5;rw[hc]at d;obtain⟨_,W,L⟩:=World.cells?_some d
   obtain⟨q,hq,hd⟩:=he _ _ _ Q (λn hn=>M n (by
    simp only[DataW.weights,hu,F1,F2]
    exact .inr (.inl (bKr (P5.2 ⟨i,by simpa using c,rfl⟩) n hn))))
   exact⟨q,λj z=>by rw[L j z,hq],hd⟩
  obtain⟨f,K⟩: ∃f:Nat->α,∀i,i<len->(∀j,j<T.E.size->w.cell? ((a.add (i*T.E.size)).add j)=(T.E.cells (f i))[j]?)/\(T.deep (f i)).p (λb=>b<w.heap.size) w:=
   ⟨λi=>if h:i<len then (hel i h).choose else default,λi c=>by simp only[dif_pos c];exact(hel i c).choose_spec⟩
  refine⟨⟨some a,g,(Q9 len).map f⟩,by simp[Sl.v],⟨⟨some a,g,rfl,λk q y=>?_⟩,λq hq=>?_⟩,by show((Q9 len).map f).length*_<=_;simpa using B⟩
  .have G:k<len:=by simpa using (G3.1 y).1
   have hq:q=f k:=by
    have:=(G3.1 y).2
    simpa using this.symm
   subst hq;have hc:=(K k G).1;obtain⟨r,O,l⟩:=a
   have C:l=none:=by
    have h0:=(K 0 j5).1 0 T.E.pos;have hlt:0<(T.E.cells (f 0)).length:=by rw[T.E.len];exact T.E.pos
    rw[G1 hlt,Nat.zero_mul]at h0;have h1:w.cell? ⟨r,O,l⟩=some ((T.E.cells (f 0))[0]):=by simpa[Addr.add]using h0
    exact spotOf h1
   subst C
   have A: ∀o i,(⟨r,o,none⟩:Addr).add i=⟨r,o+i,none⟩:=λo i=>by unfold Addr.add;split<;>simp_all
   refine⟨r,O,T.E.cells (f k),rfl,?_,λj u z=>?_,rfl⟩
   .have hlt:0<(T.E.cells (f k)).length:=by rw[T.E.len];exact T.E.pos
    have h0:=hc 0 T.E.pos;rw[G1 hlt,A,A]at h0
    rcases A8 r w.heap.size with hlt|J
    .exact hlt
    .simp[D8,E0 J]at h0
   .have I:j<T.E.size:=by
     have:=(G3.1 z).1
     rwa[T.E.len]at this
    have:=hc j I;rw[A,A]at this;exact this.trans z
  .obtain⟨i,c,rfl⟩:=P5.1 hq;exact(K i (by simpa using c)).2
def slE (α:Type):Flat (Sl α) where
 size:=1
 cells:=λs=>[.slice s.O s.B.length s.cap]
 len:=λ_=>rfl
 one:=λx u hu=>by simp at hu;subst hu;rfl
 pos:=l4
def Ty.slice{α:Type}(T:Ty α)(b:Nat):Ty (Sl α):=⟨slE α,λs=>(T.sl s).and (bC.pure (s.B.length*b<=140737488355328))⟩
theorem iB{α:Type} [Inhabited α]{T:Ty α}{b:Nat}(hu:P.underlying t=some (.slice e))(hc:P.cellsOf e=T.E.size)(hb:P.bytesOf e=b)(he:sZ enc P w e T.E.cells T.deep):sZ enc P w t (T.slice b).E.cells (T.slice b).deep:=by subst hb;exact opens_slice hu hc he
theorem dN{fs:Array Field}{ds:List (DataW H)}{R:Nat}(hu:P.underlying t=some (.struct fs))(hw: ∀n∈(DataW.agg ds).weights P t,n<=R){j:Nat}{f:Field}(hf:fs[j]?=some f){d:DataW H}(hd:ds[j]?=some d): ∀n∈d.weights P f.type,n<=R:=λn hn=>by
 refine hw n ?_;simp only[DataW.weights,hu];refine DataW.weights_mem_each (j:=j) (t:=f.type) (d:=d) ?_ hd n hn;have:fs.toList[j]?=some f:=by simpa using hf
 simp[this]
theorem sZ.arg{α:Type}{cells:α->List Value}{deep:α->bC}(h:sZ enc P w t cells deep){v:Value}{d:DataW H}{p:List MemPlace}(ht:DataW.Trod enc P w 0 (λ_=>true) true t v d p){ts:List TypeId}{ds:List (DataW H)}{j:Nat}
  (hsz:(DataW.weightsEach P ts ds).all (· <=reachBytes)=true) (hj:ts[j]?=some t) (hd:ds[j]?=some d): ∃a,v.cells.toList=cells a/\(deep a).p (λb=>b<w.heap.size) w:=by
 obtain⟨c,e⟩:=ht
 exact h c _ _ e λn hn=>by
  have:=G0.1 hsz _ (DataW.weights_mem_each hj hd n hn)
  simpa using this
end
def intTy:Ty Int:=⟨dA,λz=>bC.pure ((Lit.int .i64 z).wf=true)⟩
end
section
open Go.RowKit
def bIn:Array Value->Nat->List Value->Array Value
 |cs,_,[]=>cs
 |cs,o,v::r=>bIn (cs.setIfInBounds o v) (o+1) r
theorem bJy: ∀(vs:List Value) (cs:Array Value) (o:Nat),(bIn cs o vs).toList=lY cs.toList o vs
 |[],_,_=>rfl
 |v::r,cs,o=>by rw[bIn,lY,bJy r];simp
theorem bJw: ∀(vs xs:List Value) (j:Nat),(lY xs j vs).length=xs.length
 |[],_,_=>rfl
 |v::r,xs,j=>by rw[lY,bJw r];simp
theorem bCd{g:Nat}{t:TypeId}{fz:Nat×Nat}: ∀(vs:List Value) (o:Nat) (w:World) (cs:Array Value),w.heap[g]?=some (.cells cs t fz)->(w.setCells g o vs).heap[g]?=some (.cells (bIn cs o vs) t fz)
 |[],_,_,_,h=>h
 |v::r,o,w,cs,h=>by rw[World.setCells,bIn];refine bCd r (o+1) _ _ ?_;simp[World.setCell,E3,h]
theorem bUh{off:Nat}: ∀(vs bs cs:List Value) (p:Nat),(∀j u,bs[j]?=some u->cs[off+j]?=some u)-> ∀j u,(lY bs p vs)[j]?=some u->(lY cs (off+p) vs)[off+j]?=some u
 |[],_,_,_,h=>h
 |v::r,bs,cs,p,h=>by
  rw[lY,lY];refine bUh r (bs.set p v) (cs.set (off+p) v) (p+1) λj u a=>?_
  by_cases e:p=j
  .subst e;have hlt:=(G3.1 a).1;rw[R0]at hlt;rw[G8 hlt]at a;have:=h p _ (G1 hlt);rw[G8 (G3.1 this).1];exact a
  .rw[R1 e]at a;rw[R1 j5];exact h j u a
section
variable {P : Program} {β : dY} {n : Nat} {Γ : Env} {H : List bD} {F : List bC} {Q : Exit -> Act -> World -> Prop} {K : Act -> World -> Prop} {T : Tab} {α : Type} {E : Flat α}
def xQ (v:Value):List α->Option Nat
 |[]=>none
 |_::_=>v.ownBlock
def Flat.held(E:Flat α)(v:Value)(xs:List α):bD:= .gen (xQ v xs) λo=> ∃A cap,v= .slice A xs.length cap/\(xs=[]\/ ∃g off cs t fz,A=some ⟨g,off,none⟩/\o=some (.cells cs t fz)/\ ∀j u,(E.all xs)[j]?=some u->cs.toList[off+j]?=some u/\(fz.1<=off+j&&off+j<fz.2)=false)
theorem tW{w:World}{v:Value}{xs:List α}(h:(E.held v xs).ok w){k:Nat}(hk:k<xs.length): ∃g off cap cs t fz,v= .slice (some ⟨g,off,none⟩) xs.length cap/\(E.held v xs).blk=some g/\w.heap[g]?=some (.cells cs t fz)/\
  ∀j u,(E.all xs)[j]?=some u->cs.toList[off+j]?=some u/\(fz.1<=off+j&&off+j<fz.2)=false:=by
 obtain⟨A,cap,e,h⟩:=h
 rcases h with h|⟨g,off,cs,t,fz,b,a,h⟩
 .subst h;simp at hk
 .subst e;subst b
  cases xs with
  |nil=>simp at hk
  |cons x r=>exact⟨g,off,cap,cs,t,fz,rfl,rfl,a,h⟩
theorem bCx{w:World}{v:Value}{xs:List α}(h:(E.held v xs).ok w){S:kZ}(hS: ∀b,(E.held v xs).blk=some b->S b):(E.sl v xs).p S w:=by
 have h0:=h;obtain⟨A,d,e,_⟩:=h;refine⟨A,d,e,λk x f=>?_⟩;obtain⟨g,a,i,q,t,o,c,hb,m,n⟩:=tW h0 (G3.1 f).1;rw[e]at c;injection c with c
 subst c;refine⟨g,a,E.cells x,rfl,hS g hb,λj u l=>?_,rfl⟩;have:=(n _ _ (E.all_get f l)).1;show w.cell? ⟨g,a+k*E.size+j,none⟩=some u;unfold D8;rw[m];rw[Nat.add_assoc]
 simpa using this
theorem dV{A:Option Addr}{m cap:Nat}{xs:List α}{H':List bD}(hH:bZ H (E.held (.slice A m cap) xs) H'):cF β H F E A xs:=λw S s _ i x c=>by
 have h:=bCx (S:=λ_=>True) (s.ok _ hH.mem) (λ_ _=>trivial);obtain⟨l,k,e,h⟩:=h;obtain⟨b,o,g,f,j,d,a⟩:=h i x c;injection e with e
 subst e;subst f;have a:g=E.cells x:=a;subst a;exact⟨⟨b,o,rfl⟩,d⟩
theorem lends_held{v:Value}{xs:List α}{L:List bD}{G:List bC}(h:yP L G):yP (E.held v xs::L) (E.sl v xs::G):=λS w a e=>
 All.cons (bCx (a _ (F9 ..)) λb hb=>e _ (F9 ..) b hb) (h S w (λc d=>a c (F3 _ d)) λc d=>e c (F3 _ d))
theorem fW{ops:Array Oper}{rest:List Oper}{o:Oper}(hT:fC P T){t k fo m cap:Nat}{p x:Operand}{v:Value}{vs:List Value}{i:TI}{A:Option Addr}{xs:List α}{y y':α}{H':List bD}(hH:bZ H (E.held (.slice A m cap) xs) H')(hw:want ops Γ o=some true)(ho:o.op= .store t p x)(hd:o.dst=none)
  (hp:Γ.ev p=some (.pointer (some ⟨bRd A,bNg A+k*E.size+fo,none⟩))) (hx:Γ.ev x=some v) (ht:T.get t=some i) (hc:v.cells=vs.toArray) (hs:B1 vs.length i.size=true)
  (h1:vs.all (·.oneCell')=true) (hk:xs[k]?=some y) (hput:tC (E.cells y) fo vs=some (E.cells y')) (K:At β n Γ (E.held (.slice A m cap) (xs.set k y')::H') F (wpList P ops Q rest)):At β n Γ H F (wpList P ops Q (o::rest)):=
 gR hw λa w S f s W=>by
  have hlt:k<xs.length:=(G3.1 hk).1;have J:=s.ok _ hH.mem;obtain⟨g,b,R,G,t',X,e,q,M,z⟩:=tW J hlt;injection e with e1 e2 e3
  subst e1 e2 e3;have hb:=(rJ hput).1;rw[E.len]at hb;have D:(k+1)*E.size<=xs.length*E.size:=D2 _ hlt;rw[C9,Nat.one_mul]at D
  have N: ∀j,j<vs.length-> ∃u,(E.all xs)[k*E.size+fo+j]?=some u:=λj d=>⟨_,G1 (by rw[E.all_length];omega)⟩
  have B:w.there g (b+k*E.size+fo) vs.length:=λj d=>by
   obtain⟨u,hu⟩:=N j d;obtain⟨V,U⟩:=z _ _ hu;have e:b+k*E.size+fo+j=b+(k*E.size+fo+j):=j5
   refine⟨?_,?_⟩
   .rw[e];unfold D8;rw[M];have:G[b+(k*E.size+fo+j)]?=some u:=by simpa using V
    simp[this]
   .rw[e];unfold World.frozen?;rw[M];exact U
  have C:=run_storeCells_cells (P:=P) g (b+k*E.size+fo) vs 0 w (λj d=>by simpa using (B j d).1) (λj d=>by simpa using (B j d).2) (λu hu=>by simpa using (G0.1 h1) u hu);rw[C5]at C;have I:v.cells.size=i.size:=by rw[hc];simpa using B5 hs
  have hr:(execOp a.eval o).run P w= .ok .skip (w.setCells g (b+k*E.size+fo) vs):=by unfold execOp;simp only[ho,f.ev hp,f.ev hx,K0,J8,storeVar,J0,J1,J6,hT.size ht,I,bRd,bNg];simp[hc,C]
  unfold L2;rw[hr,L4,hd];have O:=s.perm hH.perm
  have l:(E.held (.slice (some ⟨g,b,none⟩) xs.length cap) (xs.set k y')).blk=some g:=by
   cases xs with
   |nil=>simp at hlt
   |cons x0 r=>cases k<;>rfl
  refine K _ _ S (f.put_none _) (O.swap (kY g vs _ w) q l ?_) (All.mono (λ_ h=>h) (s.agree (kY g vs _ w) (λc hc e=>by subst e;exact(O.own _ (F9 ..) _ q).2.2 hc)) W);refine⟨_,cap,by rw[R0],.inr ⟨g,b,bIn G (b+k*E.size+fo) vs,t',X,rfl,?_,λj u d=>?_⟩⟩
  .have:xQ (Value.slice (some ⟨g,b,none⟩) xs.length cap) (xs.set k y')=some g:=l;rw[this];exact bCd vs _ w G M
  .rw[<-E.all_set hk hput]at d;rw[bJy];have e:b+k*E.size+fo=b+(k*E.size+fo):=j5
   rw[e];refine⟨bUh vs (E.all xs) G.toList _ (λj u d=>(z j u d).1) j u d,?_⟩
   have L:j<(E.all xs).length:=by have:=(G3.1 d).1;rw[bJw]at this;exact this
   exact(z _ _ (G1 L)).2
theorem jS{ops:Array Oper}{rest:List Oper}{o:Oper}{d:Nat}{x y:Operand}{t e:TypeId}{i:TypeInfo}{z:Value}{by_ c q:Nat}{v:Value}{A:Option Addr}{xs ys:List α}{H':List bD}(hH:bZ H (E.row v e xs) H')(hr:cF β H F E A ys)(hg:o.guard=none)
  (ho:o.op= .call {callee:= .builtin .append,args:= #[x,y],argTypes:= #[t,t]}) (hd:o.dst=some d) (hn:C2 d n=true) (hu:P.underlying t=some (.slice e)) (hi:P.info? e=some i) (hz:i.zero=some z) (hsize:i.size=E.size) (hby:i.bytes=by_) (hzs:z.cells.size=E.size)
  (hx:Γ.ev x=some v) (hy:Γ.ev y=some (.slice A q c)) (hq:q=ys.length) (hbytes:(xs.length+ys.length)*by_<=140737488355328) (hpos:0<by_)
  (k: ∀A' cap',At β n ((d,.slice A' (xs++ys).length cap')::Γ) (E.row (.slice A' (xs++ys).length cap') e (xs++ys)::H') F (wpList P ops Q rest)):At β n Γ H F (wpList P ops Q (o::rest)):=by
 by_cases G:0<ys.length
 .exact yO hH hr hg ho hd hn hu hi hz hsize hby hzs hx hy hq G hbytes hpos k
 .have h0:ys=[]:=P8 j5;subst h0;subst hq;simp only[R2]at k;refine at_rowv hH λA' cap' e=>?_;subst e
  cases A with
  |none=>
   have V:want ops Γ o=some true:=by unfold want;rw[hg]
   refine gR V λa w S f s M=>?_;have m:w.ownsRow 0 e E.size (.slice A' xs.length cap') xs.length (E.all xs):=s.ok _ hH.mem
   have D:(O8 #[t,t] o.type #[.slice A' xs.length cap',.slice none 0 c]).run P w= .ok (.slice A' xs.length cap') w:=by
    rcases m.2 with ⟨e,e0⟩|⟨g,Y,X,e,_,_,I,_⟩
    .injection e with e1 B e3
     subst e1 e3;rw[B];simp[O8,run_underlying hu,sizeOf,typeInfo,hi,O6,O7]
    .injection e with e1 B e3
     subst e1 e3;simp[O8,run_underlying hu,sizeOf,typeInfo,hi,O6,O7,I,storeCells]
   have C:(execOp a.eval o).run P w= .ok (.value (.slice A' xs.length cap')) w:=by unfold execOp;simp only[ho,resolve,invoke,builtin,J0,J1,J6,List.map_toArray,List.map_cons,Q6,f.ev hx,f.ev hy,List.length_nil,D]
   unfold L2;rw[C,L3,hd];exact k A' cap' _ _ S (f.put m8 _) (s.perm hH.perm) M
  |some ad=>
   intro a w S f s M;have m:w.ownsRow 0 e E.size (.slice A' xs.length cap') xs.length (E.all xs):=s.ok _ hH.mem;have J:xs.length*by_<=140737488355328:=by simpa using hbytes
   have N:xs.length<=maxLen:=by have:xs.length<=xs.length*by_:=Nat.le_mul_of_pos_right _ hpos;simp[maxLen];omega
   refine wpList_append_own_at w hg x y t ho 0 e i z E.size by_ hu hi hz hsize hby hzs E.pos _ xs.length (E.all xs) (f.ev hx) m ad 0 c [] (f.ev hy) m9 (λj u W=>by simp at W) m9 N J (S6 _) ?_;intro O w' l p _ L;rw[R2]at l;have R:=s.perm hH.perm;rw[hd];have U:=R.swap_row (tZ p) L l;refine bMb (β:=β) (n:=n) (Γ:=(d,O)::Γ) (H:= .row O e E.size (xs.length+0) (E.all xs)::H') (F:=F) (K:=wpList P ops Q rest) .head (λ_ ⟨Z,r,B,_⟩=>?_) _ _ S (f.put m8 _) U (All.mono (λ_ h=>h) (s.agree (tZ p) (λb hb e=>(R.own _ (F9 ..) b e.symm).2.2 hb)) M);subst B;exact k Z r
theorem bIm{ops:Array Oper}{rest:List Oper}{o:Oper}{d:Nat}{t e:TypeId}{ie:TypeInfo}(E:Flat α)(hw:want ops Γ o=some true)(ho:o.op= .buildSlice t 0 #[])(hd:o.dst=some d)(hn:C2 d n=true)
  (hu:P.underlying t=some (.slice e)) (hie:P.info? e=some ie)
  (k: ∀b,At β n ((d,.slice (some ⟨b,0,none⟩) 0 0)::Γ) (E.row (.slice (some ⟨b,0,none⟩) 0 0) e []::H) F (wpList P ops Q rest)):At β n Γ H F (wpList P ops Q (o::rest)):=by
 refine at_build (m:=0) (parts:= #[]) (e:=e) (cs:=[]) hw ho hd hn (λa w f=>?_) λb=>?_
 .simp[R3,run_underlying hu,sizeOf,typeInfo,hie,newRow,Instr.fill,Array.range_zero']
 .intro a w S f s l;have h:w.heap[b]?=some (.cells #[] e (0,0)):=s.ok _ (F9 ..);refine k b a w S f ⟨s.kept,λc g=>?_,λc g j hb=>?_,?_,s.zb⟩ l
  .rcases F1.1 g with rfl|g
   .exact⟨by simp[Flat.all],.inr ⟨b,0,#[],rfl,S6 _,h,B8 _,by simp[maxLen],m9,by simp[Flat.all]⟩⟩
   .exact s.ok c (F3 _ g)
  .rcases F1.1 g with rfl|g
   .exact s.own (.obj b (.cells #[] e)) (F9 ..) j hb
   .exact s.own c (F3 _ g) j hb
  .have i:=F4.1 s.sep;exact F4.2 ⟨λd hd b hb=>i.1 d hd b hb,i.2⟩
end
end
section
open Go.RowKit
abbrev Bs:=List UInt8
def bs (l:Bs):ByteArray:=⟨l.toArray⟩
theorem bs_size(l:Bs):(bs l).size=l.length:=rfl
section
variable {P : Program} {β : dY} {n : Nat} {Γ : Env} {H : List bD} {F : List bC} {Q : Exit -> Act -> World -> Prop} {K : Act -> World -> Prop} {T : Tab} {α : Type} {E : Flat α}
theorem fC.str(hT:fC P T){t sz:Nat}(ht:T.get t=some ⟨.string,sz⟩):P.underlying t=some .string:=by
 obtain⟨d,hu,hd⟩:=hT.any ht;cases d<;>simp[TD.of]at hd
 exact hu
def cutA (A:Option Addr)(l size c:Nat):Option Addr:=if c=l then A else A.map (·.add (l*size))
end
end
section
open Go.RowKit
section
variable {P : Program} {β : dY} {n : Nat} {Γ : Env} {H : List bD} {F : List bC} {Q : Exit -> Act -> World -> Prop} {K : Act -> World -> Prop} {T : Tab} {α : Type} {E : Flat α}
theorem at_scope{c:Code}(h:At β n Γ H F (c.wp P (Exit.noGoto Q))):At β n Γ H F ((Code.scope c).wp P Q):=λa w S f s k=>wp_scope_straight (h a w S f s k)
theorem at_label{l:Nat}(h:At β n Γ H F (Q .normal)):At β n Γ H F ((Code.label l).wp P Q):=λa w S f s k=>wp_label (h a w S f s k)
theorem n_scope(h:At β n Γ H F (Q .normal)):At β n Γ H F (Exit.noGoto Q .normal):=h
theorem r_scope(h:At β n Γ H F (Q .ret)):At β n Γ H F (Exit.noGoto Q .ret):=h
theorem x_scope{i:Nat}(h:At β n Γ H F (Q (.exit i))):At β n Γ H F (Exit.noGoto Q (.exit i)):=h
theorem bTc{o:Oper}{f:FuncId}{x:Operand}{first cap:Array Value}{ars:Array Operand}{ts:Array TypeId}{vs:List Value}{a:Act}(hcf: ∀(args:Array Value) (w:World),(callFunc f args).run P w= .ok (.enter f args) w)(ho:o.op= .call ⟨.value x,ars,ts⟩)(fi:Fits n Γ a)
  (hx:Γ.ev x=some (.func (.func f) first cap)) (hv:Γ.evs ars.toList=some vs) (w:World):(execOp a.eval o).run P w= .ok (.enter f (first++vs.toArray++cap)) w:=by
 have b:ars.map a.eval=vs.toArray:=by
  apply E2
  simpa using fi.evs hv
 unfold execOp;simp only[ho,resolve,fi.ev hx,Deferred.ofValue,J0,J1,J6,invoke];simp[b,hcf]
theorem nF{ι:Type}{ops:Array Oper}{rest:List Oper}{o:Oper}{d:Nat}{f:FuncId}{x:Operand}{first cap:Array Value}{ars:Array Operand}{ts:Array TypeId}{vs all:List Value}{Hin H2:List bD}{Pre:List bC}{val:ι->Value}{Hout:ι->List bD}{post:ι->List bC}
  (hcf: ∀(args:Array Value) (w:World),(callFunc f args).run P w= .ok (.enter f args) w) (hs:cJ P f all Hin Pre val Hout post) (hw:want ops Γ o=some true) (ho:o.op= .call ⟨.value x,ars,ts⟩) (hx:Γ.ev x=some (.func (.func f) first cap)) (hd:o.dst=some d) (hn:C2 d n=true)
  (hv:Γ.evs ars.toList=some vs) (hall:first.toList++vs++cap.toList=all) (hH:Split H Hin H2) (hF:bA F Pre) (k: ∀x,At β n ((d,val x)::Γ) (Hout x++H2) (post x++F) (wpList P ops Q rest)):At β n Γ H F (wpList P ops Q (o::rest)):=
 gR hw λa w S f s c=>by
  unfold L2;rw[bTc hcf ho f hx hv w,L5]
  have e:first++vs.toArray++cap=all.toArray:=by rw[<-hall];apply E2;simp
  rw[e];have b:=s.perm hH.perm;refine(hs S w b.enter (hF.all S w c)).mono ?_;rintro e w' ⟨x,i,rfl,s',g⟩;show wpList P ops Q rest (a.put o.dst (val x)) w';rw[hd];exact k x _ _ _ (f.put m8 _) (b.leave s') ((All.mono (λ_ h=> .inr h) (λ_ _=>rfl) g).append (All.leave b s' c))
def resVal(a:Act):ResultVar->Sem Value
 |.tmp t=>pure (a.tmps.getD t undef)
 |.cell ad t=>do loadVar t (<-asAddr (a.tmps.getD ad undef))
def RV (P:Program)(β:dY)(n:Nat)(Γ:Env)(H:List bD)(F:List bC)(r:ResultVar)(v:Value):Prop:= ∀a w S,Fits n Γ a->St β H S w->All F S w->(resVal a r).run P w= .ok v w
theorem rv_tmp{t:Nat}{v:Value}(h:Γ.get t=some v):RV P β n Γ H F (.tmp t) v:=λa w S f _ _=>by have:=f.get t v h;simp[resVal,E1,this]
theorem rR(hT:fC P T){t ty b q:Nat}{i:TI}{cs l:List Value}(hk:lT β H F b q cs)(h:Γ.get t=some (.pointer (some ⟨b,q,none⟩)))(ht:T.get ty=some i)(ha:aggD i.desc=true)(hv:cut cs 0 i.size=some l):RV P β n Γ H F (.cell t ty) (.agg l.toArray):=λa w S f s k=>by have:=f.get t _ h;obtain⟨h1,h2,h3⟩:=zG hv;have hl:=run_loadCells_list (P:=P) w ⟨b,q,none⟩ l (λj u c=>by rw[Addr.add_mid];exact hk w S s k j u (by simpa using h3 j u c));rw[h2]at hl;unfold resVal;simp only[E1,this,T1,asAddr,J0,J1,J6,loadVar,hT.agg ht,ha,if_true,hT.size ht,hl]
theorem rv_cell1(hT:fC P T){t ty b q:Nat}{i:TI}{cs:List Value}{v:Value}(hk:lT β H F b q cs)(h:Γ.get t=some (.pointer (some ⟨b,q,none⟩)))(ht:T.get ty=some i)(ha:aggD i.desc=false)(hv:cs[0]?=some v):RV P β n Γ H F (.cell t ty) v:=λa w S f s k=>by have:=f.get t _ h;have c:=hk w S s k 0 v hv;rw[C5]at c;unfold resVal;simp only[E1,this,T1,asAddr,J0,J1,J6,loadVar,hT.agg ht,ha,L8,if_false,run_load,c]
theorem oX(fn:Func)(a:Act):results fn a.tmps=(do let vs<-fn.results.mapM (resVal a);pure (if h:vs.size=1 then vs[0]else .tuple vs)):=by
 have e:(λx:ResultVar=>(match x with|.tmp t=>pure (a.tmps.getD t undef)|.cell ad t=>do loadVar t (<-asAddr (a.tmps.getD ad undef)):Sem Value))=resVal a:=by
  funext x
  cases x<;>rfl
 unfold results;rw[<-e];rfl
section
variable {ι : Type} {fn : Func} {val : ι -> Value} {Hout : ι -> List bD} {post : ι -> List bC} {r1 r2 r3 : ResultVar} {v1 v2 v3 : Value}
theorem dE(x:ι)(hr:fn.results= #[])(hH:Sel H (Hout x))(hF:bA F (post x))(he: .tuple #[]=val x):At β n Γ H F (bodyPost P fn (bKw β val Hout post) .normal):=λa w S f s k=>by refine⟨f.defers,.tuple #[],?_,x,S,by rw[he],s.sel hH,hF.all S w k⟩;rw[oX,hr];simp
theorem mU(x:ι)(hr:fn.results= #[r1])(h1:RV P β n Γ H F r1 v1)(hH:Sel H (Hout x))(hF:bA F (post x))(he:v1=val x):At β n Γ H F (bodyPost P fn (bKw β val Hout post) .ret):=λa w S f s k=>by refine⟨f.defers,v1,?_,x,S,by rw[he],s.sel hH,hF.all S w k⟩;rw[oX,hr];simp[h1 a w S f s k]
theorem lK(x:ι)(hr:fn.results= #[r1,r2])(h1:RV P β n Γ H F r1 v1)(h2:RV P β n Γ H F r2 v2)(hH:Sel H (Hout x))(hF:bA F (post x))(he: .tuple #[v1,v2]=val x):At β n Γ H F (bodyPost P fn (bKw β val Hout post) .ret):=λa w S f s k=>by refine⟨f.defers,.tuple #[v1,v2],?_,x,S,by rw[he],s.sel hH,hF.all S w k⟩;rw[oX,hr];simp[h1 a w S f s k,h2 a w S f s k]
theorem at_res3(x:ι)(hr:fn.results= #[r1,r2,r3])(h1:RV P β n Γ H F r1 v1)(h2:RV P β n Γ H F r2 v2)(h3:RV P β n Γ H F r3 v3)(hH:Sel H (Hout x))(hF:bA F (post x))(he: .tuple #[v1,v2,v3]=val x):At β n Γ H F (bodyPost P fn (bKw β val Hout post) .ret):=λa w S f s k=>by refine⟨f.defers,.tuple #[v1,v2,v3],?_,x,S,by rw[he],s.sel hH,hF.all S w k⟩;rw[oX,hr];simp[h1 a w S f s k,h2 a w S f s k,h3 a w S f s k]
end
end
end
section
namespace X
open Go.RowKit
def CallR (P:Program)(f:FuncId)(args:Array Value)(w:World)(R:Value->World->Prop):Prop:=
 (∃v w',(callFunc f args).run P w= .ok (.value v) w'/\R v w')\/((callFunc f args).run P w= .ok (.enter f args) w/\Calls P f args w λe w'=> ∃v,e= .returned v/\R v w')
def exitOf:Ex->Exit
 |.nm=> .normal
 |.ex id=> .exit id
 |.rt=> .ret
section
variable [Ctx]
def vL (f:FuncId)(h:Orc):Prop:= ∀args s v s',h args s=some (v,s')-> ∀α w,Sim α s w->(∀x∈args,x.Sc s.n s.c)->CallR Ctx.P f (args.map (V.inst α)).toArray w λu w'=> ∃α',u=v.inst α'/\Stp α s w α' s' w'
class Good:Prop extends Meths where
 mixed:Ctx.P.follows .mixedOrders=true
 gl: ∀g k,Ctx.gl g=some k->k<Ctx.n0
 valid: ∀f,Ctx.known f=true-> ∀fn c,Ctx.P.funcs[f]?=some fn->fn.body=some c->nK f c=true
 orc: ∀f h,Ctx.orc f=some h->vL f h
def Post (α:As)(s:St)(w:World)(N:Nat)(x:Ex)(e':E)(s':St)(ex:Exit)(a':Act)(w':World):Prop:=ex=exitOf x/\ ∃α',Stp α s w α' s' w'/\EOk α' s' N e' a'
def uT (rec:Rec):Prop:= ∀f N c e s x e' s',nK f c=true->rec f N c e s=some (x,e',s')-> ∀α w a,Sim α s w->EOk α s N e a->c.wp Ctx.P (Post α s w N x e' s') a w
section
variable {α α' : As} {s s' : St} {w w' : World} {N : Nat} {e e' : E} {a a' : Act} {rec : Rec}
theorem EOk.step(he:EOk α s N e a)(h:Stp α s w α' s' w'):EOk α' s' N e a:=⟨he.defers,he.size,λi v b=>by
 obtain⟨h1,h2⟩:=he.get i v b
 exact⟨h1.mono h.n h.c,by rw[<-h1.ext h.same];exact h2⟩⟩
omit [Ctx]in
theorem uB(he:EOk α s N e a){d:Option Tmp}{v:V}(h:putX N d v s e=some (e',s')):s'=s/\EOk α s N e' (a.put d (v.inst α)):=by
 cases d with
 |none=>
  have h:some (e,s)=some (e',s'):=h;cases h;exact⟨rfl,he⟩
 |some d=>
  obtain⟨h1,h2⟩:=bQ (show gd _ _=some (e',s')from h);cases h2;rw[L9]at h1;have hd:d<N:=by simpa[D7]using h1.1
  refine⟨rfl,he.defers,by simpa[Act.put]using he.size,λi u c=>?_⟩;have hlt:d<a.tmps.size:=B2 hd he.size
  rcases T.get_set_fuel _ _ _ _ _ _ c with ⟨rfl,f⟩|⟨b,c⟩
  .cases f;exact⟨V.Sc.of h1.2,by simp[Act.put,hlt]⟩
  .obtain⟨h3,h4⟩:=he.get i u c;exact⟨h3,by simp[Act.put,Ne.symm b,h4]⟩
omit [Ctx]in
theorem bEn(he:EOk α s N e a){ops:Array Oper}{o:Oper}{t:Bool}(h:bCb ops o e=some t):I3 o (yielded ops a.tmps)=t:=by
 unfold bCb at h;unfold I3
 cases hg:o.guard with
 |none=>
  rw[hg]at h;cases h;rfl
 |some q=>
  rw[hg]at h;obtain⟨j,c⟩:=q;obtain⟨p,f,h1⟩:=bB (show wantG ops j c e=some t from h);obtain⟨d,hd,h2⟩:=bB h1;obtain⟨v,g,h3⟩:=bB h2;rw[jM]at f;have f:ops[j]?=some p:=by simpa using f
  have hr:=(he.get d v g).2
  cases v with
  |b x=>
   cases h3;simp[yielded,f,hd,hr,V.inst]
  |t vs=>
   cases h3;simp[yielded,f,hd,hr,V.inst]
  |_=>cases h3
omit [Ctx]in
theorem args_ok{l:List V}(hl: ∀v∈l,v.Sc s.n s.c): ∀(n:Nat) (e:E) (L:List Value),(∀i v,e.get i=some v->v.Sc s.n s.c/\i<n/\L[i]?=some (v.inst α))->(∀i,n<=i->i<n+l.length->L[i]?=(l[i-n]?).map (V.inst α))->
  ∀i v,(argsE n l e).get i=some v->v.Sc s.n s.c/\i<n+l.length/\L[i]?=some (v.inst α):=by
 induction l with
 |nil=>
  intro n e L he _ i v h;have:=he i v h
  simpa using this
 |cons u l ih=>
  intro n e L he b i v h;have h:(argsE (n+1) l (e.set (some u) fuelT n)).get i=some v:=h
  have:=ih (λx hx=>hl x (F3 _ hx)) (n+1) (e.set (some u) fuelT n) L (λj x a=>by
   rcases T.get_set_fuel _ _ _ _ _ _ a with ⟨rfl,d⟩|⟨_,a⟩
   .cases d;refine⟨hl _ (F9 ..),R9 _,?_⟩;have:=b j (B8 _) m9
    simpa using this
   .obtain⟨h1,h2,h3⟩:=he j x a
    exact⟨h1,j5,h3⟩) (λj h1 h2=>by
   have:=b j j5 o6;rw[this];rw[show j-n=(j-(n+1))+1 from by omega]
   rfl) i v h
  refine⟨this.1,by simp;omega,this.2.2⟩
omit [Ctx]in
theorem enter_ok{l:List V}(hl: ∀v∈l,v.Sc s.n s.c)(hN:l.length<=N):EOk α s N (argsE 0 l .lf) {tmps:=(l.map (V.inst α)).toArray++E5 (N-(l.map (V.inst α)).toArray.size) undef,defers:=[]}:=by
 refine⟨rfl,by simp;omega,λi v a=>?_⟩;obtain⟨h1,h2,h3⟩:=args_ok (α:=α) hl 0 .lf (l.map (V.inst α)) (λi v h=>by cases h) (λi _ _=>by simp) i v a;refine⟨h1,?_⟩;rw[D1]at h2;rw[Array.getElem?_append,if_pos (by simpa using h2)]
 simpa using h3
theorem res_run(hs:Sim α s w)(he:EOk α s N e a){fn:Func}{l:List V}(h:bKv (resV e s) fn.results.toList=some l):(results fn a.tmps).run Ctx.P w= .ok ((oneRes l).inst α) w:=by
 have one: ∀(r:ResultVar) (v:V),resV e s r=some v->(resVal a r).run Ctx.P w= .ok (v.inst α) w:=λr v hr=>by
  cases r with
  |tmp t=>
   have:=(he.get t v hr).2;simp[resVal,E1,this]
  |cell t q=>
   obtain⟨u,hu,h1⟩:=bB (show ob (e.get t) _=some v from hr);obtain⟨k,o,rfl,h2⟩:=qQ h1;have:=(he.get t _ hu).2;simp[resVal,E1,this,V.inst,asAddr,bOg hs h2]
 have all: ∀(b:List ResultVar) (l:List V),bKv (resV e s) b=some l->(b.mapM (resVal a)).run Ctx.P w= .ok (l.map (V.inst α)) w:=by
  intro b
  induction b with
  |nil=>intro l h;cases h;rfl
  |cons r b ih=>
   intro l h;obtain⟨v,d,h1⟩:=bB h;obtain⟨c,hl,h2⟩:=bB h1;cases h2;simp[List.mapM_cons,one r v d,ih c hl]
 rw[oX,J0,Array.mapM_eq_mapM_toList,Sem.run_map,all _ _ h];simp only[J6,J1]
 match l with
 |[]=>simp[oneRes,inst_t]
 |[v]=>simp[oneRes]
 |v::u::l=>simp[oneRes,inst_t]
variable [Good]
theorem bMf(hrec:uT rec)(hs:Sim α s w){f:FuncId}{args:List V}{v:V}(h:callF f rec args s=some (v,s'))(hargs: ∀x∈args,x.Sc s.n s.c):
  (callFunc f (args.map (V.inst α)).toArray).run Ctx.P w= .ok (.enter f (args.map (V.inst α)).toArray) w/\Calls Ctx.P f (args.map (V.inst α)).toArray w λe w'=> ∃u,e= .returned u/\ ∃α',u=v.inst α'/\Stp α s w α' s' w':=by
 obtain⟨k,h1⟩:=bQ h;obtain⟨fn,g,h2⟩:=bB h1;obtain⟨c,hb,h3⟩:=bB h2;obtain⟨h4,r⟩:=bQ h3;obtain⟨⟨x,t,i⟩,hr,q⟩:=bB r;obtain⟨p,o⟩:=bQ q;obtain⟨l,hl,m⟩:=bB o;cases m;simp only[L9,T3]at h4;refine⟨bJ g h4.2.2 (by rw[hb];rfl) _ _,?_⟩;refine calls_of_wp g hb (T8 (λex a' w' j=>?_) (hrec f fn.ntmps c _ s x t i (Good.valid f k fn c g hb) hr α w _ hs (enter_ok hargs (gB h4.1))));obtain⟨rfl,α',b,d⟩:=j;have a:=res_run b.zc d hl
 cases x with
 |nm=>exact⟨d.defers,_,a,_,rfl,α',rfl,b⟩
 |ex id=>cases p
 |rt=>exact⟨d.defers,_,a,_,rfl,α',rfl,b⟩
theorem call_ok(hrec:uT rec)(hs:Sim α s w){f:FuncId}{args:List V}{v:V}(h:callX f rec args s=some (v,s'))(hargs: ∀x∈args,x.Sc s.n s.c):
  CallR Ctx.P f (args.map (V.inst α)).toArray w λu w'=> ∃α',u=v.inst α'/\Stp α s w α' s' w':=by
 unfold callX at h;rw[sY]at h
 cases ho:Ctx.orc f with
 |some g=>
  rw[ho]at h;exact Good.orc f g ho args s v s' h α w hs hargs
 |none=>
  rw[ho]at h;exact .inr (bMf hrec hs h hargs)
theorem zC(hrec:uT rec)(hs:Sim α s w)(he:EOk α s N e a){ops:Array Oper}{o:Oper}(h:bBw rec N ops o e s=some (e',s')){K:Act->World->Prop}{Q:Exit->Act->World->Prop}
  (k: ∀α' a' w',Stp α s w α' s' w'->EOk α' s' N e' a'->K a' w'):if I3 o (yielded ops a.tmps)then o.wp Ctx.P a w K Q else K (a.put o.dst undef) w:=by
 obtain⟨t,l,h1⟩:=bB h;rw[bEn he l];rw[cP]at h1
 cases t with
 |false=>
  simp only[L8,if_false]at h1⊢;obtain⟨rfl,h2⟩:=uB he h1;rw[yB]at h2;exact k α _ w (Stp.refl hs) h2
 |true=>
  simp only[if_true]at h1⊢;obtain⟨r,hr,h2⟩:=bB h1;have b:=op_run hs he hr;unfold L2
  cases r with
  |v v s1=>
   obtain⟨α',w',h3,h4⟩:=b;rw[h3,L3];obtain⟨rfl,c⟩:=uB (he.step h4) (show putX N o.dst v s1 e=some (e',s')from h2);exact k α' _ w' h4 c
  |sk s1=>
   obtain⟨α',w',h3,h4⟩:=b;rw[h3,L4];obtain⟨rfl,c⟩:=uB (he.step h4) (show putX N o.dst undefV s1 e=some (e',s')from h2);rw[yB]at c;exact k α' _ w' h4 c
  |call f args s1=>
   obtain⟨rfl,h3,i⟩:=b;obtain⟨⟨v,j⟩,m,h4⟩:=bB (show ob (callX f rec args s1) _=some (e',s')from h2)
   rcases call_ok hrec hs m i with ⟨u,w',c,α',rfl,g⟩|⟨c,g⟩
   .rw[h3,c,L3];obtain⟨rfl,d⟩:=uB (he.step g) (show putX N o.dst v j e=some (e',s')from h4);exact k α' _ w' g d
   .rw[h3,c,L5];refine g.mono ?_;rintro ex w' ⟨u,rfl,α',rfl,d⟩;obtain⟨rfl,n⟩:=uB (he.step d) (show putX N o.dst v j e=some (e',s')from h4);exact k α' _ w' d n
theorem ops_wp(hrec:uT rec){ops:Array Oper}{Q:Exit->Act->World->Prop}: ∀(l:List Oper) (e:E) (s:St) (α:As) (w:World) (a:Act),Sim α s w->EOk α s N e a->opsX rec N ops l e s=some (e',s')->
  (∀α' a' w',Stp α s w α' s' w'->EOk α' s' N e' a'->Q .normal a' w')->wpList Ctx.P ops Q l a w
 |[],e,s,α,w,a,hs,he,h,k=>by
  have h:some (e,s)=some (e',s'):=h;cases h;exact k α a w (Stp.refl hs) he
 |o::l,e,s,α,w,a,hs,he,h,k=>by
  obtain⟨⟨i,d⟩,h1,h2⟩:=bB (show ob (bBw rec N ops o e s) _=some (e',s')from h);have:=zC hrec hs he h1 (K:=wpList Ctx.P ops Q l) (Q:=Q) (λα' a' w' h3 h4=>ops_wp hrec l i d α' w' a' h3.zc h4 h2 λα'' c w'' g f=>k α'' c w'' (h3.trans g) f);unfold wpList;split
  .rename_i b;rw[b]at this;exact .inl this
  .rename_i b;simp only[b]at this;exact this
end
end
end X
end
section
namespace X
open Go.RowKit
theorem rP{α:Type}{p:α->α->Bool}(hp: ∀x y,p x y=true->x=y): ∀{l m:List α},wS p l m=true->l=m
 |[],[],_=>rfl
 |[],_::_,h=>by cases h
 |_::_,[],h=>by cases h
 |x::l,y::m,h=>by simp only[wS,L9]at h;rw[hp x y h.1,rP hp h.2]
theorem lF{a b:Nat}(h:B1 a b=true):a=b:=B5 h
theorem cap_eq{a b:Cap}(h:capEq a b=true):a=b:=by
 cases a<;>cases b<;>simp only[capEq,L9,D6]at h<;>first|cases h|skip
 .rfl
 .rename_i h1 h2;rw[h1,h2]
theorem rQ: ∀(d:Nat) (u v:V),beqD d u v=true->u=v:=by
 intro d
 induction d with
 |zero=>intro u v h;cases h
 |succ d ih=>
  intro u v h;cases u<;>cases v<;>try (cases h;done)
  case b.b x y=>
   have h:(x==y)=true:=h;rw[beq_iff_eq.1 h]
  case i.i k x k' y=>
   have h:(sameKind k k'&&ieq x y)=true:=h;rw[L9,bIt]at h;rw[lU h.1,beq_iff_eq.1 h.2]
  case s.s x y=>rw[rP (λ_ _=>lF) (show wS B1 x y=true from h)]
  case p0.p0=>rfl
  case p.p k o k' o'=>
   have h:(B1 k k'&&B1 o o')=true:=h;rw[L9]at h;rw[lF h.1,lF h.2]
  case l0.l0=>rfl
  case l.l k o n c k' o' n' c'=>
   have h:(B1 k k'&&(B1 o o'&&(B1 n n'&&capEq c c')))=true:=h;simp only[L9]at h;rw[lF h.1,lF h.2.1,lF h.2.2.1,cap_eq h.2.2.2]
  case z.z k o n c k' o' n' c'=>
   have h:(B1 k k'&&(B1 o o'&&(B1 n n'&&B1 c c')))=true:=h;simp only[L9]at h;rw[lF h.1,lF h.2.1,lF h.2.2.1,lF h.2.2.2]
  case y.y c c'=>rw[lF (show B1 c c'=true from h)]
  case m0.m0=>rfl
  case m.m k k'=>rw[lF (show B1 k k'=true from h)]
  case f.f fn x y fn' x' y'=>
   cases fn with
   |func f=>
    cases fn' with
    |func f'=>
     have h:(B1 f f'&&(wS (beqD d) x x'&&wS (beqD d) y y'))=true:=h;simp only[L9]at h;rw[lF h.1,rP ih h.2.1,rP ih h.2.2]
    |_=>cases h
   |_=>cases fn'<;>cases h
  case f0.f0=>rfl
  case e0.e0=>rfl
  case e.e t u t' u'=>
   have h:(B1 t t'&&beqD d u u')=true:=h;rw[L9]at h;rw[lF h.1,ih _ _ h.2]
  case g.g x y=>rw[rP ih (show wS (beqD d) x y=true from h)]
  case t.t x y=>rw[rP ih (show wS (beqD d) x y=true from h)]
  all_goals (cases ‹Fn›<;>cases h)
theorem oeq_eq{a b:Option Nat}(h:oeq a b=true):a=b:=by cases a<;>cases b<;>first|rfl|cases h|rw[lF (show B1 _ _=true from h)]
theorem blk_eq{x y:Blk}(h:x.beq y=true):x=y:=by
 cases x<;>cases y<;>try cases h
 case cells.cells cs t x ro cs' t' x' ro'=>
  have h:(B1 t t'&&(oeq x x'&&((ro==ro')&&wS (beqD 4) cs cs')))=true:=h;simp only[L9]at h;rw[lF h.1,oeq_eq h.2.1,beq_iff_eq.1 h.2.2.1,rP (rQ 4) h.2.2.2]
 case map.map es c es' c'=>
  have h:(B1 c c'&&wS entEq es es')=true:=h;rw[L9]at h
  rw[lF h.1,rP (λx y h=>by
   simp only[entEq,L9]at h;obtain⟨f,e,x3⟩:=x;obtain⟨d,b,a⟩:=y;simp only at h
   rw[rQ 4 _ _ h.1,rQ 4 _ _ h.2.1,lF h.2.2]) h.2]
 case win.win cs cs'=>rw[rP (rQ 4) (show wS (beqD 4) cs cs'=true from h)]
 case know.know n n'=>rw[lF (show B1 n n'=true from h)]
section
variable [Ctx] {α α' α0 : As} {s s' : St} {w w' : World} {N : Nat} {e e' : E} {a a' : Act} {rec : Rec} {h0 : T Blk} {D : List Nat}
theorem Stp.of_grow(hs:Sim α s w)(hb:Below w.heap.size w w'):Stp α s w α s w':=
 ⟨nM.refl _ _ _,B8 _,B8 _,hs.grow hb,⟨hb.os,hb.tape,hb.output,hb.size,λb hlt _=>hb.block b hlt⟩,λk x a=> .inl ⟨k,x,a,id,rfl⟩⟩
omit [Ctx]in
theorem tY(s:St): ∀(D:List Nat) (k:Nat) (x:Blk),(restX s D).get k=some x->k∈D/\s.h.get k=some x
 |[],_,_,h=>by cases h
 |d::D,k,x,h=>by
  have h:((restX s D).set (s.h.get d) fuelT d).get k=some x:=h
  rcases T.get_set_fuel _ _ _ _ _ _ h with ⟨rfl,a⟩|⟨_,h⟩
  .exact⟨F9 ..,a⟩
  .obtain⟨h1,h2⟩:=tY s D k x h;exact⟨F3 _ h1,h2⟩
def Cls (α0:As)(h0:T Blk)(n0 c0:Nat)(w:World):Prop:=Sim α0 {h:=h0,n:=n0,c:=c0} w
theorem Cls.up{n0 c0:Nat}(h:Cls α0 h0 n0 c0 w)(hs:nM n0 c0 α0 α)(hn:n0<=s.n)(hc:c0<=s.c):Sim α {s with h:=h0} w where
 gl:=λg k a=>by obtain⟨h1,h2⟩:=h.gl g k a;exact⟨B2 h1 hn,by rw[<-hs.blk k h1];exact h2⟩
 lt:=λk x a=>B2 (h.lt k x a) hn
 sc:=λk x a=>(h.sc k x a).mono hn hc
 is:=λk x a=>by rw[<-hs.blk k (h.lt k x a)];exact(h.is k x a).ext (h.sc k x a) hs rfl
 ne:=λk d x f a b e=>h.ne k d x f a b (by rw[hs.blk k (h.lt k x a),hs.blk d (h.lt d f b)];exact e)
theorem Cls.keep{n0 c0:Nat}(h:Cls α0 h0 n0 c0 w)(hD: ∀k x,h0.get k=some x->k∈D)(hs:nM n0 c0 α0 α)(hsim:Sim α s w')(hk:yM h0 D s=true):Cls α0 h0 n0 c0 w' where
 gl:=h.gl
 lt:=h.lt
 sc:=h.sc
 is:=λk x hx=>by
  unfold yM at hk;rw[qD,G0]at hk;have h1:=hk k (hD k x hx);rw[hx]at h1;have h1:oc (s.h.get k) false (λb=>x.beq b)=true:=h1;rw[sY]at h1
  cases c:s.h.get k with
  |none=>rw[c]at h1;cases h1
  |some y=>
   rw[c]at h1;have:=blk_eq h1;subst this;have h2:=hsim.is k x c;rw[<-hs.blk k (h.lt k x hx)]at h2;exact h2.ext (h.sc k x hx) ⟨λi a=>(hs.blk i a).symm,λi a=>(hs.room i a).symm,λi a=>(hs.place i a).symm⟩ rfl
 ne:=h.ne
theorem Sim.rest(hs:Sim α s w)(D:List Nat):Cls α (restX s D) s.n s.c w where
 gl:=hs.gl
 lt:=λk x a=>hs.lt k x (tY s D k x a).2
 sc:=λk x a=>hs.sc k x (tY s D k x a).2
 is:=λk x a=>hs.is k x (tY s D k x a).2
 ne:=λk e x d a b=>hs.ne k e x d (tY s D k x a).2 (tY s D e d b).2
omit [Ctx]in
theorem EOk.at_(he:EOk α s N e a):EOk α {s with h:=h0} N e a:=⟨he.defers,he.size,he.get⟩
theorem quiet_some{o:Op}{f:FuncId}{args:List Operand}(h:bLt o=some (f,args)): ∃xs ts,o= .call ⟨.value (.func f),xs,ts⟩/\args=xs.toList:=by
 unfold bLt at h;split at h
 .rename_i g xs ts;obtain⟨_,h1⟩:=bQ h;cases h1;exact⟨xs,ts,rfl,rfl⟩
 .cases h
variable [Good]
theorem look_ok(hrec:uT rec){C:World->Prop}(hC: ∀w,C w->Sim α {s with h:=h0} w)(he:EOk α s N e a){o:Oper}{v:V}(h:lookX rec o.op {s with h:=h0} e=some v):looksAt Ctx.P o a C (v.inst α):=λw G=>by
 have p:=hC w G;have l:EOk α {s with h:=h0} N e a:=he.at_;unfold lookX at h;rw[sY]at h
 cases hq:bLt o.op with
 |none=>
  rw[hq]at h;rw[pure_run p l h];exact⟨rfl,rfl⟩
 |some q=>
  rw[hq]at h;obtain⟨f,D⟩:=q;obtain⟨m,ts,ho,rfl⟩:=quiet_some hq;obtain⟨A,n,h1⟩:=bB (show ob (evsX m.toList e) _=some v from h);obtain⟨h2,h3⟩:=bQ h1;obtain⟨⟨u,O⟩,h4,L⟩:=bB h3;obtain⟨K,J⟩:=bQ L;cases J;rw[qD,G0]at h2
  have i:oCallV (.func f) m.toList {s with h:=h0} e=some (.call f ([]++(A++[])) {s with h:=h0}):=by show ob (evsX m.toList e) _=_;rw[n];rfl
  obtain⟨g,E,I,B,_⟩:=bSr (ts:=ts) (ty:=o.type) p l i;cases I;simp only[P9,R2]at B
  have j:(execOp a.eval o).run Ctx.P w=(callFunc f (A.map (V.inst α)).toArray).run Ctx.P w:=by unfold execOp;simp only[ho];exact B
  have z:Sim α emptyS w:=⟨λg k c=>⟨Good.gl g k c,(p.gl g k c).2⟩,λk x c=>(by cases c),λk x c=>(by cases c),λk x c=>(by cases c),λk Q x M c=>(by cases c)⟩
  obtain⟨t,r⟩:=bMf hrec z h4 (λx hx=>(V.Sc.of (h2 x hx)).mono (S6 _) (S6 _));rw[j,t];refine⟨rfl,r.mono ?_⟩;rintro ex w' ⟨y,rfl,α',rfl,d⟩;refine⟨?_,d.fr.os,d.fr.tape,d.fr.output,d.fr.size,λb hb=>d.fr.block b hb λk x c=>(by cases c)⟩;rw[(V.Sc.of K).ext (⟨λk c=>absurd c (S7 _),λk c=>absurd c (S7 _),λk c=>absurd c (S7 _)⟩:nM 0 0 α α')]
omit [Ctx]in
theorem rM{md:Region.Mode}{ops:Array Oper}{ls:List Nat}: ∀{od:List (Bool×Nat)} {p:Option Nat} {listed:Array Bool},jT md ops ls od p listed=true->(∀k,p=some k->k<4096)->iN ops od=true
 |[],_,_,_,_=>rfl
 |(true,k)::r,p,_,h,hp=>by
  simp only[jT,L9]at h;exact rM (od:=r) h.2.2.2 hp
 |(false,k)::r,p,listed,h,hp=>by
  by_cases hpk:p=some k
  .have a:=hp k hpk;simp only[jT,hpk,if_true]at h;simp only[iN,a,if_true];exact rM h λk e=>by cases e
  .by_cases a:k<4096
   .simp only[jT,hpk,a,if_false,if_true,L9]at h;simp only[iN,a,if_true];exact rM h.2 hp
   .by_cases hq:zE<=k
    .simp only[jT,hpk,a,hq,if_false,if_true,L9]at h;simp only[iN,a,hq,if_false,if_true,L9];exact⟨⟨(bKc h.1).1,h.2.1⟩,rM h.2.2.2.1 λk e=>by cases e⟩
    .simp only[jT,hpk,a,hq,if_false,L9]at h;simp only[iN,a,hq,if_false,L9];exact⟨(bEc h.1).1,rM h.2 hp⟩
omit [Good]in
theorem Stp.adopt{α1:As}{s1:St}{w2:World}{el:TypeId}{cs:List V}(hs:Sim α s w)(hc: ∀v∈cs,v.Sc s.n s.c/\v.one=true)(h:Stp α s (w.alloc (.cells (cs.map (V.inst α)).toArray el)) α1 s1 w2):
  Stp α s w (α1.new s1.n w.heap.size s1.c 0) (s1.new (.cells cs el none false)) w2:=by
 have q:(w.alloc (.cells (cs.map (V.inst α)).toArray el)).heap.size=w.heap.size+1:=by show(w.heap.push _).size=_;exact Array.size_push ..
 have hb0:(α1.new s1.n w.heap.size s1.c 0).blk s1.n=w.heap.size:=by simp[As.new]
 have d: ∀k,k<s1.n->(α1.new s1.n w.heap.size s1.c 0).blk k=α1.blk k:=λk a=>by simp[As.new];omega
 have f:nM s.n s.c α (α1.new s1.n w.heap.size s1.c 0):=h.same.trans (oF _ _ _ _ _) h.n h.c
 have j: ∀k x,s1.h.get k=some x->α1.blk k≠w.heap.size:=λk x a e=>by
  rcases h.new k x a with ⟨o,m,h1,_,h3⟩|h1
  .have:=(hs.is o m h1).lt;omega
  .omega
 refine⟨f,C0 h.n (R8 _),h.c,⟨λg k a=>?_,λk x a=>?_,λk x a=>?_,λk x a=>?_,λk u x t a p e=>?_⟩,⟨h.fr.os,h.fr.tape,h.fr.output,by have:=h.fr.size;omega,λb hb hn=>?_⟩,λk x a=>?_⟩
 .obtain⟨h1,h2⟩:=h.zc.gl g k a;exact⟨S8 h1,by rw[d k h1];exact h2⟩
 .rcases gW a with ⟨rfl,_⟩|⟨_,a⟩
  .exact R9 _
  .exact S8 (h.zc.lt k x a)
 .rcases gW a with ⟨rfl,e⟩|⟨_,a⟩
  .injection e with e
   subst e;exact⟨λv l=>⟨(hc v l).1.mono (C0 h.n (R8 _)) h.c,(hc v l).2⟩,λk a=>by cases a⟩
  .exact(h.zc.sc k x a).mono (R8 _) (B8 _)
 .rcases gW a with ⟨rfl,e⟩|⟨_,a⟩
  .injection e with e
   subst e;rw[hb0];have r:cs.map (V.inst α)=cs.map (V.inst (α1.new s1.n w.heap.size s1.c 0)):=H7 λv l=>(hc v l).1.ext f;show w2.heap[w.heap.size]?=_;rw[h.fr.block _ j5 (λk x a _ e=>by have:=(hs.is k x a).lt;omega),heap_alloc_new,r]
  .have hlt:=h.zc.lt k x a;rw[d k hlt];exact(h.zc.is k x a).ext (h.zc.sc k x a) (oF _ _ _ _ _) rfl
 .rcases gW a with ⟨rfl,_⟩|⟨_,h1⟩<;>rcases gW p with ⟨rfl,_⟩|⟨_,i⟩
  .rfl
  .rw[hb0,d _ (h.zc.lt _ _ i)]at e;exact absurd e.symm (j _ _ i)
  .rw[hb0,d _ (h.zc.lt _ _ h1)]at e;exact absurd e (j _ _ h1)
  .rw[d _ (h.zc.lt _ _ h1),d _ (h.zc.lt _ _ i)]at e;exact h.zc.ne _ _ _ _ h1 i e
 .exact(h.fr.block b j5 hn).trans (heap_alloc_old w _ hb)
 .rcases gW a with ⟨rfl,_⟩|⟨_,a⟩
  .exact .inr (by rw[hb0];exact B8 _)
  .rcases h.new k x a with ⟨o,m,h1,h2,h3⟩|h1
   .exact .inl ⟨o,m,h1,h2,by rw[d k (h.zc.lt k x a)];exact h3⟩
   .exact .inr (by rw[d k (h.zc.lt k x a)];omega)
omit [Ctx] [Good]in
theorem same_bs{b b':TypeId×Option Nat×List V}(h:sameBs b b'=true):b=b':=by unfold sameBs at h;simp only[L9]at h;obtain⟨d,c,a⟩:=b;obtain⟨c1,c2,c3⟩:=b';have h1:d=c1:=lF h.1;have h2:c=c2:=oeq_eq h.2.1;have h3:a=c3:=rP (rQ 4) h.2.2;rw[h1,h2,h3]
theorem pair_wp(hrec:uT rec){ops:Array Oper}{n0 c0 j l:Nat}(hD: ∀k x,h0.get k=some x->k∈D)(hlate:bEs ops j l=true)(hsel:I7 ops=true)(hs:Sim α s w)(he:EOk α s N e a)(hsame:nM n0 c0 α0 α)(hn:n0<=s.n)(hc:c0<=s.c)(hC:Cls α0 h0 n0 c0 w)
  (h:pairX rec N ops D h0 j l e s=some (e',s')) {K:Act->World->Prop} (k: ∀α' a' w',Stp α s w α' s' w'->EOk α' s' N e' a'->Cls α0 h0 n0 c0 w'->K a' w'):
  fOp Ctx.P ops j (λa w=> ∀w',Below w.heap.size w w'->Cls α0 h0 n0 c0 w'/\fOp Ctx.P ops l K a w') a w/\fOp Ctx.P ops l (λa w=> ∀w',Below w.heap.size w w'->Cls α0 h0 n0 c0 w'/\fOp Ctx.P ops j K a w') a w:=by
 obtain⟨oj,ol,J,hl,t,hap,hjl⟩:=bHh hlate;obtain⟨r,z,h1⟩:=bB h;obtain⟨m,y,h2⟩:=bB h1;have z:ops[j]?=some r:=by rw[jM]at z;simpa using z
 have y:ops[l]?=some m:=by rw[jM]at y;simpa using y
 obtain rfl:r=oj:=Option.some.inj (z.symm.trans J);obtain rfl:m=ol:=Option.some.inj (y.symm.trans hl);obtain⟨b,hb,h3⟩:=bB h2;obtain⟨⟨U,p⟩,hA,h4⟩:=bB h3;obtain⟨Z,h5⟩:=bQ h4;obtain⟨b',hb',h6⟩:=bB h5;obtain⟨hbb,h7⟩:=bQ h6;obtain⟨⟨e2,s2⟩,hB,h8⟩:=bB h7;obtain⟨I,h9⟩:=bQ h8;cases h9;obtain rfl:=same_bs hbb;refine⟨λo ho=>?_,?_⟩
 .
  obtain rfl:o=r:=Option.some.inj (ho.symm.trans J);refine mB (zC hrec hs he hA λα1 a1 w1 B g2=>?_);have g:=hsame.trans B.same hn hc;have hC1:=Cls.keep hC hD g B.zc Z;intro w2 u;have R:Cls α0 h0 n0 c0 w2:=Sim.grow hC1 u;refine⟨R,λo' Y=>?_⟩;obtain rfl:o'=m:=Option.some.inj (Y.symm.trans hl);have E:=Stp.of_grow B.zc u;refine mB (zC hrec E.zc g2 hB λα2 a2 W g3 g4=>?_);exact k α2 a2 W ((B.trans E).trans g3) g4 (Cls.keep R hD (g.trans g3.same (C0 hn B.n) (C0 hc B.c)) g3.zc I)
 .
  have hgd:m.guard=none/\ ∃d,m.dst=some d:=by
   unfold lateO at t;split at t
   all_goals first
    |cases t
    |(simp only[L9,T2,Option.isSome_iff_exists]at t;exact t)
  obtain⟨hg,d,hd⟩:=hgd;obtain⟨G,M⟩:=bPj hs he hb;intro o ho;obtain rfl:o=m:=Option.some.inj (ho.symm.trans hl);apply mB
  have hw:I3 o (yielded ops a.tmps)=true:=by unfold I3;rw[hg]
  rw[hw,if_pos rfl];unfold L2;rw[G];intro w2 u;have Q:Below w.heap.size w (w.alloc (.cells (b.2.2.map (V.inst α)).toArray b.1)):=(Below.refl _ _).alloc (B8 _) _;have O:=pR Q u;refine⟨Sim.grow hC O,bUv J hap (λcs q=>I8 hsel j r cs q J) ?_⟩;intro o2 X;obtain rfl:o2=r:=Option.some.inj (X.symm.trans J);refine mB (zC hrec (hs.grow O) he hA λα1 a1 W B g2=>?_);have hfr:Stp α s (w.alloc (.cells (b.2.2.map (V.inst α)).toArray b.1)) α1 p W:=(Stp.of_grow (hs.grow Q) u).trans B;have C:=Stp.adopt hs M hfr;have hB':=hB;obtain⟨tt,f,hB1⟩:=bB hB';have f:bCb ops o U=some tt:=f;unfold bCb at f;rw[hg]at f;have f:some true=some tt:=f;cases f;obtain⟨rr,A,hB2⟩:=bB (show ob (opX o.op p U) (doneX rec N o.dst U)=some (e',s')from hB1);rw[late_op (s:=p) hb']at A;cases A;have hB3:putX N o.dst (bKl p.n b.2.1) (p.new (.cells b.2.2 b.1 none false)) U=some (e',s'):=hB2
  have he1:EOk (α1.new p.n w.heap.size p.c 0) (p.new (.cells b.2.2 b.1 none false)) N U a1:=⟨g2.defers,g2.size,λi v hi=>by
   obtain⟨q1,q2⟩:=g2.get i v hi
   exact⟨q1.mono (R8 _) (B8 _),by rw[q2,q1.ext (oF _ _ _ _ _)]⟩⟩
  obtain⟨rfl,L⟩:=uB he1 hB3
  have hv:(bKl p.n b.2.1).inst (α1.new p.n w.heap.size p.c 0)=tJ w.heap.size b.2.1:=by obtain⟨b1,b2,b3⟩:=b;cases b2<;>simp[bKl,oc,tJ,V.inst,Cap.inst,As.new]
  rw[hv]at L;exact k _ _ W C L (Cls.keep hC hD (hsame.trans C.same hn hc) C.zc I)
omit [Ctx] [Good]in
theorem bs_al{o:Op}(h:isAl o=true): ∃t,o= .alloc t:=by cases o<;>first|exact⟨_,rfl⟩|cases h
omit [Good]in
theorem late_done{ol:Oper}{αs:As}{ss:St}{ws:World}{b:TypeId×Option Nat×List V}{e1:E}{s1:St}(hss:Sim αs ss ws)(hbsc: ∀v∈b.2.2,v.Sc ss.n ss.c/\v.one=true)(hg:ol.guard=none)(hb:bsX ol.op e=some b){ops:Array Oper}
  (hst:Stp αs ss (ws.alloc (.cells (b.2.2.map (V.inst αs)).toArray b.1)) α s w) (he:EOk α s N e a) (h:bBw rec N ops ol e s=some (e1,s1)):
  ∃α',Stp αs ss ws α' s1 w/\EOk α' s1 N e1 (a.put ol.dst (tJ ws.heap.size b.2.1)):=by
 have k:=Stp.adopt hss hbsc hst;obtain⟨p,d,o⟩:=bB h;have d:bCb ops ol e=some p:=d;unfold bCb at d;rw[hg]at d;have d:some true=some p:=d;cases d;obtain⟨y,f,m⟩:=bB (show ob (opX ol.op s e) (doneX rec N ol.dst e)=some (e1,s1)from o);rw[late_op (s:=s) hb]at f;cases f;have l:putX N ol.dst (bKl s.n b.2.1) (s.new (.cells b.2.2 b.1 none false)) e=some (e1,s1):=m
 have j:EOk (α.new s.n ws.heap.size s.c 0) (s.new (.cells b.2.2 b.1 none false)) N e a:=⟨he.defers,he.size,λi v u=>by
  obtain⟨q,r⟩:=he.get i v u
  exact⟨q.mono (R8 _) (B8 _),by rw[r,q.ext (oF _ _ _ _ _)]⟩⟩
 obtain⟨rfl,g⟩:=uB j l
 have t:(bKl s.n b.2.1).inst (α.new s.n ws.heap.size s.c 0)=tJ ws.heap.size b.2.1:=by obtain⟨A,x,z⟩:=b;cases x<;>simp[bKl,oc,tJ,V.inst,Cap.inst,As.new]
 rw[t]at g;exact⟨_,k,g⟩
omit [Good]in
theorem mix_al{ops:Array Oper}{lx:Nat}{ol:Oper}: ∀{l:List (Bool×Nat)} {e:E} {s:St},iN ops l=true->zY ops lx l=true->ops[lx]?=some ol->isAl ol.op=true->ol.guard=none->lx<4096->zW rec N ops D h0 l e s=some (e',s')-> ∃b,∀e,bsX ol.op e=some b
 |[],_,_,_,d,_,_,_,_,_=>by cases d
 |(true,j)::l,e,s,hP,d,hol,hal,hg,hlx,h=>by
  obtain⟨o,_,h1⟩:=bB (show ob (nthL ops.toList j) (λo=>ob (lookL rec N ops o h0 e s) λq=>zW rec N ops D h0 l q.1 q.2)=some (e',s')from h);obtain⟨⟨k,i⟩,_,h3⟩:=bB h1;have d:((oc ops[lx]? false λol=>oc ops[j]? false λo=>ol.apart ops o)&&zY ops lx l)=true:=d;rw[L9]at d;exact mix_al (l:=l) hP d.2 hol hal hg hlx h3
 |(false,j)::l,e,s,hP,d,hol,hal,hg,hlx,h=>by
  obtain rfl:j=lx:=B5 d
  have h:sel (C2 j 4096) (ob (nthL ops.toList j) λo=>ob (bBw rec N ops o e s) λq=>gd (yM h0 D q.2) (zW rec N ops D h0 l q.1 q.2)) (sel (C7 zE j) (ob (nthL ops.toList (rG j)) λo=>ob (bBw rec N ops o e s) λq=>gd (yM h0 D q.2) (zW rec N ops D h0 l q.1 q.2))
   (ob (pairX rec N ops D h0 (Nat.mod j 4096) (Nat.pred (Nat.div j 4096)) e s) λq=>zW rec N ops D h0 l q.1 q.2))=some (e',s'):=h
  rw[cP,if_pos (by simpa[D7]using hlx)]at h;obtain⟨o,ho,h1⟩:=bB h;obtain⟨⟨k,i⟩,h2,_⟩:=bB h1;have ho:ops[j]?=some o:=by rw[jM]at ho;simpa using ho
  obtain rfl:o=ol:=Option.some.inj (ho.symm.trans hol);obtain⟨t,u⟩:=bs_al hal;obtain⟨g,a,f⟩:=bB h2;have a:bCb ops o e=some g:=a;unfold bCb at a;rw[hg]at a;have a:some true=some g:=a;cases a;obtain⟨m,c,_⟩:=bB (show ob (opX o.op s e) (doneX rec N o.dst e)=some (k,i)from f);rw[u]at c⊢;obtain⟨z,r,x⟩:=bB (show ob (zeroX t) (λz=>gd (allL V.one z.cells) (some (.v (.p s.n 0) (s.new (.cells z.cells t none false)))))=some m from c);obtain⟨w,_⟩:=bQ x;refine⟨(t,none,z.cells),λe=>?_⟩;show ob (zeroX t) (λz=>gd (allL V.one z.cells) (some (t,none,z.cells)))=_;rw[r];show gd (allL V.one z.cells) _=_;rw[w];rfl
theorem bMx(hrec:uT rec){ops:Array Oper}{n0 c0:Nat}(hsel:I7 ops=true)(hD: ∀k x,h0.get k=some x->k∈D){K:Act->World->Prop}: ∀(l:List (Bool×Nat)),
  (∀(e:E) (s:St) (α:As) (w:World) (a:Act),Sim α s w->EOk α s N e a->nM n0 c0 α0 α->n0<=s.n->c0<=s.c->Cls α0 h0 n0 c0 w->iN ops l=true->
   zW rec N ops D h0 l e s=some (e',s')->(∀α' a' w',Stp α s w α' s' w'->EOk α' s' N e' a'->K a' w')->oB Ctx.P ops (Cls α0 h0 n0 c0) K l none a w)/\
  (∀(lx:Nat) (ol:Oper) (b:TypeId×Option Nat×List V) (e:E) (s:St) (α:As) (w:World) (a:Act) (αs:As) (ss:St) (ws:World),lx<4096->ops[lx]?=some ol->isAl ol.op=true->ol.guard=none->(∀e,bsX ol.op e=some b)->zY ops lx l=true->
   Sim αs ss ws->(∀v∈b.2.2,v.Sc ss.n ss.c/\v.one=true)->Stp αs ss (ws.alloc (.cells (b.2.2.map (V.inst αs)).toArray b.1)) α s w->EOk α s N e a->nM n0 c0 α0 αs->n0<=ss.n->c0<=ss.c->Cls α0 h0 n0 c0 w->iN ops l=true->
   zW rec N ops D h0 l e s=some (e',s')->(∀α' a' w',Stp αs ss ws α' s' w'->EOk α' s' N e' a'->K a' w')->oB Ctx.P ops (Cls α0 h0 n0 c0) K l (some lx) (a.put ol.dst (tJ ws.heap.size b.2.1)) w)
 |[]=>⟨λe s α w a hs he d hn p M i h k w' hb=>by
   have h:some (e,s)=some (e',s'):=h;cases h
   exact⟨Sim.grow M hb,k α a w' (Stp.of_grow hs hb) he⟩,λ_ _ _ _ _ _ _ _ _ _ _ _ _ _ _ _ h=>by cases h⟩
 |(true,j)::l=>by
  obtain⟨B,U⟩:=bMx hrec hsel hD l;refine⟨λe s α w a hs he d hn p M i h k=>?_,λlx ol b e s α w a αs ss ws y r C hg hb hF W u g he d hn p M i h k=>?_⟩
  .obtain⟨o,ho,h1⟩:=bB (show ob (nthL ops.toList j) (λo=>ob (lookL rec N ops o h0 e s) λq=>zW rec N ops D h0 l q.1 q.2)=some (e',s')from h);obtain⟨⟨I,A⟩,h2,h3⟩:=bB h1;obtain⟨t,ht,h4⟩:=bB h2;have ho:ops[j]?=some o:=by rw[jM]at ho;simpa using ho
   rw[cP]at h4
   cases t with
   |false=>
    simp only[L8,if_false]at h4;obtain⟨rfl,z⟩:=uB he h4;rw[yB]at z;exact⟨o,undef,ho,.inr ⟨bEn he ht,rfl⟩,B I A α w _ hs z d hn p M i h3 k⟩
   |true=>
    simp only[if_true]at h4;obtain⟨v,hv,z⟩:=bB h4;obtain⟨rfl,m⟩:=uB he z;exact⟨o,v.inst α,ho,.inl ⟨bEn he ht,look_ok hrec (λw' hw'=>Cls.up hw' d hn p) he hv⟩,B I A α w _ hs m d hn p M i h3 k⟩
  .obtain⟨o,ho,h1⟩:=bB (show ob (nthL ops.toList j) (λo=>ob (lookL rec N ops o h0 e s) λq=>zW rec N ops D h0 l q.1 q.2)=some (e',s')from h);obtain⟨⟨I,A⟩,h2,h3⟩:=bB h1;obtain⟨t,ht,h4⟩:=bB h2;have ho:ops[j]?=some o:=by rw[jM]at ho;simpa using ho
   have hF':ol.apart ops o=true/\zY ops lx l=true:=by have hF0:((oc ops[lx]? false λol=>oc ops[j]? false λo=>ol.apart ops o)&&zY ops lx l)=true:=hF;rw[r,ho,L9]at hF0;exact hF0
   obtain⟨Q,J,a3⟩:=T7 hF'.1;have hso: ∀cs q,o.op≠ .select cs q:=λcs q=>I8 hsel j o cs q ho;have up: ∀v,Fq Ctx.P ops (Cls α0 h0 n0 c0) o v a->Fq Ctx.P ops (Cls α0 h0 n0 c0) o v (a.put ol.dst (tJ ws.heap.size b.2.1)):=λv hy=>hy.of_same (execOp_put o hso a ol.dst _ Q) (wanted_put o a ol.dst _ Q);have hsam:nM n0 c0 α0 α:=d.trans g.same hn p;have hn':=C0 hn g.n;have hc':=C0 p g.c;rw[cP]at h4
   cases t with
   |false=>
    simp only[L8,if_false]at h4;obtain⟨rfl,z⟩:=uB he h4;rw[yB]at z;refine⟨o,undef,ho,up _ (.inr ⟨bEn he ht,rfl⟩),?_⟩;rw[Act.put_comm a _ _ J];exact U lx ol b I A α w _ αs ss ws y r C hg hb hF'.2 W u g z d hn p M i h3 k
   |true=>
    simp only[if_true]at h4;obtain⟨v,hv,z⟩:=bB h4;obtain⟨rfl,m⟩:=uB he z;refine⟨o,v.inst α,ho,up _ (.inl ⟨bEn he ht,look_ok hrec (λw' hw'=>Cls.up hw' hsam hn' hc') he hv⟩),?_⟩;rw[Act.put_comm a _ _ J];exact U lx ol b I A α w _ αs ss ws y r C hg hb hF'.2 W u g m d hn p M i h3 k
 |(false,j)::l=>by
  obtain⟨B,U⟩:=bMx hrec hsel hD l;refine⟨λe s α w a hs he d hn p M i h k=>?_,λlx ol b e s α w a αs ss ws y r C hg hb hF W u g he d hn p M i h k=>?_⟩
  .simp only[oB,reduceCtorEq,if_false];intro w' hb
   have h:sel (C2 j 4096) (ob (nthL ops.toList j) λo=>ob (bBw rec N ops o e s) λq=>gd (yM h0 D q.2) (zW rec N ops D h0 l q.1 q.2)) (sel (C7 zE j) (ob (nthL ops.toList (rG j)) λo=>ob (bBw rec N ops o e s) λq=>gd (yM h0 D q.2) (zW rec N ops D h0 l q.1 q.2))
    (ob (pairX rec N ops D h0 (Nat.mod j 4096) (Nat.pred (Nat.div j 4096)) e s) λq=>zW rec N ops D h0 l q.1 q.2))=some (e',s'):=h
   have G:Cls α0 h0 n0 c0 w':=Sim.grow M hb;have g:=Stp.of_grow hs hb;rw[cP,cP]at h
   by_cases hj:j<4096
   .rw[if_pos (by simpa[D7]using hj)]at h;rw[if_pos hj];have i:iN ops l=true:=by simpa only[iN,hj,if_true]using i
    obtain⟨o,ho,h1⟩:=bB h;obtain⟨⟨I,A⟩,h2,h3⟩:=bB h1;obtain⟨h4,z⟩:=bQ h3;have ho:ops[j]?=some o:=by rw[jM]at ho;simpa using ho
    refine⟨G,λo' L=>?_⟩;have:o'=o:=Option.some.inj (L.symm.trans ho);subst this;refine mB (zC hrec g.zc he h2 λα1 Q w1 m h7=>?_);have f:nM n0 c0 α0 α1:=d.trans m.same hn p;exact B I A α1 w1 Q m.zc h7 f (C0 hn m.n) (C0 p m.c) (Cls.keep G hD f m.zc h4) i z λα2 J R h8 Z=>k α2 J R ((g.trans m).trans h8) Z
   .rw[if_neg (by simpa[D7]using hj)]at h;rw[if_neg hj]
    by_cases hq:zE<=j
    .rw[if_pos (Nat.ble_eq_true_of_le hq)]at h;rw[if_pos hq];have i:(bVy ops (rG j) (uH j)=true/\zY ops (uH j) l=true)/\iN ops l=true:=by simpa only[iN,hj,hq,if_false,if_true,L9]using i
     obtain⟨o,ho,h1⟩:=bB h;obtain⟨⟨I,A⟩,h2,h3⟩:=bB h1;obtain⟨h4,z⟩:=bQ h3;have ho:ops[rG j]?=some o:=by rw[jM]at ho;simpa using ho
     obtain⟨hlB,y,ol,r,C⟩:=late_of i.1.1;obtain⟨oj,ol',Y,hl',X,hap,hjl⟩:=bHh hlB;obtain rfl:ol'=ol:=Option.some.inj (hl'.symm.trans r);obtain rfl:oj=o:=Option.some.inj (Y.symm.trans ho);refine⟨G,λo' L=>?_,λo' L=>?_⟩
     .have:o'=oj:=Option.some.inj (L.symm.trans ho);subst this;refine mB (zC hrec g.zc he h2 λα1 Q w1 m h7=>?_);have f:nM n0 c0 α0 α1:=d.trans m.same hn p;exact B I A α1 w1 Q m.zc h7 f (C0 hn m.n) (C0 p m.c) (Cls.keep G hD f m.zc h4) i.2 z λα2 J R h8 Z=>k α2 J R ((g.trans m).trans h8) Z
     .obtain rfl:o'=ol':=Option.some.inj (L.symm.trans r);obtain⟨t,ht⟩:=bs_al C
      have hgd:o'.guard=none:=by unfold lateO at X;rw[ht]at X;simp only[L9,T2]at X;exact X.1
      obtain⟨b,hb0⟩:=mix_al i.2 i.1.2 r C hgd y z;obtain⟨hrun,u⟩:=bPj g.zc he (hb0 e);apply mB
      have hw:I3 o' (yielded ops a.tmps)=true:=by unfold I3;rw[hgd]
      rw[hw,if_pos rfl];unfold L2;rw[hrun];intro R hb2;have hall:Below w'.heap.size w' (w'.alloc (.cells (b.2.2.map (V.inst α)).toArray b.1)):=(Below.refl _ _).alloc (B8 _) _;have hbl:=pR hall hb2;have hC2:Cls α0 h0 n0 c0 R:=Sim.grow G hbl;refine⟨hC2,bUv Y hap (λcs q=>I8 hsel _ oj cs q Y) ?_⟩;intro o2 ho2;obtain rfl:o2=oj:=Option.some.inj (ho2.symm.trans Y);refine mB (zC hrec (g.zc.grow hbl) he h2 λα1 Q w3 O g2=>?_);have hfr:Stp α s (w'.alloc (.cells (b.2.2.map (V.inst α)).toArray b.1)) α1 A w3:=(Stp.of_grow (g.zc.grow hall) hb2).trans O;have f:nM n0 c0 α0 α1:=d.trans O.same hn p;exact U (uH j) o' b I A α1 w3 Q α s w' y r C hgd hb0 i.1.2 g.zc u hfr g2 d hn p (Cls.keep hC2 hD f O.zc h4) i.2 z λα2 J w4 h8 Z=>k α2 J w4 (g.trans h8) Z
    .rw[if_neg (λe=>hq (Nat.le_of_ble_eq_true e))]at h;rw[if_neg hq];have i:bEs ops (j%4096) (j/4096-1)=true/\iN ops l=true:=by simpa only[iN,hj,hq,if_false,L9]using i
     obtain⟨⟨I,A⟩,h2,h3⟩:=bB h
     exact⟨G,pair_wp hrec hD i.1 hsel g.zc he d hn p G h2 λα1 Q w1 m h7 h8=>
      B I A α1 w1 Q m.zc h7 (d.trans m.same hn p) (C0 hn m.n) (C0 p m.c) h8 i.2 h3 λα2 J R Z h10=>k α2 J R ((g.trans m).trans Z) h10⟩
  .obtain rfl:j=lx:=B5 hF;simp only[oB,if_true]
   have h:sel (C2 j 4096) (ob (nthL ops.toList j) λo=>ob (bBw rec N ops o e s) λq=>gd (yM h0 D q.2) (zW rec N ops D h0 l q.1 q.2)) (sel (C7 zE j) (ob (nthL ops.toList (rG j)) λo=>ob (bBw rec N ops o e s) λq=>gd (yM h0 D q.2) (zW rec N ops D h0 l q.1 q.2))
    (ob (pairX rec N ops D h0 (Nat.mod j 4096) (Nat.pred (Nat.div j 4096)) e s) λq=>zW rec N ops D h0 l q.1 q.2))=some (e',s'):=h
   rw[cP,if_pos (by simpa[D7]using y)]at h;have i:iN ops l=true:=by simpa only[iN,y,if_true]using i
   obtain⟨o,ho,h1⟩:=bB h;obtain⟨⟨I,A⟩,h2,h3⟩:=bB h1;obtain⟨h4,z⟩:=bQ h3;have ho:ops[j]?=some o:=by rw[jM]at ho;simpa using ho
   obtain rfl:o=ol:=Option.some.inj (ho.symm.trans r);obtain⟨α',O,g2⟩:=late_done W u hg (hb e) g he h2;have f:nM n0 c0 α0 α':=d.trans O.same hn p;exact B I A α' w _ O.zc g2 f (C0 hn O.n) (C0 p O.c) (Cls.keep M hD f O.zc h4) i z λα2 J R h8 Z=>k α2 J R (O.trans h8) Z
theorem mix_wp(hrec:uT rec){ops:Array Oper}{n0 c0:Nat}(hsel:I7 ops=true)(hD: ∀k x,h0.get k=some x->k∈D){K:Act->World->Prop}(l:List (Bool×Nat))(e:E)(s:St)(α:As)(w:World)(a:Act)(hs:Sim α s w)(he:EOk α s N e a)(hsame:nM n0 c0 α0 α)(hn:n0<=s.n)(hc:c0<=s.c)(hC:Cls α0 h0 n0 c0 w)(hP:iN ops l=true)
  (h:zW rec N ops D h0 l e s=some (e',s')) (k: ∀α' a' w',Stp α s w α' s' w'->EOk α' s' N e' a'->K a' w'):oB Ctx.P ops (Cls α0 h0 n0 c0) K l none a w:=(bMx hrec hsel hD l).1 e s α w a hs he hsame hn hc hC hP h k
theorem tail_wp(hrec:uT rec){ops:Array Oper}{K:Act->World->Prop}: ∀(ls:List Nat) (e:E) (s:St) (α:As) (w:World) (a:Act),Sim α s w->EOk α s N e a->lastR rec N ops ls e s=some (e',s')->(∀α' a' w',Stp α s w α' s' w'->EOk α' s' N e' a'->K a' w')->bMm Ctx.P ops K ls a w
 |[],e,s,α,w,a,hs,he,h,k=>by
  have h:some (e,s)=some (e',s'):=h;cases h;exact k α a w (Stp.of_grow hs (Below.refl _ _)) he
 |l::ls,e,s,α,w,a,hs,he,h,k=>λi b=>by
  obtain⟨o,ho,h1⟩:=bB (show ob (nthL ops.toList l) (λo=>ob (bBw rec N ops o e s) λq=>lastR rec N ops ls q.1 q.2)=some (e',s')from h);obtain⟨⟨p,g⟩,h2,h3⟩:=bB h1;have ho:ops[l]?=some o:=by rw[jM]at ho;simpa using ho
  have:i=o:=Option.some.inj (b.symm.trans ho);subst this;exact mB (zC hrec hs he h2 λα1 t f c n=>tail_wp hrec ls p g α1 f t c.zc n h3 λα2 r d m j=>k α2 r d (c.trans m) j)
theorem reg_wp(hrec:uT rec){f id:Nat}{ops:Array Oper}{draw:Bool}(hv:nK f (.region id ops draw)=true)(hs:Sim α s w)(he:EOk α s N e a)(h:regX rec f N id ops draw e s=some (e',s')){Q:Exit->Act->World->Prop}
  (k: ∀α' a' w',Stp α s w α' s' w'->EOk α' s' N e' a'->Q .normal a' w'):(Code.region id ops draw).wp Ctx.P Q a w:=by
 cases draw with
 |false=>exact wp_region_list (ops_wp hrec ops.toList e s α w a hs he h k)
 |true=>
  obtain⟨⟨c,g⟩,m,h1⟩:=bB (show ob (Ctx.plan f id) (λq=>drawX rec N ops q.1 q.2 (bSq N s ops q.1 e) e s)=some (e',s')from h);obtain⟨⟨u,l⟩,h2,h3⟩:=bB h1;have hv:oc (Ctx.plan f id) true (planOk ops)=true:=hv;rw[m]at hv;have hb:Below w.heap.size w w.drew:=(Below.refl _ _).drew;have b:=Stp.of_grow hs hb;have o: ∀k x,(restX s (bSq N s ops c e)).get k=some x->k∈bSq N s ops c e:=λk x n=>(tY s _ k x n).1;have d:I7 ops=true/\B1 (yS c none+g.length) ops.size=true/\jT .any ops g c none (E5 ops.size false)=true:=by simpa only[planOk,oc,zH,L9]using hv
  exact region_tail Good.mixed (show zH g c ops=true from hv) (mix_wp hrec d.1 o c e s α w.drew a b.zc he (nM.refl _ _ _) (B8 _) (B8 _) (b.zc.rest _) (rM d.2.2 λk e=>by cases e) h2 λα1 y j h4 t=>
   tail_wp hrec g u l α1 j y h4.zc t h3 λα2 v i r p=>k α2 v i ((b.trans h4).trans r) p)
omit [Good]in
theorem Post.behind{α1:As}{s1 s2:St}{w1:World}{x:Ex}(h:Stp α s w α1 s1 w1){ex:Exit}{a':Act}{w':World}(hp:Post α1 s1 w1 N x e' s2 ex a' w'):Post α s w N x e' s2 ex a' w':=by obtain⟨h1,α2,h2,h3⟩:=hp;exact⟨h1,α2,h.trans h2,h3⟩
omit [Good]in
theorem bAq(hs:Sim α s w)(he:EOk α s N e a)(x:Ex):Post α s w N x e s (exitOf x) a w:=⟨rfl,α,Stp.refl hs,he⟩
def LoopOk(n:Nat):Prop:= ∀f N c e s x e' s',nK f c=true->bDd n f N (.loop c) e s=some (x,e',s')-> ∀α w a,Sim α s w->EOk α s N e a->E9 Ctx.P c (Post α s w N x e' s') n a w
omit [Ctx] [Good]in
theorem rounds_mono{P:Program}{c:Code}{Q Q':Exit->Act->World->Prop}(hq: ∀e a w,Q e a w->Q' e a w): ∀(n:Nat) (a:Act) (w:World),E9 P c Q n a w->E9 P c Q' n a w
 |0,_,_,h=>h
 |n+1,a,w,h=>by
  refine T8 (λe a w h=>?_) h
  cases e with
  |normal=>exact rounds_mono hq n a w h
  |_=>exact hq _ _ _ h
omit [Good]in
theorem loop_ok{n:Nat}(hrec:uT (bDd n))(hl:LoopOk n):LoopOk (n+1):=λf N c e s x e' s' i h α w a j he=>by
 obtain⟨⟨y,d,b⟩,h1,h2⟩:=bB (show ob (bDd n f N c e s) (seqX (bDd n) f N (.loop c))=some (x,e',s')from h);rw[rounds_succ];refine T8 (λex a' w' g=>?_) (hrec f N c e s y d b i h1 α w a j he);obtain⟨rfl,α1,h3,h4⟩:=g
 cases y with
 |nm=>exact rounds_mono (λ_ _ _ g=>g.behind h3) n _ _ (hl f N c d b x e' s' i h2 α1 w' a' h3.zc h4)
 |ex id=>
  have h2:some (Ex.ex id,d,b)=some (x,e',s'):=h2;cases h2;exact⟨rfl,α1,h3,h4⟩
 |rt=>
  have h2:some (Ex.rt,d,b)=some (x,e',s'):=h2;cases h2;exact⟨rfl,α1,h3,h4⟩
theorem step_ok{n:Nat}(hrec:uT (bDd n))(hl:LoopOk (n+1)):uT (bDd (n+1)):=λf N c e s x e' s' b h α w a d he=>by
 have h:stepX (bDd n) f N c e s=some (x,e',s'):=h
 cases c with
 |skip=>cases h;exact wp_skip (bAq d he .nm)
 |label l=>cases h;exact wp_label (bAq d he .nm)
 |exit id=>cases h;exact wp_exit (bAq d he (.ex id))
 |ret=>cases h;exact wp_ret (bAq d he .rt)
 |region id ops draw=>
  obtain⟨⟨j,g⟩,h1,h2⟩:=bB (show ob (regX (bDd n) f N id ops draw e s) nmX=some (x,e',s')from h);cases h2
  exact reg_wp hrec b d he h1 λα1 q p h3 h4=>⟨rfl,α1,h3,h4⟩
 |seq c1 c2=>
  obtain⟨⟨y,j,g⟩,h1,h2⟩:=bB (show ob (bDd n f N c1 e s) (seqX (bDd n) f N c2)=some (x,e',s')from h);have b:(nK f c1&&nK f c2)=true:=b;rw[L9]at b;refine wp_seq (T8 (λex a' w' k=>?_) (hrec f N c1 e s y j g b.1 h1 α w a d he));obtain⟨rfl,α1,h3,h4⟩:=k
  cases y with
  |nm=>exact T8 (λ_ _ _ k=>k.behind h3) (hrec f N c2 j g x e' s' b.2 h2 α1 w' a' h3.zc h4)
  |ex id=>
   have h2:some (Ex.ex id,j,g)=some (x,e',s'):=h2;cases h2;exact⟨rfl,α1,h3,h4⟩
  |rt=>
   have h2:some (Ex.rt,j,g)=some (x,e',s'):=h2;cases h2;exact⟨rfl,α1,h3,h4⟩
 |cond c0 c1 c2=>
  obtain⟨v,h1,h2⟩:=bB (show ob (evX c0 e) _=some (x,e',s')from h);obtain⟨t,rfl,h3⟩:=bRi h2;have o:=(cA d he h1).1;have b:(nK f c1&&nK f c2)=true:=b;rw[L9]at b
  cases t with
  |true=>exact wp_cond_true o (hrec f N c1 e s x e' s' b.1 h3 α w a d he)
  |false=>exact wp_cond_false o (hrec f N c2 e s x e' s' b.2 h3 α w a d he)
 |block id c=>
  obtain⟨⟨y,j,g⟩,h1,h2⟩:=bB (show ob (bDd n f N c e s) (blockX id)=some (x,e',s')from h);refine wp_block (T8 (λex a' w' k=>?_) (hrec f N c e s y j g b h1 α w a d he));obtain⟨rfl,α1,h3,h4⟩:=k
  cases y with
  |nm=>
   have h2:some (Ex.nm,j,g)=some (x,e',s'):=h2;cases h2;exact⟨rfl,α1,h3,h4⟩
  |ex i=>
   have h2:some (sel (B1 i id) (Ex.nm,j,g) (Ex.ex i,j,g))=some (x,e',s'):=h2;show if i=id then _ else _
   rw[cP]at h2;split
   .rename_i m;subst m;rw[if_pos (Nat.beq_refl i)]at h2;cases h2;exact⟨rfl,α1,h3,h4⟩
   .rename_i m;rw[if_neg (λhb=>m (B5 hb))]at h2;cases h2;exact⟨rfl,α1,h3,h4⟩
  |rt=>
   have h2:some (Ex.rt,j,g)=some (x,e',s'):=h2;cases h2;exact⟨rfl,α1,h3,h4⟩
 |loop c=>exact wp_loop_rounds (n+1) (hl f N c e s x e' s' b h α w a d he)
 |scope c=>
  refine wp_scope_straight (T8 (λex a' w' k=>?_) (hrec f N c e s x e' s' b h α w a d he));have h1:=k.1;cases x<;>subst h1<;>exact k
 |_=>cases h
theorem run_both: ∀n,uT (bDd n)/\LoopOk n
 |0=>⟨λ_ _ _ _ _ _ _ _ _ h=>(by cases h),λ_ _ _ _ _ _ _ _ _ h=>(by cases h)⟩
 |n+1=>by obtain⟨h1,h2⟩:=run_both n;have h3:=loop_ok h1 h2;exact⟨step_ok h1 h3,h3⟩
theorem run_ok(n:Nat):uT (bDd n):=(run_both n).1
