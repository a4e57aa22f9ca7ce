/- A part of one proof. -/
import Derived.Test.YtioekpienlhcgaaGreatDoorM7
set_option maxRecDepth 100000
namespace Go.Proofs.YtioekpienlhcgaaGreatDoor
open _root_.List renaming mem_cons_self->E8,mem_cons_of_mem->E4,length_append->F4,length_cons->F5,find?_cons->Y1,mem_cons->E2,mem_flatMap->Y2,map_cons->N7,getElem?_eq_some_iff->F3,take_succ_eq_append_getElem->V8,take_of_length_le->F6,length->Q8,length_take->K6,mem_map_of_mem->Y3,mem_of_mem_take->Y4,length_map->O4,getLast?_eq_getElem?->Y5,map_append->L2,map_nil->O6,cons_append->R0,drop_eq_getElem_cons->K2,drop_of_length_le->K3,mem_singleton->K7,mem_map->R2,mem_reverse->Y6,length_reverse->O8,mem_of_mem_drop->O3,length_drop->N9,mem_of_mem_tail->Y7,mem_append->E3,any_eq_false->Y8,map_singleton->V9,getElem_cons_drop->Y9,take_append_drop->W8,perm_middle->Z0,append_assoc->Q9,perm_append_comm->Z1,append_nil->F9,getElem?_eq_getElem->F1,getElem?_map->K1,getElem?_append_right->Z2,set_append_right->Z3,flatMap_append->Z4,flatMap_cons->Z5,getElem?_append_left->Z6,map_id->Z7,take_add_one->R6,length_set->X4,filter_append->Z8,pairwise_cons->E5
open _root_.Nat renaming le_trans->B1,le_refl->B0,le_of_succ_le->Z9,zero_le->C4,min_eq_left->L3,le_of_lt->aA
open _root_.Bool renaming and_eq_true->J3,or_eq_true->aB,eq_iff_iff->L7
open _root_.Int renaming mul_nonneg->aC,not_lt->aD
open _root_.Prod renaming ext->aE
open Lib renaming compareBytes->S6,hid->S7
open IntKind renaming wrap->J5,signed->J6,bits->J7
open _root_.Option renaming toList_some->aF
section
open Go.RowKit Go.Proofs.Tryz
def ArrV.v(x:ArrV):Value:= .agg #[.slice x.B.I x.B.A.length x.B.cap,.slice x.data.I x.data.A.length x.data.cap]
section
variable {p : iL} {dims : List Int} {ins : List Arr} {x : hU}
theorem bAt(h:(dU p).2=true):(dZ p.C).length<=256:=by
 have hf:=wS h
 have key: ∀l:List hU,(∀x∈l,x.B.length<=4)->(dZ l).length<=4*l.length:=by
  intro l
  induction l with
  |nil=>intro _;simp[dZ]
  |cons x r ih=>
   intro hx;have e:dZ (x::r)=x.B++dZ r:=rfl;have h1:=hx x (E8 ..);have h2:=ih λy hy=>hx y (E4 _ hy);rw[e,F4,F5];omega
 have:=key p.C λx hx=>(hf.input x hx).2.1;have:=hf.ins;omega
end
def bJx (vars:List Bs)(d:oI):Bool:=(d.name==[]&&bJb d.n) || decide (6<=idxOf d.name vars 0)
section
variable {vars : List Bs} {l : List hU} {x : hU} {ds : List oI} {d : oI} {i j : Nat}
def bAv (vars:List Bs)(l:List hU)(i:Nat):Prop:=l.find? (tS vars)=(l.drop i).find? (tS vars)
def bKb (vars:List Bs)(ds:List oI)(j:Nat):Prop:=ds.any (bJx vars)=(ds.drop j).any (bJx vars)
theorem bZz:bAv vars l 0:=by simp[bAv]
theorem few_in:bKb vars ds 0:=by simp[bKb]
theorem bEn(h:bAv vars l i)(hx:l[i]?=some x)(k:bKb vars x.B j)(hd:x.B[j]?=some d)(hs:bJx vars d=true):l.find? (tS vars)=some x:=by
 have e:tS vars x=true:=by show x.B.any (bJx vars)=true;rw[k,lE hd,List.any_cons,hs];rfl
 rw[h,lE hx,Y1,e]
theorem bKf(k:bKb vars ds j)(hd:ds[j]?=some d)(hs:bJx vars d=false):bKb vars ds (j+1):=by unfold bKb at k⊢;rw[k,lE hd,List.any_cons,hs,Bool.false_or]
theorem few_out(h:bAv vars l i)(hx:l[i]?=some x)(k:bKb vars x.B j)(hj:x.B.length<=j):bAv vars l (i+1):=by
 have e:tS vars x=false:=by show x.B.any (bJx vars)=false;rw[k,qK hj];rfl
 unfold bAv at h⊢;rw[h,lE hx,Y1,e]
theorem few_end(h:bAv vars l i)(hi:l.length<=i):l.find? (tS vars)=none:=by unfold bAv at h;rw[h,qK hi];rfl
theorem fs_a(hn:d.name=[])(hb:bJb d.n=true):bJx vars d=true:=by simp[bJx,hn,hb]
theorem fs_b(h:6<=idxOf d.name vars 0):bJx vars d=true:=by simp[bJx,h]
theorem fs_c(hb:bJb d.n=false)(h:idxOf d.name vars 0<6):bJx vars d=false:=by
 have: ¬6<=idxOf d.name vars 0:=l7
 simp[bJx,hb,this]
theorem fs_d(hn:d.name≠[])(h:idxOf d.name vars 0<6):bJx vars d=false:=by
 have: ¬6<=idxOf d.name vars 0:=l7
 simp[bJx,hn,this]
end
theorem rR(k:Bs): ∀(l:List Bs) (i:Nat),idxOf k l i= -1\/ ∃j:Nat,idxOf k l i=((i+j:Nat):Int)/\j<l.length/\l[j]?=some k
 |[],i=> .inl rfl
 |s::r,i=>by
  rw[idxOf];split
  .rename_i h;exact .inr ⟨0,m9,m9,by simp[h]⟩
  .have:=rR k r (i+1);have e:((i:Nat):Int)+1=((i+1:Nat):Int):=l7
   rw[e]
   rcases this with h|⟨j,h1,h2,a⟩
   .exact .inl h
   .exact .inr ⟨j+1,by rw[h1];congr 1;omega,by simp;omega,by simpa using a⟩
theorem bEk{k:Bs}: ∀{l:List Bs} {i:Nat},k∈l->idxOf k l i≠ -1
 |s::r,i,h=>by
  rw[idxOf];split
  .omega
  .rename_i hh
   rcases E2.1 h with e|h
   .exact absurd e.symm hh
   .have e:((i:Nat):Int)+1=((i+1:Nat):Int):=l7
    rw[e];exact bEk h
theorem bVc: ∀{ds:List oI} {out:List Bs},(∀s∈out,s∈iT ds out)/\ ∀d∈ds,d.name≠[]->d.name∈iT ds out
 |[],out=>⟨λs h=>h,λd h=>by simp at h⟩
 |d::r,out=>by
  have a:= @bVc r (if d.name=[]\/out.contains d.name=true then out else out++[d.name]);rw[iT];refine⟨λs hs=>a.1 s ?_,λe he hn=>?_⟩
  .split
   .exact hs
   .exact List.mem_append_left _ hs
  .rcases E2.1 he with rfl|he
   .refine a.1 _ ?_;split
    .rename_i h
     rcases h with h|h
     .exact absurd h hn
     .simpa using h
    .simp
   .exact a.2 e he hn
theorem side_var{p:iL}{x:hU}{d:oI}{n:Nat}(hx:x∈p.C)(hd:d∈x.B)(hn:d.name≠[])(h:n=(dG p).length): ∃k:Nat,k<n/\idxOf d.name (dG p) 0=(k:Int):=by
 have a:d.name∈dG p:=bVc.2 d (Y2.2 ⟨x,hx,hd⟩) hn;have h1:=bEk (i:=0) a
 rcases rR d.name (dG p) 0 with h2|⟨j,h2,b,_⟩
 .exact absurd h2 h1
 .exact⟨j,l7,by rw[Nat.zero_add]at h2;exact h2⟩
theorem bXk: ∀(ds:List oI) (out:List Bs),(iT ds out).length<=out.length+ds.length
 |[],out=>by simp[iT]
 |d::r,out=>by
  have a:=bXk r (if d.name=[]\/out.contains d.name=true then out else out++[d.name]);rw[iT];split at a
  .rename_i h;rw[if_pos h];simp;omega
  .rename_i h;rw[if_neg h];simp at a⊢;omega
theorem vars_le(p:iL):(dG p).length<=(dZ p.C).length:=by
 have:=bXk (dZ p.C) []
 simpa[dG]using this
abbrev NamesTV:=List (Bs×TyV)
def nA (k:Bs):NamesTV->Option TyV
 |[]=>none
 |p::r=>if k=p.1 then some p.2 else nA k r
def lY (NV:NamesTV):gD:=NV.map λp=>(p.1,p.2.t)
theorem qF(k:Bs): ∀NV:NamesTV,kH k (lY NV)=(nA k NV).map TyV.t
 |[]=>rfl
 |p::r=>by
  have a:=qF k r;unfold lY at a⊢;rw[N7,kH,nA];split
  .rfl
  .exact a
theorem bSr{k:Bs}{a:TyV}: ∀{NV:NamesTV},nA k NV=some a-> ∃p∈NV,p.2=a
 |[],h=>by cases h
 |p::r,h=>by
  rw[nA]at h;split at h
  .injection h with h
   exact⟨p,E8 ..,h⟩
  .obtain⟨q,hq,e⟩:=bSr h;exact⟨q,E4 _ hq,e⟩
def uT (kv:KVS)(NV:NamesTV):Prop:= ∀k,qD k kv=(nA k NV).map tyC
theorem nrT_start:uT [] []:=λ_=>rfl
theorem nrT_add{kv:KVS}{NV:NamesTV}(h:uT kv NV)(s:Bs)(a:TyV):uT (qB s (tyC a) kv) ((s,a)::NV):=λk=>by
 rw[bJn,nA]
 by_cases e:k=s
 .rw[if_pos (beq_iff_eq.2 e),if_pos e];rfl
 .rw[if_neg (by simpa using e),if_neg e];exact h k
def sP (NV:NamesTV):Fact:=Fact.each NV λp=>tyF p.2
theorem bSz{F:List Fact}{NV:NamesTV}{k:Bs}{a:TyV}(h:Has F (sP NV))(e:nA k NV=some a):Has F (tyF a):=by obtain⟨p,b,e⟩:=bSr e;rw[<-e];exact Has.each h b
theorem mapT:prog.underlying 66=some (.map 9 38):=m0
theorem bMz(w:World):(zeroValue 38).run prog w= .ok (.agg #[.slice none 0 0,.bool false,.slice none 0 0]) w:=m0
theorem bWl{β:fS}{n:Nat}{Γ:Env}{H:List bK}{F:List Fact}{Q:Exit->Act->World->Prop}{ops:Array Oper}{rest:List Oper}{o:Oper}{d:Nat}{x y z:Operand}{u v q:Bs}(hw:want ops Γ o=some true)(ho:o.op= .buildSlice 46 3 #[(0,x),(1,y),(2,z)])(hd:o.dst=some d)(hn:Nat.blt d n=true)
  (hx:Γ.ev x=some (.string (bs u))) (hy:Γ.ev y=some (.string (bs v))) (hz':Γ.ev z=some (.string (bs q))) (k: ∀b,At β n ((d,.slice (some ⟨b,0,none⟩) 3 3)::Γ) (.obj b (.cells (lZ.all [u,v,q]).toArray 9)::H) F (wpList prog ops Q rest)):At β n Γ H F (wpList prog ops Q (o::rest)):=by
 obtain⟨i,hi,c,hs,_⟩:=bPw;refine bDh (m:=3) hw ho hd hn (λa w f=>?_) k
 have:=run_buildSlice (P:=prog) w 46 9 3 #[(0,a.eval x),(1,a.eval y),(2,a.eval z)] (lZ.all [u,v,q]).toArray i (.string (bs [])) underlying46 hi c l7 l7 (by
  rw[f.ev hx,f.ev hy,f.ev hz',hs]
  kernel_rfl)
 simpa using this
section
variable {s : Bs} {NV : NamesTV} {a : TyV}
theorem name_0(h:nA (lV++s) NV=some a):nameT (lY NV) s=some a.t:=by unfold nameT;rw[qF,h];rfl
theorem name_1(h0:nA (lV++s) NV=none)(h:nA (nIn++s) NV=some a):nameT (lY NV) s=some a.t:=by unfold nameT;rw[qF,h0,qF,h];rfl
theorem name_2(h0:nA (lV++s) NV=none)(h1:nA (nIn++s) NV=none)(h:nA s NV=some a):nameT (lY NV) s=some a.t:=by unfold nameT;rw[qF,h0,qF,h1,qF,h];rfl
theorem name_3(h0:nA (lV++s) NV=none)(h1:nA (nIn++s) NV=none)(h:nA s NV=none):nameT (lY NV) s=none:=by unfold nameT;rw[qF,h0,qF,h1,qF,h];rfl
end
def chkO (cb mb:Nat):bK:= .obj cb (.cells [.map (some mb)].toArray 68)
def noTy:TyV:=⟨⟨none,0,[]⟩,false,⟨none,0,[]⟩⟩
theorem noTy_F{F:List Fact}:Has F (tyF noTy):=bS bO bO
theorem zO:prog.built 38 []=some #[.slice none 0 0,.bool false,.slice none 0 0]:=m0
theorem nameT_spec(cb mb:Nat)(kv:KVS)(NV:NamesTV)(hN:uT kv NV)(s:Bs)(hs:s.length<=140737488355328):cY prog 34 [.pointer (some ⟨cb,0,none⟩),.string (bs s)] [chkO cb mb,wK mb kv] [sP NV] (λ(x:TyV)=> .tuple #[tyC x,.bool (nameT (lY NV) s).isSome]) (λ_=>[chkO cb mb,wK mb kv]) (λ(x:TyV)=>[tyF x,Fact.pure (x.t=(nameT (lY NV) s).getD ⟨[],false,[]⟩)]):=by
 have hT:=dK;generalize b:nameT (lY NV) s=r;refine j5 func34 ntmps34 ?_;intro β hM;refine g2 ?_;refine j1 sQ λj=>?_;refine g7 ?_;refine ss (dJ rfl rfl rfl q9) ?_;refine one ?_;refine ss (dJ rfl rfl rfl q9) ?_;refine one ?_;refine bWl (u:=lV++s) (v:=nIn++s) (q:=s) rfl rfl rfl rfl rfl rfl rfl λi=>?_;refine dO (E:=lZ) (xs:=[lV++s,nIn++s,s]) .head aa1<|bR .head ?_;refine g5 ?_;refine bYo 4 ?_;refine oY ?_;refine g3 ?_;refine bC (t':=true) m6 ?_;refine g10 ?_;refine ss (cA hT (k:=0) (bG d7) rfl rfl rfl rfl rfl rfl rfl m9) ?_;refine ss (j6 hT (dD.knows (bG d7) (k:=0) (x:=(lV++s)) rfl 0)) ?_;refine g4 ?_
 rcases hlk0:nA (lV++s) NV with _|a
 .refine g6 ?_;refine ss (pO (oR kT2) rfl mapT underlying9 bMz rfl rfl (v:= .tuple #[tyC noTy,.bool false]) (by rw[hN,hlk0];rfl)) ?_;refine g3 ?_;refine j1 sQ λh=>?_;refine g15 ?_;refine inc 1 ?_;refine g3 ?_;refine oY ?_;refine g3 ?_;refine bC (t':=true) m6 ?_;refine g10 ?_;refine ss (cA hT (k:=1) (bG d7) rfl rfl rfl rfl rfl rfl rfl m9) ?_;refine ss (j6 hT (dD.knows (bG d7) (k:=1) (x:=(nIn++s)) rfl 0)) ?_;refine g4 ?_
  rcases hlk1:nA (nIn++s) NV with _|a
  .refine g6 ?_;refine ss (pO (oR kT3) rfl mapT underlying9 bMz rfl rfl (v:= .tuple #[tyC noTy,.bool false]) (by rw[hN,hlk1];rfl)) ?_;refine g3 ?_;refine j1 sQ λg=>?_;refine g15 ?_;refine inc 2 ?_;refine g3 ?_;refine oY ?_;refine g3 ?_;refine bC (t':=true) m6 ?_;refine g10 ?_;refine ss (cA hT (k:=2) (bG d7) rfl rfl rfl rfl rfl rfl rfl m9) ?_;refine ss (j6 hT (dD.knows (bG d7) (k:=2) (x:=s) rfl 0)) ?_;refine g4 ?_
   rcases hlk2:nA s NV with _|a
   .refine g6 ?_;refine ss (pO (oR kT4) rfl mapT underlying9 bMz rfl rfl (v:= .tuple #[tyC noTy,.bool false]) (by rw[hN,hlk2];rfl)) ?_;refine g3 ?_;refine j1 sQ λf=>?_;refine g15 ?_;refine inc 3 ?_;refine g3 ?_;refine oY ?_;refine g3 ?_;refine bC (t':=false) m6 ?_;refine g11 ?_;refine ss (j3 (zO)) ?_;refine g5 ?_;obtain rfl:=b.symm.trans (name_3 hlk0 hlk1 hlk2);exact rs2 (noTy:TyV) ⟨noTy_F,i7 rfl,i6⟩
   refine g6 ?_;refine ss (pO (oR kT4) rfl mapT underlying9 bMz rfl rfl (v:= .tuple #[tyC a,.bool true]) (by rw[hN,hlk2];rfl)) ?_;refine g3 ?_;refine j1 sQ λe=>?_;refine g23 ?_;refine bB (tyF a) (bSz d8 hlk2) ?_;obtain rfl:=b.symm.trans (name_2 hlk0 hlk1 hlk2);exact rs2 (a:TyV) ⟨d7,i7 rfl,i6⟩
  refine g6 ?_;refine ss (pO (oR kT3) rfl mapT underlying9 bMz rfl rfl (v:= .tuple #[tyC a,.bool true]) (by rw[hN,hlk1];rfl)) ?_;refine g3 ?_;refine j1 sQ λd=>?_;refine g23 ?_;refine bB (tyF a) (bSz d8 hlk1) ?_;obtain rfl:=b.symm.trans (name_1 hlk0 hlk1);exact rs2 (a:TyV) ⟨d7,i7 rfl,i6⟩
 refine g6 ?_;refine ss (pO (oR kT2) rfl mapT underlying9 bMz rfl rfl (v:= .tuple #[tyC a,.bool true]) (by rw[hN,hlk0];rfl)) ?_;refine g3 ?_;refine j1 sQ λc=>?_;refine g23 ?_;refine bB (tyF a) (bSz d8 hlk0) ?_;obtain rfl:=b.symm.trans (name_0 hlk0);exact rs2 (a:TyV) ⟨d7,i7 rfl,i6⟩
def bOf (l vs:List PolV)(i:Nat):Prop:=bN vs=(bN l).take i
theorem ownT_start(l:List PolV):bOf l [] 0:=rfl
theorem ownT_step{l vs:List PolV}{i:Nat}{p q:PolV}(h:bOf l vs i)(hp:l[i]?=some p)(hq:q.A=p.A):bOf l (vs++[q]) (i+1):=by obtain⟨hi,e⟩:=F3.1 (jX hp);unfold bOf at*;rw[V8 hi,e,<-h,<-hq,rI];rfl
theorem ownT_end{l vs:List PolV}{i:Nat}(h:bOf l vs i)(hi:l.length<=i):bN vs=bN l:=by
 unfold bOf at h
 rwa[F6 am4]at h
theorem ownT_len{l vs:List PolV}{i:Nat}(h:bOf l vs i)(hi:i<=l.length):vs.length=i:=by have:=congrArg Q8 h;rw[bI,K6,bI]at this;omega
theorem polF_mk{F:List Fact}{A:Option Addr}{c:Nat}{l:List Mono}(h:Has F (fE.sl (.slice A l.length c) l))(k:l.length<=48):Has F (kI ⟨A,c,l⟩):=h.and (i7 (B1 k m6))
theorem wf_sr{a:TyV}(h:WfT a.t): ∀p∈a.B.A,p.A.length<=48:=λ_ b=>iC (h.sr _ (Y3 b))
theorem wf_vr{a:TyV}(h:WfT a.t): ∀p∈a.values.A,p.A.length<=48:=λ_ b=>iC (h.vr _ (Y3 b))
theorem ownT_t{a x:TyV}(hs:bN x.B.A=bN a.B.A)(hv:bN x.values.A=bN a.values.A)(hk:x.known=a.known):x.t=a.t:=by unfold TyV.t;rw[hs,hv,hk]
section
variable {P : Program} {β : fS} {n : Nat} {Γ : Env} {H : List bK} {F : List Fact} {T : Tab}
theorem nB{α:Type}{g:α->Fact}{xs:List α}(h:Has F (Fact.each xs g))(k:Nat):Has F (Fact.each (xs.take k) g):=λS w q x hx=>h S w q x (Y4 hx)
end
def stT (hv:List TyV):List TyP:=(hv.map TyV.t).reverse
theorem bBm{hv:List TyV}{a:TyV}(h:hv[hv.length-1]?=some a):(stT hv).headD default=a.t:=by
 have h2:(hv.map TyV.t)[(hv.map TyV.t).length-1]?=some a.t:=by rw[O4];exact tJ h
 unfold stT;rw[List.headD_eq_head?_getD,List.head?_reverse,Y5,h2];rfl
theorem bQo{hv:List TyV}{a:TyV}(h:hv[hv.length-2]?=some a)(h2:2<=hv.length):(stT hv).tail.headD default=a.t:=by
 have e:(stT hv)[1]?=some a.t:=by
  unfold stT;rw[List.getElem?_reverse aa8,O4];have:hv.length-1-1=hv.length-2:=l7
  rw[this];exact tJ h
 match stT hv,e with
 |_::b::_,e=>simpa using e
theorem stT_push{hv:List TyV}{a:TyV}{k T:Nat}(hk:k=hv.length-T):stT (hv.take k++[a])=a.t::(stT hv).drop T:=by
 unfold stT;rw[L2,List.reverse_append,List.map_take];simp only[N7,O6,List.reverse_cons,List.reverse_nil,List.nil_append,R0]
 congr 1
 rw[List.drop_reverse,O4,hk]
section
variable {N : gD} {it : ItemV} {hv : List TyV} {x u : TyV}
theorem itT_lit(h:it.H=1):iO N it.it (stT hv)=(gK it.nums.A,0):=if_pos h
theorem itT_name(h:it.H=2)(k:(nameT N it.name).isSome=true):iO N it.it (stT hv)=((nameT N it.name).getD ⟨[],false,[]⟩,0):=by
 unfold iO;rw[if_neg (show ¬it.it.H=1 from (show ¬it.H=1 by omega)),if_pos (show it.it.H=_ from h)]
 cases e:nameT N it.name with
 |none=>rw[e]at k;cases k
 |some t=>rw[show nameT N it.it.name=some t from e];rfl
theorem itT_none(h:it.H=2)(k:(nameT N it.name).isSome=false):iO N it.it (stT hv)=((nameT N it.name).getD ⟨[],false,[]⟩,83):=by
 unfold iO;rw[if_neg (show ¬it.it.H=1 from (show ¬it.H=1 by omega)),if_pos (show it.it.H=_ from h)]
 cases e:nameT N it.name with
 |none=>rw[show nameT N it.it.name=none from e];rfl
 |some t=>rw[e]at k;cases k
theorem itT_mon(h:it.H=3)(hx:hv[hv.length-1]?=some x):iO N it.it (stT hv)=gZ it.fn x.t:=by unfold iO;rw[if_neg (show ¬it.it.H=1 from (show ¬it.H=1 by omega)),if_neg (show ¬it.it.H=2 from (show ¬it.H=2 by omega)),if_pos (show it.it.H=_ from h),bBm hx];rfl
theorem itT_5(h:it.H=5)(hx:hv[hv.length-1]?=some x):iO N it.it (stT hv)=(if x.t.B=[]then x.t else ⟨x.t.B.take (x.t.B.length-1),false,[]⟩,0):=by unfold iO;rw[if_neg (show ¬it.it.H=1 from (show ¬it.H=1 by omega)),if_neg (show ¬it.it.H=2 from (show ¬it.H=2 by omega)),if_neg (show ¬it.it.H=3 from (show ¬it.H=3 by omega)),if_pos (show it.it.H=_ from h),bBm hx]
theorem itT_6(h:it.H=6)(hx:hv[hv.length-1]?=some x):iO N it.it (stT hv)=(if x.t.B=[]then x.t else ⟨x.t.B,false,[]⟩,0):=by unfold iO;rw[if_neg (show ¬it.it.H=1 from (show ¬it.H=1 by omega)),if_neg (show ¬it.it.H=2 from (show ¬it.H=2 by omega)),if_neg (show ¬it.it.H=3 from (show ¬it.H=3 by omega)),if_neg (show ¬it.it.H=5 from (show ¬it.H=5 by omega)),if_pos (show it.it.H=_ from h),bBm hx]
theorem bJw(h:it.H=5\/it.H=6)(hx:hv[hv.length-1]?=some x)(hs:x.B.A.length=0):iO N it.it (stT hv)=(x.t,0):=by
 rcases h with h|h
 .rw[itT_5 h hx,if_pos (show x.t.B=[]from dY hs)]
 .rw[itT_6 h hx,if_pos (show x.t.B=[]from dY hs)]
theorem itT_fold(h:it.H=5)(hx:hv[hv.length-1]?=some x)(hs:0<x.B.A.length):iO N it.it (stT hv)=(⟨bN (x.B.A.take (x.B.A.length-1)),false,[]⟩,0):=by rw[itT_5 h hx,if_neg (show ¬x.t.B=[]from gI hs),bVz,show x.t.B.length=x.B.A.length from bI _];rfl
theorem itT_scan(h:it.H=6)(hx:hv[hv.length-1]?=some x)(hs:0<x.B.A.length):iO N it.it (stT hv)=(⟨bN (x.B.A.take x.B.A.length),false,[]⟩,0):=by rw[itT_6 h hx,if_neg (show ¬x.t.B=[]from gI hs),List.take_length];rfl
theorem itT_dy(h:it.H=4)(hx:hv[hv.length-2]?=some x)(hu:hv[hv.length-1]?=some u)(h2:2<=hv.length):iO N it.it (stT hv)=oQ it.fn x.t u.t:=by unfold iO;rw[if_neg (show ¬it.it.H=1 from (show ¬it.H=1 by omega)),if_neg (show ¬it.it.H=2 from (show ¬it.H=2 by omega)),if_neg (show ¬it.it.H=3 from (show ¬it.H=3 by omega)),if_neg (show ¬it.it.H=5 from (show ¬it.H=5 by omega)),if_neg (show ¬it.it.H=6 from (show ¬it.H=6 by omega)),if_pos (show it.it.H=_ from h),bBm hu,bQo hx h2];rfl
theorem itT_out{e:Int}(h1:it.H≠1)(h2:it.H≠2)(h3:it.H≠3)(h5:it.H≠5)(h6:it.H≠6)(h4:it.H≠4)(hx:hv[hv.length-2]?=some x)(hu:hv[hv.length-1]?=some u)(hl:2<=hv.length)(he:e=if 4<x.B.A.length+u.B.A.length then 90 else 0):iO N it.it (stT hv)=(⟨bN (x.B.A++u.B.A),false,[]⟩,e):=by unfold iO;rw[if_neg (show ¬it.it.H=1 from h1),if_neg (show ¬it.it.H=2 from h2),if_neg (show ¬it.it.H=3 from h3),if_neg (show ¬it.it.H=5 from h5),if_neg (show ¬it.it.H=6 from h6),if_neg (show ¬it.it.H=4 from h4),bBm hu,bQo hx hl,he,rI,show x.t.B.length=x.B.A.length from bI _,show u.t.B.length=u.B.A.length from bI _];rfl
end
theorem itemTS_spec(cb mb:Nat)(kv:KVS)(NV:NamesTV)(hN:uT kv NV)(it:ItemV)(A:Option Addr)(c:Nat)(hv:List TyV)(hW: ∀t∈hv,WfT t.t)(hl:hv.length<=300)(hd:fL it.it<=hv.length)(h17:1<=it.H/\it.H<=7)(hnum:it.H=1->it.nums.A.length<=65536)(hnm:it.H=2->it.name.length<=140737488355328):cY prog 16 [.pointer (some ⟨cb,0,none⟩),.agg #[k6 it.H,k6 it.at_,k7 it.fn,.string (bs it.name),j8 it.nums],.slice A hv.length c] [chkO cb mb,wK mb kv,tyE.row (.slice A hv.length c) 38 hv] [bOt.sl (j8 it.nums) it.nums.A,Fact.each hv tyF,sP NV] (λ(x:TyV)=> .tuple #[tyC x,k6 (fL it.it:Nat),k6 (iO (lY NV) it.it (stT hv)).2]) (λ_=>[chkO cb mb,wK mb kv,tyE.row (.slice A hv.length c) 38 hv]) (λ(x:TyV)=>[tyF x,Fact.pure (x.t=(iO (lY NV) it.it (stT hv)).1)]):=by
 have hT:=dK;generalize l:iO (lY NV) it.it (stT hv)=r;generalize g:fL it.it=T at hd⊢;refine j5 func16 ntmps16 ?_;intro β hM;refine g2 ?_;refine j4 λO=>?_;refine j1 sQ λN=>?_;refine g25 ?_;refine gN (λB=>?_) λB=>?_
 .refine bP ?_;have a:T=0:=g.symm.trans (vQ ah1);subst a;refine g3 ?_;refine j2 func33 (bWn it.nums.I it.nums.cap it.nums.A (B1 (hnum asd) m6)) ⟨d7,i6⟩ λK=>?_;refine bF d8 λhy=>?_;refine g8 ?_;obtain rfl:=l.symm.trans (itT_lit asd);exact rs3 (K:TyV) ⟨d7,i7 hy,i6⟩
 refine g6 ?_;refine gN (λz=>?_) λz=>?_
 .refine bP ?_;have a:T=0:=g.symm.trans (vQ ah1);subst a;refine g4 ?_;refine bD func34 (nameT_spec cb mb kv NV hN it.name (hnm asd)) rfl rfl (.c2 (.c2 .nil)) ⟨d9,i6⟩ λG=>?_;refine bF d8 λhy=>?_;refine g3 ?_;refine j1 sQ λM=>?_;refine g11 ?_;refine iQ (λhc32=>?_) λhc32=>?_
  .refine g16 ?_;obtain rfl:=l.symm.trans (itT_none asd asd);exact rs3 (G:TyV) ⟨d7,i7 hy,i6⟩
  refine g14 ?_;obtain rfl:=l.symm.trans (itT_name asd asd);exact rs3 (G:TyV) ⟨d7,i7 hy,i6⟩
 refine g6 ?_;refine gN (λy=>?_) λy=>?_
 .refine bP ?_;have a:T=1:=g.symm.trans (rK aa9);subst a;obtain⟨x,hx⟩:=gx hv (hv.length-1);have d:=hW x (j0 hx);refine bB (tyF x) (Has.each d8 (j0 hx)) ?_;have n:=oF d;refine bB (cM x.B) (jR d7)<|cE x.B mT0 λb=>bB (cM x.values) (jS e6)<|cE x.values mT0 λf=>?_;refine cL _ _ [j9,u0,u5,u9,A00,u6,A02,A75,A03,A04,A08,(false,11),A09] cN o0 (.c1 (.c1 (.c1 (.c1 .nil)))) bA.self ?_;refine g5 ?_;refine inc (hv.length-1) ?_;refine stM rfl (ixs (hv.length-1)) ?_;refine stM rfl (pF hx 0) ?_;refine one ?_;refine j2 func35 (monT_spec it.fn x d) ⟨e9,i6⟩ λJ=>?_;refine bF d8 λhy=>?_;refine g22 ?_;obtain rfl:=l.symm.trans (itT_mon asd hx);exact rs3 (J:TyV) ⟨d7,i7 hy,i6⟩
 refine g7 ?_;refine gN (λo=>?_) λo=>?_
 .refine bC (t':=true) asd ?_;refine g4 ?_;have a:T=1:=g.symm.trans (rK aa9);subst a;obtain⟨x,hx⟩:=gx hv (hv.length-1);have d:=hW x (j0 hx);refine bB (tyF x) (Has.each d8 (j0 hx)) ?_;have n:=oF d;refine bB (cM x.B) (jR d7)<|cE x.B mT0 λb=>bB (cM x.values) (jS e6)<|cE x.values mT0 λf=>?_;refine g4 ?_;refine inc (hv.length-1) ?_;refine ss (ixs (hv.length-1)) ?_;refine ss (pF hx 0) ?_;refine g18 ?_;refine dP (λj=>?_) λj=>?_
  .refine g6 ?_;refine bC (t':=true) (by rw[o];rfl) ?_;refine g6 ?_;refine inc (x.B.A.length-1) ?_;refine g7 ?_;have hkl:(x.B.A.length-1)<=x.B.A.length:=l7
   refine ss (iY hT (k:=(x.B.A.length-1)) rfl rfl rfl rfl rfl rfl l7) ?_;refine hZ (v':= .slice x.B.I (x.B.A.take ((x.B.A.length-1))).length x.B.cap) ab9<|bB (cM ⟨x.B.I,x.B.cap,(x.B.A.take ((x.B.A.length-1)))⟩) (nJ e8 b hkl) ?_;refine j2 func32 (fI x.B.I ((x.B.A.take ((x.B.A.length-1))).length) x.B.cap) i6 λ_=>?_;refine g14 ?_;have hr:=l.symm.trans (itT_fold asd hx l7);subst hr;exact rs3 (⟨⟨x.B.I,x.B.cap,(x.B.A.take ((x.B.A.length-1)))⟩,false,⟨none,0,[]⟩⟩:TyV) ⟨(bS (x:=⟨⟨x.B.I,x.B.cap,(x.B.A.take ((x.B.A.length-1)))⟩,false,⟨none,0,[]⟩⟩) d7 bO),i7 rfl,i6⟩
  refine g13 ?_;have hr:=l.symm.trans (bJw ah1 hx l7);subst hr;exact rs3 (⟨x.B,x.known,x.values⟩:TyV) ⟨(bS (x:=⟨x.B,x.known,x.values⟩) e8 d9),i7 rfl,i6⟩
 refine g5 ?_;refine gN (λh=>?_) λh=>?_
 .refine bC (t':=true) asd ?_;refine bP ?_;have a:T=1:=g.symm.trans (rK aa9);subst a;obtain⟨x,hx⟩:=gx hv (hv.length-1);have d:=hW x (j0 hx);refine bB (tyF x) (Has.each d8 (j0 hx)) ?_;have n:=oF d;refine bB (cM x.B) (jR d7)<|cE x.B mT0 λb=>bB (cM x.values) (jS e6)<|cE x.values mT0 λf=>?_;refine g4 ?_;refine inc (hv.length-1) ?_;refine ss (ixs (hv.length-1)) ?_;refine ss (pF hx 0) ?_;refine g18 ?_;refine dP (λj=>?_) λj=>?_
  .refine g6 ?_;refine bC (t':=false) (by rw[h];rfl) ?_;refine g9 ?_;have hkl:x.B.A.length<=x.B.A.length:=l7
   refine ss (iY hT (k:=x.B.A.length) rfl rfl rfl rfl rfl rfl l7) ?_;refine hZ (v':= .slice x.B.I (x.B.A.take (x.B.A.length)).length x.B.cap) ab9<|bB (cM ⟨x.B.I,x.B.cap,(x.B.A.take (x.B.A.length))⟩) (nJ e8 b hkl) ?_;refine j2 func32 (fI x.B.I ((x.B.A.take (x.B.A.length)).length) x.B.cap) i6 λ_=>?_;refine g14 ?_;have hr:=l.symm.trans (itT_scan asd hx l7);subst hr;exact rs3 (⟨⟨x.B.I,x.B.cap,(x.B.A.take (x.B.A.length))⟩,false,⟨none,0,[]⟩⟩:TyV) ⟨(bS (x:=⟨⟨x.B.I,x.B.cap,(x.B.A.take (x.B.A.length))⟩,false,⟨none,0,[]⟩⟩) d7 bO),i7 rfl,i6⟩
  refine g13 ?_;have hr:=l.symm.trans (bJw ah1 hx l7);subst hr;exact rs3 (⟨x.B,x.known,x.values⟩:TyV) ⟨(bS (x:=⟨x.B,x.known,x.values⟩) e8 d9),i7 rfl,i6⟩
 refine g6 ?_;refine gN (λw=>?_) λw=>?_
 .refine bP ?_;have a:T=2:=g.symm.trans (vF aa9);subst a;obtain⟨x,hx⟩:=gx hv (hv.length-2);have d:=hW x (j0 hx);refine bB (tyF x) (Has.each d8 (j0 hx)) ?_;have n:=oF d;refine bB (cM x.B) (jR d7)<|cE x.B mT0 λb=>bB (cM x.values) (jS e6)<|cE x.values mT0 λf=>?_;obtain⟨u,hu⟩:=gx hv (hv.length-1);have m:=hW u (j0 hu);refine bB (tyF u) (Has.each f5 (j0 hu)) ?_;have D:=oF m;refine bB (cM u.B) (jR d7)<|cE u.B mT0 λq=>bB (cM u.values) (jS e6)<|cE u.values mT0 λp=>?_;refine cL _ _ [j9,u0,u5,u9,A00,u6,A02,A01,A03,A04,A08,A07,(false,12),A24,A61,A70,(false,16),A76] cN o0 (.c1 (.c1 (.c1 (.c1 .nil)))) bA.self ?_;refine g5 ?_;refine inc (hv.length-2) ?_;refine stM rfl (ixs (hv.length-2)) ?_;refine stM rfl (pF hx 0) ?_;refine g3 ?_;refine inc (hv.length-1) ?_;refine stM rfl (ixs (hv.length-1)) ?_;refine stM rfl (pF hu 0) ?_;refine one ?_;refine j2 func36 (dyT_spec it.fn x u d m) ⟨g0,e9,i6⟩ λI=>?_;refine bF d8 λhy=>?_;refine g22 ?_;have hr:=l.symm.trans (itT_dy asd hx hu l7);subst hr;exact rs3 (I:TyV) ⟨d7,i7 hy,i6⟩
 refine g4 ?_;have a:T=2:=g.symm.trans (vF aa9);subst a;obtain⟨x,hx⟩:=gx hv (hv.length-2);have d:=hW x (j0 hx);refine bB (tyF x) (Has.each d8 (j0 hx)) ?_;have n:=oF d;refine bB (cM x.B) (jR d7)<|cE x.B mT0 λb=>bB (cM x.values) (jS e6)<|cE x.values mT0 λf=>?_;obtain⟨u,hu⟩:=gx hv (hv.length-1);have m:=hW u (j0 hu);refine bB (tyF u) (Has.each f5 (j0 hu)) ?_;have D:=oF m;refine bB (cM u.B) (jR d7)<|cE u.B mT0 λq=>bB (cM u.values) (jS e6)<|cE u.values mT0 λp=>?_;refine cL _ _ [j9,u0,u5,u9,A00,u6,A02,A01,A03,A04,A08,A07,(false,12),(false,13),(false,14),(false,15)] cN o0 (.c1 (.c1 (.c1 (.c1 .nil)))) bA.self ?_;refine g3 ?_;refine inc (hv.length-2) ?_;refine stM rfl (ixs (hv.length-2)) ?_;refine one ?_;refine stM rfl (fG hx 0) ?_;refine g3 ?_;refine inc (hv.length-1) ?_;refine stM rfl (ixs (hv.length-1)) ?_;refine one ?_;refine stM rfl (fG hu 0) ?_;refine one ?_;refine sF (u:=x.B) (v:=u.B) rfl rfl rfl rfl rfl rfl λL=>?_;refine dO (E:=bCd) (xs:=[x.B,u.B]) .head aa1<|bR .head<|bB (Fact.each [x.B,u.B] cM) (Has.each_cons g0 (Has.each_cons e9 Has.each_nil)) ?_;refine g2 ?_;have C:=rZ (some ⟨L,0,none⟩) 2 [x.B,u.B] m9 ag7;rw[oB]at C;refine j2 func37 C ⟨d8,d7,i6⟩ λ⟨A10,c11⟩=>?_;refine fW .head λi=>bR .head<|bB (polsF (x.B.A++u.B.A)) (iE g0 e9) ?_;refine g2 ?_;refine j2 func32 (fI A10 ((x.B.A++u.B.A).length) c11) i6 λ_=>?_;refine g15 ?_;refine dP (λs=>?_) λs=>?_
 .refine g14 ?_;have hr:=l.symm.trans (itT_out (e:=90) asd asd asd asd asd asd hx hu l7 (by rw[if_pos (by simp only[F4]at*;omega)]));subst hr;exact rs3 (⟨⟨A10,c11,(x.B.A++u.B.A)⟩,false,⟨none,0,[]⟩⟩:TyV) ⟨(bS (x:=⟨⟨A10,c11,(x.B.A++u.B.A)⟩,false,⟨none,0,[]⟩⟩) (cB d8 d7 (i)) bO),i7 rfl,i6⟩
 refine g12 ?_;have hr:=l.symm.trans (itT_out (e:=0) asd asd asd asd asd asd hx hu l7 (by rw[if_neg (by simp only[F4]at*;omega)]));subst hr;exact rs3 (⟨⟨A10,c11,(x.B.A++u.B.A)⟩,false,⟨none,0,[]⟩⟩:TyV) ⟨(bS (x:=⟨⟨A10,c11,(x.B.A++u.B.A)⟩,false,⟨none,0,[]⟩⟩) (cB d8 d7 (i)) bO),i7 rfl,i6⟩
theorem chk_built(m:Nat):prog.built 68 [(0,.map (some m))]=some #[.map (some m)]:=m0
def VTAt (vars:List Bs)(i:Nat)(NV:NamesTV)(kv:KVS):Prop:=uT kv NV/\rN vars 0 []=rN (vars.drop i) i (lY NV)
theorem vtT_start(vars:List Bs):VTAt vars 0 [] []:=⟨nrT_start,rfl⟩
theorem vtT_step{vars:List Bs}{i:Nat}{NV:NamesTV}{kv:KVS}{s:Bs}{a:TyV}(h:VTAt vars i NV kv)(hs:vars[i]?=some s)(ha:a.t=bWm i):VTAt vars (i+1) ((s,a)::NV) (qB s (tyC a) kv):=by obtain⟨hi,e⟩:=F3.1 hs;refine⟨nrT_add h.1 s a,?_⟩;rw[h.2,K2 hi,e];show rN _ (i+1) ((s,bWm i)::_)=_;rw[<-ha];rfl
theorem vtT_end{vars:List Bs}{i:Nat}{NV:NamesTV}{kv:KVS}(h:VTAt vars i NV kv)(hi:vars.length<=i):rN vars 0 []=lY NV:=by rw[h.2,K3 hi];rfl
def ITAt (p:iL)(i:Nat)(NV:NamesTV)(kv:KVS):Prop:=uT kv NV/\sA p=bHt (dG p) (p.C.drop i) (lY NV)
theorem itT_start{p:iL}{i:Nat}{NV:NamesTV}{kv:KVS}(h:VTAt (dG p) i NV kv)(hi:(dG p).length<=i):ITAt p 0 NV kv:=⟨h.1,by
 unfold sA;rw[vtT_end h hi]
 rfl⟩
theorem itT_step{p:iL}{i:Nat}{NV:NamesTV}{kv:KVS}{x:hU}{a:TyV}(h:ITAt p i NV kv)(hx:p.C[i]?=some x)(ha:a.t=inT (dG p) x):ITAt p (i+1) ((nIn++x.name,a)::NV) (qB (nIn++x.name) (tyC a) kv):=by obtain⟨hi,e⟩:=F3.1 hx;refine⟨nrT_add h.1 _ a,?_⟩;rw[h.2,K2 hi,e];show bHt _ _ ((nIn++x.name,inT (dG p) x)::_)=_;rw[<-ha];rfl
theorem itT_end{p:iL}{i:Nat}{NV:NamesTV}{kv:KVS}(h:ITAt p i NV kv)(hi:p.C.length<=i):lY NV=sA p:=by rw[h.2,K3 hi];rfl
def SdAt (vars:List Bs)(l:List kP)(vs:List PolV)(j:Nat):Prop:=bN vs=(l.take j).map (λd=>bHb vars d.sd)
theorem bZq(vars:List Bs)(l:List kP):SdAt vars l [] 0:=rfl
theorem bKs{vars:List Bs}{l:List kP}{vs:List PolV}{j:Nat}{d:kP}{p:PolV}(h:SdAt vars l vs j)(hd:l[j]?=some d)(hp:p.A=bHb vars d.sd):SdAt vars l (vs++[p]) (j+1):=by obtain⟨hi,e⟩:=F3.1 hd;unfold SdAt at*;rw[V8 hi,e,L2,<-h,rI];show _++[p.A]=_++[_];rw[hp]
theorem sdT_len{vars:List Bs}{l:List kP}{vs:List PolV}{j:Nat}(h:SdAt vars l vs j)(hj:j<=l.length):vs.length=j:=by have:=congrArg Q8 h;rw[bI,O4,K6]at this;omega
theorem sdT_end{vars:List Bs}{x:InputV}{vs:List PolV}{j:Nat}{A:Option Addr}{c:Nat}(h:SdAt vars x.B.A vs j)(hj:x.B.A.length<=j):(⟨⟨A,c,vs⟩,false,⟨none,0,[]⟩⟩:TyV).t=inT vars x.inp:=by
 unfold SdAt at h;rw[F6 hj]at h;show(⟨bN vs,false,[]⟩:TyP)=_;rw[h];unfold inT
 congr 1
 show _=List.map _ (x.B.A.map kP.sd);rw[List.map_map];rfl
theorem newT_spec(P:ProgV)(hl1:P.C.A.length<=140737488355328)(hrt:(dU P.pr).2=true):cY prog 15 [.agg #[j8 P.C,j8 P.G]] [] [kG,jP.sl (j8 P.C) P.C.A,iW P.C.A] (λ(x:Nat×Nat×KVS×NamesTV)=> .pointer (some ⟨x.1,0,none⟩)) (λ(x:Nat×Nat×KVS×NamesTV)=>[chkO x.1 x.2.1,wK x.2.1 x.2.2.1]) (λ(x:Nat×Nat×KVS×NamesTV)=>[sP x.2.2.2,Fact.pure (uT x.2.2.1 x.2.2.2/\lY x.2.2.2=sA P.pr)]):=by
 have hT:=dK;refine j5 func15 ntmps15 ?_;intro β hM;refine g2 ?_;refine j4 λN=>?_;refine g5 ?_;refine bNk rfl rfl rfl rfl λs=>?_;refine ss (j3 (chk_built s)) ?_;refine j4 λI=>?_;refine g4 ?_;have hrt:(dU P.pr).2=true:=by assumption
 have g:=wS hrt;have hs: ∀x∈P.C.A,x.B.A.length<=4:=λx hx=>by have h1:=(g.input x.inp (bEq hx)).2.1;have h2:x.inp.B.length=x.B.A.length:=O4 _;omega
 have u:=bAt hrt;have hpl:P.pr.C.length=P.C.A.length:=O4 _;refine g2 ?_;refine j2 func13 (bWv P hl1 (λx hx=>B1 (hs x hx) m6) l7) ⟨d8,d9,i6⟩ λ⟨V,cv⟩=>?_;have G:(dG P.pr).length<=256:=B1 (vars_le P.pr) u;refine bB (sP []) (Has.each_nil) ?_;refine g12 ?_;refine cF (ι:=Nat×KVS×NamesTV) [(1,_),(3,_),(4,_),(22,_),(23,_)] ⟨rfl,rfl,rfl,rfl,rfl,i6⟩ (λ⟨i,kv,NV⟩=>[(24,.int .i64 (i:Nat))]) (λ⟨i,kv,NV⟩=>[wK s kv]) (λ⟨i,kv,NV⟩=>[Fact.pure (i<=(dG P.pr).length/\VTAt (dG P.pr) i NV kv),sP NV]) (λ⟨i,kv,NV⟩=>(dG P.pr).length-i) (0,[],[]) ⟨rfl,i6⟩ (.c1 .nil) ⟨i7 (⟨l7,vtT_start _⟩),d7,i6⟩ ?_;rintro⟨i,kv,NV⟩;dsimp only;refine bF d7 λf=>?_;refine g6 ?_;refine dP (λr=>?_) λr=>?_
 .refine g7 ?_;obtain⟨x4,l⟩:=gx (dG P.pr) i;refine ss (ixs i) ?_;refine ss (fG l 0) ?_;refine g7 ?_;refine j2 func29 (var_spec (((i:Nat):Int))) i6 λ⟨A6,c7⟩=>?_;refine g7 ?_;refine cL _ _ [j9,u0,u5,u9,A00,u6,A17,A75,A68] cN o0 (.c1 (.c1 .nil)) bA.self ?_;refine g7 ?_;refine j7 (m:=⟨A6,c7,(oC (((i:Nat):Int))).1⟩) λy=>?_;refine dO (E:=bT) (xs:=[(⟨A6,c7,(oC (((i:Nat):Int))).1⟩:PolV)]) .head aa1<|bR .head<|bB (polsF [(⟨A6,c7,(oC (((i:Nat):Int))).1⟩:PolV)]) (gP d8)<|bB (sP ((x4,(⟨⟨none,0,[]⟩,true,⟨(some ⟨y,0,none⟩),1,[(⟨A6,c7,(oC (((i:Nat):Int))).1⟩:PolV)]⟩⟩:TyV))::NV)) (Has.each_cons (bS bO (cB d8 d7 (B0 1))) e7) ?_;refine g2 ?_;refine j2 func30 (kV none (some ⟨y,0,none⟩) (0) (1) 0 1) i6 λ_=>?_;refine g2 ?_;refine pZ .head rfl (.inl rfl) rfl mapT underlying9 rfl rfl rfl ?_;refine g6 ?_;refine inc (i+1) ?_;refine g3 ?_;exact bk2 (i+1,_,(x4,(⟨⟨none,0,[]⟩,true,⟨(some ⟨y,0,none⟩),1,[(⟨A6,c7,(oC (((i:Nat):Int))).1⟩:PolV)]⟩⟩:TyV))::NV) ⟨i7 (⟨by dsimp only;omega,vtT_step f.2 l rfl⟩),d7,i6⟩
 refine g15 ?_;refine cF (ι:=Nat×KVS×NamesTV) [(3,_),(4,_),(44,_),(45,_)] ⟨rfl,rfl,rfl,rfl,i6⟩ (λ⟨i,kv,NV⟩=>[(46,.int .i64 (i:Nat))]) (λ⟨i,kv,NV⟩=>[wK s kv]) (λ⟨i,kv,NV⟩=>[Fact.pure (i<=P.C.A.length/\ITAt P.pr i NV kv),sP NV]) (λ⟨i,kv,NV⟩=>P.C.A.length-i) (0,kv,NV) ⟨rfl,i6⟩ (.c0 .nil) ⟨i7 (⟨l7,itT_start f.2 l7⟩),d8,i6⟩ ?_;rintro⟨i,kv,NV⟩;dsimp only;refine bF d7 λhinv10=>?_;refine g6 ?_;refine dP (λq=>?_) λq=>?_
 .refine g6 ?_;obtain⟨d,c⟩:=gx P.C.A i;refine ss (ixs i) ?_;refine ss (pF c 0) ?_;refine j1 mN λM=>?_;refine g10 ?_;have hx0:P.pr.C[i]?=some d.inp:=mP c;have D:=hs d (j0 c);refine bB (nS d) (Has.each f6 (j0 c)) ?_;have k:=(g.input d.inp (bEq (j0 c))).1;have B:d.B.A.length<=4:=hs d (j0 c);have k:d.name.length<=16:=k;refine g8 ?_;refine bQ (t:=40) bT<|bB (polsF []) (Has.each_nil) ?_;refine cF (ι:=Nat×List PolV×Option Addr×Nat) [(3,_),(4,_),(10,_),(44,_),(45,_),(46,_),(51,_),(52,_)] ⟨rfl,rfl,rfl,rfl,rfl,rfl,rfl,rfl,i6⟩ (λ⟨j,vs,V2,cv2⟩=>[(11,.slice V2 vs.length cv2),(53,.int .i64 (j:Nat))]) (λ⟨j,vs,V2,cv2⟩=>[bT.row (.slice V2 vs.length cv2) 40 vs]) (λ⟨j,vs,V2,cv2⟩=>[Fact.pure (j<=d.B.A.length/\SdAt (dG P.pr) d.B.A vs j),polsF vs]) (λ⟨j,vs,V2,cv2⟩=>d.B.A.length-j) (0,[],none,0) ⟨rfl,rfl,i6⟩ (.c0 .nil) ⟨i7 (⟨l7,bZq _ _⟩),d7,i6⟩ ?_;rintro⟨j,vs,V2,cv2⟩;dsimp only;refine bF d7 λa=>?_;have C:=sdT_len a.2 a.1;refine g6 ?_;refine dP (λp=>?_) λp=>?_
  .refine g6 ?_;obtain⟨b,e⟩:=gx d.B.A j;refine ss (ixs j) ?_;refine ss (pF e 0) ?_;refine j1 zE λL=>?_;refine g8 ?_;refine bD func14 (bBz _ _ _ l7 b.name) rfl rfl .nil ⟨f6,i6⟩ λ_=>?_;refine g9 ?_;refine bLv (λo=>?_) λo=>?_
   .refine g3 ?_;refine j2 func29 (var_spec ((idxOf b.name (dG P.pr) 0))) i6 λ⟨A15,c16⟩=>?_;refine g10 ?_;refine j7 (m:=⟨A15,c16,(oC ((idxOf b.name (dG P.pr) 0))).1⟩) λK=>?_;refine bB (polsF (vs++[(⟨A15,c16,(oC ((idxOf b.name (dG P.pr) 0))).1⟩:PolV)])) (Has.each_snoc d9 d7) ?_;refine cU kT2 (bU .head rfl) rfl rfl rfl rfl rfl rfl rfl q9 λA w=>?_;refine g6 ?_;refine inc (j+1) ?_;refine g3 ?_;exact bk2 (j+1,vs++[(⟨A15,c16,(oC ((idxOf b.name (dG P.pr) 0))).1⟩:PolV)],A,w) ⟨i7 (⟨by dsimp only;omega,bKs a.2 e ((if_pos ‹_›).symm)⟩),d7,i6⟩
   refine g4 ?_;refine j2 func31 (lO (b.n)) i6 λ⟨A20,c21⟩=>?_;refine j7 (m:=⟨A20,c21,bZ (b.n)⟩) λJ=>?_;refine bB (polsF (vs++[(⟨A20,c21,bZ (b.n)⟩:PolV)])) (Has.each_snoc d9 d7) ?_;refine cU kT2 (bU .head rfl) rfl rfl rfl rfl rfl rfl rfl q9 λz v=>?_;refine g6 ?_;refine inc (j+1) ?_;refine g3 ?_;exact bk2 (j+1,vs++[(⟨A20,c21,bZ (b.n)⟩:PolV)],z,v) ⟨i7 (⟨by dsimp only;omega,bKs a.2 e ((if_neg (show ¬(0:Int)<=idxOf b.name (dG P.pr) 0 by omega)).symm)⟩),d7,i6⟩
  refine g5 ?_;refine fW .head λh=>bR .head<|bB (sP ((nIn++d.name,(⟨⟨V2,cv2,vs⟩,false,⟨none,0,[]⟩⟩:TyV))::NV)) (Has.each_cons (bS (cB d7 d9 h) bO) e9) ?_;refine cL _ _ [j9,u0,u5,u9,A00,u6,A02,A01,A68,(false,9)] cN o0 (.c0 (.c1 (.c1 .nil))) bA.self ?_;refine g6 ?_;refine stM rfl (dJ rfl rfl rfl q9) ?_;refine g2 ?_;refine j2 func32 (fI V2 (vs.length) cv2) i6 λ_=>?_;refine g2 ?_;refine pZ kT1 rfl (.inl rfl) rfl mapT underlying9 rfl rfl rfl ?_;refine g6 ?_;refine inc (i+1) ?_;refine g3 ?_;exact bk2 (i+1,_,(nIn++d.name,(⟨⟨V2,cv2,vs⟩,false,⟨none,0,[]⟩⟩:TyV))::NV) ⟨i7 (⟨by dsimp only;omega,itT_step hinv10.2 hx0 (sdT_end a.2 l7)⟩),d7,i6⟩
 refine g12 ?_;exact rs1 (I,s,kv,NV) ⟨d8,i7 ⟨hinv10.2.1,itT_end hinv10.2 (by rw[hpl];omega)⟩,i6⟩
theorem qT(n:Int):dE (bZ n)=true:=wM n
theorem zipT_len{op:pQ}: ∀{X Y l:List Pol},xH op X Y=some l->l.length=X.length
 |[],_,l,h=>by cases h;rfl
 |_::_,[],_,h=>by cases h
 |p::x,q::y,l,h=>by
  unfold xH at h;split at h
  .cases h
  .cases e:xH op x y with
   |none=>rw[e]at h;cases h
   |some k=>
    rw[e]at h;cases h;simp[zipT_len e]
theorem zipT_all{op:pQ}{g:Pol->Prop}(ho: ∀p q,g (op p q).1): ∀{X Y l:List Pol},xH op X Y=some l-> ∀v∈l,g v
 |[],_,l,h=>by cases h;intro v hv;cases hv
 |_::_,[],_,h=>by cases h
 |p::x,q::y,l,h=>by
  unfold xH at h;split at h
  .cases h
  .cases e:xH op x y with
   |none=>rw[e]at h;cases h
   |some k=>
    rw[e]at h;cases h;intro v hv
    rcases E2.1 hv with rfl|hv
    .exact ho p q
    .exact zipT_all ho e v hv
def bKc (op:pQ):Prop:= ∀p q,dE (op p q).1=true
theorem addR:bKc addO:=λp q=>oN p q 1
theorem subR:bKc zJ:=λp q=>oN p q (-1)
theorem mulR:bKc mF:=λp q=>bEu p q
theorem opR{f:Int}{op:pQ}(h:rS f=some op):bKc op:=by
 unfold rS at h;split at h
 .cases h;exact addR
 .split at h
  .cases h;exact subR
  .split at h
   .cases h;exact mulR
   .cases h
theorem repT_len(x:List Pol)(n:Nat)(h:x.length=1):(repT x n).length=n:=by unfold repT;rw[List.length_flatten];simp[h]
theorem leftT_len{a b:TyP}(ha:WfT a)(h1:a.known=true):(tR a b).length=if a.B=[]/\b.B≠[]then b.values.length else a.values.length:=by
 unfold tR;split
 .rename_i h;exact repT_len _ _ (bEm ha h1 h.1)
 .rfl
theorem eachT_wf{op:Option pQ}{a b:TyP}(ho: ∀o,op=some o->bKc o)(ha:WfT a):
  (∀v∈(lK op a b).1,dE v=true)/\((lK op a b).2=true->a.known=true/\b.known=true/\(lK op a b).1.length=if a.B=[]/\b.B≠[]then b.values.length else a.values.length)/\((lK op a b).2=false->(lK op a b).1=[]):=by
 cases op with
 |none=>exact⟨λv h=>(by cases h),λh=>(by cases h),λ_=>rfl⟩
 |some o=>
  by_cases c:a.known=false\/b.known=false
  .rw[bEh c];exact⟨λv h=>(by cases h),λh=>(by cases h),λ_=>rfl⟩
  .have h1:a.known=true:=by cases h:a.known;exact absurd (.inl h) c;rfl
   have h2:b.known=true:=by cases h:b.known;exact absurd (.inr h) c;rfl
   cases e:xH o (tR a b) (qV a b)with
   |none=>
    rw[sT e h1 h2];exact⟨λv h=>(by cases h),λh=>(by cases h),λ_=>rfl⟩
   |some l=>
    rw[sU e h1 h2];exact⟨zipT_all (g:=λv=>dE v=true) (ho o rfl) e,λ_=>⟨h1,h2,by rw[zipT_len e,leftT_len ha h1]⟩,λh=>(by cases h)⟩
theorem oX{S:List Pol}(h:S.length<=4)(k: ∀s∈S,dE s=true):WfT ⟨S,false,[]⟩:=⟨h,k,λ_ h=>(by cases h),λh=>(by cases h),λ_=>rfl⟩
theorem literal_wf{nums:List Int}(h:nums≠[]):WfT (gK nums):=by
 have hs:(if 1<nums.length then [bZ nums.length]else ([]:List Pol)).length<=4/\ ∀s∈(if 1<nums.length then [bZ nums.length]else ([]:List Pol)),dE s=true:=by
  split
  .exact⟨m9,λs hs=>by rw[K7.1 hs];exact qT _⟩
  .exact⟨m9,λs hs=>(by cases hs)⟩
 unfold gK;split
 .exact oX hs.1 hs.2
 .rename_i hn;rw[not_or]at hn;refine⟨hs.1,hs.2,λv hv=>?_,λ_=>⟨by simp;omega,?_⟩,λh=>(by cases h)⟩
  .obtain⟨n,_,rfl⟩:=R2.1 hv;exact qT n
  .show(if _ then _ else _)=_/\_\/(if _ then _ else _)=_;rw[O4];split
   .exact .inr rfl
   .refine .inl ⟨rfl,?_⟩
    cases nums with
    |nil=>exact absurd rfl h
    |cons a l=>simp at*;omega
theorem mul1: ∀k:Fin 5,mF (bZ 1) (bZ (k.1:Nat))=(bZ (k.1:Nat),0):=by decide+kernel
theorem add_num: ∀j k:Fin 5,(cD (bZ (j.1:Nat)) (bZ (k.1:Nat)) 1).1=bZ ((j.1+k.1:Nat):Int):=by decide+kernel
theorem sub_num: ∀j k:Fin 5,k.1<=j.1->(cD (bZ (j.1:Nat)) (bZ (k.1:Nat)) (-1)).1=bZ ((j.1-k.1:Nat):Int):=by decide+kernel
theorem bNf: ∀{S:List Pol} {p q:Pol},dE p=true->rC p S=some q->dE q=true
 |[],p,q,hp,h=>by cases h;exact hp
 |s::r,p,q,hp,h=>by
  unfold rC at h;split at h
  .cases h
  .exact bNf (bEu p s) h
theorem wf_head{a:TyP}(h:WfT a)(k:a.known=true)(hs:a.B=[]):dE (a.values.headD [])=true:=by
 have:=bEm h k hs
 match hv:a.values,this with
 |[v],_=>exact h.vr v (by rw[hv];exact K7.2 rfl)
theorem negW:WfT ⟨[],true,[[]]⟩:=⟨m9,λ_ h=>(by cases h),λv h=>by rw[K7.1 h];rfl,λ_=>⟨m9,.inl ⟨rfl,rfl⟩⟩,λh=>(by cases h)⟩
theorem monad_wf{f:Int}{a:TyP}(ha:WfT a):WfT (gZ f a).1:=by
 unfold gZ;split
 .split
  .exact ha
  .rename_i hs;split
   .exact ha
   .rename_i i;split
    .exact ha
    .exact oX m9 (λs h=>by rw[K7.1 h];exact wf_head ha (by simpa using i) (by simpa using hs))
 .split
  .refine⟨m9,λs h=>?_,ha.sr,λ_=>⟨ha.len,.inr rfl⟩,λh=>(by cases h)⟩;rw[K7.1 h];exact qT _
  .split
   .split
    .exact ha
    .rename_i p c;refine⟨m9,λs h=>?_,ha.vr,λk=>⟨(ha.kn k).1,.inr ?_⟩,ha.un⟩
     .rw[K7.1 h];exact bNf (qT 1) c
     .have n:=(ha.kn k).1
      rcases (ha.kn k).2 with h|h
      .rw[h.1]at c;cases c;show [bZ 1]=[bZ _];rw[h.2];rfl
      .rw[h]at c;have d:=mul1 ⟨a.values.length,l7⟩;unfold rC at c;dsimp only at d;rw[d]at c;cases c;rfl
   .split
    .dsimp only;split
     .refine⟨ha.len,ha.sr,λv h=>ha.vr v (Y6.1 h),λk=>?_,λk=>by show a.values.reverse=[];rw[ha.un k];rfl⟩;show a.values.reverse.length<=4/\(a.B=[]/\a.values.reverse.length=1\/a.B=[bZ a.values.reverse.length]);rw[O8];exact ha.kn k
     .exact ha
    .split
     .refine⟨by show a.B.reverse.length<=4;rw[O8];exact ha.len,λs h=>ha.sr s (Y6.1 h),ha.vr,λk=>⟨(ha.kn k).1,?_⟩,ha.un⟩
      rcases (ha.kn k).2 with h|h
      .exact .inl ⟨by show a.B.reverse=[];rw[h.1];rfl,h.2⟩
      .exact .inr (by show a.B.reverse=_;rw[h];rfl)
     .split
      .exact ha
      .split
       .obtain⟨m,l,j⟩:=eachT_wf (op:=some zJ) (b:=a) (λo h=>by cases h;exact subR) negW;refine⟨ha.len,ha.sr,m,λk=>?_,j⟩;obtain⟨_,g,e⟩:=l k;show(lK (some zJ) ⟨[],true,[[]]⟩ a).1.length<=4/\(a.B=[]/\(lK (some zJ) ⟨[],true,[[]]⟩ a).1.length=1\/a.B=[bZ (lK (some zJ) ⟨[],true,[[]]⟩ a).1.length]);rw[e];split
        .exact⟨tP ha,(ha.kn g).2⟩
        .rename_i hs;refine⟨m9,.inl ⟨?_,rfl⟩⟩
         simpa using hs
       .exact oX ha.len ha.sr
theorem rho_wf{a b:TyP}(ha:WfT a):WfT (xP a b).1:=by
 unfold xP;split
 .exact ha
 .split
  .exact ha
  .split
   .exact ha
   .split
    .exact ha
    .exact oX (tP ha) ha.vr
theorem cut_all{tk:Bool}{n:Int}{l:List Pol}{g:Pol->Prop}(h: ∀v∈l,g v): ∀v∈xF tk n l,g v:=by
 unfold xF;split
 .exact λv hv=>h v (Y4 hv)
 .exact λv hv=>h v (O3 hv)
theorem cut_len{tk:Bool}{n:Int}{l:List Pol}(h:max n (-n)<=l.length):(xF tk n l).length=if tk=true then (max n (-n)).toNat else l.length-(max n (-n)).toNat:=by
 unfold xF;cases tk
 .rw[if_neg (show ¬(false=true) by decide)]
  by_cases hn:(0:Int)<=n
  .rw[decide_eq_true hn,if_neg m6,N9,if_neg l7];omega
  .rw[decide_eq_false hn,if_pos rfl,K6,if_pos l7];omega
 .rw[if_pos (show true=true from rfl)]
  by_cases hn:(0:Int)<=n
  .rw[decide_eq_true hn,if_pos rfl,K6,if_neg l7];omega
  .rw[decide_eq_false hn,if_neg m6,N9,if_pos l7];omega
theorem yG{S:List Pol}{s:Pol}(h:s∈S.tail):s∈S:=Y7 h
theorem part_wf{tk:Bool}{a b:TyP}(ha:WfT a)(hb:WfT b):WfT (lT tk a b).1:=by
 unfold lT;split
 .exact ha
 .rename_i hs;rw[not_or]at hs;split
  .exact ha
  .split
   .exact ha
   .rename_i n hn;split
    .exact ha
    .rename_i g;have g:fO (b.B.headD []) (max n (-n))=true:=by simpa using g
     have c: ∀p:Pol,(p::b.B.tail).length<=4:=λp=>by
      have:=hb.len;have h0:b.B≠[]:=hs.2
      cases e:b.B with
      |nil=>exact absurd e h0
      |cons s l=>rw[e]at this;exact this
     have i:b.known=true->b.B=[bZ b.values.length]/\max n (-n)<=b.values.length/\b.values.length<=4:=λk=>by
      rcases (hb.kn k).2 with h|h
      .exact absurd h.1 hs.2
      .rw[h]at g;exact⟨h,bVu g,(hb.kn k).1⟩
     have f:b.known=false->(if b.known=true then xF tk n b.values else b.values)=[]:=λk=>by rw[k];exact hb.un k
     have d: ∀v∈(if b.known=true then xF tk n b.values else b.values),dE v=true:=by
      split
      .exact cut_all hb.vr
      .exact hb.vr
     split
     .rename_i ht;subst ht;refine⟨c _,λs h=>?_,d,λk=>?_,f⟩
      .rcases E2.1 h with rfl|h
       .exact qT _
       .exact hb.sr s (yG h)
      .have k:b.known=true:=k;obtain⟨h1,h2,j⟩:=i k;show(if b.known=true then xF true n b.values else b.values).length<=4/\(_\/bZ (max n (-n))::b.B.tail=[bZ (if b.known=true then xF true n b.values else b.values).length]);rw[if_pos k,cut_len h2,if_pos rfl,h1];refine⟨l7,.inr ?_⟩;rw[show(((max n (-n)).toNat:Nat):Int)=max n (-n) by omega];rfl
     .rename_i ht;have ht:tk=false:=by simpa using ht
      subst ht;split
      .exact ha
      .refine⟨c _,λs h=>?_,d,λk=>?_,f⟩
       .rcases E2.1 h with rfl|h
        .exact oN _ _ _
        .exact hb.sr s (yG h)
       .have k:b.known=true:=k;obtain⟨h1,h2,j⟩:=i k;show(if b.known=true then xF false n b.values else b.values).length<=4/\(_\/(cD (b.B.headD []) (bZ (max n (-n))) (-1)).1::b.B.tail=[bZ (if b.known=true then xF false n b.values else b.values).length]);rw[if_pos k,cut_len h2,if_neg m6,h1];refine⟨l7,.inr ?_⟩;have hx:=sub_num ⟨b.values.length,l7⟩ ⟨(max n (-n)).toNat,l7⟩ (by show(max n (-n)).toNat<=b.values.length;omega);dsimp only at hx;rw[show(((max n (-n)).toNat:Nat):Int)=max n (-n) by omega]at hx;show(cD (bZ b.values.length) _ _).1::[]=_;rw[hx]
theorem oneT_num{a:TyP}(ha:WfT a)(k:a.known=true):dT a.B=[bZ a.values.length]:=by
 unfold dT
 rcases (ha.kn k).2 with h|h
 .rw[if_pos h.1,h.2];rfl
 .rw[h,if_neg m9]
theorem oneT_right{a:TyP}(ha:WfT a): ∀s∈dT a.B,dE s=true:=by
 unfold dT;split
 .exact λs h=>by rw[K7.1 h];exact qT _
 .exact ha.sr
theorem oneT_len{a:TyP}(ha:WfT a)(p:Pol):(p::(dT a.B).tail).length<=4:=by
 unfold dT;split
 .simp
 .rename_i h0;have:=ha.len
  cases e:a.B with
  |nil=>exact absurd e h0
  |cons s l=>rw[e]at this;exact this
theorem cat_wf{a b:TyP}(ha:WfT a)(hb:WfT b):WfT (xZ a b).1:=by
 unfold xZ;split
 .exact ha
 .split
  .exact ha
  .have c: ∀s∈(cD ((dT a.B).headD []) ((dT b.B).headD []) 1).1::(dT b.B).tail,dE s=true:=λs h=>by
    rcases E2.1 h with rfl|h
    .exact oN _ _ _
    .exact oneT_right hb s (yG h)
   split
   .rename_i d;refine⟨oneT_len hb _,c,λv h=>?_,λ_=>⟨?_,.inr ?_⟩,λh=>(by cases h)⟩
    .rcases E3.1 h with h|h
     .exact ha.vr v h
     .exact hb.vr v h
    .show(a.values++b.values).length<=4;rw[F4];exact d.2.2
    .show(cD ((dT a.B).headD []) ((dT b.B).headD []) 1).1::(dT b.B).tail=[bZ (a.values++b.values).length];rw[oneT_num ha d.1,oneT_num hb d.2.1,F4];have hx:=add_num ⟨a.values.length,l7⟩ ⟨b.values.length,l7⟩;dsimp only at hx;show(cD (bZ a.values.length) (bZ b.values.length) 1).1::[]=_;rw[hx]
   .exact oX (oneT_len hb _) c
theorem dyad_wf{f:Int}{a b:TyP}(ha:WfT a)(hb:WfT b):WfT (oQ f a b).1:=by
 unfold oQ;split
 .exact rho_wf ha
 .split
  .exact part_wf ha hb
  .split
   .exact part_wf ha hb
   .split
    .exact cat_wf ha hb
    .split
     .exact oX ha.len ha.sr
     .obtain⟨m,l,j⟩:=eachT_wf (op:=rS f) (b:=b) (λo h=>opR h) ha
      by_cases hs:a.B=[]
      .rw[if_pos hs];refine⟨hb.len,hb.sr,m,λk=>?_,j⟩;obtain⟨d,i,c⟩:=l k;show(lK (rS f) a b).1.length<=4/\(b.B=[]/\(lK (rS f) a b).1.length=1\/b.B=[bZ (lK (rS f) a b).1.length]);rw[c];split
       .exact⟨tP hb,(hb.kn i).2⟩
       .rename_i h
        have g:b.B=[]:=by
         by_cases e:b.B=[]
         .exact e
         .exact absurd ⟨hs,e⟩ h
        exact⟨tP ha,.inl ⟨g,bEm ha d hs⟩⟩
      .rw[if_neg hs];refine⟨ha.len,ha.sr,m,λk=>?_,j⟩;obtain⟨d,i,c⟩:=l k;show(lK (rS f) a b).1.length<=4/\(a.B=[]/\(lK (rS f) a b).1.length=1\/a.B=[bZ (lK (rS f) a b).1.length]);rw[c,if_neg (λh=>hs h.1)];exact⟨tP ha,(ha.kn d).2⟩
theorem bMn{k:Bs}{t:TyP}: ∀{N:gD},kH k N=some t-> ∃p∈N,p.2=t
 |[],h=>by cases h
 |p::r,h=>by
  rw[kH]at h;split at h
  .injection h with h
   exact⟨p,E8 ..,h⟩
  .obtain⟨q,hq,e⟩:=bMn h;exact⟨q,E4 _ hq,e⟩
def pX (N:gD):Prop:= ∀q∈N,WfT q.2
theorem look_wf{N:gD}(h:pX N){k:Bs}{t:TyP}(e:kH k N=some t):WfT t:=by obtain⟨p,a,rfl⟩:=bMn e;exact h p a
theorem name_wf{N:gD}(h:pX N){s:Bs}{t:TyP}(e:nameT N s=some t):WfT t:=by
 unfold nameT at e;split at e
 .rename_i h1;cases e;exact look_wf h h1
 .split at e
  .rename_i h1;cases e;exact look_wf h h1
  .exact look_wf h e
theorem none_wf:WfT ⟨[],false,[]⟩:=oX m9 (λs h=>(by cases h))
theorem headW{st:List TyP}(h: ∀t∈st,WfT t)(k:1<=st.length):WfT (st.headD default):=by
 match st,k with
 |a::l,_=>exact h a (E8 ..)
theorem secondW{st:List TyP}(h: ∀t∈st,WfT t)(k:2<=st.length):WfT (st.tail.headD default):=by
 match st,k with
 |a::b::l,_=>exact h b (E4 _ (E8 ..))
theorem item_wf{N:gD}(hN:pX N){it:fF}{st:List TyP}(hs: ∀t∈st,WfT t)(hd:fL it<=st.length)(hnum:it.H=1->it.nums≠[])(h17:1<=it.H/\it.H<=7)(h0:(iO N it st).2=0):WfT (iO N it st).1:=by
 have h1:it.H=3\/it.H=5\/it.H=6->1<=st.length:=λh=>by rw[rK h]at hd;exact hd
 have h2:it.H=4\/it.H=7->2<=st.length:=λh=>by rw[vF h]at hd;exact hd
 unfold iO at h0⊢;split
 .exact literal_wf (hnum ‹_›)
 .split
  .split
   .rename_i e;exact name_wf hN e
   .exact none_wf
  .split
   .exact monad_wf (headW hs (h1 l7))
   .split
    .have a:=headW hs (h1 l7);dsimp only;split
     .exact a
     .exact oX (by rw[K6];have:=a.len;omega) (λs h=>a.sr s (Y4 h))
    .split
     .have a:=headW hs (h1 l7);dsimp only;split
      .exact a
      .exact oX a.len a.sr
     .split
      .exact dyad_wf (secondW hs (h2 l7)) (headW hs (h2 l7 |>Z9))
      .rename_i i g f c b d;rw[if_neg i,if_neg g,if_neg f,if_neg c,if_neg b,if_neg d]at h0;have hx:=secondW hs (h2 l7);have hu:=headW hs (h2 l7 |>Z9);refine oX ?_ (λs h=>?_)
       .rw[F4];dsimp only at h0;split at h0
        .cases h0
        .omega
       .rcases E3.1 h with h|h
        .exact hx.sr s h
        .exact hu.sr s h
theorem varT_wf(k:Nat):WfT (bWm k):=⟨by simp[bWm],λs h=>(by cases h),λv h=>by rw[K7.1 h];exact yL _,λ_=>⟨by simp[bWm],.inl ⟨rfl,rfl⟩⟩,λh=>(by cases h)⟩
theorem varsT_wf: ∀{vars:List Bs} {k:Nat} {N:gD},pX N->pX (rN vars k N)
 |[],_,_,h=>h
 |s::r,k,N,h=>by
  show pX (rN r (k+1) ((s,bWm k)::N));refine varsT_wf (λq hq=>?_)
  rcases E2.1 hq with rfl|hq
  .exact varT_wf k
  .exact h q hq
theorem insT_wf{vars:List Bs}: ∀{l:List hU} {N:gD},(∀x∈l,x.B.length<=4)->pX N->pX (bHt vars l N)
 |[],_,_,h=>h
 |x::r,N,hl,h=>by
  show pX (bHt vars r ((nIn++x.name,inT vars x)::N));refine insT_wf (λy hy=>hl y (E4 _ hy)) (λq hq=>?_)
  rcases E2.1 hq with rfl|hq
  .refine oX ?_ (λs hs=>?_)
   .rw[O4];exact hl x (E8 ..)
   .obtain⟨d,_,rfl⟩:=R2.1 hs;unfold bHb;split
    .exact yL _
    .exact qT _
  .exact h q hq
theorem bRn{p:iL}(h:(dU p).2=true):pX (sA p):=
 insT_wf (λx hx=>((wS h).input x hx).2.1) (varsT_wf (λq hq=>(by cases hq)))
end
section
open Go.RowKit Go.Sort Go.Proofs.Tryz
def GrP (p:List Mono):Prop:=dE p=true/\ ∀m∈p,0<=m.n
theorem uN{p:List Mono}:gL p=true↔GrP p:=by unfold GrP gL;rw[J3,Bool.not_eq_true'];refine and_congr_right λ_=>?_;rw[Y8];unfold xM;simp
theorem bCl{f:Mono->Int}: ∀{l:List Mono},(∀m∈l,0<=f m)->0<=fV f l
 |[],_=>by simp[fV]
 |m::l,h=>by have h1:=h m (E8 ..);have h2:=bCl λx hx=>h x (E4 m hx);simp only[fV];omega
theorem bXo{f:Mono->Int}{x:Mono}: ∀{l:List Mono},(∀m∈l,0<=f m)->x∈l->f x<=fV f l
 |[],_,h=>by cases h
 |m::l,h,hx=>by
  have h1:=h m (E8 ..);have a:=λx hx=>h x (E4 m hx);simp only[fV]
  rcases E2.1 hx with rfl|hx
  .have:=bCl a;omega
  .have:=bXo a hx;omega
theorem ind_nn(k:Nat)(m:Mono):0<=ind k m:=by unfold ind;split<;>omega
section
variable {p q s : List Mono}
theorem mul_linG{F:Mono->Int}(hF:yE F)(hs:mF p q=(s,0)):lin F s=fV (λa=>fV (λb=>a.n*b.n*F (mulM a b)) q) p:=by obtain⟨g,hq,c,_⟩:=mul_ok hs;obtain⟨_,f,i⟩:=vG g;obtain⟨_,e,d⟩:=vG hq;rw[c,cAl,bKt hF e d (N:=0) l7 l7 f (λ_ h=>by simp at h)];simp only[lin,fV,Int.zero_add]
theorem mul_grP(hp:GrP p)(hq:GrP q)(hs:mF p q=(s,0)):GrP s:=by obtain⟨_,_,_,hr⟩:=mul_ok hs;refine⟨hr,λm c=>?_⟩;rw[<-bEx (bCv hr) c,mul_linG (bKw _) hs];exact bCl λa e=>bCl λb d=>aC (aC (hp.2 a e) (hq.2 b d)) (ind_nn _ _)
theorem xQ{F:Mono->Int}(hF:yE F){c:Int}(hc:c=1\/c= -1){g:Mono->Int}: ∀{p L:List Mono} {N:Int},0<=N->N+16777216*p.length<9223372036854775808->(∀m∈p,mH m=true/\g m=c*m.n)->Bnd N L->lin F (jD g L p)=lin F L+c*lin F p/\Bnd (N+16777216*p.length) (jD g L p)
 |[],L,N,_,_,_,h=>by
  refine⟨by simp[jD,lin,fV],?_⟩
  simpa[jD]using h
 |m::p,L,N,hN,hl,hp,h=>by
  rw[F5]at hl⊢;obtain⟨h1,h2⟩:=hp m (E8 ..);have f:=bPq h1;obtain⟨e,d⟩:=bOm hF (V:=16777216) hN l7 l7 m (v:=c*m.n) (by rcases hc with rfl|rfl<;>omega) h;obtain⟨b,a⟩:=xQ hF hc (g:=g) (p:=p) l7 l7 (λx hx=>hp x (E4 _ hx)) d;rw[jD,h2];refine⟨?_,?_⟩
  .rw[b,e,mL,Int.mul_add,Int.mul_assoc];omega
  .rw[show N+16777216*((p.length+1:Nat):Int)=N+16777216+16777216*p.length by omega];exact a
theorem bZo{F:Mono->Int}(hF:yE F){c:Int}(hc:c=1\/c= -1)(hs:cD p q c=(s,0)):lin F s=lin F p+c*lin F q:=by
 obtain⟨f,hq,d,_⟩:=both_ok hs;obtain⟨_,e,o⟩:=vG f;obtain⟨_,b,l⟩:=vG hq;rw[d,cAl];unfold bOh;obtain⟨k,j⟩:=xQ hF (.inl rfl) (g:=Mono.n) (p:=p) (L:=[]) (N:=0) l7 l7 (λm a=>⟨e m a,(Int.one_mul _).symm⟩) (λ_ h=>by simp at h)
 obtain⟨i,_⟩:=xQ hF hc (g:=λm=>wrap64 (c*m.n)) (p:=q) l7 l7 (λm a=>⟨b m a,by
  have:=bPq (b m a);show wrap64 (c*m.n)=c*m.n;unfold wrap64
  rcases hc with rfl|rfl<;>omega⟩) j
 rw[i,k];simp only[lin,fV,Int.zero_add,Int.one_mul]
theorem bGg{k:Nat}(hp:GrP p):0<=lin (ind k) p:=bCl λa b=>aC (hp.2 a b) (ind_nn _ _)
theorem add_grP(hp:GrP p)(hq:GrP q)(hs:cD p q 1=(s,0)):GrP s:=by obtain⟨_,_,_,hr⟩:=both_ok hs;refine⟨hr,λm a=>?_⟩;rw[<-bEx (bCv hr) a,bZo (bKw _) (.inl rfl) hs];have h1:=bGg (k:=m.key) hp;have h2:=bGg (k:=m.key) hq;omega
theorem numT_is(n:Int):bZ n=[]\/bZ n=[bAp n]:=by
 unfold bZ gU;split
 .exact .inl rfl
 .split
  .exact .inl rfl
  .exact .inr rfl
theorem numT_grP{n:Int}(h:0<=n):GrP (bZ n):=by
 refine⟨wM n,λm a=>?_⟩
 rcases numT_is n with e|e<;>rw[e]at a
 .cases a
 .rw[K7.1 a];exact h
theorem sub_grP{n:Int}(hn:0<=n)(hp:fO p n=true)(hs:cD p (bZ n) (-1)=(s,0)):GrP s:=by
 obtain⟨_,_,_,hr⟩:=both_ok hs
 have hg:GrP p:=by unfold fO at hp;rw[J3]at hp;exact uN.1 hp.1
 refine⟨hr,λm j=>?_⟩;rw[<-bEx (bCv hr) j,bZo (bKw _) (.inr rfl) hs];have h1:=bGg (k:=m.key) hg
 rcases numT_is n with e|e<;>rw[e]
 .simp only[lin,fV]at h1⊢;omega
 .have r:lin (ind m.key) [bAp n]=n*ind m.key (bAp n):=by simp only[lin,fV,Int.add_zero];rfl
  rw[r]
  by_cases c:ind m.key (bAp n)=0
  .rw[c];omega
  .have b:ind m.key (bAp n)=1/\m.key=(bAp n).key:=by
    unfold ind at c⊢;split at c
    .rename_i h4;rw[if_pos h4];exact⟨rfl,h4.symm⟩
    .exact absurd rfl c
   rw[b.1];simp only[fO,J3,aB,decide_eq_true_eq]at hp
   rcases hp.2 with d|d
   .omega
   .cases h:p.getLast? with
    |none=>simp[h]at d
    |some y=>
     simp only[h,J3,decide_eq_true_eq]at d;have hy:y∈p:=List.mem_of_getLast? h;have i:(⟨0,0,0,0,0,0,0⟩:Mono).key=(bAp n).key:=by simp only[Mono.key,bAp,Mono.E]
     have g:y.key=(bAp n).key:=(bPi.1 d.1).trans i;have q:=bXo (f:=λa=>a.n*ind m.key a) (λa l=>aC (hg.2 a l) (ind_nn _ _)) hy;have o:ind m.key y=1:=by rw[<-b.1];exact bKw _ _ _ g
     have h8:y.n*ind m.key y<=lin (ind m.key) p:=q;rw[o]at h8;omega
end
def OfV (k:Nat)(p:List Mono):Prop:= ∀m∈p,∀e∈m.E.drop k,e=0
section
variable {k : Nat} {p q : List Mono}
theorem ofV_nil:OfV k []:=λm h=>by cases h
theorem cAb{m:Mono}{x:Int}{L:List Mono}(hm: ∀e∈m.E.drop k,e=0)(h:OfV k L):OfV k (setTo m x L):=λy hy=>by
 rcases yV hy with rfl|hy
 .exact hm
 .exact h y hy
theorem bGm{g:Mono->Int}: ∀{p L:List Mono},OfV k p->OfV k L->OfV k (jD g L p)
 |[],_,_,h=>h
 |m::p,L,hp,h=>by rw[jD];exact bGm (λy hy=>hp y (E4 _ hy)) (cAb (hp m (E8 ..)) h)
theorem ofV_canon{L:List Mono}(h:OfV k L):OfV k (nU L):=λm a=>h m (bEb.1 a).1
theorem bVx{L:List Mono}(h:OfV k L):OfV k (jU L).1:=by
 unfold jU;split
 .exact ofV_canon h
 .exact ofV_nil
theorem bUt{c:Int}(hp:OfV k p)(hq:OfV k q):OfV k (cD p q c).1:=by
 unfold cD;split
 .exact bVx (bGm hq (bGm hp ofV_nil))
 .exact ofV_nil
theorem ofV_mulM{a b:Mono}(ha: ∀e∈a.E.drop k,e=0)(hb: ∀e∈b.E.drop k,e=0): ∀e∈(mulM a b).E.drop k,e=0:=by
 obtain⟨n,r,q,p,o,m,l⟩:=a;obtain⟨c,j,i,h,g,f,d⟩:=b
 match k with
 |0|1|2|3|4|5=>
  simp only[mulM,Mono.E,List.drop_zero,List.drop_succ_cons,E2,List.not_mem_nil,or_false,forall_eq_or_imp,forall_eq]at ha hb⊢;simp[ha,hb]
 |k+6=>simp[mulM,Mono.E]
theorem bUw{a:Mono}(ha: ∀e∈a.E.drop k,e=0): ∀{q L:List Mono},OfV k q->OfV k L->OfV k (mQ a L q)
 |[],_,_,h=>h
 |b::q,L,hq,h=>by rw[mQ];exact bUw ha (λy hy=>hq y (E4 _ hy)) (cAb (ofV_mulM ha (hq b (E8 ..))) h)
theorem bSw(hq:OfV k q): ∀{p L:List Mono},OfV k p->OfV k L->OfV k (kL q L p)
 |[],_,_,h=>h
 |a::p,L,hp,h=>by rw[kL];exact bSw hq (λy hy=>hp y (E4 _ hy)) (bUw (hp a (E8 ..)) hq h)
theorem ofV_mul(hp:OfV k p)(hq:OfV k q):OfV k (mF p q).1:=by
 unfold mF;split
 .exact bVx (bSw hq hp ofV_nil)
 .exact ofV_nil
theorem bPy(n:Int):OfV k (bZ n):=λm a=>by
 rcases numT_is n with e|e<;>rw[e]at a
 .cases a
 .rw[K7.1 a];intro e he;have:=O3 he
  simpa[bAp,Mono.E]using this
theorem ofV_var{j:Nat}(h:j<k\/6<=j):OfV k (oC (j:Nat)).1:=λm a=>by
 unfold oC at a;split at a
 .cases a
 .rename_i b;rw[K7.1 a];have b:j<6:=l7
  have c:j<k:=l7
  have e:((j:Nat):Int).toNat=j:=l7
  rw[e]
  match j,b with
  |0,_|1,_|2,_|3,_|4,_|5,_=>
   match k,c with
   |1,_|2,_|3,_|4,_|5,_=>first|(intro e he;simp[varM,Mono.E]at he;exact he)|omega
   |k+6,_=>simp[varM,Mono.E]
theorem var_grP(j:Int):GrP (oC j).1:=by
 refine⟨yL j,λm a=>?_⟩;unfold oC at a;split at a
 .cases a
 .rw[K7.1 a];show(0:Int)<=1;decide
end
end
section
open Go.RowKit Go.Proofs.Tryz
theorem flt_bad{f:Flt}(h:f.2≠0):(!nO ⟨f.1,f.2⟩ ⟨0,0⟩)=true:=by have:oG f=false:=Bool.eq_false_iff.2 λk=>h (by rw[isOk_iff.1 k]);have e:nO ⟨f.1,f.2⟩ ⟨0,0⟩=oG f:=rfl;rw[e,this];rfl
theorem bMh{n:Int}(h:n<0):bJb n=true:=by simp[bJb,h]
theorem bMm{n:Int}(h:65536<n):bJb n=true:=by simp[bJb,h]
theorem badT_c{n:Int}(h: ¬n<0)(k: ¬65536<n):bJb n=false:=by simp[bJb,h,k]
def tB (s:Sl TyV):List TyP:=s.A.map TyV.t
def bEz (s:Sl TyV):Fact:=((tyE.sl (.slice s.I s.A.length s.cap) s.A).and (Fact.each s.A tyF)).and (Fact.pure (s.A.length<=s.cap))
def sO (N:gD)(l:List fF)(j:Nat)(hv ow:List TyV):Prop:=rY N l [] []=rY N (l.drop j) (stT hv) (ow.map TyV.t)/\rD (l.drop j) hv.length=some 1/\(∀a∈hv,WfT a.t)/\hv.length<=j/\ow.length=j
section
variable {N : gD} {l : List fF} {j : Nat} {hv ow : List TyV} {x : fF} {y z : TyV}
theorem bYp(hd:rD l 0=some 1):sO N l 0 [] []:=⟨rfl,hd,λa b=>(by simp at b),B0 _,rfl⟩
theorem bPu(h:sO N l j hv ow)(hx:l[j]?=some x):(fL x<=hv.length/\1<=x.H/\x.H<=7/\(x.H=1->x.nums≠[]/\x.nums.length<=65536))/\rD (l.drop (j+1)) (hv.length-fL x+1)=some 1:=by
 have a:=h.2.1;rw[lE hx,rD]at a;split at a
 .rename_i b;exact⟨b,a⟩
 .cases a
theorem stT_wf(h: ∀a∈hv,WfT a.t): ∀t∈stT hv,WfT t:=λt ht=>by unfold stT at ht;rw[Y6]at ht;obtain⟨b,c,rfl⟩:=R2.1 ht;exact h b c
theorem stT_length(hv:List TyV):(stT hv).length=hv.length:=by simp[stT]
theorem tsT_err(h:sO N l j hv ow)(hx:l[j]?=some x)(he:(iO N x (stT hv)).2≠0):rY N l [] []= .error (x.at_,(iO N x (stT hv)).2):=by rw[h.1,lE hx,rY,if_pos he]
theorem tsT_wf(hN:pX N)(h:sO N l j hv ow)(hx:l[j]?=some x)(he:(iO N x (stT hv)).2=0)(hy:y.t=(iO N x (stT hv)).1):WfT y.t:=by obtain⟨⟨h1,h2,a,h4⟩,_⟩:=bPu h hx;rw[hy];exact item_wf hN (stT_wf h.2.2.1) (by rw[stT_length];exact h1) (λe=>(h4 e).1) ⟨h2,a⟩ he
theorem qA(h:sO N l j hv ow)(hx:l[j]?=some x)(he:(iO N x (stT hv)).2=0)(hy:y.t=(iO N x (stT hv)).1)(hw:WfT y.t)(hz:z.t=y.t):sO N l (j+1) (hv.take (hv.length-fL x)++[y]) (ow++[z]):=by
 obtain⟨⟨h1,_⟩,d⟩:=bPu h hx;have c:(hv.take (hv.length-fL x)++[y]).length=hv.length-fL x+1:=by rw[F4,K6];simp
 refine⟨?_,by rw[c];exact d,λa b=>?_,by rw[c];have:=h.2.2.2.1;omega,by rw[F4,h.2.2.2.2];rfl⟩
 .rw[h.1,lE hx,rY,if_neg (by simp[he]),stT_push (T:=fL x) rfl,L2,V9,hz,hy]
 .rcases E3.1 b with b|b
  .exact h.2.2.1 a (Y4 b)
  .rw[K7.1 b];exact hw
theorem tsT_end(h:sO N l j hv ow)(hj:l.length<=j): ∃a,hv=[a]/\rY N l [] []= .ok ([a.t],ow.map TyV.t)/\WfT a.t:=by
 obtain⟨h1,h2,b,_,_⟩:=h;rw[qK hj,rD]at h2;injection h2 with h2
 match hv,h2 with
 |[a],_=>
  refine⟨a,rfl,?_,b a (E8 ..)⟩;rw[h1,qK hj];rfl
end
def bCt (ls:List nF)(i:Nat)(kv:KVS)(NV:NamesTV)(xs:List (Sl TyV))(r:List (List TyP)×Flt):Prop:=uT kv NV/\pX (lY NV)/\r=oH (lY NV) (ls.drop i) (xs.map tB)/\xs.length=i
section
variable {ls : List nF} {i : Nat} {kv : KVS} {NV : NamesTV} {xs : List (Sl TyV)} {r : List (List TyP) × Flt} {l : nF} {a : TyV} {s : Sl TyV} {f : Flt}
theorem lsT_err(h:bCt ls i kv NV xs r)(hx:ls[i]?=some l)(hl:rY (lY NV) l.K [] []= .error f):r=([],f):=by rw[h.2.2.1,lE hx,oH,hl]
theorem lsT_step(h:bCt ls i kv NV xs r)(hx:ls[i]?=some l)(hl:rY (lY NV) l.K [] []= .ok ([a.t],s.A.map TyV.t))(ha:WfT a.t):bCt ls (i+1) (qB (lV++l.name) (tyC a) kv) ((lV++l.name,a)::NV) (xs++[s]) r:=by
 refine⟨nrT_add h.1 _ a,λp b=>?_,?_,by rw[F4,h.2.2.2];rfl⟩
 .rcases E2.1 b with rfl|b
  .exact ha
  .exact h.2.1 p b
 .rw[h.2.2.1,lE hx,oH,hl,L2];rfl
theorem lsT_end(h:bCt ls i kv NV xs r)(hi:ls.length<=i):r=(xs.map tB,(0,0)):=by rw[h.2.2.1,qK hi];rfl
end
theorem ty_no{p:iL}(h:(dU p).2=false):dX p=([],(0,50)):=if_pos h
theorem bTp{p:iL}{x:hU}(h:(dU p).2=true)(hf:p.C.find? (tS (dG p))=some x):dX p=([],(x.at_,80)):=by unfold dX;rw[if_neg al5,hf]
theorem ty_go{p:iL}(h:(dU p).2=true)(hf:p.C.find? (tS (dG p))=none):dX p=oH (sA p) p.G []:=by unfold dX;rw[if_neg al5,hf]
theorem lineT_wf{N:gD}(hN:pX N): ∀{l:List fF} {st all:List TyP} {r:List TyP×List TyP},rD l st.length=some 1->(∀t∈st,WfT t)->(∀t∈all,WfT t)->rY N l st all= .ok r->(∀t∈r.1,WfT t)/\(∀t∈r.2,WfT t)/\r.2.length=all.length+l.length/\r.1.length=1
 |[],st,all,r,hd,hs,ha,h=>by
  cases h;rw[rD]at hd;injection hd with hd
  exact⟨hs,ha,m9,hd⟩
 |x::l,st,all,r,hd,hs,ha,h=>by
  rw[rD]at hd;split at hd
  .rename_i f;rw[rY]at h;split at h
   .cases h
   .rename_i he;have he:(iO N x st).2=0:=by simpa using he
    have g:=item_wf hN hs f.1 (λe=>(f.2.2.2 e).1) ⟨f.2.1,f.2.2.1⟩ he;have i:((iO N x st).1::st.drop (fL x)).length=st.length-fL x+1:=by simp
    obtain⟨a,b,c,d⟩:=lineT_wf hN (by rw[i];exact hd) (λt ht=>by
     rcases E2.1 ht with rfl|ht
     .exact g
     .exact hs t (O3 ht)) (λt ht=>by
     rcases E3.1 ht with ht|ht
     .exact ha t ht
     .rw[K7.1 ht];exact g) h
    exact⟨a,b,by rw[c,F4,F5];simp;omega,d⟩
  .cases hd
theorem bYw: ∀{ls:List nF} {N:gD} {out:List (List TyP)},pX N->(∀l∈ls,rD l.K 0=some 1/\l.K.length<=255)->(∀o∈out,o.length<=255/\ ∀t∈o,WfT t)->(∀o∈(oH N ls out).1,o.length<=255/\ ∀t∈o,WfT t)/\(oH N ls out).1.length<=out.length+ls.length
 |[],N,out,_,_,ho=>⟨ho,by simp[oH]⟩
 |l::ls,N,out,hN,hl,ho=>by
  rw[oH];have j:=hl l (E8 ..)
  cases e:rY N l.K [] []with
  |error f=>exact⟨λo h=>(by cases h),m9⟩
  |ok r=>
   obtain⟨a,b,c,d⟩:=lineT_wf hN j.1 (λt h=>(by cases h)) (λt h=>(by cases h)) e;obtain⟨g,all⟩:=r
   have i:WfT (g.getLastD default):=by
    match g,d with
    |[t],_=>exact a t (K7.2 rfl)
   have:=bYw (ls:=ls) (N:=(lV++l.name,g.getLastD default)::N) (out:=out++[all]) (λq hq=>by
    rcases E2.1 hq with rfl|hq
    .exact i
    .exact hN q hq) (λm k=>hl m (E4 _ k)) (λo h=>by
    rcases E3.1 h with h|h
    .exact ho o h
    .rw[K7.1 h]
     exact⟨by have:=j.2;simp at c;omega,b⟩)
   refine⟨this.1,B1 this.2 ?_⟩;simp;omega
theorem bIj(p:iL):(∀o∈(dX p).1,o.length<=255/\ ∀t∈o,WfT t)/\(dX p).1.length<=64:=by
 unfold dX;split
 .exact⟨λo h=>(by cases h),m9⟩
 .rename_i hr;have hr:(dU p).2=true:=by simpa using hr
  cases p.C.find? (tS (dG p))with
  |some x=>exact⟨λo h=>(by cases h),m9⟩
  |none=>
   have hf:=wS hr;have b:=bCj hr;have:=bYw (ls:=p.G) (N:=sA p) (out:=[]) (bRn hr) (λl a=>⟨b l a,(hf.line l a).2.1⟩) (λo h=>(by cases h));exact⟨this.1,B1 this.2 (by have:=hf.lns;simp;omega)⟩
def polRow(p:PolV):bK:=fE.row (.slice p.I p.A.length p.cap) 43 p.A
def jM (ps:List PolV):List bK:=ps.map polRow
section
variable {P : Program} {β : fS} {n : Nat} {Γ : Env} {H H' : List bK} {F : List Fact} {Q : Exit -> Act -> World -> Prop} {K : Act -> World -> Prop}
theorem gR(p:H.Perm H')(h:At β n Γ H' F K):At β n Γ H F K:=λa w S f s k=>h a w S f (s.perm p) k
theorem vP: ∀(ps:List PolV) {H:List bK} {F:List Fact},(∀p∈ps,p.A.length<=48)->At β n Γ H (polsF ps::F) K->At β n Γ (jM ps++H) F K
 |[],H,F,_,h=>bB (polsF []) Has.each_nil h
 |p::r,H,F,hl,h=>by refine bR (E:=fE) (v:= .slice p.I p.A.length p.cap) (t:=43) (xs:=p.A) .head ?_;refine vP r (λq hq=>hl q (.tail _ hq)) ?_;refine bB (polsF (p::r)) (Has.each_cons (polF_mk (Has.of (.tail _ (.head _))) (hl p (.head _))) (Has.of (.head _))) ?_;exact at_drop (G:=polsF (p::r)::F) ⟨Has.of (.head _),bA.drop 3⟩ h
theorem nZ{ps:List PolV}{p:PolV}{i:Nat}(h:ps[i]?=some p)(H:List bK):(H++jM ps).Perm (polRow p::(H++jM (ps.take i++ps.drop (i+1)))):=by
 have e:ps=ps.take i++p::ps.drop (i+1):=by obtain⟨hi,h2⟩:=F3.1 h;rw[<-h2,Y9,W8]
 have a:(jM ps).Perm (polRow p::jM (ps.take i++ps.drop (i+1))):=by
  unfold jM
  conv=>lhs;rw[e]
  rw[L2,N7,L2];exact Z0
 exact(a.append_left H).trans Z0
theorem pol_join{ps:List PolV}{q:PolV}{i:Nat}(h:i<ps.length)(H:List bK):(polRow q::(H++jM (ps.take i++ps.drop (i+1)))).Perm (H++jM (ps.set i q)):=by have:=nZ (List.getElem?_set_self (a:=q) h) H;rw[List.take_set_of_le (B0 _),List.drop_set_of_lt l7]at this;exact this.symm
theorem pol_snoc{ps:List PolV}{p:PolV}(H:List bK):(polRow p::(H++jM ps)).Perm (H++jM (ps++[p])):=by
 have e:jM (ps++[p])=jM ps++[polRow p]:=by unfold jM;rw[L2];rfl
 rw[e,<-Q9];exact Z1 (l₁:=[polRow p])
theorem pol_apps{ps qs:List PolV}(H:List bK):(jM qs++(H++jM ps)).Perm (H++jM (ps++qs)):=by
 have e:jM (ps++qs)=jM ps++jM qs:=by unfold jM;rw[L2]
 rw[e];refine Z1.trans ?_;rw[Q9]
theorem bSu: ∀(ps:List PolV),(∀p∈ps,p.A.length<=48)->Lends (jM ps) [polsF ps]
 |[],_=>λS w _ _=>All.cons (λx hx=>by cases hx) (λg hg=>by cases hg)
 |p::r,hl=>λS w a b=>by
  have h1:=pH (E:=fE) (v:= .slice p.I p.A.length p.cap) (t:=43) (xs:=p.A) (bSu r λq hq=>hl q (.tail _ hq)) S w a b;have d:=h1 _ (E8 ..);have c:=h1 _ (E4 _ (E8 ..));refine All.cons (λx hx=>?_) (λg hg=>by cases hg)
  rcases E2.1 hx with rfl|hx
  .exact⟨d,B1 (hl x (.head _)) m6⟩
  .exact c x hx
theorem pI{ι:Type}{c:Code}(Δ:Env)(hΔ:Γ.Sub Δ)(G:ι->Env)(Hx:ι->List bK)(Hr:List bK)(fam:ι->List PolV)(FF:ι->List Fact)(μ:ι->Nat)(x0:ι)(hG:Γ.Sub (G x0))(hH:pR H (Hx x0) (Hr++jM (fam x0)))(hF:bA F (FF x0))
  (round: ∀x,At β n (G x++Δ) (Hx x++(Hr++jM (fam x))) (FF x++F) (c.wp P (Exit.then (Back β n (λx=>G x++Δ) (λx=>Hx x++(Hr++jM (fam x))) (λx=>FF x++F) μ (μ x)) Q))):At β n Γ H F ((Code.loop c).wp P Q):=
 gR hH.perm (sN (λx=>G x++Δ) (λx=>Hx x++(Hr++jM (fam x))) (λx=>FF x++F) μ x0 (hG.append hΔ) Sel.self (hF.append bA.self) round)
theorem oA{ι:Type}{G:ι->Env}{Δ:Env}{HH:ι->List bK}{FF:ι->List Fact}{F0:List Fact}{μ:ι->Nat}{m:Nat}(x:ι)(hμ:μ x<m)(hG:Γ.Sub (G x))(hΔ:Γ.Sub Δ)(hH:Sel H (HH x))(hF:bA F (FF x))(hF0:bA F F0):
  At β n Γ H F (Back β n (λx=>G x++Δ) HH (λx=>FF x++F0) μ m):=
 jZ (G:=λx=>G x++Δ) (FF:=λx=>FF x++F0) x hμ (hG.append hΔ) hH (hF.append hF0)
theorem xR{ps qs:List PolV}(e:ps=qs)(H:List bK):(H++jM ps).Perm (H++jM qs):=by rw[e]
end
def sidG (s:Sl PolV):Fact:=(bT.sl (.slice s.I s.A.length s.cap) s.A).and (Fact.pure (s.A.length<=s.cap))
def tyG (t:TyV):Fact:=(sidG t.B).and (cM t.values)
def bFr (l:List TyV):List PolV:=l.flatMap λt=>t.B.A
def lL (xs:List (Sl TyV)):List PolV:=xs.flatMap λs=>bFr s.A
theorem tysP_nil{ps:List PolV}:ps=ps++bFr []:=(F9 _).symm
theorem tysP_snoc{ps:List PolV}{l:List TyV}{z:TyV}:(ps++bFr l)++z.B.A=ps++bFr (l++[z]):=by simp[bFr]
theorem rowsP_snoc{xs:List (Sl TyV)}{s:Sl TyV}:lL xs++bFr s.A=lL (xs++[s]):=by simp[lL]
section
variable {F : List Fact} {s l : Sl PolV} {A : Option Addr} {c : Nat} {vs : List PolV} {x : TyV}
theorem sidG_mk(h:Has F (bT.sl (.slice A vs.length c) vs))(hc:vs.length<=c):Has F (sidG ⟨A,c,vs⟩):=h.and (i7 hc)
theorem sidG_l(h:Has F (sidG s))(k:Has F (polsF s.A)):Has F (cM s):=(h.left.and k).and h.right
theorem pols_le{a b:List PolV}(e:bN a=bN b)(h: ∀p∈b,p.A.length<=48): ∀p∈a,p.A.length<=48:=λp c=>by have h1:p.A∈bN b:=e▸Y3 c;obtain⟨q,hq,d⟩:=R2.1 h1;rw[<-d];exact h q hq
end
theorem bVn(l:Sl PolV)(hl:l.A.length<=4)(hr: ∀p∈l.A,p.A.length<=48):cY prog 38 [j8 l] [] [cM l] (λ(x:Sl PolV)=> j8 x) (λ(x:Sl PolV)=>jM x.A) (λ(x:Sl PolV)=>[sidG x,Fact.pure (bN x.A=bN l.A)]):=by
 have hT:=dK;refine j5 func38 ntmps38 ?_;intro β hM;refine bP<|cE l mT0 λe=>?_;refine g18 ?_;refine bQ (t:=40) bT ?_;refine pI (ι:=Nat×List PolV×Option Addr×Nat) [(6,_),(7,_)] ⟨rfl,rfl,i6⟩ (λ⟨i,vs,V,cv⟩=>[(3,.slice V vs.length cv),(8,.int .i64 (i:Nat))]) (λ⟨i,vs,V,cv⟩=>[bT.row (.slice V vs.length cv) 40 vs]) [] (λ⟨i,vs,V,cv⟩=>vs) (λ⟨i,vs,V,cv⟩=>[Fact.pure (i<=l.A.length/\bOf l.A vs i)]) (λ⟨i,vs,V,cv⟩=>l.A.length-i) (0,[],none,0) ⟨rfl,rfl,i6⟩ (.c0 .nil) ⟨i7 (⟨l7,ownT_start _⟩),i6⟩ ?_;rintro⟨i,vs,V,cv⟩;dsimp only;refine bF d7 λa=>?_;have f:=ownT_len a.2 a.1;refine g6 ?_;refine dP (λd=>?_) λd=>?_
 .refine g6 ?_;obtain⟨x1,b⟩:=gx l.A i;refine ss (ixs i) ?_;refine ss (fG b 0) ?_;refine g6 ?_;have hpl:=hr x1 (j0 b);refine j2 func39 (cloneM_spec x1.I x1.cap x1.A l7) ⟨yK (Has.each d8 (j0 b)),i6⟩ λ⟨A3,c4⟩=>?_;refine j7 (m:=⟨A3,c4,x1.A⟩) λh=>?_;refine cU kT2 (bU .head rfl) rfl rfl rfl rfl rfl rfl rfl q9 λg c7=>?_;refine g6 ?_;refine inc (i+1) ?_;refine g3 ?_;refine at_sel (R:=_::_::jM vs) (.c2 (.c0 (Sel.skip Sel.self))) ?_;refine gR (H':=_::jM _) (pol_snoc (p:=⟨A3,c4,x1.A⟩) [_]) ?_;exact oA (i+1,vs++[⟨A3,c4,x1.A⟩],g,c7) v8 ⟨rfl,rfl,i6⟩ ⟨rfl,rfl,i6⟩ (.cons .head Sel.self) ⟨i7 (⟨by dsimp only;omega,ownT_step a.2 b rfl⟩),i6⟩ (bA.drop 1)
 refine g12 ?_;have he:=ownT_end a.2 l7;refine fW .head λc=>bR .head ?_;exact iX (⟨V,cv,vs⟩:Sl PolV) rfl (bW rfl) Sel.self ⟨sidG_mk d7 c,i7 he,i6⟩ rfl
theorem ownG_spec(a:TyV)(ha:WfT a.t):cY prog 17 [.agg #[j8 a.B,.bool a.known,j8 a.values]] [] [tyF a] (λ(x:TyV)=>tyC x) (λ(x:TyV)=>jM x.B.A) (λ(x:TyV)=>[tyG x,Fact.pure (x.t=a.t)]):=by have hT:=dK;have i:=oF ha;have h:=wA ha;refine j5 func17 ntmps17 ?_;intro β hM;refine bP<|bB (cM a.B) (jR d7) ?_;refine cE a.B mT0 λf=>bB (cM a.values) (jS e6)<|cE a.values mT0 λe=>?_;refine one ?_;refine j4 λk=>?_;refine j1 sQ λj=>?_;refine g8 ?_;refine cL _ _ [j9,u0,u5,A00,u6,A02,A01,A03,A06,(false,9),A08,(false,11)] cN o0 (.c1 .nil) bA.self ?_;refine g9 ?_;refine jA (bY func38 rfl rfl) (bVn a.B l7 (wf_sr ha)) rfl rfl rfl rfl rfl rfl rfl .nil ⟨e8,i6⟩ λg=>?_;refine bF d8 λd=>?_;refine gR (H':=_::_::jM g.A) Z1 ?_;refine g2 ?_;refine jA (bY func38 rfl rfl) (bVn a.values l7 (wf_vr ha)) rfl rfl rfl rfl rfl rfl rfl .nil ⟨e7,i6⟩ λc=>?_;refine bF d8 λb=>?_;refine vP c.A (pols_le b (wf_vr ha)) ?_;refine bB (cM c) (sidG_l d8 d7) ?_;refine one ?_;refine stM rfl (j3 (vW _ _ _ _ _ _ _)) ?_;refine g6 ?_;exact iX (⟨g,a.known,c⟩:TyV) rfl (qR hT (gG .head) rfl rfl rfl rfl) (Sel.skip (Sel.skip Sel.self)) ⟨Has.and e7 d7,i7 (ownT_t (a:=a) d b rfl),i6⟩ rfl
def rowH (s:Sl TyV):Fact:=((tyE.sl (.slice s.I s.A.length s.cap) s.A).and (Fact.each s.A tyG)).and (Fact.pure (s.A.length<=s.cap))
theorem bOs(P:ProgV)(hP:rW P)(hl1:P.C.A.length<=140737488355328)(hl2:P.G.A.length<=140737488355328):cY prog 6 [.agg #[j8 P.C,j8 P.G]] [] [kG,jP.sl (j8 P.C) P.C.A,iW P.C.A,nM.sl (j8 P.G) P.G.A,mA P.G.A] (λ(x:Option Addr×Nat×List (Sl TyV))=> .tuple #[.slice x.1 x.2.2.length x.2.1,.agg #[k6 (dX P.pr).2.1,k6 (dX P.pr).2.2]]) (λ(x:Option Addr×Nat×List (Sl TyV))=>jM (lL x.2.2)) (λ(x:Option Addr×Nat×List (Sl TyV))=>[sR.sl (.slice x.1 x.2.2.length x.2.1) x.2.2,Fact.each x.2.2 rowH,Fact.pure (x.2.2.map tB=(dX P.pr).1/\x.2.2.length<=x.2.1)]):=by
 have hT:=dK;generalize E:dX P.pr=r;refine j5 func6 ntmps6 ?_;intro β hM;refine g2 ?_;refine j4 λb1=>?_;refine one ?_;refine j1 bGy λb2=>?_;refine g6 ?_;refine j2 func12 (sRight_spec P hP hl1 hl2) ⟨d7,d8,d9,e6,e7,i6⟩ λ_=>?_;refine g3 ?_;refine iQ (λY=>?_) λY=>?_
 .refine g2 ?_;refine ss (j3 (bBg _)) ?_;refine g6 ?_;obtain rfl:=E.symm.trans (ty_no ‹_›);exact rs2 (none,0,[]) ⟨sG,Has.each_nil,i7 ⟨rfl,B0 0⟩,i6⟩
 refine g3 ?_;have f:(dU P.pr).2=true:=by assumption
 have n:=wS f;have hs: ∀x∈P.C.A,x.B.A.length<=4:=λx hx=>by have h1:=(n.input x.inp (bEq hx)).2.1;have h2:x.inp.B.length=x.B.A.length:=O4 _;omega
 have hTT:=bAt f;have hpl:P.pr.C.length=P.C.A.length:=O4 _;refine g2 ?_;refine j2 func13 (bWv P hl1 (λx hx=>B1 (hs x hx) m6) l7) ⟨d8,d9,i6⟩ λ⟨V,cv⟩=>?_;have hvl:(dG P.pr).length<=256:=B1 (vars_le P.pr) hTT;refine g13 ?_;refine cF (ι:=Nat) [(1,_),(3,_),(4,_),(27,_),(28,_)] ⟨rfl,rfl,rfl,rfl,rfl,i6⟩ (λi=>[(29,.int .i64 (i:Nat))]) (λ_=>[]) (λi=>[Fact.pure (i<=P.C.A.length/\bAv (dG P.pr) P.pr.C i)]) (λi=>P.C.A.length-i) 0 ⟨rfl,i6⟩ .nil ⟨i7 (⟨l7,bZz⟩),i6⟩ ?_;rintro i;refine bF d7 λd=>?_;refine g6 ?_;refine dP (λhc30=>?_) λhc30=>?_
 .refine g6 ?_;obtain⟨x3,z⟩:=gx P.C.A i;refine ss (ixs i) ?_;refine ss (pF z 0) ?_;refine j1 mN λb5=>?_;refine g4 ?_;have hx0:P.pr.C[i]?=some x3.inp:=mP z;have hxs:=hs x3 (j0 z);refine bB (nS x3) (Has.each e8 (j0 z)) ?_;refine g8 ?_;refine cF (ι:=Nat) [(1,_),(3,_),(4,_),(6,_),(27,_),(28,_),(29,_),(34,_),(35,_)] ⟨rfl,rfl,rfl,rfl,rfl,rfl,rfl,rfl,rfl,i6⟩ (λj=>[(36,.int .i64 (j:Nat))]) (λ_=>[]) (λj=>[Fact.pure (j<=x3.B.A.length/\bKb (dG P.pr) x3.inp.B j)]) (λj=>x3.B.A.length-j) 0 ⟨rfl,i6⟩ .nil ⟨i7 (⟨l7,few_in⟩),i6⟩ ?_;rintro j;refine bF d7 λhinv8=>?_;refine g6 ?_;refine dP (λX=>?_) λX=>?_
  .refine g6 ?_;obtain⟨x6,G⟩:=gx x3.B.A j;refine ss (ixs j) ?_;refine ss (pF G 0) ?_;refine j1 zE λb8=>?_;refine g4 ?_;have hd0:x3.inp.B[j]?=some x6.sd:=mP G;refine g5 ?_;refine cG (λhg43=>?_) (λhg43=>?_)
   .have hg43:x6.name=([]:Bs):=eq_of_beq hg43;refine g4 ?_;refine lR (λN=>?_) λN=>?_
    .refine g16 ?_;refine cL _ _ [j9,u0,u5,u9,A42] cN o0 (.c0 (.c0 (.c1 .nil))) bA.self ?_;refine g2 ?_;refine stM rfl (j3 (zF _ _)) ?_;refine g16 ?_;have hr:=E.symm.trans (bTp f (bEn d.2 hx0 hinv8.2 hd0 aa4));subst hr;exact rs2 (none,0,[]) ⟨sG,Has.each_nil,i7 ⟨rfl,B0 0⟩,i6⟩
    refine g6 ?_;refine lR (λM=>?_) λM=>?_
    .refine g10 ?_;refine cL _ _ [j9,u0,u5,u9,A42] cN o0 (.c0 (.c0 (.c1 .nil))) bA.self ?_;refine g2 ?_;refine stM rfl (j3 (zF _ _)) ?_;refine g16 ?_;have hr:=E.symm.trans (bTp f (bEn d.2 hx0 hinv8.2 hd0 aa4));subst hr;exact rs2 (none,0,[]) ⟨sG,Has.each_nil,i7 ⟨rfl,B0 0⟩,i6⟩
    refine g3 ?_;refine bD func14 (bBz _ _ _ l7 x6.name) rfl rfl .nil ⟨e6,i6⟩ λ_=>?_;refine g4 ?_;refine bLv (λy=>?_) λy=>?_
    .refine bP<|cL _ _ [j9,u0,u5,u9,A42] cN o0 (.c0 (.c0 (.c1 .nil))) bA.self ?_;refine g2 ?_;refine stM rfl (j3 (zF _ _)) ?_;refine g16 ?_;have hr:=E.symm.trans (bTp f (bEn d.2 hx0 hinv8.2 hd0 aa4));subst hr;exact rs2 (none,0,[]) ⟨sG,Has.each_nil,i7 ⟨rfl,B0 0⟩,i6⟩
    refine g5 ?_;refine inc (j+1) ?_;refine g3 ?_;exact bk2 (j+1) ⟨i7 (⟨l7,bKf hinv8.2 hd0 ac7⟩),i6⟩
   have hg43:x6.name≠([]:Bs):=λh=>absurd (beq_iff_eq.2 h) (by rw[show(x6.name==([]:Bs))=false from hg43];simp);refine g13 ?_;refine bD func14 (bBz _ _ _ l7 x6.name) rfl rfl .nil ⟨e6,i6⟩ λ_=>?_;refine g4 ?_;refine bLv (λy=>?_) λy=>?_
   .refine bP<|cL _ _ [j9,u0,u5,u9,A42] cN o0 (.c0 (.c0 (.c1 .nil))) bA.self ?_;refine g2 ?_;refine stM rfl (j3 (zF _ _)) ?_;refine g16 ?_;have hr:=E.symm.trans (bTp f (bEn d.2 hx0 hinv8.2 hd0 aa4));subst hr;exact rs2 (none,0,[]) ⟨sG,Has.each_nil,i7 ⟨rfl,B0 0⟩,i6⟩
   refine g5 ?_;refine inc (j+1) ?_;refine g3 ?_;exact bk2 (j+1) ⟨i7 (⟨l7,bKf hinv8.2 hd0 ac7⟩),i6⟩
  refine g8 ?_;refine inc (i+1) ?_;refine g3 ?_;exact bk2 (i+1) ⟨i7 (⟨l7,few_out d.2 hx0 hinv8.2 ai8⟩),i6⟩
 refine g8 ?_;refine j2 func15 (newT_spec P hl1 f) ⟨e6,e7,e8,i6⟩ λ⟨cb,mb,kv0,NV0⟩=>?_;refine bF d8 λB=>?_;refine g10 ?_;have hfn:=few_end d.2 l7;have Z:=E.symm.trans (ty_go f hfn);rw[<-B.2]at Z;have hNW:pX (lY NV0):=by rw[B.2];exact bRn f
 have O:=bCj f;have K:P.pr.G.length=P.G.A.length:=O4 _;refine bQ (t:=35) sR<|bB (Fact.each ([]:List (Sl TyV)) rowH) (Has.each_nil) ?_;refine g8 ?_;refine pI (ι:=Nat×KVS×NamesTV×List (Sl TyV)×Option Addr×Nat) [(3,_),(9,_),(68,_),(69,_)] ⟨rfl,rfl,rfl,rfl,i6⟩ (λ⟨i,kv,NV,xs,A1,c1⟩=>[(10,.slice A1 xs.length c1),(70,.int .i64 (i:Nat))]) (λ⟨i,kv,NV,xs,A1,c1⟩=>[wK mb kv,sR.row (.slice A1 xs.length c1) 35 xs]) [_,_,_] (λ⟨i,kv,NV,xs,A1,c1⟩=>lL xs) (λ⟨i,kv,NV,xs,A1,c1⟩=>[Fact.pure (i<=P.G.A.length/\bCt P.pr.G i kv NV xs r),sP NV,Fact.each xs rowH]) (λ⟨i,kv,NV,xs,A1,c1⟩=>P.G.A.length-i) (0,kv0,NV0,[],none,0) ⟨rfl,rfl,i6⟩ (.c2 (.c0 .nil)) ⟨i7 (⟨l7,B.1,hNW,Z,rfl⟩),d8,d7,i6⟩ ?_;rintro⟨i,kv,NV,xs,A1,c1⟩;dsimp only;refine bF d7 λc=>?_;refine g6 ?_;refine dP (λW=>?_) λW=>?_
 .refine g6 ?_;obtain⟨g,p⟩:=gx P.G.A i;refine ss (ixs i) ?_;refine ss (pF p 0) ?_;refine j1 uK λb11=>?_;refine g11 ?_;have hx0:P.pr.G[i]?=some g.ln:=mP p;have hdp:=O g.ln (j0 hx0);have C:=n.line g.ln (j0 hx0);have hlnm:g.name.length<=16:=C.1;have hil:=C.2.1;have hie:g.ln.K.length=g.K.A.length:=O4 _;refine bB (mU.sl (.slice g.K.I g.K.A.length g.K.cap) g.K.A) (Has.left (Has.each g0 (j0 p)))<|bB (nP g.K.A) (Has.right (Has.each (Has.of wH) (j0 p))) ?_;refine gR (H':=_::_::_::_::_::_::jM (lL xs++bFr [])) (xR tysP_nil [_,_,_,_,_,_]) ?_;refine bQ (t:=38) tyE<|bB (Fact.each ([]:List TyV) tyF) (Has.each_nil)<|bQ (t:=38) tyE<|bB (Fact.each ([]:List TyV) tyG) (Has.each_nil) ?_;refine g8 ?_;refine pI (ι:=Nat×List TyV×Option Addr×Nat×List TyV×Option Addr×Nat) [(3,_),(9,_),(10,_),(12,_),(68,_),(69,_),(70,_),(75,_),(76,_)] ⟨rfl,rfl,rfl,rfl,rfl,rfl,rfl,rfl,rfl,i6⟩ (λ⟨j,hv,A2,c2,ow,A4,c4⟩=>[(13,.slice A2 hv.length c2),(14,.slice A4 ow.length c4),(77,.int .i64 (j:Nat))]) (λ⟨j,hv,A2,c2,ow,A4,c4⟩=>[tyE.row (.slice A2 hv.length c2) 38 hv,tyE.row (.slice A4 ow.length c4) 38 ow]) [_,_,_,_,_,_] (λ⟨j,hv,A2,c2,ow,A4,c4⟩=>lL xs++bFr ow) (λ⟨j,hv,A2,c2,ow,A4,c4⟩=>[Fact.pure (j<=g.K.A.length/\sO (lY NV) g.ln.K j hv ow),Fact.each hv tyF,Fact.each ow tyG]) (λ⟨j,hv,A2,c2,ow,A4,c4⟩=>g.K.A.length-j) (0,[],none,0,[],none,0) ⟨rfl,rfl,rfl,i6⟩ (.c1 (.c0 .nil)) ⟨i7 (⟨l7,bYp hdp⟩),d8,d7,i6⟩ ?_;rintro⟨j,hv,A2,c2,ow,A4,c4⟩;dsimp only;refine bF d7 λb=>?_;have hvj:=b.2.2.2.2.1;have hwj:=b.2.2.2.2.2;refine g6 ?_;refine dP (λU=>?_) λU=>?_
  .refine g6 ?_;obtain⟨e,v⟩:=gx g.K.A j;refine ss (ixs j) ?_;refine ss (pF v 0) ?_;refine j1 pJ λb14=>?_;refine g4 ?_;have q:g.ln.K[j]?=some e.it:=mP v;have w:=(bPu b.2 q).1;have L:=(C.2.2 e.it (j0 q)).1;have htk0:=w.1;refine bB (bOy e) (Has.each e8 (j0 v)) ?_;refine g4 ?_;refine bD func16 (itemTS_spec cb mb kv NV c.2.1 e A2 c2 hv b.2.2.2.1 l7 w.1 ⟨w.2.1,w.2.2.1⟩ (λh=>(w.2.2.2 h).2) (λ_=>B1 L m6)) rfl rfl (.c6 (.c4 (.c1 .nil))) ⟨d7,d9,f6,i6⟩ λl=>?_;refine bF d8 λhy=>?_;refine g4 ?_;refine j1 sQ λb16=>?_;refine g12 ?_;refine uD (λR=>?_) λR=>?_
   .refine bP<|cL _ _ [j9,u0,u5,u9,A00,(false,5)] cN o0 (.c0 (.c0 (.c0 (.c0 (.c0 (.c0 (.c0 (.c0 (.c1 (Sel.skip Sel.self)))))))))) bA.self ?_;refine g3 ?_;refine stM rfl (j3 (zF _ _)) ?_;refine g3 ?_;refine fJ (.c1 (.c1 (.c1 (.c1 (.c1 (.c1 (.c1 (.c1 (.c1 (Sel.skip Sel.self)))))))))) (bA.drop 0) ?_;refine g14 ?_;obtain rfl:=lsT_err c.2 hx0 (tsT_err b.2 q ‹_›);exact rs2 (none,0,[]) ⟨sG,Has.each_nil,i7 ⟨rfl,B0 0⟩,i6⟩
   refine g6 ?_;have A:=tsT_wf c.2.2.1 b.2 q l7 hy;refine j2 func17 (ownG_spec l A) ⟨d7,i6⟩ λu=>?_;refine gR (H':=_::_::_::_::_::_::_::_::_::_::jM (lL xs++bFr (ow++[u]))) ((pol_apps [_,_,_,_,_,_,_,_,_,_]).trans (xR tysP_snoc [_,_,_,_,_,_,_,_,_,_])) ?_;refine bF d8 λhz=>?_;refine lD (m:=u) rfl rfl rfl rfl rfl λb18=>?_;refine gV kT6 (bU .head rfl) rfl rfl rfl rfl rfl rfl rfl q9 λA19 c20=>?_;refine bB (Fact.each (ow++[u]) tyG) (Has.each_snoc f3 d7) ?_;refine g3 ?_;refine kZ _ _ (.fl 0 (.fl 1 (.fl 2 (.fl 3 (.fl 4 (.fl 6 (.two 5 7 (.op 7 (.op 8 (.fl 9 .nil))) (.op 5 (.op 8 (.fl 9 .nil)))))))))) cN o0 (.c0 (.c0 (.c0 (.c0 (.c0 (.c1 (.c1 (.c1 (.c1 (.c1 (Sel.skip Sel.self))))))))))) bA.self ?_;refine g5 ?_;refine inc (hv.length-(fL e.it)) ?_;refine one ?_;refine gT (o:=_) (o':=_) rfl rfl ?_ ?_
   .refine jH hT (k:=(hv.length-fL e.it)) kT5 rfl rfl rfl rfl rfl rfl rfl rfl rfl l7 ?_;refine cZ (.c1 (.c1 (.c1 (.c1 (.c1 (.c1 (.c1 (.c1 (.c1 (.c1 (Sel.skip Sel.self))))))))))) (bA.drop 0) ?_;refine one ?_;refine lD (m:=l) rfl rfl rfl rfl rfl λb21=>?_;refine cZ (.c2 (.c2 (.c2 (.c2 (.c2 (.c2 (.c2 (.c2 (.c2 (.c2 (Sel.skip (Sel.skip Sel.self)))))))))))) (bA.drop 0) ?_;refine one ?_;refine gV kT1 (bU .head rfl) rfl rfl rfl rfl rfl rfl rfl q9 λA22 c23=>?_;refine bB (Fact.each (hv.take (hv.length-fL e.it)++[l]) tyF) (Has.each_snoc (nB f3 _) e6) ?_;refine cZ (.c2 (.c2 (.c2 (.c2 (.c2 (.c2 (.c2 (.c2 (.c2 (.c2 (Sel.skip (Sel.skip Sel.self)))))))))))) (bA.drop 1) ?_;refine g6 ?_;refine inc (j+1) ?_;refine g3 ?_;exact oA (j+1,hv.take (hv.length-fL e.it)++[l],A22,c23,ow++[u],A19,c20) v8 ⟨rfl,rfl,rfl,i6⟩ ⟨rfl,rfl,rfl,rfl,rfl,rfl,rfl,rfl,rfl,i6⟩ (.c0 (.c1 (.c6 (.c4 (.c5 (.c3 (.c4 (.c4 (Sel.skip (Sel.skip (Sel.skip (Sel.skip Sel.self)))))))))))) ⟨i7 (⟨by dsimp only;omega,qA b.2 q l7 hy A hz⟩),d7,d8,i6⟩ (bA.drop 10)
   refine lD (m:=l) rfl rfl rfl rfl rfl λb24=>?_;refine cZ (.c1 (.c1 (.c1 (.c1 (.c1 (.c2 (.c2 (.c2 (.c2 (.c2 (Sel.skip (Sel.skip Sel.self)))))))))))) (bA.drop 0) ?_;refine one ?_;refine jH hT (k:=(hv.length-fL e.it)) kT6 rfl rfl rfl rfl rfl rfl rfl rfl rfl l7 ?_;refine cZ (.c2 (.c2 (.c2 (.c2 (.c2 (.c2 (.c2 (.c2 (.c2 (.c2 (Sel.skip (Sel.skip Sel.self)))))))))))) (bA.drop 0) ?_;refine one ?_;refine gV .head (bU kT1 rfl) rfl rfl rfl rfl rfl rfl rfl q9 λA25 c26=>?_;refine bB (Fact.each (hv.take (hv.length-fL e.it)++[l]) tyF) (Has.each_snoc (nB f3 _) e6) ?_;refine cZ (.c2 (.c2 (.c2 (.c2 (.c2 (.c2 (.c2 (.c2 (.c2 (.c2 (Sel.skip (Sel.skip Sel.self)))))))))))) (bA.drop 1) ?_;refine g6 ?_;refine inc (j+1) ?_;refine g3 ?_;exact oA (j+1,hv.take (hv.length-fL e.it)++[l],A25,c26,ow++[u],A19,c20) v8 ⟨rfl,rfl,rfl,i6⟩ ⟨rfl,rfl,rfl,rfl,rfl,rfl,rfl,rfl,rfl,i6⟩ (.c0 (.c1 (.c6 (.c4 (.c5 (.c3 (.c4 (.c4 (Sel.skip (Sel.skip (Sel.skip (Sel.skip Sel.self)))))))))))) ⟨i7 (⟨by dsimp only;omega,qA b.2 q l7 hy A hz⟩),d7,d8,i6⟩ (bA.drop 10)
  refine g6 ?_;obtain⟨a,I,hle,hra⟩:=tsT_end b.2 l7;have J:hv[0]?=some a:=by rw[I];rfl
  have hvl:hv.length=1:=by rw[I];rfl
  have hxl:=c.2.2.2.2;have hfln:=n.lns;refine bB (tyF a) (Has.each d8 (j0 J))<|fW kT1 λD=>bR kT1<|bB (rowH (⟨A4,c4,ow⟩:Sl TyV)) ((Has.and (Has.and d7 e7) (i7 D)))<|bB (sP ((lV++g.name,a)::NV)) (Has.each_cons d9 f8) ?_;refine g3 ?_;refine bOo (m:=(⟨A4,c4,ow⟩:Sl TyV)) rfl rfl rfl rfl rfl λb27=>?_;refine bNm kT4 (bU .head rfl) rfl rfl rfl rfl rfl rfl rfl q9 λA28 c29=>?_;refine bB (Fact.each (xs++[(⟨A4,c4,ow⟩:Sl TyV)]) rowH) (Has.each_snoc g0 d8) ?_;refine g3 ?_;refine cL _ _ [j9,u0,u5,u9,A00,u6,A02,A01,A03,A04,A73] cN o0 (.c0 (.c0 (.c0 (.c0 (.c1 (.c1 (.c1 (Sel.skip Sel.self)))))))) bA.self ?_;refine g6 ?_;refine stM rfl (dJ rfl rfl rfl q9) ?_;refine one ?_;refine stM rfl (ixs 0) ?_;refine stM rfl (pF J 0) ?_;refine one ?_;refine pZ kT4 rfl (.inl rfl) rfl mapT underlying9 rfl rfl rfl ?_;refine fJ (.c1 (.c1 (.c1 (.c1 (.c1 (.c1 (.c1 (Sel.skip Sel.self)))))))) (bA.drop 0) ?_;refine g5 ?_;refine inc (i+1) ?_;refine g3 ?_;refine gR (H':=_::_::_::_::_::_::_::_::jM (lL (xs++[(⟨A4,c4,ow⟩:Sl TyV)]))) (xR (rowsP_snoc (s:=(⟨A4,c4,ow⟩:Sl TyV))) [_,_,_,_,_,_,_,_]) ?_;exact oA (i+1,_,(lV++g.name,a)::NV,xs++[(⟨A4,c4,ow⟩:Sl TyV)],A28,c29) v8 ⟨rfl,rfl,i6⟩ ⟨rfl,rfl,rfl,rfl,i6⟩ (.c0 (.c0 (.c3 (.c3 (.c3 (Sel.skip (Sel.skip (Sel.skip Sel.self)))))))) ⟨i7 (⟨by dsimp only;omega,lsT_step (s:=(⟨A4,c4,ow⟩:Sl TyV)) c.2 hx0 hle hra⟩),d8,d7,i6⟩ (bA.drop 15)
 refine g8 ?_;refine ss (j3 (bDk)) ?_;refine g5 ?_;have hr:=lsT_end c.2 (by rw[K];omega);subst hr;refine fW kT2 λQ=>bR kT2 ?_;exact dF (A1,c1,xs) rfl (bW rfl) (qR hT (gG .head) rfl rfl rfl rfl) (Sel.skip (Sel.skip (Sel.skip (Sel.skip Sel.self)))) ⟨d7,e6,i7 ⟨rfl,Q⟩,i6⟩ rfl
section
variable {P : Program} {β : fS} {n : Nat} {Γ : Env} {H : List bK} {F : List Fact}
theorem spec_stepA{ι:Type}{f:FuncId}{args:List Value}{Hin:List bK}{Pre:List Fact}{val:ι->Value}{Hout Hout':ι->List bK}{post post':ι->List Fact}(h:cY P f args Hin Pre val Hout post)
  (hc: ∀(x:ι) (β:fS),At β 0 [] (Hout x) (post x) λ_ w=> ∃S',St β (Hout' x) S' w/\All (post' x) S' w):cY P f args Hin Pre val Hout' post':=λS w s k=>(h S w s k).mono λe a ⟨x,S',he,hs,b⟩=>by obtain⟨c,h1,h2⟩:=hc x _ {tmps:= #[],defers:=[]} a S' ⟨rfl,C4 _,λi v hv=>by cases hv⟩ hs b;exact⟨x,c,he,h1,h2⟩
theorem at_finA{H':List bK}{G:List Fact}(hH:Sel H H')(hF:bA F G):At β n Γ H F λ_ w=> ∃S',St β H' S' w/\All G S' w:=λ_ w S _ s k=>⟨S,s.sel hH,hF.all S w k⟩
end
section
variable {xs : List (Sl TyV)} {F : List Fact} {p : iL}
theorem bXh(h:Has F (Fact.each xs rowH))(k:Has F (polsF (lL xs))):Has F (Fact.each xs bEz):=λS w q r hr=>by obtain⟨⟨a,b⟩,c⟩:=h S w q r hr;refine⟨⟨a,λt ht=>?_⟩,c⟩;obtain⟨⟨d,e⟩,f⟩:=b t ht;exact⟨⟨⟨d,λp g=>k S w q p (Y2.2 ⟨r,hr,Y2.2 ⟨t,ht,g⟩⟩)⟩,e⟩,f⟩
theorem rows_48(h:xs.map tB=(dX p).1): ∀q∈lL xs,q.A.length<=48:=λq hq=>by obtain⟨r,hr,hq⟩:=Y2.1 hq;obtain⟨t,ht,hq⟩:=Y2.1 hq;have a:=((bIj p).1 (tB r) (h▸Y3 hr)).2 t.t (Y3 ht);exact iC (a.sr _ (Y3 hq))
end
theorem bGo(P:ProgV)(hP:rW P)(hl1:P.C.A.length<=140737488355328)(hl2:P.G.A.length<=140737488355328):cY prog 6 [.agg #[j8 P.C,j8 P.G]] [] [kG,jP.sl (j8 P.C) P.C.A,iW P.C.A,nM.sl (j8 P.G) P.G.A,mA P.G.A] (λ(x:Option Addr×Nat×List (Sl TyV))=> .tuple #[.slice x.1 x.2.2.length x.2.1,.agg #[k6 (dX P.pr).2.1,k6 (dX P.pr).2.2]]) (λ_=>[]) (λ(x:Option Addr×Nat×List (Sl TyV))=>[sR.sl (.slice x.1 x.2.2.length x.2.1) x.2.2,Fact.each x.2.2 bEz,Fact.pure (x.2.2.map tB=(dX P.pr).1/\x.2.2.length<=x.2.1)]):=by refine spec_stepA (bOs P hP hl1 hl2) λx β=>?_;refine bF d9 λhx=>?_;refine gR (H':=jM (lL x.2.2)++[]) (by rw[F9]) ?_;refine vP _ (rows_48 hx.1) ?_;exact at_finA .nil ⟨d8,bXh d9 d7,i7 hx,i6⟩
theorem same2_spec(p q:PolV)(hp:p.A.length<=140737488355328):cY prog 78 [j8 p,j8 q] [] [kI p,kI q] (λ_:Unit=> .bool (decide (p.A=q.A))) (λ_=>[]) (λ_=>[]):=by
 have e:decide (p.A=q.A)=vJ p.A q.A:=by rw[L7,cAm];simp
 rw[e];exact jW λ_ w a h=>same_any _ _ _ _ _ _ w (kO a (h _ mT0)) (kO a (h _ mT1)) hp
theorem tEq_1{a b:TyV}(h:bN a.B.A≠bN b.B.A):Value.bool false= .bool (decide (a.t=b.t)):=by rw[decide_eq_false (λe=>h (congrArg TyP.B e))]
theorem tEq_2{a b:TyV}(h:a.known≠b.known):Value.bool false= .bool (decide (a.t=b.t)):=by rw[decide_eq_false (λe=>h (congrArg TyP.known e))]
theorem tEq_3{a b:TyV}(h:bN a.B.A=bN b.B.A)(k:a.known=b.known):Value.bool (decide (bN a.values.A=bN b.values.A))= .bool (decide (a.t=b.t)):=by
 congr 1
 rw[L7,decide_eq_true_iff,decide_eq_true_iff];constructor
 .intro e;unfold TyV.t;rw[h,e,k]
 .exact λe=>congrArg TyP.values e
theorem bDu{xs:List (Sl TyV)}{i:Nat}{x:Sl TyV}(h:xs[i]?=some x):(xs.map tB)[i]?=some (tB x):=tJ h
theorem vK(x:Sl TyV):(tB x).length=x.A.length:=O4 _
theorem rowF_s{F:List Fact}{x:Sl TyV}(h:Has F (bEz x)):Has F (tyE.sl (j8 x) x.A):=h.left.left
theorem rowF_e{F:List Fact}{x:Sl TyV}(h:Has F (bEz x)):Has F (Fact.each x.A tyF):=h.left.right
theorem rowsF_len{x y:Sl TyV}(h:x.A.length≠y.A.length):tB x≠tB y:=λe=>h (by have:=congrArg Q8 e;rwa[vK,vK]at this)
theorem rowsE_len{xs ys:List (Sl TyV)}(h:xs.length≠ys.length):xs.map tB≠ys.map tB:=λe=>h (by have:=congrArg Q8 e;rwa[O4,O4]at this)
theorem wL(A B:Option Addr)(ca cb:Nat)(a b:List PolV)(hl:a.length<=140737488355328):cY prog 46 [.slice A a.length ca,.slice B b.length cb] [] [bT.sl (.slice A a.length ca) a,polsF a,bT.sl (.slice B b.length cb) b,polsF b] (λ(_:Unit)=> .bool (decide (bN a=bN b))) (λ_=>[]) (λ_=>[]):=by
 have hT:=dK;refine j5 func46 ntmps46 ?_;intro β hM;refine sr<|sp hT ?_;refine nn<|bP<|sr<|sp4 hT ?_;refine sp hT ?_;refine nn<|bX rfl (λhc10=>?_) (λhc10=>?_)
 .have hc10:=bne_iff_ne.1 hc10;refine sr<|sp hT ?_;refine nn<|cW<|cJ ?_;exact iX () rfl (bW rfl) .nil i6 (bAi (λe=>by have:=congrArg Q8 e;rw[bI,bI]at this;omega))
 have hc10:=bne_eq_false_iff_eq.1 hc10;refine fH<|dB<|bP<|sr<|sp hT ?_;refine nn<|iJ<|cF (ι:=Nat) [(0,_),(1,_)] ⟨rfl,rfl,i6⟩ (λi=>[(5,.int .i64 (i:Nat))]) (λ_=>[]) (λi=>[Fact.pure (i<=a.length/\(bN a).take i=(bN b).take i)]) (λi=>a.length-i) 0 ⟨rfl,i6⟩ .nil ⟨i7 (⟨l7,rfl⟩),i6⟩ ?_;rintro i;refine bF d7 λd=>?_;refine bP<|sr<|sp4 hT ?_;refine nn<|bX rfl (λhc14=>?_) (λhc14=>?_)
 .have hc14:=of_decide_eq_true hc14;refine fH<|dB<|bP<|iJ<|bP<|cL _ _ [j9,u0,u5,u9,A00,u6,A02,A01,A68,A04] cN o0 .nil bA.self ?_;refine puM hT ?_;refine puM hT ?_
  obtain⟨x1,c⟩: ∃x',a[i]?=some x':=⟨_,F1 l7⟩
  refine stM rfl (cA hT (k:=i) (bG d8) rfl rfl rfl rfl rfl rfl rfl l7) ?_;refine stM rfl (j6 hT (dD.knows (bG d8) (k:=i) (x:=x1) c 0)) ?_;refine puM hT ?_;refine puM hT ?_
  obtain⟨x3,f⟩: ∃x',b[i]?=some x':=⟨_,F1 l7⟩
  refine stM rfl (cA hT (k:=i) (bG e6) rfl rfl rfl rfl rfl rfl rfl l7) ?_;refine stM rfl (j6 hT (dD.knows (bG e6) (k:=i) (x:=x3) f 0)) ?_;refine bGf (o:=_) rfl ?_;refine bF (dC (Has.each d9 (j0 c))) λg=>?_;refine j2 func78 (same2_spec x1 x3 g) ⟨(Has.each d9 (j0 c)),(Has.each e7 (j0 f)),i6⟩ λ_=>?_;refine fJ .nil (bA.drop 0) ?_;refine puM hT ?_;refine uU<|dB<|bX rfl (λhc26=>?_) (λhc26=>?_)
  .have hc26:=yZ hc26;refine sr<|sp hT ?_;refine nn<|cW<|iK<|cJ<|cJ<|iK<|cJ ?_;exact iX () rfl (bW rfl) .nil i6 (bAi (yO (jX c) (jX f) (bWg ‹_›)))
  have hc26:=mT hc26;refine fH<|mE<|dB<|dH<|sp2 hT ?_;refine bJ (z':=(((i+1):Nat):Int)) (kQ l7 l7) ?_;refine sp hT ?_;refine nn ?_;exact dA (i+1) l7 ⟨rfl,i6⟩ ⟨rfl,rfl,i6⟩ .nil ⟨i7 (⟨l7,yD d.2 (jX c) (jX f) (sH ‹_›)⟩),i6⟩ (bA.drop 1)
 have hc14:=aD.1 (of_decide_eq_false hc14);refine tI<|nK<|nK<|tO<|dB<|sr<|sp hT ?_;refine nn<|cW ?_;exact iX () rfl (bW rfl) .nil i6 (eqT_of (bBv d.2 (by rw[bI];omega) (by rw[bI];omega)))
theorem same9_spec(a b:TyV)(hs:a.B.A.length<=140737488355328)(hv:a.values.A.length<=140737488355328):cY prog 22 [.agg #[j8 a.B,.bool a.known,j8 a.values],.agg #[j8 b.B,.bool b.known,j8 b.values]] [] [tyF a,tyF b] (λ(_:Unit)=> .bool (decide (a.t=b.t))) (λ_=>[]) (λ_=>[]):=by
 have hT:=dK;refine j5 func22 ntmps22 ?_;intro β hM;refine bP<|bB (cM a.B) (jR d7) ?_;refine bB (bT.sl (.slice a.B.I a.B.A.length a.B.cap) a.B.A) (oL d7)<|bB (polsF a.B.A) (pK d8)<|bF (bJq d9) λg=>bB (cM a.values) (jS e6)<|bB (bT.sl (.slice a.values.I a.values.A.length a.values.cap) a.values.A) (oL d7)<|bB (polsF a.values.A) (pK d8)<|bF (bJq d9) λf=>bB (cM b.B) (jR f3)<|bB (bT.sl (.slice b.B.I b.B.A.length b.B.cap) b.B.A) (oL d7)<|bB (polsF b.B.A) (pK d8)<|bF (bJq d9) λhc_bs=>bB (cM b.values) (jS f7)<|bB (bT.sl (.slice b.values.I b.values.A.length b.values.cap) b.values.A) (oL d7)<|bB (polsF b.values.A) (pK d8)<|bF (bJq d9) λe=>?_;refine dH<|j4 λi=>?_;refine j4 λh=>?_;refine sp hT ?_;refine nn<|sr<|sp hT ?_;refine ss (ldO hT (gG kT1)) ?_;refine sp hT ?_;refine ss (ldO hT (gG .head)) ?_;refine j2 func46 (wL a.B.I b.B.I a.B.cap b.B.cap a.B.A b.B.A l7) ⟨f7,f6,e7,e6,i6⟩ λ_=>?_;refine sp hT ?_;refine cG (λd=>?_) (λd=>?_)
 .refine sp hT ?_;refine ss (ldO hT (bRd kT1)) ?_;refine sp hT ?_;refine ss (ldO hT (bRd .head)) ?_;refine sp3 hT ?_;refine cG (λc=>?_) (λc=>?_)
  .have c:=eq_of_beq c;refine sp hT ?_;refine ss (ldO hT (uB kT1)) ?_;refine sp hT ?_;refine ss (ldO hT (uB .head)) ?_;refine j2 func46 (wL a.values.I b.values.I a.values.cap b.values.cap a.values.A b.values.A l7) ⟨f3,e9,d8,d7,i6⟩ λ_=>?_;refine sp2 hT ?_;refine nn<|cW ?_;exact iX () rfl (bW rfl) .nil i6 (tEq_3 (of_decide_eq_true d) c)
  have c:=beq_eq_false_iff_ne.1 c;refine sk4 ?_;refine sk ?_;refine sp2 hT ?_;refine nn<|cW ?_;exact iX () rfl (bW rfl) .nil i6 (tEq_2 c)
 refine sk4 ?_;refine sk ?_;refine sp2 hT ?_;refine sk4 ?_;refine sk ?_;refine sp2 hT ?_;refine nn<|cW ?_;exact iX () rfl (bW rfl) .nil i6 (tEq_1 (of_decide_eq_false d))
theorem bOg(A B:Option Addr)(ca cb:Nat)(xs ys:List (Sl TyV))(hl:xs.length<=140737488355328)(hr: ∀x∈xs,x.A.length<=140737488355328/\ ∀t∈x.A,t.B.A.length<=140737488355328/\t.values.A.length<=140737488355328):cY prog 8 [.slice A xs.length ca,.slice B ys.length cb] [] [sR.sl (.slice A xs.length ca) xs,Fact.each xs bEz,sR.sl (.slice B ys.length cb) ys,Fact.each ys bEz] (λ(_:Unit)=> .bool (decide (xs.map tB=ys.map tB))) (λ_=>[]) (λ_=>[]):=by
 have hT:=dK;refine j5 func8 ntmps8 ?_;intro β hM;refine sr<|sp hT ?_;refine nn<|bP<|sr<|sp4 hT ?_;refine sp hT ?_;refine nn<|bX rfl (λhc11=>?_) (λhc11=>?_)
 .have hc11:=bne_iff_ne.1 hc11;refine sr<|sp hT ?_;refine nn<|cW<|cJ ?_;exact iX () rfl (bW rfl) .nil i6 (bAi (rowsE_len l7))
 have hc11:=bne_eq_false_iff_eq.1 hc11;refine fH<|dB<|bP<|sr<|sp3 hT ?_;refine nn<|iJ<|cF (ι:=Nat) [(0,_),(1,_),(13,_)] ⟨rfl,rfl,rfl,i6⟩ (λi=>[(14,.int .i64 (i:Nat))]) (λ_=>[]) (λi=>[Fact.pure (i<=xs.length/\(xs.map tB).take i=(ys.map tB).take i)]) (λi=>xs.length-i) 0 ⟨rfl,i6⟩ .nil ⟨i7 (⟨l7,rfl⟩),i6⟩ ?_;rintro i;refine bF d7 λg=>?_;refine sr<|sp hT ?_;refine nn<|bP<|bX rfl (λhc15=>?_) (λhc15=>?_)
 .have hc15:=of_decide_eq_true hc15;refine fH<|dB<|bP<|iJ<|sr<|sp2 hT ?_;refine nn<|bP<|bP<|cL _ _ [j9,u0,u5,u9,A00,u6,A02,A01,A03,A04,A08] cN o0 .nil bA.self ?_;refine puM hT ?_;refine puM hT ?_
  obtain⟨x1,a⟩: ∃x',xs[i]?=some x':=⟨_,F1 l7⟩
  refine stM rfl (cA hT (k:=i) (bG d8) rfl rfl rfl rfl rfl rfl rfl l7) ?_;refine stM rfl (j6 hT (dD.knows (bG d8) (k:=i) (x:=x1) a 0)) ?_;refine puM hT ?_;refine puM hT ?_;refine puM hT ?_
  obtain⟨x3,d⟩: ∃x',ys[i]?=some x':=⟨_,F1 l7⟩
  refine stM rfl (cA hT (k:=i) (bG e6) rfl rfl rfl rfl rfl rfl rfl l7) ?_;refine stM rfl (j6 hT (dD.knows (bG e6) (k:=i) (x:=x3) d 0)) ?_;refine puM hT ?_;refine puM hT ?_;refine uU<|dB<|bX rfl (λc=>?_) (λc=>?_)
  .have c:=bne_iff_ne.1 c;refine sr<|sp hT ?_;refine nn<|cW<|cJ<|iK<|cJ<|cJ<|iK<|cJ ?_;exact iX () rfl (bW rfl) .nil i6 (bAi (yO (bDu a) (bDu d) (rowsF_len l7)))
  have c:=bne_eq_false_iff_eq.1 c;refine fH<|dB<|bP<|bB (tyE.sl (.slice x1.I x1.A.length x1.cap) x1.A) (rowF_s (Has.each d9 (j0 a))) ?_;refine bB (Fact.each x1.A tyF) (rowF_e (Has.each e6 (j0 a)))<|bB (tyE.sl (.slice x3.I x3.A.length x3.cap) x3.A) (rowF_s (Has.each e9 (j0 d)))<|bB (Fact.each x3.A tyF) (rowF_e (Has.each f3 (j0 d))) ?_;have n:=hr x1 (j0 a);refine dH<|sp2 hT ?_;refine ss (cA hT (k:=i) (bG e8) rfl rfl rfl rfl rfl rfl rfl l7) ?_;refine ss (j6 hT (dD.knows (bG e8) (k:=i) (x:=x1) a 0)) ?_;refine sp2 hT ?_;refine nn<|iJ<|cF (ι:=Nat) [(0,_),(1,_),(5,_),(13,_),(14,_),(32,_)] ⟨rfl,rfl,rfl,rfl,rfl,rfl,i6⟩ (λj=>[(33,.int .i64 (j:Nat))]) (λ_=>[]) (λj=>[Fact.pure (j<=x1.A.length/\(x1.A.map TyV.t).take j=(x3.A.map TyV.t).take j)]) (λj=>x1.A.length-j) 0 ⟨rfl,i6⟩ .nil ⟨i7 (⟨l7,rfl⟩),i6⟩ ?_;rintro j;refine bF d7 λf=>?_;refine sr<|sp hT ?_;refine nn<|bP<|bX rfl (λhc34=>?_) (λhc34=>?_)
  .have hc34:=of_decide_eq_true hc34;refine fH<|dB<|bP<|iJ<|sr<|sp2 hT ?_;refine nn<|bP<|cL _ _ [j9,u0,u5,u9,A00,u6,A02,A01,A03,A04,A08,A07,A09,A24,(false,14),A70] cN o0 .nil bA.self ?_;refine puM hT ?_;refine puM hT ?_;refine stM rfl (cA hT (k:=i) (bG e9) rfl rfl rfl rfl rfl rfl rfl l7) ?_;refine stM rfl (j6 hT (dD.knows (bG e9) (k:=i) (x:=x1) a 0)) ?_;refine puM hT ?_
   obtain⟨m,e⟩: ∃x',x1.A[j]?=some x':=⟨_,F1 l7⟩
   refine stM rfl (cA hT (k:=j) (bG e7) rfl rfl rfl rfl rfl rfl rfl l7) ?_;refine stM rfl (fP hT (dD.knows (bG e7) (k:=j) (x:=m) e 0) rfl rfl rfl rfl rfl) ?_;refine puM hT ?_;refine puM hT ?_;refine stM rfl (cA hT (k:=i) (bG f5) rfl rfl rfl rfl rfl rfl rfl l7) ?_;refine stM rfl (j6 hT (dD.knows (bG f5) (k:=i) (x:=x3) d 0)) ?_;refine puM hT ?_
   obtain⟨p,h⟩: ∃x',x3.A[j]?=some x':=⟨_,F1 l7⟩
   refine stM rfl (cA hT (k:=j) (bG d9) rfl rfl rfl rfl rfl rfl rfl l7) ?_;refine stM rfl (fP hT (dD.knows (bG d9) (k:=j) (x:=p) h 0) rfl rfl rfl rfl rfl) ?_;refine bGf (o:=_) rfl ?_;have l:=n.2 m (j0 e);refine j2 func22 (same9_spec m p l.1 l.2) ⟨Has.each e6 (j0 e),Has.each d8 (j0 h),i6⟩ λ_=>?_;refine fJ .nil (bA.drop 0) ?_;refine puM hT ?_;refine uU<|dB<|bX rfl (λb=>?_) (λb=>?_)
   .have b:=yZ b;refine sr<|sp hT ?_;refine nn<|cW<|iK<|cJ<|cJ<|iK<|iK<|cJ<|cJ<|iK<|cJ ?_;exact iX () rfl (bW rfl) .nil i6 (bAi (yO (bDu a) (bDu d) (yO (tJ e) (tJ h) (bWg ‹_›))))
   have b:=mT b;refine fH<|mE<|dB<|dH<|sp hT ?_;refine bJ (z':=(((j+1):Nat):Int)) (kQ l7 l7) ?_;refine sp hT ?_;refine nn ?_;exact dA (j+1) l7 ⟨rfl,i6⟩ ⟨rfl,rfl,rfl,rfl,rfl,rfl,i6⟩ .nil ⟨i7 (⟨l7,yD f.2 (tJ e) (tJ h) (sH ‹_›)⟩),i6⟩ (bA.drop 1)
  have hc34:=aD.1 (of_decide_eq_false hc34);refine tI<|nK<|nK<|tO<|mE<|dB<|dH<|sp hT ?_;refine bJ (z':=(((i+1):Nat):Int)) (kQ l7 l7) ?_;refine sp hT ?_;refine nn ?_;exact dA (i+1) l7 ⟨rfl,i6⟩ ⟨rfl,rfl,rfl,i6⟩ .nil ⟨i7 (⟨l7,yD g.2 (bDu a) (bDu d) (bBv f.2 (by rw[vK];omega) (by rw[vK];omega))⟩),i6⟩ (bA.drop 6)
 have hc15:=aD.1 (of_decide_eq_false hc15);refine tI<|nK<|nK<|tO<|dB<|sr<|sp hT ?_;refine nn<|cW ?_;exact iX () rfl (bW rfl) .nil i6 (eqT_of (bBv g.2 aa8 aa8))
section
variable {P : Program} {β : fS} {n : Nat} {Γ : Env} {H : List bK} {F : List Fact}
theorem spec_step{ι:Type}{f:FuncId}{args:List Value}{Hin:List bK}{Pre:List Fact}{val:ι->Value}{Hout Hout':ι->List bK}{post post':ι->List Fact}(h:cY P f args Hin Pre val Hout post)
  (hc: ∀(x:ι) (β:fS),At β 0 [] (Hout x) (post x) λ_ w=> ∃S',St β (Hout' x) S' w/\All (post' x) S' w):cY P f args Hin Pre val Hout' post':=λS w s k=>(h S w s k).mono λe a ⟨x,S',he,hs,b⟩=>by obtain⟨c,h1,h2⟩:=hc x _ {tmps:= #[],defers:=[]} a S' ⟨rfl,C4 _,λi v hv=>by cases hv⟩ hs b;exact⟨x,c,he,h1,h2⟩
theorem at_fin{H':List bK}{G:List Fact}(hH:Sel H H')(hF:bA F G):At β n Γ H F λ_ w=> ∃S',St β H' S' w/\All G S' w:=λ_ w S _ s k=>⟨S,s.sel hH,hF.all S w k⟩
end
def x8:Arr:=⟨[3],[1,2,3]⟩
def okB (p:iL):Bool:=
 (p.C.all λx=>decide (x.name.length<=140737488355328)&&x.B.all λd=>decide (d.name.length<=140737488355328/\ -9223372036854775808<=d.n/\d.n<=9223372036854775807))&&
 (p.G.all λx=>decide (x.name.length<=140737488355328)&&x.K.all λit=>decide (it.name.length<=140737488355328)&&it.nums.all λz=>decide (-9223372036854775808<=z/\z<=9223372036854775807))&&
 decide (p.C.length<=140737488355328/\p.G.length<=140737488355328)&&p.C.all λx=>decide (x.B.length<=4)
theorem ok_of{x:ProgV}(h:okB x.pr=true):(rW x/\x.C.A.length<=140737488355328/\x.G.A.length<=140737488355328)/\ ∀y∈x.C.A,y.B.A.length<=140737488355328:=by
 unfold okB at h;simp only[J3,List.all_eq_true,decide_eq_true_eq]at h;obtain⟨⟨⟨h1,h2⟩,i,h4⟩,e⟩:=h;refine⟨⟨⟨λy hy=>?_,λy hy=>?_⟩,by have:x.pr.C.length=x.C.A.length:=O4 _;omega,by have:x.pr.G.length=x.G.A.length:=O4 _;omega⟩,λy hy=>?_⟩
 .obtain⟨a,b⟩:=h1 y.inp (R2.2 ⟨y,hy,rfl⟩);exact⟨a,λd c=>b d.sd (R2.2 ⟨d,c,rfl⟩)⟩
 .obtain⟨a,b⟩:=h2 y.ln (R2.2 ⟨y,hy,rfl⟩);exact⟨a,λd c=>b d.it (R2.2 ⟨d,c,rfl⟩)⟩
 .have g:=e y.inp (R2.2 ⟨y,hy,rfl⟩);have f:y.inp.B.length=y.B.A.length:=O4 _;omega
def s91:Bs:=[105,110,32,120,32,110,10,111,117,116,32,120,32,99,97,116,32,120]
def s92:Bs:=[105,110,32,120,32,110,10,111,117,116,32,120,32,43,32,49,32,50]
def s93:Bs:=[105,110,32,120,32,110,10,111,117,116,32,49,32,116,97,107,101,32,120]
def s94:Bs:=[111,117,116,32,50,32,51,32,114,104,111,32,49]
theorem p91:(jI s91).2=(0,0):=by decide+kernel
theorem p92:(jI s92).2=(0,0):=by decide+kernel
theorem p93:(jI s93).2=(0,0):=by decide+kernel
theorem p94:(jI s94).2=(0,0):=by decide+kernel
def zT (s:Bs):List TyP:=(dX (jI s).1).1.getLast?.getD []
def lastTy(s:Bs):TyP:=(zT s).getLast?.getD default
theorem f91:(dX (jI s91).1).2=(0,0)/\(dX (jI s91).1).1.getLast?=some (zT s91)/\(zT s91).getLast?=some (lastTy s91)/\(lastTy s91).B=[[⟨2,1,0,0,0,0,0⟩]]:=by decide+kernel
theorem f94:(dX (jI s94).1).2=(0,0)/\(dX (jI s94).1).1.getLast?=some (zT s94)/\(zT s94).getLast?=some (lastTy s94)/\(lastTy s94).B.length=2:=by decide+kernel
theorem f92:dX (jI s92).1=([],(13,91)):=by decide+kernel
theorem f93:dX (jI s93).1=([],(13,93)):=by decide+kernel
theorem l91:(dX (jI s91).1).1.length<=1000/\(zT s91).length<=1000:=by decide+kernel
theorem l94:(dX (jI s94).1).1.length<=1000/\(zT s94).length<=1000:=by decide+kernel
theorem last_at{α β:Type}{g:α->β}{xs:List α}{T:List β}{r:β}(h:xs.map g=T)(h1:T.getLast?=some r): ∃x,xs[xs.length-1]?=some x/\g x=r/\1<=xs.length:=by
 subst h;rw[Y5,O4,K1]at h1
 cases e:xs[xs.length-1]? with
 |none=>rw[e]at h1;cases h1
 |some x=>
  rw[e]at h1;cases h1;have:=(F3.1 e).1;exact⟨x,rfl,rfl,l7⟩
theorem one_pol9{l:List PolV}{q:Pol}(h:bN l=[q]): ∃p,l=[p]/\p.A=q:=by
 match l,h with
 |[p],h=>
  unfold bN at h;simp only[N7,O6,List.cons.injEq,and_true]at h;exact⟨p,rfl,h⟩
theorem bOr(s:Bs)(hs:s.length<=65536)(h0:(jI s).2=(0,0))(T:List (List TyP))(row:List TyP)(t:TyP)(hT9:dX (jI s).1=(T,(0,0)))(h1:T.getLast?=some row)(h2:row.getLast?=some t)(hTl:T.length<=1000)(hrl:row.length<=1000):cY prog 11 [.string (bs s)] [] [kG] (λ(x:TyV)=> .tuple #[tyC x,.agg #[k6 0,k6 0]]) (λ_=>[]) (λ(x:TyV)=>[tyF x,Fact.pure (x.t=t)]):=by
 have hT:=dK;refine j5 func11 ntmps11 ?_;intro β hM;refine g2 ?_;refine j1 sQ λB=>?_;refine j1 bGy λA=>?_;refine g5 ?_;have j:=bSh s (B1 hs m6);rw[h0]at j;refine j2 func27 j ⟨d7,i6⟩ λb=>?_;refine bF d8 λn=>bB (jP.sl (.slice b.C.I b.C.A.length b.C.cap) b.C.A) (Has.left (Has.left d7))<|bB (iW b.C.A) (Has.right (Has.left d8))<|bB (nM.sl (.slice b.G.I b.G.A.length b.G.cap) b.G.A) (Has.left (Has.right d9))<|bB (mA b.G.A) (Has.right (Has.right e6)) ?_;have d:=bXb h0;rw[<-n]at d;have f:=wS d.1;have e:=f.ok d.2;refine g3 ?_;refine j1 sC λz=>?_;refine j1 bGy λy=>?_;refine g8 ?_;refine ss (j3 (bDk)) ?_;refine ss (fY ⟨0,0⟩ ⟨0,0⟩ rfl rfl rfl) ?_;refine bC (t':=false) af6 ?_;refine g8 ?_;have i:=bGo b e.1 e.2.1 e.2.2;rw[n,hT9]at i;refine j2 func6 i ⟨e9,e6,d9,d8,d7,i6⟩ λ⟨A6,c7,xs8⟩=>?_;refine hZ (v':= .tuple #[.slice A6 xs8.length c7,.agg #[.int .i64 0,.int .i64 0]]) rfl<|bF d9 λm=>bB (sR.sl (.slice A6 xs8.length c7) xs8) (d7)<|bB (Fact.each xs8 bEz) (d9) ?_;obtain⟨a,c,l,p⟩:=last_at m.1 h1;obtain⟨h,k,o,r⟩:=last_at (g:=TyV.t) l h2;have v:1<=xs8.length:=p;have u:xs8.length<=1000:=by have:=congrArg Q8 m.1;rw[O4]at this;have w:xs8.length=T.length:=this;omega
 have q:a.A.length<=1000:=by have:=congrArg Q8 l;rw[vK]at this;omega
 refine bB (bEz a) (Has.each d7 (j0 c))<|bB (tyE.sl (.slice a.I a.A.length a.cap) a.A) (rowF_s d7)<|bB (tyF h) (Has.each (rowF_e d8) (j0 k)) ?_;refine g11 ?_;refine ss (j3 (bDk)) ?_;refine ss (fY ⟨0,0⟩ ⟨0,0⟩ rfl rfl rfl) ?_;refine bC (t':=false) af6 ?_;refine g4 ?_;refine bC (t':=false) (beq_eq_false_iff_ne.2 l7) ?_;refine g6 ?_;refine inc (xs8.length-1) ?_;refine ss (ixs (xs8.length-1)) ?_;refine ss (fG c 0) ?_;refine g2 ?_;refine bC (t':=false) (beq_eq_false_iff_ne.2 l7) ?_;refine g12 ?_;refine inc (xs8.length-1) ?_;refine ss (ixs (xs8.length-1)) ?_;refine ss (fG c 0) ?_;refine g4 ?_;refine cL _ _ [j9,u0,u5,u9,A00,u6,A02,A75,A68] cN o0 (.c0 (.c0 .nil)) bA.self ?_;refine g4 ?_;refine inc (a.A.length-1) ?_;refine stM rfl (ixs (a.A.length-1)) ?_;refine stM rfl (pF k 0) ?_;refine g10 ?_;exact rs2 (h:TyV) ⟨d7,i7 o,i6⟩
theorem bIu(s:Bs)(hs:s.length<=65536)(h0:(jI s).2=(0,0))(f:Flt)(hf:f.2≠0)(hT9:dX (jI s).1=([],f)):cY prog 11 [.string (bs s)] [] [kG] (λ(x:TyV)=> .tuple #[tyC x,.agg #[k6 f.1,k6 f.2]]) (λ_=>[]) (λ(x:TyV)=>[tyF x,Fact.pure (x.t=⟨[],false,[]⟩)]):=by have hT:=dK;refine j5 func11 ntmps11 ?_;intro β hM;refine g2 ?_;refine j1 sQ λm=>?_;refine j1 bGy λl=>?_;refine g5 ?_;have g:=bSh s (B1 hs m6);rw[h0]at g;refine j2 func27 g ⟨d7,i6⟩ λa=>?_;refine bF d8 λh=>bB (jP.sl (.slice a.C.I a.C.A.length a.C.cap) a.C.A) (Has.left (Has.left d7))<|bB (iW a.C.A) (Has.right (Has.left d8))<|bB (nM.sl (.slice a.G.I a.G.A.length a.G.cap) a.G.A) (Has.left (Has.right d9))<|bB (mA a.G.A) (Has.right (Has.right e6)) ?_;have b:=bXb h0;rw[<-h]at b;have d:=wS b.1;have c:=d.ok b.2;refine g3 ?_;refine j1 sC λk=>?_;refine j1 bGy λj=>?_;refine g8 ?_;refine ss (j3 (bDk)) ?_;refine ss (fY ⟨0,0⟩ ⟨0,0⟩ rfl rfl rfl) ?_;refine bC (t':=false) af6 ?_;refine g8 ?_;have e:=bGo a c.1 c.2.1 c.2.2;rw[h,hT9]at e;refine j2 func6 e ⟨e9,e6,d9,d8,d7,i6⟩ λ⟨A6,c7,xs8⟩=>?_;refine hZ (v':= .tuple #[.slice A6 xs8.length c7,.agg #[.int .i64 f.1,.int .i64 f.2]]) rfl<|bF d9 λi=>bB (sR.sl (.slice A6 xs8.length c7) xs8) (d7)<|bB (Fact.each xs8 bEz) (d9) ?_;refine g11 ?_;refine ss (j3 (bDk)) ?_;refine ss (fY ⟨f.1,f.2⟩ ⟨0,0⟩ rfl rfl rfl) ?_;refine bC (t':=true) (flt_bad hf) ?_;refine g19 ?_;refine cL _ _ [j9,u0,A05,A06] cN o0 (.c0 (.c0 .nil)) bA.self ?_;refine stM rfl (j3 (zO)) ?_;refine g11 ?_;exact rs2 (noTy:TyV) ⟨noTy_F,i7 rfl,i6⟩
theorem shown9_spec:cY prog 5 [] [] [kG] (λ(_:Unit)=> .bool true) (λ_=>[]) (λ_=>[]):=by
 have hT:=dK;refine j5 func5 ntmps5 ?_;intro β hM;refine g7 ?_;refine bD func11 (bOr s91 m6 p91 _ _ _ (aE rfl f91.1) f91.2.1 f91.2.2.1 l91.1 l91.2) rfl rfl .nil ⟨d7,i6⟩ λc=>?_;refine bF d8 λj=>?_;obtain⟨a,hpl,d⟩:=one_pol9 ((congrArg TyP.B j).trans f91.2.2.2);refine bB (cM c.B) (jR d7)<|cE c.B mT0 λh=>bB (cM c.values) (jS e6)<|cE c.values mT0 λg=>bB (fE.sl (.slice a.I a.A.length a.cap) a.A) (yK (Has.each e6 (by rw[hpl];exact K7.2 rfl))) ?_;have n:c.B.A.length=1:=by rw[hpl];rfl
 have m:a.A.length=1:=by rw[d];rfl
 refine g3 ?_;refine j1 sQ λB=>?_;refine j1 bGy λA=>?_;refine g6 ?_;refine j2 func11 (bIu s92 m6 p92 (13,91) m6 f92) ⟨f6,i6⟩ λr=>?_;refine bF d8 λp=>?_;refine g3 ?_;refine j1 sQ λz=>?_;refine j1 bGy λy=>?_;refine g6 ?_;refine j2 func11 (bIu s93 m6 p93 (13,93) m6 f93) ⟨f8,i6⟩ λq=>?_;refine bF d8 λo=>?_;refine g3 ?_;refine j1 sQ λw=>?_;refine j1 bGy λv=>?_;refine g6 ?_;refine bD func11 (bOr s94 m6 p94 _ _ _ (aE rfl f94.1) f94.2.1 f94.2.2.1 l94.1 l94.2) rfl rfl .nil ⟨g0,i6⟩ λb=>?_;refine bF d8 λi=>?_;have l:b.B.A.length=2:=by have:=(congrArg (λt:TyP=>t.B.length) i).trans f94.2.2.2;have this:(bN b.B.A).length=2:=this;rwa[bI]at this
 refine bB (cM b.B) (jR d7)<|cE b.B mT0 λf=>bB (cM b.values) (jS e6)<|cE b.values mT0 λe=>?_;refine g3 ?_;refine j1 sQ λu=>?_;refine j1 bGy λs=>?_;refine g8 ?_;refine ss (j3 (bDk)) ?_;refine ss (fY ⟨0,0⟩ ⟨0,0⟩ rfl rfl rfl) ?_;refine bC (t':=false) af6 ?_;refine g2 ?_;refine ss (j3 (bDk)) ?_;refine ss (fY ⟨0,0⟩ ⟨0,0⟩ rfl rfl rfl) ?_;refine bC (t':=false) af6 ?_;refine g6 ?_;refine bC (t':=false) (bne_eq_false_iff_eq.2 l7) ?_;refine g4 ?_;refine ss (ixs 0) ?_;refine ss (cV hT (dD.knows (bG (Has.of (u8 (u8 mT1)))) (k:=0) (x:=a) (by rw[hpl];rfl) 0) rfl rfl rfl rfl rfl) ?_;refine g2 ?_;refine bC (t':=false) (bne_eq_false_iff_eq.2 l7) ?_;refine g6 ?_;refine bC (t':=false) (bne_eq_false_iff_eq.2 l7) ?_;refine g10 ?_;refine ss (ixs 0) ?_;refine ss (cV hT (dD.knows (bG (Has.of (u8 (u8 mT1)))) (k:=0) (x:=a) (by rw[hpl];rfl) 0) rfl rfl rfl rfl rfl) ?_;refine ss (ixs 0) ?_;refine one ?_;refine ss (cV hT (dD.knows (bG f9) (k:=0) (x:=(⟨2,1,0,0,0,0,0⟩:Mono)) (by rw[d];rfl) 0) rfl rfl rfl rfl rfl) ?_;refine one ?_;refine bC (t':=true) (by rfl) ?_;refine g2 ?_;refine ss (j3 (zF _ _)) ?_;refine ss (tZ ⟨13,91⟩ ⟨13,91⟩ rfl rfl rfl) ?_;refine bC (t':=true) af6 ?_;refine g3 ?_;refine ss (j3 (zF _ _)) ?_;refine ss (tZ ⟨13,93⟩ ⟨13,93⟩ rfl rfl rfl) ?_;refine bC (t':=true) af6 ?_;refine g5 ?_;exact rs1 () trivial
theorem rows_few{xs:List (Sl TyV)}{p:iL}(h:xs.map tB=(dX p).1):xs.length<=140737488355328:=by have:=(bIj p).2;rw[<-h,O4]at this;omega
theorem rows_big{xs:List (Sl TyV)}{p:iL}(h:xs.map tB=(dX p).1): ∀x∈xs,x.A.length<=140737488355328/\ ∀t∈x.A,t.B.A.length<=140737488355328/\t.values.A.length<=140737488355328:=λx hx=>by obtain⟨h1,h2⟩:=(bIj p).1 (tB x) (by rw[<-h];exact Y3 hx);rw[vK]at h1;refine⟨l7,λt ht=>?_⟩;have c:=h2 t.t (Y3 ht);have a:=oF c;have b:=wA c;omega
def TyG (k:Nat)(t:TyP):Prop:=(∀s∈t.B,gL s=true/\OfV k s)/\ ∀v∈t.values,OfV k v
def OkOp (k:Nat)(op:pQ):Prop:= ∀p q,OfV k p->OfV k q->OfV k (op p q).1
section
variable {k : Nat}
theorem head_ofV{l:List Pol}(h: ∀v∈l,OfV k v):OfV k (l.headD []):=by
 cases l with
 |nil=>exact ofV_nil
 |cons a r=>exact h a (E8 ..)
theorem head_g{l:List Pol}(h: ∀v∈l,gL v=true/\OfV k v):gL (l.headD [])=true/\OfV k (l.headD []):=by
 cases l with
 |nil=>exact⟨m6,ofV_nil⟩
 |cons a r=>exact h a (E8 ..)
theorem numG{n:Int}(h:0<=n):gL (bZ n)=true/\OfV k (bZ n):=⟨uN.2 (numT_grP h),bPy n⟩
theorem rV{S:List Pol}(h: ∀s∈S,gL s=true/\OfV k s):TyG k ⟨S,false,[]⟩:=⟨h,λ_ h=>(by cases h)⟩
theorem none_g:TyG k ⟨[],false,[]⟩:=rV λ_ h=>(by cases h)
theorem literal_g(nums:List Int):TyG k (gK nums):=by
 have hs: ∀s∈(if 1<nums.length then [bZ nums.length]else ([]:List Pol)),gL s=true/\OfV k s:=by
  split
  .exact λs hs=>by rw[K7.1 hs];exact numG l7
  .exact λs hs=>(by cases hs)
 unfold gK;split
 .exact rV hs
 .refine⟨hs,λv hv=>?_⟩;obtain⟨n,_,rfl⟩:=R2.1 hv;exact bPy n
theorem ravel_g: ∀{S:List Pol} {p q:Pol},GrP p->OfV k p->(∀s∈S,gL s=true/\OfV k s)->rC p S=some q->gL q=true/\OfV k q
 |[],p,q,hp,ho,_,h=>by cases h;exact⟨uN.2 hp,ho⟩
 |s::r,p,q,hp,ho,hS,h=>by
  unfold rC at h;split at h
  .cases h
  .rename_i h0;have hs:=hS s (E8 ..);exact ravel_g (mul_grP hp (uN.1 hs.1) (aE rfl (by simpa using h0))) (ofV_mul ho hs.2) (λx hx=>hS x (E4 _ hx)) h
theorem zip_ofV{op:pQ}(ho:OkOp k op): ∀{X Y l:List Pol},(∀v∈X,OfV k v)->(∀v∈Y,OfV k v)->xH op X Y=some l-> ∀v∈l,OfV k v
 |[],_,l,_,_,h=>by cases h;intro v hv;cases hv
 |_::_,[],_,_,_,h=>by cases h
 |p::x,q::y,l,hX,hY,h=>by
  unfold xH at h;split at h
  .cases h
  .cases e:xH op x y with
   |none=>rw[e]at h;cases h
   |some z=>
    rw[e]at h;cases h;intro v hv
    rcases E2.1 hv with rfl|hv
    .exact ho p q (hX p (E8 ..)) (hY q (E8 ..))
    .exact zip_ofV ho (λv hv=>hX v (E4 _ hv)) (λv hv=>hY v (E4 _ hv)) e v hv
theorem rep_ofV{x:List Pol}{n:Nat}(h: ∀v∈x,OfV k v): ∀v∈repT x n,OfV k v:=λv hv=>by obtain⟨y,hy,hv⟩:=List.mem_flatten.1 hv;rw[(List.mem_replicate.1 hy).2]at hv;exact h v hv
theorem each_g{op:Option pQ}{a b:TyP}(ho: ∀o,op=some o->OkOp k o)(ha: ∀v∈a.values,OfV k v)(hb: ∀v∈b.values,OfV k v): ∀v∈(lK op a b).1,OfV k v:=by
 unfold lK
 cases op with
 |none=>exact λv h=>(by cases h)
 |some o=>
  dsimp only;split
  .exact λv h=>(by cases h)
  .split
   .exact λv h=>(by cases h)
   .rename_i l e;refine zip_ofV (ho o rfl) ?_ ?_ e
    .unfold tR;split
     .exact rep_ofV ha
     .exact ha
    .unfold qV;split
     .exact rep_ofV hb
     .exact hb
theorem bLg(c:Int):OkOp k λp q=>cD p q c:=λ_ _ a hq=>bUt a hq
theorem opOf_ok{f:Int}{o:pQ}(h:rS f=some o):OkOp k o:=by
 unfold rS at h;split at h
 .cases h;exact bLg 1
 .split at h
  .cases h;exact bLg (-1)
  .split at h
   .cases h;exact λ_ _ a hq=>ofV_mul a hq
   .cases h
theorem monad_g{f:Int}{a:TyP}(ha:TyG k a):TyG k (gZ f a).1:=by
 unfold gZ;split
 .split
  .exact ha
  .split
   .exact ha
   .split
    .exact ha
    .rename_i hg;exact rV (λs h=>by rw[K7.1 h];exact⟨by simpa using hg,head_ofV ha.2⟩)
 .split
  .exact⟨λs h=>by rw[K7.1 h];exact numG l7,λv hv=>(ha.1 v hv).2⟩
  .split
   .split
    .exact ha
    .rename_i p b;exact⟨λs h=>by rw[K7.1 h];exact ravel_g (numT_grP l7) (bPy 1) ha.1 b,ha.2⟩
   .split
    .dsimp only;split
     .exact⟨ha.1,λv h=>ha.2 v (Y6.1 h)⟩
     .exact ha
    .split
     .exact⟨λs h=>ha.1 s (Y6.1 h),ha.2⟩
     .split
      .exact ha
      .split
       .exact⟨ha.1,each_g (λo h=>by cases h;exact bLg (-1)) (λv h=>by rw[K7.1 h];exact ofV_nil) ha.2⟩
       .exact rV ha.1
theorem rho_g{a b:TyP}(ha:TyG k a):TyG k (xP a b).1:=by
 unfold xP;split
 .exact ha
 .split
  .exact ha
  .split
   .exact ha
   .rename_i hg;split
    .exact ha
    .refine rV λs hs=>⟨?_,ha.2 s hs⟩
     have hg: ∀v∈a.values,gL v=true:=by simpa using hg
     exact hg s hs
theorem part_g{tk:Bool}{a b:TyP}(ha:TyG k a)(hb:TyG k b):TyG k (lT tk a b).1:=by
 unfold lT;split
 .exact ha
 .split
  .exact ha
  .split
   .exact ha
   .rename_i n hn;split
    .exact ha
    .rename_i d;have d:fO (b.B.headD []) (max n (-n))=true:=by simpa using d
     have c: ∀v∈(if b.known=true then xF tk n b.values else b.values),OfV k v:=by
      split
      .exact cut_all hb.2
      .exact hb.2
     split
     .rename_i ht;subst ht;refine⟨λs h=>?_,c⟩
      rcases E2.1 h with rfl|h
      .exact numG l7
      .exact hb.1 s (yG h)
     .rename_i ht;have ht:tk=false:=by simpa using ht
      subst ht;split
      .exact ha
      .rename_i he;refine⟨λs h=>?_,c⟩
       rcases E2.1 h with rfl|h
       .exact⟨uN.2 (sub_grP l7 d (aE rfl (by simpa using he))),bUt (head_g hb.1).2 (bPy _)⟩
       .exact hb.1 s (yG h)
theorem one_g{l:List Pol}(h: ∀s∈l,gL s=true/\OfV k s): ∀s∈dT l,gL s=true/\OfV k s:=by
 unfold dT;split
 .exact λs h=>by rw[K7.1 h];exact numG l7
 .exact h
theorem cat_g{a b:TyP}(ha:TyG k a)(hb:TyG k b):TyG k (xZ a b).1:=by
 unfold xZ;split
 .exact ha
 .split
  .exact ha
  .rename_i he;have h1:=head_g (one_g ha.1);have h2:=head_g (one_g hb.1)
   have c: ∀s∈(cD ((dT a.B).headD []) ((dT b.B).headD []) 1).1::(dT b.B).tail,gL s=true/\OfV k s:=λs h=>by
    rcases E2.1 h with rfl|h
    .exact⟨uN.2 (add_grP (uN.1 h1.1) (uN.1 h2.1) (aE rfl (by simpa using he))),bUt h1.2 h2.2⟩
    .exact one_g hb.1 s (yG h)
   split
   .refine⟨c,λv h=>?_⟩
    rcases E3.1 h with h|h
    .exact ha.2 v h
    .exact hb.2 v h
   .exact rV c
theorem dyad_g{f:Int}{a b:TyP}(ha:TyG k a)(hb:TyG k b):TyG k (oQ f a b).1:=by
 unfold oQ;split
 .exact rho_g ha
 .split
  .exact part_g ha hb
  .split
   .exact part_g ha hb
   .split
    .exact cat_g ha hb
    .split
     .exact rV ha.1
     .refine⟨?_,each_g (λo h=>opOf_ok h) ha.2 hb.2⟩;dsimp only;split
      .exact hb.1
      .exact ha.1
def xI (k:Nat)(N:gD):Prop:= ∀q∈N,TyG k q.2
theorem look_g{N:gD}(h:xI k N){s:Bs}{t:TyP}(e:kH s N=some t):TyG k t:=by obtain⟨p,a,rfl⟩:=bMn e;exact h p a
theorem name_tg{N:gD}(h:xI k N){s:Bs}{t:TyP}(e:nameT N s=some t):TyG k t:=by
 unfold nameT at e;split at e
 .rename_i h1;cases e;exact look_g h h1
 .split at e
  .rename_i h1;cases e;exact look_g h h1
  .exact look_g h e
theorem headD_g{st:List TyP}(h: ∀t∈st,TyG k t):TyG k (st.headD default):=by
 cases st with
 |nil=>exact none_g
 |cons a l=>exact h a (E8 ..)
theorem tailD_g{st:List TyP}(h: ∀t∈st,TyG k t):TyG k (st.tail.headD default):=headD_g λt ht=>h t (Y7 ht)
theorem item_g{N:gD}(hN:xI k N){it:fF}{st:List TyP}(hs: ∀t∈st,TyG k t):TyG k (iO N it st).1:=by
 have h1:=headD_g hs;have h2:=tailD_g hs;unfold iO;split
 .exact literal_g _
 .split
  .split
   .rename_i e;exact name_tg hN e
   .exact none_g
  .split
   .exact monad_g h1
   .split
    .dsimp only;split
     .exact h1
     .exact rV (λs h=>h1.1 s (Y4 h))
    .split
     .dsimp only;split
      .exact h1
      .exact rV h1.1
     .split
      .exact dyad_g h2 h1
      .refine rV (λs h=>?_)
       rcases E3.1 h with h|h
       .exact h2.1 s h
       .exact h1.1 s h
theorem lineT_g{N:gD}(hN:xI k N): ∀{l:List fF} {st all:List TyP} {r:List TyP×List TyP},(∀t∈st,TyG k t)->(∀t∈all,TyG k t)->rY N l st all= .ok r->(∀t∈r.1,TyG k t)/\ ∀t∈r.2,TyG k t
 |[],st,all,r,hs,ha,h=>by cases h;exact⟨hs,ha⟩
 |x::l,st,all,r,hs,ha,h=>by
  rw[rY]at h;split at h
  .cases h
  .have a:=item_g hN (it:=x) hs;refine lineT_g hN (λt ht=>?_) (λt ht=>?_) h
   .rcases E2.1 ht with rfl|ht
    .exact a
    .exact hs t (O3 ht)
   .rcases E3.1 ht with ht|ht
    .exact ha t ht
    .rw[K7.1 ht];exact a
theorem lastD_g{st:List TyP}(h: ∀t∈st,TyG k t):TyG k (st.getLastD default):=by
 cases st with
 |nil=>exact none_g
 |cons a l=>
  rw[List.getLastD_eq_getLast?,List.getLast?_eq_some_getLast (List.cons_ne_nil a l)];exact h _ (List.getLast_mem _)
end
theorem varsG{k n:Nat}(hk:k=n\/(6<=n/\k=6)): ∀{l:List Bs} {j:Nat} {N:gD},xI k N->j+l.length<=n->xI k (rN l j N)
 |[],_,_,h,_=>h
 |s::l,j,N,h,hl=>by
  rw[rN];refine varsG hk (λq hq=>?_) (by simp at hl;omega)
  rcases E2.1 hq with rfl|hq
  .exact⟨λs h=>(by cases h),λv hv=>by rw[K7.1 hv];exact ofV_var (by simp at hl;omega)⟩
  .exact h q hq
theorem clamp_or(n:Nat):bFx (n:Nat)=n\/(6<=n/\bFx (n:Nat)=6):=by unfold bFx;omega
theorem few_no{vars:List Bs}{x:hU}(h:tS vars x=false){d:oI}(hd:d∈x.B):(d.name=[]->0<=d.n)/\idxOf d.name vars 0<6:=by
 unfold tS at h;rw[Y8]at h;have h:=h d hd;simp only[aB,J3,beq_iff_eq,decide_eq_true_eq,not_or]at h;refine⟨λe=>?_,l7⟩;have:bJb d.n=false:=by simpa[e]using h.1
 exact(badN_no this).1
theorem sides_namesG{p:iL}{x:hU}(hx:x∈p.C)(hf:tS (dG p) x=false): ∀s∈(inT (dG p) x).B,gL s=true/\OfV (bFx ((dG p).length:Nat)) s:=λs hs=>by
 obtain⟨d,a,rfl⟩:=R2.1 hs;unfold bHb;split
 .rename_i h0
  rcases rR d.name (dG p) 0 with h2|⟨j,h2,b,_⟩
  .have h2:idxOf d.name (dG p) 0= -1:=h2;omega
  .have h2:idxOf d.name (dG p) 0=((0+j:Nat):Int):=h2;rw[h2,Nat.zero_add];exact⟨uN.2 (var_grP _),ofV_var (by have:=clamp_or (dG p).length;omega)⟩
 .rename_i h0
  have hn:d.name=[]:=Classical.byContradiction λhn=>by obtain⟨j,_,h4⟩:=side_var hx a hn rfl;omega
  exact numG ((few_no hf a).1 hn)
theorem insG{p:iL}: ∀{l:List hU} {N:gD},(∀x∈l,x∈p.C/\tS (dG p) x=false)->xI (bFx ((dG p).length:Nat)) N->xI (bFx ((dG p).length:Nat)) (bHt (dG p) l N)
 |[],_,_,h=>h
 |x::l,N,hl,h=>by
  rw[bHt];refine insG (λy hy=>hl y (E4 _ hy)) (λq hq=>?_)
  rcases E2.1 hq with rfl|hq
  .exact rV (sides_namesG (hl x (E8 ..)).1 (hl x (E8 ..)).2)
  .exact h q hq
theorem no_few{p:iL}(h:(dX p).2=(0,0)): ∀x∈p.C,tS (dG p) x=false:=by
 unfold dX at h;split at h
 .cases h
 .cases e:p.C.find? (tS (dG p))with
  |some x=>rw[e]at h;exact absurd (show(80:Int)=0 from congrArg Prod.snd h) m6
  |none=>
   intro x hx;have:=List.find?_eq_none.1 e x hx
   simpa using this
theorem check_g{p:iL}(h:(dX p).2=(0,0)):xI (bFx ((dG p).length:Nat)) (sA p):=
 insG (λx hx=>⟨hx,no_few h x hx⟩) (varsG (clamp_or _) (λq hq=>(by cases hq)) l7)
section
variable {α γ : Type} {f g : α -> γ} {l : List α} {x : α} {k : Nat}
def two (f g:α->γ)(l:List α)(k:Nat):List γ:=(l.take k).map f++(l.drop k).map g
theorem uQ:(two f g l k).length=l.length:=by unfold two;rw[F4,O4,O4,<-F4,W8]
theorem two_end(h:l.length<=k):two f g l k=l.map f:=by unfold two;rw[F6 h,K3 h,O6,F9]
theorem bSk(h:l[k]?=some x):(two f g l k)[k]?=some (g x):=by have a:=(F3.1 h).1;unfold two;rw[Z2 (by rw[O4,K6];omega),O4,K6,L3 l7,Nat.sub_self,K1,List.getElem?_drop,Nat.add_zero,h];rfl
theorem two_set(h:l[k]?=some x):(two f g l k).set k (f x)=two f g l (k+1):=by
 obtain⟨a,e⟩:=F3.1 h;have b:((l.take k).map f).length=k:=by rw[O4,K6];omega
 unfold two;rw[Z3 _ _ l7,b,Nat.sub_self,K2 a,e,N7,List.set_cons_zero,V8 a,e,L2,Q9];rfl
end
section
variable {α γ : Type} {f : α -> List γ} {l : List α} {a : α} {b : γ} {i j : Nat}
def offL (f:α->List γ)(l:List α)(i:Nat):Nat:=((l.take i).flatMap f).length
theorem off_at(h:l[i]?=some a)(k:(f a)[j]?=some b):(l.flatMap f)[offL f l i+j]?=some b:=by
 obtain⟨hi,e⟩:=F3.1 h;have d:l=l.take i++a::l.drop (i+1):=by rw[<-e,Y9,W8]
 have c:l.flatMap f=(l.take i).flatMap f++(f a++(l.drop (i+1)).flatMap f):=by
  conv=>lhs;rw[d]
  rw[Z4,Z5]
 unfold offL;rw[c,Z2 (Nat.le_add_right _ _),Nat.add_sub_cancel_left,Z6 (F3.1 k).1,k]
theorem bIr(h:l[i]?=some a):offL f l (i+1)=offL f l i+(f a).length:=by obtain⟨hi,e⟩:=F3.1 h;unfold offL;rw[V8 hi,e,Z4,F4];simp
theorem bPz(h:l.length<=i):offL f l i=(l.flatMap f).length:=by unfold offL;rw[F6 h]
end
def shM (d:Int)(m:Mono):Mono:={m with n:=m.n+d}
def shP (d:Int)(p:PolV):PolV:=⟨p.I,p.cap,p.A.map (shM d)⟩
theorem shM_zero:shM 0=id:=funext λm=>by show({m with n:=m.n+0}:Mono)=m;rw[Int.add_zero]
theorem shP_zero:shP 0=id:=funext λp=>by show(⟨p.I,p.cap,p.A.map (shM 0)⟩:PolV)=p;rw[shM_zero,Z7]
abbrev bCu(xs:List (Sl TyV))(i:Nat):Nat:=offL (λs=>bFr s.A) xs i
abbrev bQg(l:List TyV)(k:Nat):Nat:=offL (λt=>t.B.A) l k
theorem bEt{xs:List (Sl TyV)}{r:Sl TyV}{t:TyV}{p:PolV}{i k s:Nat}(h1:xs[i]?=some r)(h2:r.A[k]?=some t)(h3:t.B.A[s]?=some p):(lL xs)[bCu xs i+bQg r.A k+s]?=some p:=by rw[Nat.add_assoc];exact off_at (f:=λs=>bFr s.A) h1 (off_at (f:=λt=>t.B.A) h2 h3)
abbrev uC (d c:Int)(ps:List PolV)(k:Nat):List PolV:=two (shP d) (shP c) ps k
section
variable {ps : List PolV} {p : PolV} {d c : Int} {k n : Nat}
def restS (d c:Int)(ps:List PolV)(k:Nat):List PolV:=(uC d c ps k).take k++(uC d c ps k).drop (k+1)
theorem sh_row(c:Int)(p:PolV):polRow (shP c p)=fE.row (j8 p) 43 (p.A.map (shM c)):=by unfold polRow shP;rw[O4]
theorem sh_open(h:ps[k]?=some p)(H:List bK):(H++jM (uC d c ps k)).Perm (fE.row (j8 p) 43 (two (shM d) (shM c) p.A 0)::(H++jM (restS d c ps k))):=by have:=nZ (bSk (f:=shP d) (g:=shP c) h) H;rw[sh_row]at this;exact this
theorem sh_close(h:ps[k]?=some p)(hn:p.A.length<=n)(H:List bK):(fE.row (j8 p) 43 (two (shM d) (shM c) p.A n)::(H++jM (restS d c ps k))).Perm (H++jM (uC d c ps (k+1))):=by
 have a:k<(uC d c ps k).length:=by rw[uQ];exact(F3.1 h).1
 have:=pol_join (q:=shP d p) a H;rw[two_set h,sh_row]at this;rw[two_end hn];exact this
theorem fam_start:uC d 0 ps 0=ps:=by show ps.map (shP 0)=ps;rw[shP_zero,Z7]
theorem fam_turn(h:ps.length<=k):uC d 0 ps k=uC 0 d ps 0:=two_end h
theorem fam_stop(h:ps.length<=k):uC 0 d ps k=ps:=by unfold uC;rw[two_end h,shP_zero,Z7]
end
theorem linesT_g{k:Nat}: ∀{ls:List nF} {N:gD} {out:List (List TyP)},xI k N->(∀o∈out,∀t∈o,TyG k t)-> ∀o∈(oH N ls out).1,∀t∈o,TyG k t
 |[],_,_,_,ho=>ho
 |l::r,N,out,hN,ho=>by
  rw[oH]
  cases e:rY N l.K [] []with
  |error f=>exact λo h=>(by cases h)
  |ok q=>
   obtain⟨c,all⟩:=q;obtain⟨a,b⟩:=lineT_g hN (λt h=>(by cases h)) (λt h=>(by cases h)) e;refine linesT_g (λq hq=>?_) λo h=>?_
   .rcases E2.1 hq with rfl|hq
    .exact lastD_g a
    .exact hN q hq
   .rcases E3.1 h with h|h
    .exact ho o h
    .rw[K7.1 h];exact b
theorem bXr: ∀{ls:List nF} {N:gD} {out:List (List TyP)},(oH N ls out).2≠(0,0)->(oH N ls out).1=[]
 |[],_,_,h=>absurd rfl h
 |l::r,N,out,h=>by
  rw[oH]at h⊢
  cases e:rY N l.K [] []with
  |error f=>rfl
  |ok q=>
   rw[e]at h;exact bXr h
section
variable {p : iL}
theorem types_no(h:(dX p).2≠(0,0)):(dX p).1=[]:=by
 unfold dX at h⊢;split
 .rfl
 .rename_i h1;rw[if_neg h1]at h
  cases e:p.C.find? (tS (dG p))with
  |some x=>rfl
  |none=>
   rw[e]at h;exact bXr h
theorem types_grow(h:(dX p).2=(0,0)): ∀o∈(dX p).1,∀t∈o,∀s∈t.B,gL s=true:=by
 have hg:=check_g h;unfold dX at h⊢;split
 .exact λo h=>(by cases h)
 .rename_i h1
  cases e:p.C.find? (tS (dG p))with
  |some x=>exact λo h=>(by cases h)
  |none=>exact λo ho t ht s hs=>((linesT_g hg (λo h=>(by cases h)) o ho t ht).1 s hs).1
end
structure RowsOk (xs:List (Sl TyV)):Prop where
 few:xs.length<=64
 row: ∀r∈xs,r.A.length<=255
 wf: ∀r∈xs,∀t∈r.A,WfT t.t
 gr: ∀r∈xs,∀t∈r.A,∀p∈t.B.A,gL p.A=true
theorem rows_ok{xs:List (Sl TyV)}{p:iL}(h:xs.map tB=(dX p).1)(hf:(dX p).2=(0,0)):RowsOk xs:=by
 obtain⟨h1,h2⟩:=bIj p;have hg:=types_grow hf;rw[<-h]at h1 h2 hg;refine⟨by rw[O4]at h2;exact h2,λr hr=>?_,λr hr t ht=>?_,λr hr t ht q hq=>?_⟩
 .have:=(h1 _ (Y3 hr)).1
  rwa[vK]at this
 .exact(h1 _ (Y3 hr)).2 t.t (Y3 ht)
 .exact hg _ (Y3 hr) t.t (Y3 ht) q.A (Y3 hq)
theorem pD{p:List Mono}(h:gL p=true):dE p=true:=by unfold gL at h;exact(J3 _ _▸h).1
theorem flt_no{f:Flt}(h:f≠(0,0)):(!nO ⟨f.1,f.2⟩ ⟨0,0⟩)=true:=by
 have:nO ⟨f.1,f.2⟩ ⟨0,0⟩=false:=by
  cases e:nO ⟨f.1,f.2⟩ ⟨0,0⟩with
  |false=>rfl
  |true=>
   simp[nO]at e;exact absurd (aE e.1 e.2) h
 rw[this];rfl
section
variable {t : TyV} {xs : List (Sl TyV)} {F : List Fact}
theorem known_few(h:WfT t.t)(k:t.known=true):t.values.A.length<=4/\t.B.A.length<=1:=by
 obtain⟨h1,h2⟩:=h.kn k;have h1:(bN t.values.A).length<=4:=h1;rw[bI]at h1;refine⟨h1,?_⟩;rw[<-bI]
 rcases h2 with h2|h2
 .rw[show bN t.B.A=[]from h2.1];decide
 .rw[show bN t.B.A=[_]from h2];exact B0 _
theorem unknown_no(h:WfT t.t)(k:t.known=false):t.values.A.length=0:=by rw[<-bI,show bN t.values.A=[]from h.un k];rfl
theorem rows_le(h:RowsOk xs): ∀p∈lL xs,p.A.length<=48:=λp a=>by obtain⟨r,hr,a⟩:=Y2.1 a;obtain⟨t,ht,a⟩:=Y2.1 a;exact iC (pD (h.gr r hr t ht p a))
end
theorem pR.frontP: ∀(L H:List bK),pR (L++H) L H
 |[],_=> .nil
 |_::L,H=> .c0 (pR.frontP L H)
set_option maxRecDepth 100000
set_option maxHeartbeats 1000000 in
theorem bYm(a b:Mono)(w:World):
  Calls prog 143 #[.agg #[k6 a.n,k7 a.U.toNat,k7 a.T.toNat,k7 a.R.toNat,k7 a.Q.toNat,k7 a.O.toNat,k7 a.N.toNat],.agg #[k6 b.n,k7 b.U.toNat,k7 b.T.toNat,k7 b.R.toNat,k7 b.Q.toNat,k7 b.O.toNat,k7 b.N.toNat]] w λe w'=>e= .returned (k6 (bFi a b))/\Below w.heap.size w w':=by
 go_enter func143,ntmps143
 go_wp2
 refine wp_loop_rounds 7 ?_
 repeat any_goals (first|(rw[rounds_succ];go_wp2)|(go_quiet (fail);go_wp2))
 all_goals go_ret
 all_goals refine⟨ret_int ?_,?_⟩
 all_goals first|((repeat refine wQ ?_ _);go_grown;done)|(go_light;simp[bFi,Mono.E,bBi, *];done)|(go_light;simp[bFi,Mono.E,bBi, *];rfl)
end
section
open Go.RowKit Go.Proofs.Tryz
set_option maxRecDepth 100000
theorem cmp_flip: ∀(l m:List UInt8),(S6 l m=1↔S6 m l<0)/\(S6 l m=0↔S6 m l=0)
 |[],[]=>by simp[S6]
 |[],_::_=>by simp[S6]
 |_::_,[]=>by simp[S6]
 |a::l,b::m=>by
  have c:=cmp_flip l m;rw[bBi,bBi]
  by_cases h1:b.toNat<a.toNat
  .rw[if_pos h1,if_neg l7,if_pos h1];simp
  .rw[if_neg h1]
   by_cases h2:a.toNat<b.toNat
   .rw[if_pos h2,if_pos h2];simp
   .rw[if_neg h2,if_neg h2,if_neg h1];exact c
theorem bZp(a b:Mono):bFi a b=1↔ord a b<0:=(cmp_flip _ _).1
theorem small_not{m:Mono}(h:mH m=false):(m.n==0)=true\/((m.n==0)=false/\decide (16777216<m.n)=true)\/((m.n==0)=false/\decide (16777216<m.n)=false/\decide (m.n< -16777216)=true)\/
  ((m.n==0)=false/\decide (16777216<m.n)=false/\decide (m.n< -16777216)=false/\decide (8<(m.deg:Int))=true):=by have a: ¬(m.n≠0/\m.n<=16777216/\ -16777216<=m.n/\m.deg<=8):=of_decide_eq_false h;simp only[beq_iff_eq,beq_eq_false_iff_ne,decide_eq_true_eq,decide_eq_false_iff_not];omega
theorem small_all{m:Mono}(h:mH m=true):(m.n==0)=false/\decide (16777216<m.n)=false/\decide (m.n< -16777216)=false/\decide (8<(m.deg:Int))=false:=by have a:m.n≠0/\m.n<=16777216/\ -16777216<=m.n/\m.deg<=8:=of_decide_eq_true h;simp only[beq_eq_false_iff_ne,decide_eq_false_iff_not];omega
set_option maxHeartbeats 1000000 in
theorem bIn(A:Option Addr)(c:Nat)(xs:List Mono)(w:World)(ha:mC w A xs)(hx:xs.length<=140737488355328):
  Calls prog 107 #[.slice A xs.length c] w λe w'=>e= .returned (.bool (dE xs))/\Below w.heap.size w w':=by
 by_cases hl:xs.length<=48
 .have hl1:decide ((48:Int)<(xs.length:Int))=false:=by simp;omega
  have Ha:=S7 ha;clear ha
  go_enter func107,ntmps107
  go_wp2
  go_loopw [3] (λi wr=> ∃k:Nat,k<=xs.length/\i= .int .i64 k/\Hid (dE xs=gH (if k=0 then none else xs[k-1]?) (xs.drop k))/\Below w.heap.size w wr) (λi _=>xs.length-(intOf i).toNat)
  case atStart=>exact⟨0,C4 _,rfl,by show _=_;simp[dE,hl],Below.refl _ _⟩
  case round=>
   obtain⟨k,hk,rfl,hs,hbl⟩:=hrel
   by_cases hlt:k<xs.length
   .obtain⟨m,hm,dm⟩:=nY hlt;obtain⟨b,o,rfl,hB,c0,c1,c2,c3,c4,c5,c6⟩:=Ha.out.below hbl k m hm;have HN:=S7 (show mH m=false->dE xs=false by intro hsb;rw[hs.out,dm];split<;>(try cases xs[k-1]?)<;>simp[gH,hsb]);have HM:=S7 hm;have HD:=S7 dm;cases hsb:mH m
    .have HN':=S7 (HN.out hsb);have HBL:=S7 hbl;clear dm hm hbl hB HN hs HM HD
     rcases small_not hsb with t0|⟨t0,t1⟩|⟨t0,t1,t2⟩|⟨t0,t1,t2,t3⟩
     all_goals go_wp2_with (go_at_call 142;refine(bGd m _).mono ?_;rintro e w1 ⟨rfl,hb1⟩)
     all_goals go_ret
     all_goals refine⟨gW HN'.out.symm,?_⟩
     all_goals first|exact HBL.out|exact HBL.out.trans (hb1.mono HBL.out.size)
    .obtain⟨t0,t1,t2,t3⟩:=small_all hsb;have HC:=S7 (Ha.out.below hbl k m hm);have HBL:=S7 hbl;clear dm hm hbl hB HN
     go_wp2_with (go_at_call 142;refine(bGd m _).mono ?_;rintro e w1 ⟨rfl,hb1⟩)
     clear c0 c1 c2 c3 c4 c5 c6 t0 t1 t2 t3;have HB1:=S7 (show Below w.heap.size w w1 from HBL.out.trans (hb1.mono HBL.out.size));clear hb1 HBL HC
     rcases Nat.eq_zero_or_pos k with hk0|hk0
     .have hk1:decide (0<k)=false:=by simp;omega
      have HS:=S7 (show dE xs=gH (if k+1=0 then none else xs[k+1-1]?) (xs.drop (k+1)) by rw[hs.out,HD.out,if_pos hk0,if_neg l7,show k+1-1=k from rfl,HM.out];simp[gH,hsb]);clear hs hk0 HM HD;refine nN m0 m0 ?_
      repeat (go_big_quiet_step (fail))
      refine wpQuiet_nil ?_;rintro _ ⟨x,rfl⟩
      go_wp2
      go_roundw
      case rel=>exact⟨k+1,l7,by go_num,HS,HB1.out.trans (x.h.mono HB1.out.size)⟩
      case measure=>simp[intOf];omega
     .have hk1:decide (0<k)=true:=by simp;omega
      obtain⟨j,rfl⟩: ∃j,k=j+1:=⟨k-1,l7⟩
      obtain⟨q,hq⟩: ∃q,xs[j]?=some q:=⟨xs[j]'l7,F1 _⟩
      have HS:=S7 (show dE xs=(decide (ord q m<0)&&gH (some m) (xs.drop (j+1+1))) by rw[hs.out,HD.out,if_neg l7,show j+1-1=j from rfl,hq];simp[gH,hsb])
      have p0:iZ w1 b (o+j*7) q/\iZ w1 b (o+(j+1)*7) m:=by
       obtain⟨b1,o1,e1,hB1,hm1⟩:=Ha.out.below HB1.out j q hq;obtain⟨b2,o2,e2,hB2,hm2⟩:=Ha.out.below HB1.out (j+1) m HM.out;injection e1 with e1
       injection e1 with e1 e1'
       injection e2 with e2
       injection e2 with e2 e2'
       subst e1 e1' e2 e2';exact⟨hm1,hm2⟩
      obtain⟨r0,r1,r2,r3,r4,r5,r6⟩:=p0.2.later;obtain⟨s0,s1,s2,s3,s4,s5,s6⟩:=p0.1.later;clear hs hk0 hq p0;have Hor:=S7 (iU.calls (W0:=w1) λW _=>bYm q m W);refine nN m0 m0 ?_
      repeat (go_big_quiet_step ((go_at_call 143;exact Hor.out _)))
      refine wpQuiet_nil ?_;rintro _ ⟨x,rfl⟩;clear r0 r1 r2 r3 r4 r5 r6 s0 s1 s2 s3 s4 s5 s6 Hor;have HBX:=S7 (show Below w.heap.size w x.w from HB1.out.trans (x.h.mono HB1.out.size));clear HB1
      by_cases ho:ord q m<0
      .have ho1:(bFi q m !=1)=false:=by simp[(bZp q m).2 ho]
       go_wp2
       go_roundw
       case rel=>exact⟨j+1+1,l7,by go_num,ah3,HBX.out⟩
       case measure=>simp[intOf];omega
      .have ho1:(bFi q m !=1)=true:=by rw[bne_iff_ne];intro h;exact ho ((bZp q m).1 h)
       go_wp2
       go_ret
       exact⟨gW ak4,HBX.out⟩
   .have hk':k=xs.length:=l7
    go_wp2
    go_ret
    refine⟨gW ?_,hbl⟩;rw[hs.out,K3 l7];split<;>(try cases xs[k-1]?)<;>simp[gH]
 .have hl1:decide ((48:Int)<(xs.length:Int))=true:=by simp;omega
  go_enter func107,ntmps107
  go_wp2
  go_ret
  exact⟨gW (by simp[dE,hl]),Below.refl _ _⟩
end
section
open Go.RowKit Go.Proofs.Tryz
theorem wrap_eq(z:Int):IntKind.i64.wrap z=wrap64 z:=by unfold wrap64;simp only[J5,J6,J7];simp;omega
theorem bDq(a b:UInt8):IntKind.u8.wrap ((a.toNat:Int)+(b.toNat:Int))=((a+b).toNat:Int):=by rw[UInt8.toNat_add];simp only[J5,J6,J7];simp
def polyT:Tab:=[(2,⟨.int .i64,1⟩),(3,⟨.int .i64,1⟩),(5,⟨.int .u8,1⟩),(4,⟨.bool,1⟩),(43,⟨.struct [(2,0),(41,1)],7⟩),(40,⟨.slice 43,1⟩),
 (41,⟨.array 6 5,6⟩),(60,⟨.slice 2,1⟩)]
theorem yX:gA prog polyT:=zB.ok
 ⟨⟨by rw[underlying2];rfl,m0⟩,⟨by rw[underlying3];rfl,m0⟩,⟨by rw[underlying5];rfl,m0⟩,⟨by rw[underlying4];rfl,m0⟩,⟨by rw[underlying43];rfl,m0⟩,
  ⟨by rw[underlying40];rfl,m0⟩,⟨by rw[underlying41];rfl,m0⟩,⟨by rw[underlying60];rfl,m0⟩,i6⟩
theorem monoZero:(prog.info? 43).bind (·.zero)=some (.agg #[k6 0,k7 0,k7 0,k7 0,k7 0,k7 0,k7 0]):=by obtain⟨i,h,a,_⟩:=bXi;rw[h];exact a
theorem built_n(z:Int):prog.built 43 [(0,k6 z)]=some #[k6 z,k7 0,k7 0,k7 0,k7 0,k7 0,k7 0]:=m0
theorem built_ne(z:Int)(a b c d e f:Value):prog.built 43 [(0,k6 z),(1,.agg #[a,b,c,d,e,f])]=some #[k6 z,a,b,c,d,e,f]:=m0
section
variable {β : fS} {n : Nat} {Γ : Env} {H : List bK} {F : List Fact} {Q : Exit -> Act -> World -> Prop}
theorem at_one{ops:Array Oper}{rest:List Oper}{o:Oper}{d:Nat}{x:Operand}{m:Mono}(hw:want ops Γ o=some true)(ho:o.op= .buildSlice 40 1 #[(0,x)])(hd:o.dst=some d)(hn:Nat.blt d n=true)
  (hx:Γ.ev x=some (.agg #[k6 m.n,k7 m.U.toNat,k7 m.T.toNat,k7 m.R.toNat,k7 m.Q.toNat,k7 m.O.toNat,k7 m.N.toNat])) (k: ∀b,At β n ((d,.slice (some ⟨b,0,none⟩) 1 1)::Γ) (.obj b (.cells (fE.all [m]).toArray 43)::H) F (wpList prog ops Q rest)):At β n Γ H F (wpList prog ops Q (o::rest)):=by
 obtain⟨i,hi,a,hs,_⟩:=bXi;refine kD hw ho hd hn hx underlying40 hi a l7 l7 ?_ k;rw[hs]
 kernel_rfl
theorem at_app{ops:Array Oper}{rest:List Oper}{o:Oper}{d:Nat}{x y:Operand}{c q:Nat}{v:Value}{A:Option Addr}{xs ys:List Mono}{H':List bK}(hH:cT H (fE.row v 43 xs) H')(hr:dD β H F fE A ys)(hg:o.guard=none)
  (ho:o.op= .call {callee:= .builtin .append,args:= #[x,y],argTypes:= #[40,40]}) (hd:o.dst=some d) (hn:Nat.blt d n=true)
  (hx:Γ.ev x=some v) (hy:Γ.ev y=some (.slice A q c)) (hq:q=ys.length) (hne:0<ys.length) (hl:xs.length+ys.length<=8796093022208)
  (k: ∀A' cap',At β n ((d,.slice A' (xs++ys).length cap')::Γ) (fE.row (.slice A' (xs++ys).length cap') 43 (xs++ys)::H') F (wpList prog ops Q rest)):At β n Γ H F (wpList prog ops Q (o::rest)):=by obtain⟨i,hi,a,hs,b⟩:=bXi;exact bBc hH hr hg ho hd hn underlying40 hi a hs b rfl hx hy hq hne l7 m6 k
end
theorem bSi(a b:Mono):cY prog 143 [.agg #[k6 a.n,k7 a.U.toNat,k7 a.T.toNat,k7 a.R.toNat,k7 a.Q.toNat,k7 a.O.toNat,k7 a.N.toNat],.agg #[k6 b.n,k7 b.U.toNat,k7 b.T.toNat,k7 b.R.toNat,k7 b.Q.toNat,k7 b.O.toNat,k7 b.N.toNat]] [] [] (λ_:Unit=> k6 (bFi a b)) (λ_=>[]) (λ_=>[]):=jW λ_ w _ _=>bYm a b w
theorem qM(A:Option Addr)(c:Nat)(l:List Mono)(hl:l.length<=140737488355328):cY prog 107 [.slice A l.length c] [] [fE.sl (.slice A l.length c) l] (λ_:Unit=> .bool (dE l)) (λ_=>[]) (λ_=>[]):=
 jW λ_ w a h=>bIn A c l w (monos_of a (h _ (E8 ..))).1 hl
def qH (m:Mono):List Mono->List Mono
 |[]=>[m]
 |a::l=>if m.key<a.key then a::qH m l else if a.key=m.key then ⟨wrap64 (a.n+m.n),a.U,a.T,a.R,a.Q,a.O,a.N⟩::l else m::a::l
theorem bZw{a b:Mono}:bFi a b=1↔b.key<a.key:=by
 rw[bXf]
 by_cases h:b.key<a.key
 .simp[h]
 .by_cases h2:a.key<b.key<;>simp[h,h2]
theorem bXl{a b:Mono}:bFi a b=0↔a.key=b.key:=by
 rw[bXf]
 by_cases h:b.key<a.key
 .simp[h];omega
 .by_cases h2:a.key<b.key
  .simp[h,h2];omega
  .simp[h,h2];omega
theorem take_more{l:List Mono}{m x:Mono}{i:Nat}(hx:l[i]?=some x)(h: ∀y∈l.take i,m.key<y.key)(hk:m.key<x.key): ∀y∈l.take (i+1),m.key<y.key:=λy hy=>by
 rw[R6,hx,aF]at hy
 rcases E3.1 hy with hy|hy
 .exact h y hy
 .rw[K7.1 hy];exact hk
theorem put_eq{m x:Mono}: ∀{l:List Mono} {i:Nat},l[i]?=some x->(∀y∈l.take i,m.key<y.key)->x.key=m.key->qH m l=l.set i ⟨IntKind.i64.wrap (x.n+m.n),x.U,x.T,x.R,x.Q,x.O,x.N⟩
 |[],i,h,_,_=>by simp at h
 |a::l,0,h,_,hk=>by
  simp at h;subst h;rw[qH,if_neg l7,if_pos hk,wrap_eq];rfl
 |a::l,i+1,h,ht,hk=>by rw[qH,if_pos (ht a m9),put_eq (l:=l) (i:=i) ad3 (λy hy=>ht y ae1) hk];rfl
theorem put_ins{m:Mono}: ∀{l:List Mono} {i:Nat},(∀y∈l.take i,m.key<y.key)->i<=l.length->(∀x,l[i]?=some x->x.key<m.key)->qH m l=l.take i++m::l.drop i
 |[],i,_,hi,_=>by
  have:i=0:=by simpa using hi
  subst this;rfl
 |a::l,0,_,_,hx=>by
  have:=hx a rfl;rw[qH,if_neg l7,if_neg l7];rfl
 |a::l,i+1,ht,hi,hx=>by rw[qH,if_pos (ht a m9),put_ins (l:=l) (i:=i) (λy hy=>ht y ae1) (by simpa using hi) (λx h=>hx x ad3)];rfl
theorem bRp{l cur:List Mono}{i:Nat}(hi:i<=l.length)(h: ∃z,cur=l.take i++z::l.drop i)(m:Mono):cur.set i m=l.take i++m::l.drop i:=by obtain⟨z,rfl⟩:=h;rw[Z3 _ _ q9,show i-(l.take i).length=0 from by simp;omega];rfl
theorem bZl{l cur:List Mono}{k:Nat}{x:Mono}(hk:k<=l.length)(h0:0<k)(h: ∃z,cur=l.take k++z::l.drop k)(hx:cur[k-1]?=some x): ∃z,cur.set k x=l.take (k-1)++z::l.drop (k-1):=by
 obtain⟨z,b⟩:=h;refine⟨x,?_⟩;rw[bRp hk ⟨z,b⟩ x]
 obtain⟨j,rfl⟩: ∃j,k=j+1:=⟨k-1,l7⟩
 rw[Nat.add_sub_cancel]at hx⊢
 have c:l[j]?=some x:=by rw[b,Z6 q9,List.getElem?_take_of_lt l7]at hx;exact hx
 have d:l.drop j=x::l.drop (j+1):=by
  have a:j<l.length:=l7
  rw[K2 a]
  congr 1
  exact(F3.1 c).2
 rw[R6,c,d];simp
theorem bQp(A:Option Addr)(cap:Nat)(l:List Mono)(m:Mono)(hl:l.length<=1000000):cY prog 108 [.slice A l.length cap,.agg #[k6 m.n,k7 m.U.toNat,k7 m.T.toNat,k7 m.R.toNat,k7 m.Q.toNat,k7 m.O.toNat,k7 m.N.toNat]] [fE.row (.slice A l.length cap) 43 l] [] (λ(x:Option Addr×Nat)=> .slice x.1 (qH m l).length x.2) (λ(x:Option Addr×Nat)=>[fE.row (.slice x.1 (qH m l).length x.2) 43 (qH m l)]) (λ_=>[]):=by
 have hT:=yX;refine j5 func108 ntmps108 ?_;intro β hM;refine g2 ?_;refine j4 λo=>?_;refine g10 ?_;refine sN (ι:=Nat) (λi=>[(0,.slice A l.length cap),(3,.pointer (some ⟨o,0,none⟩)),(5,.int .i64 (i:Nat))]) (λi=>[.obj o (.cells m.cells.toArray 43),fE.row (.slice A l.length cap) 43 l]) (λi=>[Fact.pure (i<=l.length/\ ∀x∈l.take i,m.key<x.key)]) (λi=>l.length-i) 0 ⟨rfl,rfl,rfl,i6⟩ (.c0 (.c0 .nil)) ⟨i7 m9,i6⟩ ?_;rintro i;refine bF d7 λb=>?_;refine g2 ?_;refine cL _ _ [j9,u0,u5,u9,A00,u6,A02,A01,A03,A04,A73,A07,A09] cN o0 (.c0 (.c0 .nil)) bA.self ?_;refine g5 ?_;refine lR (λhg11=>?_) λhg11=>?_
 .refine g2 ?_;obtain⟨K,d⟩:=gx l i;refine stM rfl (ixs i) ?_;refine stM rfl (fP hT (dD.knows (cI kT1) d 0) rfl rfl rfl rfl rfl) ?_;refine g2 ?_;refine hQ (bY func143 rfl rfl) (bSi _ _) rfl rfl rfl rfl rfl .nil .nil lG i6 (λ_=>True) (λ_ _ _ _=>trivial) λ_ _=>?_;refine fJ (.c0 (.c0 .nil)) ⟨d7,i6⟩ ?_;refine g4 ?_;refine gN (λhc19=>?_) λhc19=>?_
  .have hc19:=bZw.1 hc19;refine g6 ?_;refine inc (i+1) ?_;refine g4 ?_;exact jZ (i+1) l7 ⟨rfl,rfl,rfl,i6⟩ (.c0 (.c0 .nil)) ⟨i7 (⟨l7,take_more ‹l[i]?=some _› b.2 hc19⟩),i6⟩
  have hc19:=mt bZw.2 hc19;refine g7 ?_;refine cL _ _ [j9,u0,u5,u9,A00,u6,A02,A01,A03,A04,A73,A07,A09] cN o0 (.c0 (.c0 .nil)) bA.self ?_;refine g5 ?_;refine lR (λf=>?_) λf=>?_
  .refine g2 ?_;refine stM rfl (ixs i) ?_;refine stM rfl (fP hT (dD.knows (cI kT1) d 0) rfl rfl rfl rfl rfl) ?_;refine g2 ?_;refine hQ (bY func143 rfl rfl) (bSi _ _) rfl rfl rfl rfl rfl .nil .nil lG i6 (λ_=>True) (λ_ _ _ _=>trivial) λ_ _=>?_;refine fJ (.c0 (.c0 .nil)) ⟨d7,i6⟩ ?_;refine g4 ?_;refine gN (λhc34=>?_) λhc34=>?_
   .have hc34:=bXl.1 hc34;refine bP<|uL kT1 l7 λg hg=>?_;subst hg;refine cL _ _ [j9,u0,u5,u9,A00,u6,A01,A03,A17,A04,A08,A07,(false,12)] cN o0 (.c0 .nil) bA.self ?_;refine g4 ?_;refine stM rfl (gB hT (k:=i) rfl rfl rfl rfl rfl rfl l7) ?_;refine g4 ?_;refine ss (j6 hT (dD.knows (cI kT1) d 0)) ?_;refine fJ (.c0 .nil) ⟨d7,i6⟩ ?_;refine one ?_;refine stM rfl (gB hT (k:=i) rfl rfl rfl rfl rfl rfl l7) ?_;refine g2 ?_;refine fN hT (k:=i) (fo:=0) (y':=⟨_,_,_,_,_,_,_⟩) kT1 rfl rfl rfl rfl rfl rfl rfl rfl rfl d rfl ?_;refine fJ (.c1 .nil) ⟨d7,i6⟩ ?_;refine g10 ?_;rw[put_eq d b.2 hc34,X4];exact bUz (some ⟨g,0,none⟩,cap) rfl rfl rfl (.c0 .nil) trivial
   have hc34:=mt bXl.2 hc34;refine g3 ?_;have c: ∀x,l[i]?=some x->x.key<m.key:=λx hx=>by rw[d]at hx;cases hx;omega
   refine g3 ?_;refine at_one (m:=m) rfl rfl rfl rfl rfl λL=>?_;refine at_app kT2 (bU .head rfl) rfl rfl rfl rfl rfl rfl rfl m9 aa7 λM c6=>?_;refine g5 ?_;refine uL .head m9 λg7 hg=>?_;subst hg;have G:(l++[m]).length=l.length+1:=by simp
   refine g4 ?_;refine inc ((l++[m]).length-1) ?_;refine g4 ?_;refine sN (ι:=Nat×List Mono) (λ⟨k,cur⟩=>[(0,.slice (some ⟨g7,0,none⟩) (l++[m]).length c6),(3,.pointer (some ⟨o,0,none⟩)),(5,.int .i64 (i:Nat)),(6,.int .i64 (k:Nat))]) (λ⟨k,cur⟩=>[fE.row (.slice (some ⟨g7,0,none⟩) (l++[m]).length c6) 43 cur,.obj o (.cells m.cells.toArray 43)]) (λ⟨k,cur⟩=>[Fact.pure (i<=k/\k<=l.length/\ ∃z,cur=l.take k++z::l.drop k)]) (λ⟨k,cur⟩=>k) ((l++[m]).length-1,l++[m]) ⟨rfl,rfl,rfl,rfl,i6⟩ (.c0 (.c1 .nil)) ⟨i7 (⟨l7,l7,m,m9⟩),i6⟩ ?_;rintro⟨k,cur⟩;dsimp only;refine bF d7 λa=>?_;have B:cur.length=l.length+1:=by obtain⟨z,v⟩:=a.2.2;rw[v];simp;omega
   refine g8 ?_;refine dP (λh=>?_) λh=>?_
   .refine g10 ?_;refine inc (k-1) ?_;obtain⟨x8,w⟩:=gx cur (k-1);refine ss (gB hT (k:=(k-1)) rfl rfl rfl rfl rfl rfl l7) ?_;refine ss (fP hT (dD.knows (cI .head) w 0) rfl rfl rfl rfl rfl) ?_;obtain⟨x10,t⟩:=gx cur k;refine ss (gB hT (k:=k) rfl rfl rfl rfl rfl rfl l7) ?_;refine fN hT (k:=k) (fo:=0) (y':=x8) .head rfl rfl rfl rfl rfl rfl rfl rfl rfl t rfl ?_;refine g6 ?_;refine inc (k-1) ?_;refine g3 ?_;exact jZ (k-1,_) v8 ⟨rfl,rfl,rfl,rfl,i6⟩ (.c0 (.c0 .nil)) ⟨i7 (by refine⟨l7,l7,?_⟩;exact bZl a.2.1 l7 a.2.2 ‹cur[k-1]?=some _›),i6⟩
   refine g10 ?_;obtain⟨E,s⟩:=gx cur i;refine ss (gB hT (k:=i) rfl rfl rfl rfl rfl rfl l7) ?_;refine fN hT (k:=i) (fo:=0) (y':=m) .head rfl rfl rfl rfl rfl rfl rfl rfl rfl s rfl ?_;refine g9 ?_;have y:k=i:=l7
   subst y;have e:qH m l=cur.set k m:=(put_ins b.2 b.1 c).trans (bRp b.1 a.2.2 m).symm;have e2:(cur.set k m).length=(l++[m]).length:=by rw[X4];omega
   rw[e,e2];exact bUz (some ⟨g7,0,none⟩,c6) rfl rfl rfl (.c0 .nil) trivial
  omega
 refine g7 ?_;refine fJ (.c0 (.c0 .nil)) ⟨d7,i6⟩ ?_;refine g12 ?_;refine cL _ _ [j9,u0,u5,u9,A00,u6,A02,A01,A03,A04,A73,A07,A09] cN o0 (.c0 (.c0 .nil)) bA.self ?_;refine g5 ?_;refine lR (λf=>?_) λf=>?_
 .omega
 refine g7 ?_;refine fJ (.c0 (.c0 .nil)) ⟨d7,i6⟩ ?_;refine g8 ?_;have c: ∀x,l[i]?=some x->x.key<m.key:=λx hx=>by rw[List.getElem?_eq_none l7]at hx;cases hx
 refine g3 ?_;refine at_one (m:=m) rfl rfl rfl rfl rfl λI=>?_;refine at_app kT2 (bU .head rfl) rfl rfl rfl rfl rfl rfl rfl m9 aa7 λJ j=>?_;refine g5 ?_;refine uL .head m9 λg17 hg=>?_;subst hg;have G:(l++[m]).length=l.length+1:=by simp
 refine g4 ?_;refine inc ((l++[m]).length-1) ?_;refine g4 ?_;refine sN (ι:=Nat×List Mono) (λ⟨k,cur⟩=>[(0,.slice (some ⟨g17,0,none⟩) (l++[m]).length j),(3,.pointer (some ⟨o,0,none⟩)),(5,.int .i64 (i:Nat)),(6,.int .i64 (k:Nat))]) (λ⟨k,cur⟩=>[fE.row (.slice (some ⟨g17,0,none⟩) (l++[m]).length j) 43 cur,.obj o (.cells m.cells.toArray 43)]) (λ⟨k,cur⟩=>[Fact.pure (i<=k/\k<=l.length/\ ∃z,cur=l.take k++z::l.drop k)]) (λ⟨k,cur⟩=>k) ((l++[m]).length-1,l++[m]) ⟨rfl,rfl,rfl,rfl,i6⟩ (.c0 (.c1 .nil)) ⟨i7 (⟨l7,l7,m,m9⟩),i6⟩ ?_;rintro⟨k,cur⟩;dsimp only;refine bF d7 λa=>?_;have B:cur.length=l.length+1:=by obtain⟨z,v⟩:=a.2.2;rw[v];simp;omega
 refine g8 ?_;refine dP (λh=>?_) λh=>?_
 .refine g10 ?_;refine inc (k-1) ?_;obtain⟨u,r⟩:=gx cur (k-1);refine ss (gB hT (k:=(k-1)) rfl rfl rfl rfl rfl rfl l7) ?_;refine ss (fP hT (dD.knows (cI .head) r 0) rfl rfl rfl rfl rfl) ?_;obtain⟨D,q⟩:=gx cur k;refine ss (gB hT (k:=k) rfl rfl rfl rfl rfl rfl l7) ?_;refine fN hT (k:=k) (fo:=0) (y':=u) .head rfl rfl rfl rfl rfl rfl rfl rfl rfl q rfl ?_;refine g6 ?_;refine inc (k-1) ?_;refine g3 ?_;exact jZ (k-1,_) v8 ⟨rfl,rfl,rfl,rfl,i6⟩ (.c0 (.c0 .nil)) ⟨i7 (by refine⟨l7,l7,?_⟩;exact bZl a.2.1 l7 a.2.2 ‹cur[k-1]?=some _›),i6⟩
 refine g10 ?_;obtain⟨C,p⟩:=gx cur i;refine ss (gB hT (k:=i) rfl rfl rfl rfl rfl rfl l7) ?_;refine fN hT (k:=i) (fo:=0) (y':=m) .head rfl rfl rfl rfl rfl rfl rfl rfl rfl p rfl ?_;refine g9 ?_;have y:k=i:=l7
 subst y;have e:qH m l=cur.set k m:=(put_ins b.2 b.1 c).trans (bRp b.1 a.2.2 m).symm;have e2:(cur.set k m).length=(l++[m]).length:=by rw[X4];omega
 rw[e,e2];exact bUz (some ⟨g17,0,none⟩,j) rfl rfl rfl (.c0 .nil) trivial
def sE (l:List Mono):List Mono×Int:=if dE (l.filter nz)then (l.filter nz,0)else ([],21)
theorem bVp(x:Mono):[x].filter nz=if x.n=0 then []else [x]:=by by_cases h:x.n=0<;>simp[List.filter_cons,nz,h]
theorem bVs(A:Option Addr)(c:Nat)(l:List Mono)(hl:l.length<=1000000):cY prog 109 [.slice A l.length c] [] [fE.sl (.slice A l.length c) l] (λ(x:Option Addr×Nat)=> .tuple #[.slice x.1 (sE l).1.length x.2,k6 (sE l).2]) (λ(x:Option Addr×Nat)=>[fE.row (.slice x.1 (sE l).1.length x.2) 43 (sE l).1]) (λ_=>[]):=by
 have hT:=yX;refine j5 func109 ntmps109 ?_;intro β hM;refine g13 ?_;refine bQ (t:=43) fE ?_;refine g5 ?_;refine sN (ι:=Nat×List Mono×Option Addr×Nat) (λ⟨i,out,B,cb⟩=>[(0,.slice A l.length c),(4,.slice B out.length cb),(5,.int .i64 (i:Nat))]) (λ⟨i,out,B,cb⟩=>[fE.row (.slice B out.length cb) 43 out]) (λ⟨i,out,B,cb⟩=>[Fact.pure (i<=l.length/\out=(l.take i).filter nz),fE.sl (.slice A l.length c) l]) (λ⟨i,out,B,cb⟩=>l.length-i) (0,[],none,0) ⟨rfl,rfl,rfl,i6⟩ (.c0 .nil) ⟨i7 m9,d7,i6⟩ ?_;rintro⟨i,out,B,cb⟩;dsimp only;refine bF d7 λa=>?_;have j:out.length<=l.length:=by rw[a.2];exact B1 (List.length_filter_le _ _) q9
 refine g9 ?_;refine dP (λh=>?_) λh=>?_
 .refine g8 ?_;obtain⟨x1,f⟩:=gx l i;refine ss (ixs i) ?_;refine one ?_;refine ss (j6 hT (dD.knows (bG d8) f 0)) ?_;refine g3 ?_;refine uD (λd=>?_) λd=>?_
  .refine g4 ?_;refine ss (ixs i) ?_;refine ss (fP hT (dD.knows (bG d8) f 0) rfl rfl rfl rfl rfl) ?_;refine at_one (m:=x1) rfl rfl rfl rfl rfl λk=>?_;refine at_app kT1 (bU .head rfl) rfl rfl rfl rfl rfl rfl rfl m9 aa7 λn c5=>?_;refine g7 ?_;refine inc (i+1) ?_;refine g3 ?_;exact jZ (i+1,_,_,_) v8 ⟨rfl,rfl,rfl,i6⟩ (.c0 .nil) ⟨i7 (by refine⟨l7,?_⟩;rw[R6,f,Z8,<-a.2,aF,bVp];simp[d]),d8,i6⟩
  refine g6 ?_;refine inc (i+1) ?_;refine g3 ?_;exact jZ (i+1,_,_,_) v8 ⟨rfl,rfl,rfl,i6⟩ (.c0 .nil) ⟨i7 (by refine⟨l7,?_⟩;rw[R6,f,Z8,<-a.2,aF,bVp];simp[d]),d8,i6⟩
 refine g9 ?_;refine hQ (bY func107 rfl rfl) (qM _ _ out l7) rfl rfl rfl rfl rfl .nil (.c0 .nil) (pH lG) ⟨d7,i6⟩ (λ_=>True) (λ_ _ _ _=>trivial) λ_ _=>?_;refine g3 ?_;refine iQ (λb=>?_) λb=>?_
 .refine g8 ?_
  have g:sE l=([],21):=by
   have e:out=l.filter nz:=by rw[a.2,F6 l7]
   unfold sE;rw[<-e,b];rfl
  rw[g];refine bQ (t:=43) fE ?_;exact qQ (none,0) rfl rfl rfl rfl (.c0 .nil) trivial
 refine g10 ?_
 have g:sE l=(out,0):=by
  have e:out=l.filter nz:=by rw[a.2,F6 l7]
  unfold sE;rw[<-e,b];rfl
 rw[g];exact qQ (B,cb) rfl rfl rfl rfl (.c0 .nil) trivial
def mG (acc:List Mono)(l:List Mono):List Mono:=l.foldl (λa m=>qH m a) acc
def bLx (s:Int)(m:Mono):Mono:=⟨wrap64 (s*m.n),m.U,m.T,m.R,m.Q,m.O,m.N⟩
theorem putP_len(m:Mono): ∀l:List Mono,(qH m l).length<=l.length+1
 |[]=>by simp[qH]
 |a::l=>by
  have:=putP_len m l;rw[qH];split
  .simp;omega
  .split<;>simp
theorem tG: ∀(l acc:List Mono),(mG acc l).length<=acc.length+l.length
 |[],acc=>by simp[mG]
 |m::l,acc=>by have h1:=tG l (qH m acc);have h2:=putP_len m acc;have e:mG acc (m::l)=mG (qH m acc) l:=rfl;rw[e,F5];omega
theorem bFm(acc l k:List Mono):mG acc (l++k)=mG (mG acc l) k:=List.foldl_append
theorem bBp(acc l:List Mono)(m:Mono):mG acc (l++[m])=qH m (mG acc l):=by rw[bFm];rfl
def iN (p q:List Mono)(s:Int):List Mono×Int:=if dE p&&dE q then sE (mG (mG [] p) (q.map (bLx s)))else ([],20)
def qS (p q:List Mono):List Mono×Int:=if dE p&&dE q then sE (mG [] (p.flatMap λa=>q.map (mulM a)))else ([],20)
theorem flat_len(q:List Mono): ∀l:List Mono,(l.flatMap λa=>q.map (mulM a)).length=l.length*q.length
 |[]=>by simp
 |a::l=>by rw[Z5,F4,flat_len q l,O4,F5,Nat.add_mul,Nat.one_mul,Nat.add_comm]
theorem refMul_len{p q:List Mono}{i:Nat}(hi:i<=p.length):(mG [] ((p.take i).flatMap λa=>q.map (mulM a))).length<=i*q.length:=by refine B1 (tG _ _) ?_;rw[flat_len,K6,L3 hi];simp
theorem zK{p:List Mono}(h:dE p=true):p.length<=48:=by unfold dE at h;simp at h;exact h.1
theorem bFf(A B:Option Addr)(c d:Nat)(p q:List Mono)(s:Int)(hpl:p.length<=140737488355328)(hql:q.length<=140737488355328):cY prog 144 [.slice A p.length c,.slice B q.length d,k6 s] [] [fE.sl (.slice A p.length c) p,fE.sl (.slice B q.length d) q] (λ(x:Option Addr×Nat)=> .tuple #[.slice x.1 (iN p q s).1.length x.2,k6 (iN p q s).2]) (λ(x:Option Addr×Nat)=>[fE.row (.slice x.1 (iN p q s).1.length x.2) 43 (iN p q s).1]) (λ_=>[]):=by
 have hT:=yX;refine j5 func144 ntmps144 ?_;intro β hM;refine g10 ?_;refine hQ (bY func107 rfl rfl) (qM _ _ p l7) rfl rfl rfl rfl rfl .nil .nil lG ⟨d7,i6⟩ (λ_=>True) (λ_ _ _ _=>trivial) λ_ _=>?_;refine g2 ?_;refine bTi (λg=>?_) λg=>?_
 .have f:=g;refine g15 ?_;have m:iN p q s=([],20):=by unfold iN;simp[f]
  rw[m];refine bQ (t:=43) fE ?_;exact qQ (none,0) rfl rfl rfl rfl (.c0 .nil) trivial
 have f:=g;refine one ?_;refine hQ (bY func107 rfl rfl) (qM _ _ q l7) rfl rfl rfl rfl rfl .nil .nil lG ⟨d8,i6⟩ (λ_=>True) (λ_ _ _ _=>trivial) λ_ _=>?_;refine g4 ?_;refine iQ (λh=>?_) λh=>?_
 .have j:=h;refine g8 ?_;have m:iN p q s=([],20):=by unfold iN;simp[f,j]
  rw[m];refine bQ (t:=43) fE ?_;exact qQ (none,0) rfl rfl rfl rfl (.c0 .nil) trivial
 have j:=h;have v:=zK f;have hq:=zK j;refine g9 ?_;refine bQ (t:=43) fE ?_;refine g5 ?_;refine sN (ι:=Nat×List Mono×Option Addr×Nat) (λ⟨i,cur,C,e⟩=>[(0,.slice A p.length c),(1,.slice B q.length d),(2,.int .i64 s),(8,.slice C cur.length e),(9,.int .i64 (i:Nat))]) (λ⟨i,cur,C,e⟩=>[fE.row (.slice C cur.length e) 43 cur]) (λ⟨i,cur,C,e⟩=>[Fact.pure (i<=p.length/\cur=mG [] (p.take i)),fE.sl (.slice A p.length c) p,fE.sl (.slice B q.length d) q]) (λ⟨i,cur,C,e⟩=>p.length-i) (0,[],none,0) ⟨rfl,rfl,rfl,rfl,rfl,i6⟩ (.c0 .nil) ⟨i7 (⟨l7,by rfl⟩),d7,d8,i6⟩ ?_;rintro⟨i,cur,C,e⟩;dsimp only;refine bF d7 λb=>?_;have r:cur.length<=i:=by rw[b.2];exact B1 (tG _ _) q9
 refine g9 ?_;refine dP (λn=>?_) λn=>?_
 .refine g8 ?_;obtain⟨x1,o⟩:=gx p i;refine ss (ixs i) ?_;refine ss (fP hT (dD.knows (bG d8) o 0) rfl rfl rfl rfl rfl) ?_;refine bD func108 (bQp _ _ cur x1 l7) rfl rfl (.c0 .nil) i6 λ⟨B3,c4⟩=>?_;refine g7 ?_;refine inc (i+1) ?_;refine g3 ?_;exact jZ (i+1,_,_,_) v8 ⟨rfl,rfl,rfl,rfl,rfl,i6⟩ (.c0 .nil) ⟨i7 (by refine⟨l7,?_⟩;rw[R6,‹p[i]?=some _›,aF,bBp,<-b.2]),d8,d9,i6⟩
 refine g12 ?_;refine sN (ι:=Nat×List Mono×Option Addr×Nat) (λ⟨k,cur,C,e⟩=>[(1,.slice B q.length d),(2,.int .i64 s),(8,.slice C cur.length e),(10,.int .i64 (k:Nat))]) (λ⟨k,cur,C,e⟩=>[fE.row (.slice C cur.length e) 43 cur]) (λ⟨k,cur,C,e⟩=>[Fact.pure (k<=q.length/\cur=mG (mG [] p) ((q.take k).map (bLx s))),fE.sl (.slice B q.length d) q]) (λ⟨k,cur,C,e⟩=>q.length-k) (0,cur,C,e) ⟨rfl,rfl,rfl,rfl,i6⟩ (.c0 .nil) ⟨i7 (⟨l7,by rw[b.2,F6 l7];rfl⟩),d9,i6⟩ ?_;rintro⟨k,cur,C,e⟩;dsimp only;refine bF d7 λa=>?_;have r:cur.length<=p.length+k:=by rw[a.2];refine B1 (tG _ _) ?_;have:=tG p [];simp at this⊢;omega
 refine g9 ?_;refine dP (λhc34=>?_) λhc34=>?_
 .refine g4 ?_;refine cL _ _ [j9,u0,u5,u9,A00,u6,A02,A01,A03,A04,A08,A07,A09,A24,(false,14),A70] cN o0 .nil bA.self ?_;refine g4 ?_;obtain⟨u,l⟩:=gx q k;refine stM rfl (ixs k) ?_;refine one ?_;refine stM rfl (j6 hT (dD.knows (bG d8) l 0)) ?_;refine g3 ?_;refine stM rfl (ixs k) ?_;refine one ?_;refine stM rfl (fP hT (dD.knows (bG d8) l 1) rfl rfl rfl rfl rfl) ?_;refine stM rfl (j3 (built_ne _ _ _ _ _ _ _)) ?_;refine one ?_;refine bD func108 (bQp _ _ cur ⟨_,_,_,_,_,_,_⟩ l7) rfl rfl (.c0 .nil) i6 λ⟨B7,c8⟩=>?_;refine fJ .nil ⟨d7,d8,i6⟩ ?_;refine g7 ?_;refine inc (k+1) ?_;refine g3 ?_;exact jZ (k+1,_,_,_) v8 ⟨rfl,rfl,rfl,rfl,i6⟩ (.c0 .nil) ⟨i7 (by refine⟨l7,?_⟩;rw[R6,‹q[k]?=some _›,aF,L2,V9,bBp,<-a.2,bLx,<-wrap_eq];rfl),d8,i6⟩
 refine g8 ?_;refine hQ (bY func109 rfl rfl) (bVs _ _ cur l7) rfl rfl rfl rfl rfl .nil (.c0 .nil) (pH lG) ⟨d7,i6⟩ (λ_=>True) (λ_ _ _ _=>trivial) λ⟨B9,c10⟩ _=>?_;refine g7 ?_;have m:iN p q s=sE cur:=by unfold iN;rw[f,j,a.2,F6 l7];rfl
 rw[m];exact qQ (B9,c10) rfl rfl rfl rfl (.c0 .nil) trivial
theorem refMul_spec(A B:Option Addr)(c d:Nat)(p q:List Mono)(hpl:p.length<=140737488355328)(hql:q.length<=140737488355328):cY prog 72 [.slice A p.length c,.slice B q.length d] [] [fE.sl (.slice A p.length c) p,fE.sl (.slice B q.length d) q] (λ(x:Option Addr×Nat)=> .tuple #[.slice x.1 (qS p q).1.length x.2,k6 (qS p q).2]) (λ(x:Option Addr×Nat)=>[fE.row (.slice x.1 (qS p q).1.length x.2) 43 (qS p q).1]) (λ_=>[]):=by
 have hT:=yX;refine j5 func72 ntmps72 ?_;intro β hM;refine g10 ?_;refine hQ (bY func107 rfl rfl) (qM _ _ p l7) rfl rfl rfl rfl rfl .nil .nil lG ⟨d7,i6⟩ (λ_=>True) (λ_ _ _ _=>trivial) λ_ _=>?_;refine g2 ?_;refine bTi (λh=>?_) λh=>?_
 .have g:=h;refine g15 ?_;have m:qS p q=([],20):=by unfold qS;simp[g]
  rw[m];refine bQ (t:=43) fE ?_;exact qQ (none,0) rfl rfl rfl rfl (.c0 .nil) trivial
 have g:=h;refine one ?_;refine hQ (bY func107 rfl rfl) (qM _ _ q l7) rfl rfl rfl rfl rfl .nil .nil lG ⟨d8,i6⟩ (λ_=>True) (λ_ _ _ _=>trivial) λ_ _=>?_;refine g4 ?_;refine iQ (λj=>?_) λj=>?_
 .have l:=j;refine g8 ?_;have m:qS p q=([],20):=by unfold qS;simp[g,l]
  rw[m];refine bQ (t:=43) fE ?_;exact qQ (none,0) rfl rfl rfl rfl (.c0 .nil) trivial
 have l:=j;have v:=zK g;have hq:=zK l;refine g9 ?_;refine bQ (t:=43) fE ?_;refine g5 ?_;refine sN (ι:=Nat×List Mono×Option Addr×Nat) (λ⟨i,cur,C,e⟩=>[(0,.slice A p.length c),(1,.slice B q.length d),(6,.slice C cur.length e),(7,.int .i64 (i:Nat))]) (λ⟨i,cur,C,e⟩=>[fE.row (.slice C cur.length e) 43 cur]) (λ⟨i,cur,C,e⟩=>[Fact.pure (i<=p.length/\cur=mG [] ((p.take i).flatMap λa=>q.map (mulM a))),fE.sl (.slice A p.length c) p,fE.sl (.slice B q.length d) q]) (λ⟨i,cur,C,e⟩=>p.length-i) (0,[],none,0) ⟨rfl,rfl,rfl,rfl,i6⟩ (.c0 .nil) ⟨i7 (⟨l7,by rfl⟩),d7,d8,i6⟩ ?_;rintro⟨i,cur,C,e⟩;dsimp only;refine bF d7 λf=>?_;have u:cur.length<=i*q.length:=by rw[f.2];exact refMul_len l7
 have s:i*q.length<=48*48:=Nat.mul_le_mul l7 hq;refine g9 ?_;refine dP (λo=>?_) λo=>?_
 .refine g5 ?_;obtain⟨y,hy⟩:=gx p i;refine g5 ?_;refine sN (ι:=Nat×List Mono×Option Addr×Nat) (λ⟨k,cur',C',e'⟩=>[(0,.slice A p.length c),(1,.slice B q.length d),(6,.slice C' cur'.length e'),(7,.int .i64 (i:Nat)),(8,.int .i64 (k:Nat))]) (λ⟨k,cur',C',e'⟩=>[fE.row (.slice C' cur'.length e') 43 cur']) (λ⟨k,cur',C',e'⟩=>[Fact.pure (k<=q.length/\cur'=mG cur ((q.take k).map (mulM y))),fE.sl (.slice A p.length c) p,fE.sl (.slice B q.length d) q]) (λ⟨k,cur',C',e'⟩=>q.length-k) (0,cur,C,e) ⟨rfl,rfl,rfl,rfl,rfl,i6⟩ (.c0 .nil) ⟨i7 (⟨l7,by rfl⟩),d8,d9,i6⟩ ?_;rintro⟨k,cur',C',e'⟩;dsimp only;refine bF d7 λhinv8=>?_;have r:cur'.length<=cur.length+k:=by rw[hinv8.2];refine B1 (tG _ _) q9
  refine g9 ?_;refine dP (λn=>?_) λn=>?_
  .refine g5 ?_;refine cL _ _ [j9,u0,u5,u9,A00,u6,A02,A01,A03,A04,A08,A07,(false,12),(false,13)] cN o0 (.c0 .nil) bA.self ?_;refine g2 ?_;refine stM rfl (ixs i) ?_;refine one ?_;refine stM rfl (j6 hT (dD.knows (bG d8) hy 0)) ?_;refine g2 ?_;obtain⟨x1,b⟩:=gx q k;refine stM rfl (ixs k) ?_;refine one ?_;refine stM rfl (j6 hT (dD.knows (bG d9) b 0)) ?_;refine one ?_;refine stM rfl (j3 (built_n _)) ?_;refine one ?_;refine j1 monoZero λw=>?_;refine fJ (.c1 .nil) ⟨d7,d8,d9,i6⟩ ?_;refine g2 ?_;refine fJ (.c1 .nil) ⟨d7,d8,d9,i6⟩ ?_;refine g9 ?_;refine bYo 7 ?_;refine oY ?_;refine g7 ?_;refine cC rfl m6 ?_;refine g4 ?_;refine cL _ _ [j9,u0,u5,u9,A00,u6,A02,A01,A03,A04,A08,A07,A09,A24,A61,A70,A78,A76,A80] cN o0 (.c1 .nil) bA.self ?_;refine g4 ?_;refine stM rfl (ixs i) ?_;refine one ?_;refine stM rfl (fU hT (k:=0) rfl rfl rfl rfl rfl rfl l7) ?_;refine stM rfl (j6 hT (dD.knows (bG d8) hy 1)) ?_;refine g3 ?_;refine stM rfl (ixs k) ?_;refine one ?_;refine stM rfl (fU hT (k:=0) rfl rfl rfl rfl rfl rfl l7) ?_;refine stM rfl (j6 hT (dD.knows (bG d9) b 1)) ?_;refine one ?_;refine bJ (bDq _ _) ?_;refine one ?_;refine stM rfl (fU hT (k:=0) rfl rfl rfl rfl rfl rfl l7) ?_;refine g2 ?_;refine fJ (.c1 .nil) ⟨d7,d8,d9,i6⟩ ?_;refine g6 ?_;refine inc 1 ?_;refine g3 ?_;refine oY ?_;refine g7 ?_;refine cC rfl m6 ?_;refine g4 ?_;refine cL _ _ [j9,u0,u5,u9,A00,u6,A02,A01,A03,A04,A08,A07,A09,A24,A61,A70,A78,A76,A80] cN o0 (.c1 .nil) bA.self ?_;refine g4 ?_;refine stM rfl (ixs i) ?_;refine one ?_;refine stM rfl (fU hT (k:=1) rfl rfl rfl rfl rfl rfl l7) ?_;refine stM rfl (j6 hT (dD.knows (bG d8) hy 2)) ?_;refine g3 ?_;refine stM rfl (ixs k) ?_;refine one ?_;refine stM rfl (fU hT (k:=1) rfl rfl rfl rfl rfl rfl l7) ?_;refine stM rfl (j6 hT (dD.knows (bG d9) b 2)) ?_;refine one ?_;refine bJ (bDq _ _) ?_;refine one ?_;refine stM rfl (fU hT (k:=1) rfl rfl rfl rfl rfl rfl l7) ?_;refine g2 ?_;refine fJ (.c1 .nil) ⟨d7,d8,d9,i6⟩ ?_;refine g6 ?_;refine inc 2 ?_;refine g3 ?_;refine oY ?_;refine g7 ?_;refine cC rfl m6 ?_;refine g4 ?_;refine cL _ _ [j9,u0,u5,u9,A00,u6,A02,A01,A03,A04,A08,A07,A09,A24,A61,A70,A78,A76,A80] cN o0 (.c1 .nil) bA.self ?_;refine g4 ?_;refine stM rfl (ixs i) ?_;refine one ?_;refine stM rfl (fU hT (k:=2) rfl rfl rfl rfl rfl rfl l7) ?_;refine stM rfl (j6 hT (dD.knows (bG d8) hy 3)) ?_;refine g3 ?_;refine stM rfl (ixs k) ?_;refine one ?_;refine stM rfl (fU hT (k:=2) rfl rfl rfl rfl rfl rfl l7) ?_;refine stM rfl (j6 hT (dD.knows (bG d9) b 3)) ?_;refine one ?_;refine bJ (bDq _ _) ?_;refine one ?_;refine stM rfl (fU hT (k:=2) rfl rfl rfl rfl rfl rfl l7) ?_;refine g2 ?_;refine fJ (.c1 .nil) ⟨d7,d8,d9,i6⟩ ?_;refine g6 ?_;refine inc 3 ?_;refine g3 ?_;refine oY ?_;refine g7 ?_;refine cC rfl m6 ?_;refine g4 ?_;refine cL _ _ [j9,u0,u5,u9,A00,u6,A02,A01,A03,A04,A08,A07,A09,A24,A61,A70,A78,A76,A80] cN o0 (.c1 .nil) bA.self ?_;refine g4 ?_;refine stM rfl (ixs i) ?_;refine one ?_;refine stM rfl (fU hT (k:=3) rfl rfl rfl rfl rfl rfl l7) ?_;refine stM rfl (j6 hT (dD.knows (bG d8) hy 4)) ?_;refine g3 ?_;refine stM rfl (ixs k) ?_;refine one ?_;refine stM rfl (fU hT (k:=3) rfl rfl rfl rfl rfl rfl l7) ?_;refine stM rfl (j6 hT (dD.knows (bG d9) b 4)) ?_;refine one ?_;refine bJ (bDq _ _) ?_;refine one ?_;refine stM rfl (fU hT (k:=3) rfl rfl rfl rfl rfl rfl l7) ?_;refine g2 ?_;refine fJ (.c1 .nil) ⟨d7,d8,d9,i6⟩ ?_;refine g6 ?_;refine inc 4 ?_;refine g3 ?_;refine oY ?_;refine g7 ?_;refine cC rfl m6 ?_;refine g4 ?_;refine cL _ _ [j9,u0,u5,u9,A00,u6,A02,A01,A03,A04,A08,A07,A09,A24,A61,A70,A78,A76,A80] cN o0 (.c1 .nil) bA.self ?_;refine g4 ?_;refine stM rfl (ixs i) ?_;refine one ?_;refine stM rfl (fU hT (k:=4) rfl rfl rfl rfl rfl rfl l7) ?_;refine stM rfl (j6 hT (dD.knows (bG d8) hy 5)) ?_;refine g3 ?_;refine stM rfl (ixs k) ?_;refine one ?_;refine stM rfl (fU hT (k:=4) rfl rfl rfl rfl rfl rfl l7) ?_;refine stM rfl (j6 hT (dD.knows (bG d9) b 5)) ?_;refine one ?_;refine bJ (bDq _ _) ?_;refine one ?_;refine stM rfl (fU hT (k:=4) rfl rfl rfl rfl rfl rfl l7) ?_;refine g2 ?_;refine fJ (.c1 .nil) ⟨d7,d8,d9,i6⟩ ?_;refine g6 ?_;refine inc 5 ?_;refine g3 ?_;refine oY ?_;refine g7 ?_;refine cC rfl m6 ?_;refine g4 ?_;refine cL _ _ [j9,u0,u5,u9,A00,u6,A02,A01,A03,A04,A08,A07,A09,A24,A61,A70,A78,A76,A80] cN o0 (.c1 .nil) bA.self ?_;refine g4 ?_;refine stM rfl (ixs i) ?_;refine one ?_;refine stM rfl (fU hT (k:=5) rfl rfl rfl rfl rfl rfl l7) ?_;refine stM rfl (j6 hT (dD.knows (bG d8) hy 6)) ?_;refine g3 ?_;refine stM rfl (ixs k) ?_;refine one ?_;refine stM rfl (fU hT (k:=5) rfl rfl rfl rfl rfl rfl l7) ?_;refine stM rfl (j6 hT (dD.knows (bG d9) b 6)) ?_;refine one ?_;refine bJ (bDq _ _) ?_;refine one ?_;refine stM rfl (fU hT (k:=5) rfl rfl rfl rfl rfl rfl l7) ?_;refine g2 ?_;refine fJ (.c1 .nil) ⟨d7,d8,d9,i6⟩ ?_;refine g6 ?_;refine inc 6 ?_;refine g3 ?_;refine oY ?_;refine g7 ?_;refine jT rfl m6 ?_;refine g8 ?_;refine bD func108 (bQp _ _ cur' ⟨_,_,_,_,_,_,_⟩ l7) rfl rfl (.c1 .nil) i6 λ⟨B4,c5⟩=>?_;refine g7 ?_;refine inc (k+1) ?_;refine g3 ?_;exact jZ (k+1,_,_,_) v8 ⟨rfl,rfl,rfl,rfl,rfl,i6⟩ (.c0 .nil) ⟨i7 (by refine⟨l7,?_⟩;rw[R6,‹q[k]?=some _›,aF,L2,V9,bBp,<-hinv8.2,mulM,<-wrap_eq];rfl),d8,d9,i6⟩
  refine g9 ?_;refine inc (i+1) ?_;refine g3 ?_;exact jZ (i+1,_,_,_) v8 ⟨rfl,rfl,rfl,rfl,i6⟩ (.c0 .nil) ⟨i7 (by refine⟨l7,?_⟩;rw[R6,hy,aF,Z4,List.flatMap_singleton,bFm,<-f.2,hinv8.2,F6 l7]),d8,d9,i6⟩
 refine g8 ?_;refine hQ (bY func109 rfl rfl) (bVs _ _ cur l7) rfl rfl rfl rfl rfl .nil (.c0 .nil) (pH lG) ⟨d7,i6⟩ (λ_=>True) (λ_ _ _ _=>trivial) λ⟨B6,c7⟩ _=>?_;refine g7 ?_;have m:qS p q=sE cur:=by unfold qS;rw[g,l,f.2,F6 l7];rfl
 rw[m];exact qQ (B6,c7) rfl rfl rfl rfl (.c0 .nil) trivial
theorem lin_put{F:Mono->Int}(hF:yE F)(m:Mono): ∀l:List Mono,fB (lin F (qH m l)) (lin F l+m.n*F m)
 |[]=>fB.of_eq (by rw[qH,mL];show _=(0:Int)+_;have:lin F []=0:=rfl;omega)
 |a::l=>by
  have b:=lin_put hF m l;rw[qH];split
  .rw[mL,mL];exact((fB.refl (a.n*F a)).add b).trans (fB.of_eq l7)
  .split
   .rename_i c;have e1:F ⟨wrap64 (a.n+m.n),a.U,a.T,a.R,a.Q,a.O,a.N⟩=F a:=hF _ _ rfl;rw[mL,mL,e1,<-hF a m c];have h:=((vC (a.n+m.n)).mul (F a)).add (fB.refl (lin F l));have e:(a.n+m.n)*F a+lin F l=a.n*F a+lin F l+m.n*F a:=by rw[Int.add_mul];omega
    exact e▸h
   .rw[mL];exact fB.of_eq l7
theorem zR{F:Mono->Int}(hF:yE F): ∀(l acc:List Mono),fB (lin F (mG acc l)) (lin F acc+lin F l)
 |[],acc=>fB.of_eq (by show lin F acc=_;have:lin F []=0:=rfl;omega)
 |m::l,acc=>by have h:=zR hF l (qH m acc);have h2:=(lin_put hF m acc).add (fB.refl (lin F l));rw[mL];exact h.trans (h2.trans (fB.of_eq l7))
theorem bYd(m:Mono): ∀{l:List Mono},rQ l->rQ (qH m l)/\ ∀k,m.key<k->(∀y∈l,y.key<k)-> ∀y∈qH m l,y.key<k
 |[],_=>by simp[qH,rQ]
 |a::l,h=>by
  obtain⟨h1,h2⟩:=E5.1 h;obtain⟨d,c⟩:=bYd m h2
  have key: ∀y∈qH m (a::l),y.key<=m.key\/y.key<=a.key:=λy hy=>by
   rw[qH]at hy;split at hy
   .rename_i b
    rcases E2.1 hy with rfl|hy
    .exact .inr (B0 _)
    .exact .inr (aA (c a.key b h1 y hy))
   .split at hy
    .rcases E2.1 hy with rfl|hy
     .exact .inr (B0 _)
     .exact .inr (aA (h1 y hy))
    .rcases E2.1 hy with rfl|hy
     .exact .inl (B0 _)
     .rcases E2.1 hy with rfl|hy
      .exact .inr (B0 _)
      .exact .inr (aA (h1 y hy))
  refine⟨?_,λk b e y hy=>?_⟩
  .rw[qH];split
   .rename_i b;exact E5.2 ⟨λy hy=>c a.key b h1 y hy,d⟩
   .split
    .exact E5.2 ⟨λy hy=>h1 y hy,h2⟩
    .refine E5.2 ⟨λy hy=>?_,h⟩
     rcases E2.1 hy with rfl|hy
     .omega
     .have:=h1 y hy;omega
  .have f:=e a (E8 ..)
   rcases key y hy with h|h<;>omega
theorem uO: ∀(l:List Mono) {acc:List Mono},rQ acc->rQ (mG acc l)
 |[],_,h=>h
 |m::l,_,h=>uO l (bYd m h).1
theorem fit_put{m:Mono}(hm: -9223372036854775808<=m.n/\m.n<9223372036854775808): ∀{l:List Mono},Fit l->Fit (qH m l)
 |[],_=>λy hy=>by
  rw[qH]at hy;rw[K7.1 hy];exact hm
 |a::l,h=>λy hy=>by
  have b:Fit l:=λx hx=>h x (E4 _ hx);rw[qH]at hy;split at hy
  .rcases E2.1 hy with rfl|hy
   .exact h _ (E8 ..)
   .exact fit_put hm b y hy
  .split at hy
   .rcases E2.1 hy with rfl|hy
    .exact bAo _
    .exact b y hy
   .rcases E2.1 hy with rfl|hy
    .exact hm
    .exact h y hy
theorem bAs: ∀(l:List Mono) {acc:List Mono},Fit l->Fit acc->Fit (mG acc l)
 |[],_,_,h=>h
 |m::l,_,hl,h=>bAs l (λx hx=>hl x (E4 _ hx)) (fit_put (hl m (E8 ..)) h)
theorem bTb{l:List Mono}(h:rQ l):nU l=l.filter nz:=by unfold nU;have e:(l.filter λm=>m.n !=0)=l.filter nz:=rfl;rw[e];refine List.mergeSort_of_pairwise ?_;refine List.Pairwise.imp (λ{a b} hab=>?_) (h.filter nz);exact decide_eq_true (aA hab)
theorem bId{l L:List Mono}(hf:rQ l)(hfit:Fit l)(hA:lX L)(hL:Fit L)(h: ∀F,yE F->fB (lin F l) (lin F L)):sE l=jU L:=by
 have e:l.filter nz=nU L:=by rw[<-bTb hf];exact bHn hf.apart hfit hA hL h
 unfold sE jU;rw[e]
theorem cAk{F:Mono->Int}(hF:yE F)(s:Int): ∀q:List Mono,fB (lin F (q.map (bLx s))) (s*lin F q)
 |[]=>fB.of_eq (by show(0:Int)=s*0;simp)
 |m::q=>by have a:=cAk hF s q;rw[N7,mL,mL,Int.mul_add,hF (bLx s m) m rfl];have h:=(vC (s*m.n)).mul (F m);rw[Int.mul_assoc]at h;exact h.add a
theorem bFn(p q:List Mono)(s:Int):iN p q s=cD p q s:=by
 rw[bothP_L];unfold iN
 cases b:dE p with
 |false=>rfl
 |true=>
  cases hq:dE q with
  |false=>rfl
  |true=>
   refine bId (uO _ (uO _ List.Pairwise.nil)) (bAs _ (λy hy=>?_) (bAs _ (right_fit b) bPj)) (bCx p q s) (bLb p q s) λF a=>?_
   .obtain⟨x,_,rfl⟩:=R2.1 hy;exact bAo _
   .have h1:=zR a (q.map (bLx s)) (mG [] p);have h2:=zR a p [];have c:=bLh a p q s;have h0:lin F []=0:=rfl;exact h1.trans (((h2.trans (fB.of_eq l7)).add (cAk a s q)).trans c.symm)
theorem lin_row{F:Mono->Int}(a:Mono): ∀q:List Mono,fB (lin F (q.map (mulM a))) (fV (λb=>a.n*b.n*F (mulM a b)) q)
 |[]=>fB.refl _
 |b::q=>(((vC (a.n*b.n)).mul (F (mulM a b))).add (lin_row a q))
theorem lin_app(F:Mono->Int): ∀l k:List Mono,lin F (l++k)=lin F l+lin F k
 |[],k=>by show lin F k=(0:Int)+_;omega
 |m::l,k=>by rw[R0,mL,mL,lin_app F l k];omega
theorem lin_flat{F:Mono->Int}(q:List Mono): ∀p:List Mono,fB (lin F (p.flatMap λa=>q.map (mulM a))) (fV (λa=>fV (λb=>a.n*b.n*F (mulM a b)) q) p)
 |[]=>fB.refl _
 |a::p=>by rw[Z5,lin_app];exact(lin_row a q).add (lin_flat q p)
theorem refMul_mul(p q:List Mono):qS p q=mF p q:=by
 unfold qS mF
 cases c:dE p with
 |false=>rfl
 |true=>
  cases hq:dE q with
  |false=>rfl
  |true=>
   refine bId (uO _ List.Pairwise.nil) (bAs _ (λy hy=>?_) bPj) (bHd p q) (bWc p q) λF b=>?_
   .obtain⟨a,_,hy⟩:=Y2.1 hy;obtain⟨x,_,rfl⟩:=R2.1 hy;exact bAo _
   .have h1:=zR b (p.flatMap λa=>q.map (mulM a)) [];have h0:lin F []=0:=rfl;exact h1.trans (((fB.of_eq l7).trans (lin_flat q p)).trans (bSm b p q).symm)
theorem refAdd_spec(A B:Option Addr)(c d:Nat)(p q:List Mono)(hpl:p.length<=140737488355328)(hql:q.length<=140737488355328):cY prog 110 [.slice A p.length c,.slice B q.length d] [] [fE.sl (.slice A p.length c) p,fE.sl (.slice B q.length d) q] (λ(x:Option Addr×Nat)=> .tuple #[.slice x.1 (iN p q 1).1.length x.2,k6 (iN p q 1).2]) (λ(x:Option Addr×Nat)=>[fE.row (.slice x.1 (iN p q 1).1.length x.2) 43 (iN p q 1).1]) (λ_=>[]):=by have hT:=yX;refine j5 func110 ntmps110 ?_;intro β hM;refine g10 ?_;refine bD func144 (bFf _ _ _ _ p q 1 l7 l7) rfl rfl .nil ⟨d7,d8,i6⟩ λ⟨A1,c2⟩=>?_;refine g7 ?_;exact qQ (A1,c2) rfl rfl rfl rfl (.c0 .nil) trivial
theorem refSub_spec(A B:Option Addr)(c d:Nat)(p q:List Mono)(hpl:p.length<=140737488355328)(hql:q.length<=140737488355328):cY prog 111 [.slice A p.length c,.slice B q.length d] [] [fE.sl (.slice A p.length c) p,fE.sl (.slice B q.length d) q] (λ(x:Option Addr×Nat)=> .tuple #[.slice x.1 (iN p q (-1)).1.length x.2,k6 (iN p q (-1)).2]) (λ(x:Option Addr×Nat)=>[fE.row (.slice x.1 (iN p q (-1)).1.length x.2) 43 (iN p q (-1)).1]) (λ_=>[]):=by have hT:=yX;refine j5 func111 ntmps111 ?_;intro β hM;refine g10 ?_;refine bD func144 (bFf _ _ _ _ p q (-1) l7 l7) rfl rfl .nil ⟨d7,d8,i6⟩ λ⟨A1,c2⟩=>?_;refine g7 ?_;exact qQ (A1,c2) rfl rfl rfl rfl (.c0 .nil) trivial
