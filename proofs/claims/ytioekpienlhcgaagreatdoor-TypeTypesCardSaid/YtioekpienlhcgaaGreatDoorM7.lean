/- A part of one proof. -/
import Derived.Test.YtioekpienlhcgaaGreatDoorM6
set_option maxRecDepth 100000
namespace Go.Proofs.YtioekpienlhcgaaGreatDoor
open _root_.List renaming mem_cons_self->E8,mem_cons_of_mem->E4,length_append->F4,length_cons->F5,any_cons->X7,find?_cons->X8,mem_cons->E2,map_cons->N7,getElem?_eq_some_iff->F3,take_succ_eq_append_getElem->T8,take_of_length_le->F6,length->Q8,length_take->K6,mem_map_of_mem->X9,mem_of_mem_take->Y0,length_map->O4,getLast?_eq_getElem?->Y1,map_append->L2,cons_append->R0,drop_eq_getElem_cons->K2,drop_of_length_le->K3,mem_singleton->K7,mem_map->R2,mem_reverse->Y2,length_reverse->O8,mem_of_mem_drop->O3,length_drop->N9,mem_append->E3,map_singleton->T9,getElem?_eq_getElem->F1,take_add_one->R6,length_set->W9,filter_append->Y3,flatMap_cons->Y4,pairwise_cons->E5
open _root_.Nat renaming le_trans->B1,le_refl->B0,le_of_succ_le->Y5,zero_le->C4,eq_zero_or_pos->S8,le_of_lt->Y6
open _root_.Bool renaming eq_iff_iff->L7,and_eq_true->J3
open _root_.Int renaming not_lt->Y7,add_zero->Y8,mul_comm->Y9,mul_assoc->Z0
open Lib renaming compareBytes->S6,hid->S7
open IntKind renaming wrap->J5,signed->J6,bits->J7
open _root_.Option renaming toList_some->Z1
open _root_.UInt8 renaming add_comm->Z2
open World renaming size_alloc->V6
section
open Go.RowKit Go.Proofs.Tryz
def ArrV.v(x:ArrV):Value:= .agg #[.slice x.B.I x.B.A.length x.B.cap,.slice x.data.I x.data.A.length x.data.cap]
section
variable {p : jB} {dims : List Int} {ins : List Arr} {x : iH}
theorem yC(h:(dT p).2=true):(dZ p.C).length<=256:=by
 have hf:=wC h
 have key: ∀l:List iH,(∀x∈l,x.B.length<=4)->(dZ l).length<=4*l.length:=by
  intro l
  induction l with
  |nil=>intro _;simp[dZ]
  |cons x r ih=>
   intro hx;have e:dZ (x::r)=x.B++dZ r:=rfl;have h1:=hx x (E8 ..);have h2:=ih λy hy=>hx y (E4 _ hy);rw[e,F4,F5];omega
 have:=key p.C λx hx=>(hf.input x hx).2.1;have:=hf.ins;omega
end
def bIl (vars:List Bs)(d:oH):Bool:=(d.name==[]&&bOu d.n) || decide (6<=idxOf d.name vars 0)
section
variable {vars : List Bs} {l : List iH} {x : iH} {ds : List oH} {d : oH} {i j : Nat}
def zT (vars:List Bs)(l:List iH)(i:Nat):Prop:=l.find? (bAf vars)=(l.drop i).find? (bAf vars)
def bHd (vars:List Bs)(ds:List oH)(j:Nat):Prop:=ds.any (bIl vars)=(ds.drop j).any (bIl vars)
theorem bVt:zT vars l 0:=by simp[zT]
theorem few_in:bHd vars ds 0:=by simp[bHd]
theorem bDp(h:zT vars l i)(hx:l[i]?=some x)(k:bHd vars x.B j)(hd:x.B[j]?=some d)(hs:bIl vars d=true):l.find? (bAf vars)=some x:=by
 have e:bAf vars x=true:=by show x.B.any (bIl vars)=true;rw[k,kR hd,X7,hs];rfl
 rw[h,kR hx,X8,e]
theorem bHw(k:bHd vars ds j)(hd:ds[j]?=some d)(hs:bIl vars d=false):bHd vars ds (j+1):=by unfold bHd at k⊢;rw[k,kR hd,X7,hs,Bool.false_or]
theorem few_out(h:zT vars l i)(hx:l[i]?=some x)(k:bHd vars x.B j)(hj:x.B.length<=j):zT vars l (i+1):=by
 have e:bAf vars x=false:=by show x.B.any (bIl vars)=false;rw[k,pK hj];rfl
 unfold zT at h⊢;rw[h,kR hx,X8,e]
theorem few_end(h:zT vars l i)(hi:l.length<=i):l.find? (bAf vars)=none:=by unfold zT at h;rw[h,pK hi];rfl
theorem fs_a(hn:d.name=[])(hb:bOu d.n=true):bIl vars d=true:=by simp[bIl,hn,hb]
theorem fs_b(h:6<=idxOf d.name vars 0):bIl vars d=true:=by simp[bIl,h]
theorem fs_c(hb:bOu d.n=false)(h:idxOf d.name vars 0<6):bIl vars d=false:=by
 have: ¬6<=idxOf d.name vars 0:=m0
 simp[bIl,hb,this]
theorem fs_d(hn:d.name≠[])(h:idxOf d.name vars 0<6):bIl vars d=false:=by
 have: ¬6<=idxOf d.name vars 0:=m0
 simp[bIl,hn,this]
end
theorem vV(k:Bs): ∀(l:List Bs) (i:Nat),idxOf k l i= -1\/ ∃j:Nat,idxOf k l i=((i+j:Nat):Int)/\j<l.length/\l[j]?=some k
 |[],i=> .inl rfl
 |s::r,i=>by
  rw[idxOf];split
  .rename_i h;exact .inr ⟨0,n9,n9,by simp[h]⟩
  .have:=vV k r (i+1);have e:((i:Nat):Int)+1=((i+1:Nat):Int):=m0
   rw[e]
   rcases this with h|⟨j,h1,h2,a⟩
   .exact .inl h
   .exact .inr ⟨j+1,by rw[h1];congr 1;omega,by simp;omega,by simpa using a⟩
theorem bJs{k:Bs}: ∀{l:List Bs} {i:Nat},k∈l->idxOf k l i≠ -1
 |s::r,i,h=>by
  rw[idxOf];split
  .omega
  .rename_i hh
   rcases E2.1 h with e|h
   .exact absurd e.symm hh
   .have e:((i:Nat):Int)+1=((i+1:Nat):Int):=m0
    rw[e];exact bJs h
theorem vars_all: ∀{ds:List oH} {out:List Bs},(∀s∈out,s∈iL ds out)/\ ∀d∈ds,d.name≠[]->d.name∈iL ds out
 |[],out=>⟨λs h=>h,λd h=>by simp at h⟩
 |d::r,out=>by
  have a:= @vars_all r (if d.name=[]\/out.contains d.name=true then out else out++[d.name]);rw[iL];refine⟨λs hs=>a.1 s ?_,λe he hn=>?_⟩
  .split
   .exact hs
   .exact List.mem_append_left _ hs
  .rcases E2.1 he with rfl|he
   .refine a.1 _ ?_;split
    .rename_i h
     rcases h with h|h
     .exact absurd h hn
     .simpa using h
    .simp
   .exact a.2 e he hn
theorem bWx: ∀(ds:List oH) (out:List Bs),(iL ds out).length<=out.length+ds.length
 |[],out=>by simp[iL]
 |d::r,out=>by
  have a:=bWx r (if d.name=[]\/out.contains d.name=true then out else out++[d.name]);rw[iL];split at a
  .rename_i h;rw[if_pos h];simp;omega
  .rename_i h;rw[if_neg h];simp at a⊢;omega
theorem vars_le(p:jB):(dO p).length<=(dZ p.C).length:=by
 have:=bWx (dZ p.C) []
 simpa[dO]using this
abbrev NamesTV:=List (Bs×TyV)
def mU (k:Bs):NamesTV->Option TyV
 |[]=>none
 |p::r=>if k=p.1 then some p.2 else mU k r
def lO (NV:NamesTV):iA:=NV.map λp=>(p.1,p.2.t)
theorem qB(k:Bs): ∀NV:NamesTV,jW k (lO NV)=(mU k NV).map TyV.t
 |[]=>rfl
 |p::r=>by
  have a:=qB k r;unfold lO at a⊢;rw[N7,jW,mU];split
  .rfl
  .exact a
theorem bPl{k:Bs}{a:TyV}: ∀{NV:NamesTV},mU k NV=some a-> ∃p∈NV,p.2=a
 |[],h=>by cases h
 |p::r,h=>by
  rw[mU]at h;split at h
  .injection h with h
   exact⟨p,E8 ..,h⟩
  .obtain⟨q,hq,e⟩:=bPl h;exact⟨q,E4 _ hq,e⟩
def uE (kv:KVS)(NV:NamesTV):Prop:= ∀k,pT k kv=(mU k NV).map tyC
theorem nrT_start:uE [] []:=λ_=>rfl
theorem nrT_add{kv:KVS}{NV:NamesTV}(h:uE kv NV)(s:Bs)(a:TyV):uE (pX s (tyC a) kv) ((s,a)::NV):=λk=>by
 rw[bGi,mU]
 by_cases e:k=s
 .rw[if_pos (beq_iff_eq.2 e),if_pos e];rfl
 .rw[if_neg (by simpa using e),if_neg e];exact h k
def rG (NV:NamesTV):Fact:=Fact.each NV λp=>tyF p.2
theorem bRh{F:List Fact}{NV:NamesTV}{k:Bs}{a:TyV}(h:Has F (rG NV))(e:mU k NV=some a):Has F (tyF a):=by obtain⟨p,b,e⟩:=bPl e;rw[<-e];exact Has.each h b
theorem mapT:prog.underlying 66=some (.map 9 38):=m7
theorem bJr(w:World):(zeroValue 38).run prog w= .ok (.agg #[.slice none 0 0,.bool false,.slice none 0 0]) w:=m7
theorem bUb{β:fR}{n:Nat}{Γ:Env}{H:List bL}{F:List Fact}{Q:Exit->Act->World->Prop}{ops:Array Oper}{rest:List Oper}{o:Oper}{d:Nat}{x y z:Operand}{u v q:Bs}(hw:want ops Γ o=some true)(ho:o.op= .buildSlice 46 3 #[(0,x),(1,y),(2,z)])(hd:o.dst=some d)(hn:Nat.blt d n=true)
  (hx:Γ.ev x=some (.string (bs u))) (hy:Γ.ev y=some (.string (bs v))) (hz':Γ.ev z=some (.string (bs q))) (k: ∀b,At β n ((d,.slice (some ⟨b,0,none⟩) 3 3)::Γ) (.obj b (.cells (lN.all [u,v,q]).toArray 9)::H) F (wpList prog ops Q rest)):At β n Γ H F (wpList prog ops Q (o::rest)):=by
 obtain⟨i,hi,c,hs,_⟩:=bNk;refine bBg (m:=3) hw ho hd hn (λa w f=>?_) k
 have:=run_buildSlice (P:=prog) w 46 9 3 #[(0,a.eval x),(1,a.eval y),(2,a.eval z)] (lN.all [u,v,q]).toArray i (.string (bs [])) underlying46 hi c m0 m0 (by
  rw[f.ev hx,f.ev hy,f.ev hz',hs]
  kernel_rfl)
 simpa using this
section
variable {s : Bs} {NV : NamesTV} {a : TyV}
theorem name_0(h:mU (lU++s) NV=some a):nameT (lO NV) s=some a.t:=by unfold nameT;rw[qB,h];rfl
theorem name_1(h0:mU (lU++s) NV=none)(h:mU (nIn++s) NV=some a):nameT (lO NV) s=some a.t:=by unfold nameT;rw[qB,h0,qB,h];rfl
theorem name_2(h0:mU (lU++s) NV=none)(h1:mU (nIn++s) NV=none)(h:mU s NV=some a):nameT (lO NV) s=some a.t:=by unfold nameT;rw[qB,h0,qB,h1,qB,h];rfl
theorem name_3(h0:mU (lU++s) NV=none)(h1:mU (nIn++s) NV=none)(h:mU s NV=none):nameT (lO NV) s=none:=by unfold nameT;rw[qB,h0,qB,h1,qB,h];rfl
end
def chkO (cb mb:Nat):bL:= .obj cb (.cells [.map (some mb)].toArray 68)
def noTy:TyV:=⟨⟨none,0,[]⟩,false,⟨none,0,[]⟩⟩
theorem noTy_F{F:List Fact}:Has F (tyF noTy):=bR bN bN
theorem yJ:prog.built 38 []=some #[.slice none 0 0,.bool false,.slice none 0 0]:=m7
theorem nameT_spec(cb mb:Nat)(kv:KVS)(NV:NamesTV)(hN:uE kv NV)(s:Bs)(hs:s.length<=140737488355328):cY prog 34 [.pointer (some ⟨cb,0,none⟩),.string (bs s)] [chkO cb mb,vT mb kv] [rG NV] (λ(x:TyV)=> .tuple #[tyC x,.bool (nameT (lO NV) s).isSome]) (λ_=>[chkO cb mb,vT mb kv]) (λ(x:TyV)=>[tyF x,Fact.pure (x.t=(nameT (lO NV) s).getD ⟨[],false,[]⟩)]):=by
 have hT:=dL;generalize b:nameT (lO NV) s=r;refine j8 func34 ntmps34 ?_;intro β hM;refine g2 ?_;refine j4 rW λj=>?_;refine g7 ?_;refine ss (dI rfl rfl rfl s8) ?_;refine one ?_;refine ss (dI rfl rfl rfl s8) ?_;refine one ?_;refine bUb (u:=lU++s) (v:=nIn++s) (q:=s) rfl rfl rfl rfl rfl rfl rfl λi=>?_;refine dN (E:=lN) (xs:=[lU++s,nIn++s,s]) .head aa5<|bS .head ?_;refine g5 ?_;refine bWp 4 ?_;refine oJ ?_;refine g3 ?_;refine bF (t':=true) m9 ?_;refine g10 ?_;refine ss (cC hT (k:=0) (bE d7) rfl rfl rfl rfl rfl rfl rfl n9) ?_;refine ss (j9 hT (dC.knows (bE d7) (k:=0) (x:=(lU++s)) rfl 0)) ?_;refine g4 ?_
 rcases hlk0:mU (lU++s) NV with _|a
 .refine g6 ?_;refine ss (oX (oK kT2) rfl mapT underlying9 bJr rfl rfl (v:= .tuple #[tyC noTy,.bool false]) (by rw[hN,hlk0];rfl)) ?_;refine g3 ?_;refine j4 rW λh=>?_;refine g15 ?_;refine inc 1 ?_;refine g3 ?_;refine oJ ?_;refine g3 ?_;refine bF (t':=true) m9 ?_;refine g10 ?_;refine ss (cC hT (k:=1) (bE d7) rfl rfl rfl rfl rfl rfl rfl n9) ?_;refine ss (j9 hT (dC.knows (bE d7) (k:=1) (x:=(nIn++s)) rfl 0)) ?_;refine g4 ?_
  rcases hlk1:mU (nIn++s) NV with _|a
  .refine g6 ?_;refine ss (oX (oK kT3) rfl mapT underlying9 bJr rfl rfl (v:= .tuple #[tyC noTy,.bool false]) (by rw[hN,hlk1];rfl)) ?_;refine g3 ?_;refine j4 rW λg=>?_;refine g15 ?_;refine inc 2 ?_;refine g3 ?_;refine oJ ?_;refine g3 ?_;refine bF (t':=true) m9 ?_;refine g10 ?_;refine ss (cC hT (k:=2) (bE d7) rfl rfl rfl rfl rfl rfl rfl n9) ?_;refine ss (j9 hT (dC.knows (bE d7) (k:=2) (x:=s) rfl 0)) ?_;refine g4 ?_
   rcases hlk2:mU s NV with _|a
   .refine g6 ?_;refine ss (oX (oK kT4) rfl mapT underlying9 bJr rfl rfl (v:= .tuple #[tyC noTy,.bool false]) (by rw[hN,hlk2];rfl)) ?_;refine g3 ?_;refine j4 rW λf=>?_;refine g15 ?_;refine inc 3 ?_;refine g3 ?_;refine oJ ?_;refine g3 ?_;refine bF (t':=false) m9 ?_;refine g11 ?_;refine ss (j7 (yJ)) ?_;refine g5 ?_;obtain rfl:=b.symm.trans (name_3 hlk0 hlk1 hlk2);exact rs2 (noTy:TyV) ⟨noTy_F,j2 rfl,j1⟩
   refine g6 ?_;refine ss (oX (oK kT4) rfl mapT underlying9 bJr rfl rfl (v:= .tuple #[tyC a,.bool true]) (by rw[hN,hlk2];rfl)) ?_;refine g3 ?_;refine j4 rW λe=>?_;refine g23 ?_;refine bB (tyF a) (bRh d8 hlk2) ?_;obtain rfl:=b.symm.trans (name_2 hlk0 hlk1 hlk2);exact rs2 (a:TyV) ⟨d7,j2 rfl,j1⟩
  refine g6 ?_;refine ss (oX (oK kT3) rfl mapT underlying9 bJr rfl rfl (v:= .tuple #[tyC a,.bool true]) (by rw[hN,hlk1];rfl)) ?_;refine g3 ?_;refine j4 rW λd=>?_;refine g23 ?_;refine bB (tyF a) (bRh d8 hlk1) ?_;obtain rfl:=b.symm.trans (name_1 hlk0 hlk1);exact rs2 (a:TyV) ⟨d7,j2 rfl,j1⟩
 refine g6 ?_;refine ss (oX (oK kT2) rfl mapT underlying9 bJr rfl rfl (v:= .tuple #[tyC a,.bool true]) (by rw[hN,hlk0];rfl)) ?_;refine g3 ?_;refine j4 rW λc=>?_;refine g23 ?_;refine bB (tyF a) (bRh d8 hlk0) ?_;obtain rfl:=b.symm.trans (name_0 hlk0);exact rs2 (a:TyV) ⟨d7,j2 rfl,j1⟩
def bLo (l vs:List PolV)(i:Nat):Prop:=bO vs=(bO l).take i
theorem ownT_start(l:List PolV):bLo l [] 0:=rfl
theorem ownT_step{l vs:List PolV}{i:Nat}{p q:PolV}(h:bLo l vs i)(hp:l[i]?=some p)(hq:q.A=p.A):bLo l (vs++[q]) (i+1):=by obtain⟨hi,e⟩:=F3.1 (jR hp);unfold bLo at*;rw[T8 hi,e,<-h,<-hq,qS];rfl
theorem ownT_end{l vs:List PolV}{i:Nat}(h:bLo l vs i)(hi:l.length<=i):bO vs=bO l:=by
 unfold bLo at h
 rwa[F6 am5]at h
theorem ownT_len{l vs:List PolV}{i:Nat}(h:bLo l vs i)(hi:i<=l.length):vs.length=i:=by have:=congrArg Q8 h;rw[bI,K6,bI]at this;omega
theorem polF_mk{F:List Fact}{A:Option Addr}{c:Nat}{l:List Mono}(h:Has F (fL.sl (.slice A l.length c) l))(k:l.length<=48):Has F (jU ⟨A,c,l⟩):=h.and (j2 (B1 k m9))
theorem wf_sr{a:TyV}(h:WfT a.t): ∀p∈a.B.A,p.A.length<=48:=λ_ b=>lJ (h.sr _ (X9 b))
theorem wf_vr{a:TyV}(h:WfT a.t): ∀p∈a.values.A,p.A.length<=48:=λ_ b=>lJ (h.vr _ (X9 b))
theorem ownT_t{a x:TyV}(hs:bO x.B.A=bO a.B.A)(hv:bO x.values.A=bO a.values.A)(hk:x.known=a.known):x.t=a.t:=by unfold TyV.t;rw[hs,hv,hk]
theorem bRf(l:Sl PolV)(hl:l.A.length<=4)(hr: ∀p∈l.A,p.A.length<=48):cY prog 38 [k7 l] [] [cO l] (λ(x:Sl PolV)=> k7 x) (λ_=>[]) (λ(x:Sl PolV)=>[cO x,Fact.pure (bO x.A=bO l.A)]):=by
 have hT:=dL;refine j8 func38 ntmps38 ?_;intro β hM;refine bP<|cE l mT0 λe=>?_;refine g18 ?_;refine bQ (t:=40) bV<|bB (cL []) (Has.each_nil) ?_;refine cI (ι:=Nat×List PolV×Option Addr×Nat) [(6,_),(7,_)] ⟨rfl,rfl,j1⟩ (λ⟨i,vs,V,cv⟩=>[(3,.slice V vs.length cv),(8,.int .i64 (i:Nat))]) (λ⟨i,vs,V,cv⟩=>[bV.row (.slice V vs.length cv) 40 vs]) (λ⟨i,vs,V,cv⟩=>[Fact.pure (i<=l.A.length/\bLo l.A vs i),cL vs]) (λ⟨i,vs,V,cv⟩=>l.A.length-i) (0,[],none,0) ⟨rfl,rfl,j1⟩ (.c0 .nil) ⟨j2 (⟨m0,ownT_start _⟩),d7,j1⟩ ?_;rintro⟨i,vs,V,cv⟩;dsimp only;refine bG d7 λa=>?_;have f:=ownT_len a.2 a.1;refine g6 ?_;refine fA (λd=>?_) λd=>?_
 .refine g6 ?_;obtain⟨x1,b⟩:=gx l.A i;refine ss (ixs i) ?_;refine ss (gI b 0) ?_;refine g6 ?_;have hpl:=hr x1 (j3 b);refine j5 func39 (cloneM_spec x1.I x1.cap x1.A m0) ⟨xC (Has.each e6 (j3 b)),j1⟩ λ⟨A3,c4⟩=>?_;refine bS .head<|bB (jU ⟨A3,c4,x1.A⟩) (polF_mk d7 hpl) ?_;refine k6 (m:=⟨A3,c4,x1.A⟩) λh=>?_;refine bB (cL (vs++[(⟨A3,c4,x1.A⟩:PolV)])) (Has.each_snoc e6 d7) ?_;refine cV kT1 (bT .head rfl) rfl rfl rfl rfl rfl rfl rfl s8 λg c7=>?_;refine g6 ?_;refine inc (i+1) ?_;refine g3 ?_;exact bk2 (i+1,vs++[(⟨A3,c4,x1.A⟩:PolV)],g,c7) ⟨j2 (⟨by dsimp only;omega,ownT_step a.2 b rfl⟩),d7,j1⟩
 refine g12 ?_;have he:=ownT_end a.2 m0;refine fS .head λc=>bS .head ?_;exact rs1 (⟨V,cv,vs⟩:Sl PolV) ⟨bZ d7 d9 c,j2 he,j1⟩
theorem ownT_spec(a:TyV)(ha:WfT a.t):cY prog 17 [.agg #[k7 a.B,.bool a.known,k7 a.values]] [] [tyF a] (λ(x:TyV)=>tyC x) (λ_=>[]) (λ(x:TyV)=>[tyF x,Fact.pure (x.t=a.t)]):=by have hT:=dL;have i:=oV ha;have h:=wZ ha;refine j8 func17 ntmps17 ?_;intro β hM;refine bP<|bB (cO a.B) (jK d7) ?_;refine cE a.B mT0 λe=>bB (cO a.values) (jM e6)<|cE a.values mT0 λd=>?_;refine one ?_;refine j6 λk=>?_;refine j4 rW λj=>?_;refine g8 ?_;refine cK _ _ [k8,u0,u5,A00,u6,A02,A01,A03,A06,(false,9),A08,(false,11)] cN o8 (.c1 .nil) bA.self ?_;refine g9 ?_;refine iS (cB func38 rfl rfl) (bRf a.B m0 (wf_sr ha)) rfl rfl rfl rfl rfl rfl rfl .nil ⟨e8,j1⟩ λg=>?_;refine bG d8 λc=>?_;refine g2 ?_;refine iS (cB func38 rfl rfl) (bRf a.values m0 (wf_vr ha)) rfl rfl rfl rfl rfl rfl rfl .nil ⟨e7,j1⟩ λf=>?_;refine bG d8 λb=>?_;refine one ?_;refine stM rfl (j7 (vG _ _ _ _ _ _ _)) ?_;refine g6 ?_;exact rs1 (⟨g,a.known,f⟩:TyV) ⟨(bR (x:=⟨g,a.known,f⟩) d9 d7),j2 (ownT_t (a:=a) c b rfl),j1⟩
section
variable {P : Program} {β : fR} {n : Nat} {Γ : Env} {H : List bL} {F : List Fact} {T : Tab}
theorem mY{α:Type}{g:α->Fact}{xs:List α}(h:Has F (Fact.each xs g))(k:Nat):Has F (Fact.each (xs.take k) g):=λS w q x hx=>h S w q x (Y0 hx)
end
def stT (hv:List TyV):List TyP:=(hv.map TyV.t).reverse
theorem bAq{hv:List TyV}{a:TyV}(h:hv[hv.length-1]?=some a):(stT hv).headD default=a.t:=by
 have h2:(hv.map TyV.t)[(hv.map TyV.t).length-1]?=some a.t:=by rw[O4];exact sU h
 unfold stT;rw[List.headD_eq_head?_getD,List.head?_reverse,Y1,h2];rfl
theorem bRp{hv:List TyV}{a:TyV}(h:hv[hv.length-2]?=some a)(h2:2<=hv.length):(stT hv).tail.headD default=a.t:=by
 have e:(stT hv)[1]?=some a.t:=by
  unfold stT;rw[List.getElem?_reverse ab2,O4];have:hv.length-1-1=hv.length-2:=m0
  rw[this];exact sU h
 match stT hv,e with
 |_::b::_,e=>simpa using e
theorem stT_push{hv:List TyV}{a:TyV}{k T:Nat}(hk:k=hv.length-T):stT (hv.take k++[a])=a.t::(stT hv).drop T:=by
 unfold stT;rw[L2,List.reverse_append,List.map_take];simp only[N7,List.map_nil,List.reverse_cons,List.reverse_nil,List.nil_append,R0]
 congr 1
 rw[List.drop_reverse,O4,hk]
section
variable {N : iA} {it : ItemV} {hv : List TyV} {x u : TyV}
theorem itT_lit(h:it.H=1):iO N it.it (stT hv)=(gP it.nums.A,0):=if_pos h
theorem itT_name(h:it.H=2)(k:(nameT N it.name).isSome=true):iO N it.it (stT hv)=((nameT N it.name).getD ⟨[],false,[]⟩,0):=by
 unfold iO;rw[if_neg (show ¬it.it.H=1 from (show ¬it.H=1 by omega)),if_pos (show it.it.H=_ from h)]
 cases e:nameT N it.name with
 |none=>rw[e]at k;cases k
 |some t=>rw[show nameT N it.it.name=some t from e];rfl
theorem itT_none(h:it.H=2)(k:(nameT N it.name).isSome=false):iO N it.it (stT hv)=((nameT N it.name).getD ⟨[],false,[]⟩,83):=by
 unfold iO;rw[if_neg (show ¬it.it.H=1 from (show ¬it.H=1 by omega)),if_pos (show it.it.H=_ from h)]
 cases e:nameT N it.name with
 |none=>rw[show nameT N it.it.name=none from e];rfl
 |some t=>rw[e]at k;cases k
theorem itT_mon(h:it.H=3)(hx:hv[hv.length-1]?=some x):iO N it.it (stT hv)=hJ it.fn x.t:=by unfold iO;rw[if_neg (show ¬it.it.H=1 from (show ¬it.H=1 by omega)),if_neg (show ¬it.it.H=2 from (show ¬it.H=2 by omega)),if_pos (show it.it.H=_ from h),bAq hx];rfl
theorem itT_5(h:it.H=5)(hx:hv[hv.length-1]?=some x):iO N it.it (stT hv)=(if x.t.B=[]then x.t else ⟨x.t.B.take (x.t.B.length-1),false,[]⟩,0):=by unfold iO;rw[if_neg (show ¬it.it.H=1 from (show ¬it.H=1 by omega)),if_neg (show ¬it.it.H=2 from (show ¬it.H=2 by omega)),if_neg (show ¬it.it.H=3 from (show ¬it.H=3 by omega)),if_pos (show it.it.H=_ from h),bAq hx]
theorem itT_6(h:it.H=6)(hx:hv[hv.length-1]?=some x):iO N it.it (stT hv)=(if x.t.B=[]then x.t else ⟨x.t.B,false,[]⟩,0):=by unfold iO;rw[if_neg (show ¬it.it.H=1 from (show ¬it.H=1 by omega)),if_neg (show ¬it.it.H=2 from (show ¬it.H=2 by omega)),if_neg (show ¬it.it.H=3 from (show ¬it.H=3 by omega)),if_neg (show ¬it.it.H=5 from (show ¬it.H=5 by omega)),if_pos (show it.it.H=_ from h),bAq hx]
theorem bHj(h:it.H=5\/it.H=6)(hx:hv[hv.length-1]?=some x)(hs:x.B.A.length=0):iO N it.it (stT hv)=(x.t,0):=by
 rcases h with h|h
 .rw[itT_5 h hx,if_pos (show x.t.B=[]from dW hs)]
 .rw[itT_6 h hx,if_pos (show x.t.B=[]from dW hs)]
theorem itT_fold(h:it.H=5)(hx:hv[hv.length-1]?=some x)(hs:0<x.B.A.length):iO N it.it (stT hv)=(⟨bO (x.B.A.take (x.B.A.length-1)),false,[]⟩,0):=by rw[itT_5 h hx,if_neg (show ¬x.t.B=[]from gE hs),bOx,show x.t.B.length=x.B.A.length from bI _];rfl
theorem itT_scan(h:it.H=6)(hx:hv[hv.length-1]?=some x)(hs:0<x.B.A.length):iO N it.it (stT hv)=(⟨bO (x.B.A.take x.B.A.length),false,[]⟩,0):=by rw[itT_6 h hx,if_neg (show ¬x.t.B=[]from gE hs),List.take_length];rfl
theorem itT_dy(h:it.H=4)(hx:hv[hv.length-2]?=some x)(hu:hv[hv.length-1]?=some u)(h2:2<=hv.length):iO N it.it (stT hv)=pO it.fn x.t u.t:=by unfold iO;rw[if_neg (show ¬it.it.H=1 from (show ¬it.H=1 by omega)),if_neg (show ¬it.it.H=2 from (show ¬it.H=2 by omega)),if_neg (show ¬it.it.H=3 from (show ¬it.H=3 by omega)),if_neg (show ¬it.it.H=5 from (show ¬it.H=5 by omega)),if_neg (show ¬it.it.H=6 from (show ¬it.H=6 by omega)),if_pos (show it.it.H=_ from h),bAq hu,bRp hx h2];rfl
theorem itT_out{e:Int}(h1:it.H≠1)(h2:it.H≠2)(h3:it.H≠3)(h5:it.H≠5)(h6:it.H≠6)(h4:it.H≠4)(hx:hv[hv.length-2]?=some x)(hu:hv[hv.length-1]?=some u)(hl:2<=hv.length)(he:e=if 4<x.B.A.length+u.B.A.length then 90 else 0):iO N it.it (stT hv)=(⟨bO (x.B.A++u.B.A),false,[]⟩,e):=by unfold iO;rw[if_neg (show ¬it.it.H=1 from h1),if_neg (show ¬it.it.H=2 from h2),if_neg (show ¬it.it.H=3 from h3),if_neg (show ¬it.it.H=5 from h5),if_neg (show ¬it.it.H=6 from h6),if_neg (show ¬it.it.H=4 from h4),bAq hu,bRp hx hl,he,qS,show x.t.B.length=x.B.A.length from bI _,show u.t.B.length=u.B.A.length from bI _];rfl
end
theorem itemTS_spec(cb mb:Nat)(kv:KVS)(NV:NamesTV)(hN:uE kv NV)(it:ItemV)(A:Option Addr)(c:Nat)(hv:List TyV)(hW: ∀t∈hv,WfT t.t)(hl:hv.length<=300)(hd:fI it.it<=hv.length)(h17:1<=it.H/\it.H<=7)(hnum:it.H=1->it.nums.A.length<=65536)(hnm:it.H=2->it.name.length<=140737488355328):cY prog 16 [.pointer (some ⟨cb,0,none⟩),.agg #[k9 it.H,k9 it.at_,l5 it.fn,.string (bs it.name),k7 it.nums],.slice A hv.length c] [chkO cb mb,vT mb kv,tyE.row (.slice A hv.length c) 38 hv] [bNh.sl (k7 it.nums) it.nums.A,Fact.each hv tyF,rG NV] (λ(x:TyV)=> .tuple #[tyC x,k9 (fI it.it:Nat),k9 (iO (lO NV) it.it (stT hv)).2]) (λ_=>[chkO cb mb,vT mb kv,tyE.row (.slice A hv.length c) 38 hv]) (λ(x:TyV)=>[tyF x,Fact.pure (x.t=(iO (lO NV) it.it (stT hv)).1)]):=by
 have hT:=dL;generalize l:iO (lO NV) it.it (stT hv)=r;generalize g:fI it.it=T at hd⊢;refine j8 func16 ntmps16 ?_;intro β hM;refine g2 ?_;refine j6 λO=>?_;refine j4 rW λN=>?_;refine g25 ?_;refine gJ (λB=>?_) λB=>?_
 .refine bP ?_;have a:T=0:=g.symm.trans (vA ah3);subst a;refine g3 ?_;refine j5 func33 (bUj it.nums.I it.nums.cap it.nums.A (B1 (hnum asd) m9)) ⟨d7,j1⟩ λK=>?_;refine bG d8 λhy=>?_;refine g8 ?_;obtain rfl:=l.symm.trans (itT_lit asd);exact rs3 (K:TyV) ⟨d7,j2 hy,j1⟩
 refine g6 ?_;refine gJ (λz=>?_) λz=>?_
 .refine bP ?_;have a:T=0:=g.symm.trans (vA ah3);subst a;refine g4 ?_;refine bC func34 (nameT_spec cb mb kv NV hN it.name (hnm asd)) rfl rfl (.c2 (.c2 .nil)) ⟨d9,j1⟩ λG=>?_;refine bG d8 λhy=>?_;refine g3 ?_;refine j4 rW λM=>?_;refine g11 ?_;refine iK (λhc32=>?_) λhc32=>?_
  .refine g16 ?_;obtain rfl:=l.symm.trans (itT_none asd asd);exact rs3 (G:TyV) ⟨d7,j2 hy,j1⟩
  refine g14 ?_;obtain rfl:=l.symm.trans (itT_name asd asd);exact rs3 (G:TyV) ⟨d7,j2 hy,j1⟩
 refine g6 ?_;refine gJ (λy=>?_) λy=>?_
 .refine bP ?_;have a:T=1:=g.symm.trans (qQ ab3);subst a;obtain⟨x,hx⟩:=gx hv (hv.length-1);have d:=hW x (j3 hx);refine bB (tyF x) (Has.each d8 (j3 hx)) ?_;have n:=oV d;refine bB (cO x.B) (jK d7)<|cE x.B mT0 λb=>bB (cO x.values) (jM e6)<|cE x.values mT0 λf=>?_;refine cK _ _ [k8,u0,u5,u9,A00,u6,A02,A75,A03,A04,A08,(false,11),A09] cN o8 (.c1 (.c1 (.c1 (.c1 .nil)))) bA.self ?_;refine g5 ?_;refine inc (hv.length-1) ?_;refine stM rfl (ixs (hv.length-1)) ?_;refine stM rfl (oZ hx 0) ?_;refine one ?_;refine j5 func35 (monT_spec it.fn x d) ⟨e9,j1⟩ λJ=>?_;refine bG d8 λhy=>?_;refine g22 ?_;obtain rfl:=l.symm.trans (itT_mon asd hx);exact rs3 (J:TyV) ⟨d7,j2 hy,j1⟩
 refine g7 ?_;refine gJ (λo=>?_) λo=>?_
 .refine bF (t':=true) asd ?_;refine g4 ?_;have a:T=1:=g.symm.trans (qQ ab3);subst a;obtain⟨x,hx⟩:=gx hv (hv.length-1);have d:=hW x (j3 hx);refine bB (tyF x) (Has.each d8 (j3 hx)) ?_;have n:=oV d;refine bB (cO x.B) (jK d7)<|cE x.B mT0 λb=>bB (cO x.values) (jM e6)<|cE x.values mT0 λf=>?_;refine g4 ?_;refine inc (hv.length-1) ?_;refine ss (ixs (hv.length-1)) ?_;refine ss (oZ hx 0) ?_;refine g18 ?_;refine fA (λj=>?_) λj=>?_
  .refine g6 ?_;refine bF (t':=true) (by rw[o];rfl) ?_;refine g6 ?_;refine inc (x.B.A.length-1) ?_;refine g7 ?_;have hkl:(x.B.A.length-1)<=x.B.A.length:=m0
   refine ss (iQ hT (k:=(x.B.A.length-1)) rfl rfl rfl rfl rfl rfl m0) ?_;refine iC (v':= .slice x.B.I (x.B.A.take ((x.B.A.length-1))).length x.B.cap) ac3<|bB (cO ⟨x.B.I,x.B.cap,(x.B.A.take ((x.B.A.length-1)))⟩) (nF e8 b hkl) ?_;refine j5 func32 (fG x.B.I ((x.B.A.take ((x.B.A.length-1))).length) x.B.cap) j1 λ_=>?_;refine g14 ?_;have hr:=l.symm.trans (itT_fold asd hx m0);subst hr;exact rs3 (⟨⟨x.B.I,x.B.cap,(x.B.A.take ((x.B.A.length-1)))⟩,false,⟨none,0,[]⟩⟩:TyV) ⟨(bR (x:=⟨⟨x.B.I,x.B.cap,(x.B.A.take ((x.B.A.length-1)))⟩,false,⟨none,0,[]⟩⟩) d7 bN),j2 rfl,j1⟩
  refine g13 ?_;have hr:=l.symm.trans (bHj ah3 hx m0);subst hr;exact rs3 (⟨x.B,x.known,x.values⟩:TyV) ⟨(bR (x:=⟨x.B,x.known,x.values⟩) e8 d9),j2 rfl,j1⟩
 refine g5 ?_;refine gJ (λh=>?_) λh=>?_
 .refine bF (t':=true) asd ?_;refine bP ?_;have a:T=1:=g.symm.trans (qQ ab3);subst a;obtain⟨x,hx⟩:=gx hv (hv.length-1);have d:=hW x (j3 hx);refine bB (tyF x) (Has.each d8 (j3 hx)) ?_;have n:=oV d;refine bB (cO x.B) (jK d7)<|cE x.B mT0 λb=>bB (cO x.values) (jM e6)<|cE x.values mT0 λf=>?_;refine g4 ?_;refine inc (hv.length-1) ?_;refine ss (ixs (hv.length-1)) ?_;refine ss (oZ hx 0) ?_;refine g18 ?_;refine fA (λj=>?_) λj=>?_
  .refine g6 ?_;refine bF (t':=false) (by rw[h];rfl) ?_;refine g9 ?_;have hkl:x.B.A.length<=x.B.A.length:=m0
   refine ss (iQ hT (k:=x.B.A.length) rfl rfl rfl rfl rfl rfl m0) ?_;refine iC (v':= .slice x.B.I (x.B.A.take (x.B.A.length)).length x.B.cap) ac3<|bB (cO ⟨x.B.I,x.B.cap,(x.B.A.take (x.B.A.length))⟩) (nF e8 b hkl) ?_;refine j5 func32 (fG x.B.I ((x.B.A.take (x.B.A.length)).length) x.B.cap) j1 λ_=>?_;refine g14 ?_;have hr:=l.symm.trans (itT_scan asd hx m0);subst hr;exact rs3 (⟨⟨x.B.I,x.B.cap,(x.B.A.take (x.B.A.length))⟩,false,⟨none,0,[]⟩⟩:TyV) ⟨(bR (x:=⟨⟨x.B.I,x.B.cap,(x.B.A.take (x.B.A.length))⟩,false,⟨none,0,[]⟩⟩) d7 bN),j2 rfl,j1⟩
  refine g13 ?_;have hr:=l.symm.trans (bHj ah3 hx m0);subst hr;exact rs3 (⟨x.B,x.known,x.values⟩:TyV) ⟨(bR (x:=⟨x.B,x.known,x.values⟩) e8 d9),j2 rfl,j1⟩
 refine g6 ?_;refine gJ (λw=>?_) λw=>?_
 .refine bP ?_;have a:T=2:=g.symm.trans (uL ab3);subst a;obtain⟨x,hx⟩:=gx hv (hv.length-2);have d:=hW x (j3 hx);refine bB (tyF x) (Has.each d8 (j3 hx)) ?_;have n:=oV d;refine bB (cO x.B) (jK d7)<|cE x.B mT0 λb=>bB (cO x.values) (jM e6)<|cE x.values mT0 λf=>?_;obtain⟨u,hu⟩:=gx hv (hv.length-1);have m:=hW u (j3 hu);refine bB (tyF u) (Has.each f5 (j3 hu)) ?_;have D:=oV m;refine bB (cO u.B) (jK d7)<|cE u.B mT0 λq=>bB (cO u.values) (jM e6)<|cE u.values mT0 λp=>?_;refine cK _ _ [k8,u0,u5,u9,A00,u6,A02,A01,A03,A04,A08,A07,(false,12),A24,A61,A70,(false,16),A76] cN o8 (.c1 (.c1 (.c1 (.c1 .nil)))) bA.self ?_;refine g5 ?_;refine inc (hv.length-2) ?_;refine stM rfl (ixs (hv.length-2)) ?_;refine stM rfl (oZ hx 0) ?_;refine g3 ?_;refine inc (hv.length-1) ?_;refine stM rfl (ixs (hv.length-1)) ?_;refine stM rfl (oZ hu 0) ?_;refine one ?_;refine j5 func36 (dyT_spec it.fn x u d m) ⟨j0,e9,j1⟩ λI=>?_;refine bG d8 λhy=>?_;refine g22 ?_;have hr:=l.symm.trans (itT_dy asd hx hu m0);subst hr;exact rs3 (I:TyV) ⟨d7,j2 hy,j1⟩
 refine g4 ?_;have a:T=2:=g.symm.trans (uL ab3);subst a;obtain⟨x,hx⟩:=gx hv (hv.length-2);have d:=hW x (j3 hx);refine bB (tyF x) (Has.each d8 (j3 hx)) ?_;have n:=oV d;refine bB (cO x.B) (jK d7)<|cE x.B mT0 λb=>bB (cO x.values) (jM e6)<|cE x.values mT0 λf=>?_;obtain⟨u,hu⟩:=gx hv (hv.length-1);have m:=hW u (j3 hu);refine bB (tyF u) (Has.each f5 (j3 hu)) ?_;have D:=oV m;refine bB (cO u.B) (jK d7)<|cE u.B mT0 λq=>bB (cO u.values) (jM e6)<|cE u.values mT0 λp=>?_;refine cK _ _ [k8,u0,u5,u9,A00,u6,A02,A01,A03,A04,A08,A07,(false,12),(false,13),(false,14),(false,15)] cN o8 (.c1 (.c1 (.c1 (.c1 .nil)))) bA.self ?_;refine g3 ?_;refine inc (hv.length-2) ?_;refine stM rfl (ixs (hv.length-2)) ?_;refine one ?_;refine stM rfl (gI hx 0) ?_;refine g3 ?_;refine inc (hv.length-1) ?_;refine stM rfl (ixs (hv.length-1)) ?_;refine one ?_;refine stM rfl (gI hu 0) ?_;refine one ?_;refine rA (u:=x.B) (v:=u.B) rfl rfl rfl rfl rfl rfl λL=>?_;refine dN (E:=bBo) (xs:=[x.B,u.B]) .head aa5<|bS .head<|bB (Fact.each [x.B,u.B] cO) (Has.each_cons j0 (Has.each_cons e9 Has.each_nil)) ?_;refine g2 ?_;have C:=rL (some ⟨L,0,none⟩) 2 [x.B,u.B] n9 ag8;rw[nQ]at C;refine j5 func37 C ⟨d8,d7,j1⟩ λ⟨A10,c11⟩=>?_;refine fS .head λi=>bS .head<|bB (cL (x.B.A++u.B.A)) (hU j0 e9) ?_;refine g2 ?_;refine j5 func32 (fG A10 ((x.B.A++u.B.A).length) c11) j1 λ_=>?_;refine g15 ?_;refine fA (λs=>?_) λs=>?_
 .refine g14 ?_;have hr:=l.symm.trans (itT_out (e:=90) asd asd asd asd asd asd hx hu m0 (by rw[if_pos (by simp only[F4]at*;omega)]));subst hr;exact rs3 (⟨⟨A10,c11,(x.B.A++u.B.A)⟩,false,⟨none,0,[]⟩⟩:TyV) ⟨(bR (x:=⟨⟨A10,c11,(x.B.A++u.B.A)⟩,false,⟨none,0,[]⟩⟩) (bZ d8 d7 (i)) bN),j2 rfl,j1⟩
 refine g12 ?_;have hr:=l.symm.trans (itT_out (e:=0) asd asd asd asd asd asd hx hu m0 (by rw[if_neg (by simp only[F4]at*;omega)]));subst hr;exact rs3 (⟨⟨A10,c11,(x.B.A++u.B.A)⟩,false,⟨none,0,[]⟩⟩:TyV) ⟨(bR (x:=⟨⟨A10,c11,(x.B.A++u.B.A)⟩,false,⟨none,0,[]⟩⟩) (bZ d8 d7 (i)) bN),j2 rfl,j1⟩
theorem chk_built(m:Nat):prog.built 68 [(0,.map (some m))]=some #[.map (some m)]:=m7
def VTAt (vars:List Bs)(i:Nat)(NV:NamesTV)(kv:KVS):Prop:=uE kv NV/\rV vars 0 []=rV (vars.drop i) i (lO NV)
theorem vtT_start(vars:List Bs):VTAt vars 0 [] []:=⟨nrT_start,rfl⟩
theorem vtT_step{vars:List Bs}{i:Nat}{NV:NamesTV}{kv:KVS}{s:Bs}{a:TyV}(h:VTAt vars i NV kv)(hs:vars[i]?=some s)(ha:a.t=bTw i):VTAt vars (i+1) ((s,a)::NV) (pX s (tyC a) kv):=by obtain⟨hi,e⟩:=F3.1 hs;refine⟨nrT_add h.1 s a,?_⟩;rw[h.2,K2 hi,e];show rV _ (i+1) ((s,bTw i)::_)=_;rw[<-ha];rfl
theorem vtT_end{vars:List Bs}{i:Nat}{NV:NamesTV}{kv:KVS}(h:VTAt vars i NV kv)(hi:vars.length<=i):rV vars 0 []=lO NV:=by rw[h.2,K3 hi];rfl
def ITAt (p:jB)(i:Nat)(NV:NamesTV)(kv:KVS):Prop:=uE kv NV/\sI p=bNg (dO p) (p.C.drop i) (lO NV)
theorem itT_start{p:jB}{i:Nat}{NV:NamesTV}{kv:KVS}(h:VTAt (dO p) i NV kv)(hi:(dO p).length<=i):ITAt p 0 NV kv:=⟨h.1,by
 unfold sI;rw[vtT_end h hi]
 rfl⟩
theorem itT_step{p:jB}{i:Nat}{NV:NamesTV}{kv:KVS}{x:iH}{a:TyV}(h:ITAt p i NV kv)(hx:p.C[i]?=some x)(ha:a.t=inT (dO p) x):ITAt p (i+1) ((nIn++x.name,a)::NV) (pX (nIn++x.name) (tyC a) kv):=by obtain⟨hi,e⟩:=F3.1 hx;refine⟨nrT_add h.1 _ a,?_⟩;rw[h.2,K2 hi,e];show bNg _ _ ((nIn++x.name,inT (dO p) x)::_)=_;rw[<-ha];rfl
theorem itT_end{p:jB}{i:Nat}{NV:NamesTV}{kv:KVS}(h:ITAt p i NV kv)(hi:p.C.length<=i):lO NV=sI p:=by rw[h.2,K3 hi];rfl
def SdAt (vars:List Bs)(l:List kF)(vs:List PolV)(j:Nat):Prop:=bO vs=(l.take j).map (λd=>bJo vars d.sd)
theorem bXp(vars:List Bs)(l:List kF):SdAt vars l [] 0:=rfl
theorem bHm{vars:List Bs}{l:List kF}{vs:List PolV}{j:Nat}{d:kF}{p:PolV}(h:SdAt vars l vs j)(hd:l[j]?=some d)(hp:p.A=bJo vars d.sd):SdAt vars l (vs++[p]) (j+1):=by obtain⟨hi,e⟩:=F3.1 hd;unfold SdAt at*;rw[T8 hi,e,L2,<-h,qS];show _++[p.A]=_++[_];rw[hp]
theorem sdT_len{vars:List Bs}{l:List kF}{vs:List PolV}{j:Nat}(h:SdAt vars l vs j)(hj:j<=l.length):vs.length=j:=by have:=congrArg Q8 h;rw[bI,O4,K6]at this;omega
theorem sdT_end{vars:List Bs}{x:InputV}{vs:List PolV}{j:Nat}{A:Option Addr}{c:Nat}(h:SdAt vars x.B.A vs j)(hj:x.B.A.length<=j):(⟨⟨A,c,vs⟩,false,⟨none,0,[]⟩⟩:TyV).t=inT vars x.inp:=by
 unfold SdAt at h;rw[F6 hj]at h;show(⟨bO vs,false,[]⟩:TyP)=_;rw[h];unfold inT
 congr 1
 show _=List.map _ (x.B.A.map kF.sd);rw[List.map_map];rfl
theorem newT_spec(P:ProgV)(hl1:P.C.A.length<=140737488355328)(hrt:(dT P.pr).2=true):cY prog 15 [.agg #[k7 P.C,k7 P.G]] [] [jY,jN.sl (k7 P.C) P.C.A,iY P.C.A] (λ(x:Nat×Nat×KVS×NamesTV)=> .pointer (some ⟨x.1,0,none⟩)) (λ(x:Nat×Nat×KVS×NamesTV)=>[chkO x.1 x.2.1,vT x.2.1 x.2.2.1]) (λ(x:Nat×Nat×KVS×NamesTV)=>[rG x.2.2.2,Fact.pure (uE x.2.2.1 x.2.2.2/\lO x.2.2.2=sI P.pr)]):=by
 have hT:=dL;refine j8 func15 ntmps15 ?_;intro β hM;refine g2 ?_;refine j6 λN=>?_;refine g5 ?_;refine bMt rfl rfl rfl rfl λs=>?_;refine ss (j7 (chk_built s)) ?_;refine j6 λI=>?_;refine g4 ?_;have hrt:(dT P.pr).2=true:=by assumption
 have g:=wC hrt;have hs: ∀x∈P.C.A,x.B.A.length<=4:=λx hx=>by have h1:=(g.input x.inp (bCz hx)).2.1;have h2:x.inp.B.length=x.B.A.length:=O4 _;omega
 have u:=yC hrt;have hpl:P.pr.C.length=P.C.A.length:=O4 _;refine g2 ?_;refine j5 func13 (bWu P hl1 (λx hx=>B1 (hs x hx) m9) m0) ⟨d8,d9,j1⟩ λ⟨V,cv⟩=>?_;have G:(dO P.pr).length<=256:=B1 (vars_le P.pr) u;refine bB (rG []) (Has.each_nil) ?_;refine g12 ?_;refine cI (ι:=Nat×KVS×NamesTV) [(1,_),(3,_),(4,_),(22,_),(23,_)] ⟨rfl,rfl,rfl,rfl,rfl,j1⟩ (λ⟨i,kv,NV⟩=>[(24,.int .i64 (i:Nat))]) (λ⟨i,kv,NV⟩=>[vT s kv]) (λ⟨i,kv,NV⟩=>[Fact.pure (i<=(dO P.pr).length/\VTAt (dO P.pr) i NV kv),rG NV]) (λ⟨i,kv,NV⟩=>(dO P.pr).length-i) (0,[],[]) ⟨rfl,j1⟩ (.c1 .nil) ⟨j2 (⟨m0,vtT_start _⟩),d7,j1⟩ ?_;rintro⟨i,kv,NV⟩;dsimp only;refine bG d7 λf=>?_;refine g6 ?_;refine fA (λr=>?_) λr=>?_
 .refine g7 ?_;obtain⟨x4,l⟩:=gx (dO P.pr) i;refine ss (ixs i) ?_;refine ss (gI l 0) ?_;refine g7 ?_;refine j5 func29 (var_spec (((i:Nat):Int))) j1 λ⟨A6,c7⟩=>?_;refine g7 ?_;refine cK _ _ [k8,u0,u5,u9,A00,u6,A17,A75,A68] cN o8 (.c1 (.c1 .nil)) bA.self ?_;refine g7 ?_;refine k6 (m:=⟨A6,c7,(pG (((i:Nat):Int))).1⟩) λy=>?_;refine dN (E:=bV) (xs:=[(⟨A6,c7,(pG (((i:Nat):Int))).1⟩:PolV)]) .head aa5<|bS .head<|bB (cL [(⟨A6,c7,(pG (((i:Nat):Int))).1⟩:PolV)]) (gL d8)<|bB (rG ((x4,(⟨⟨none,0,[]⟩,true,⟨(some ⟨y,0,none⟩),1,[(⟨A6,c7,(pG (((i:Nat):Int))).1⟩:PolV)]⟩⟩:TyV))::NV)) (Has.each_cons (bR bN (bZ d8 d7 (B0 1))) e7) ?_;refine g2 ?_;refine j5 func30 (kN none (some ⟨y,0,none⟩) (0) (1) 0 1) j1 λ_=>?_;refine g2 ?_;refine pP .head rfl (.inl rfl) rfl mapT underlying9 rfl rfl rfl ?_;refine g6 ?_;refine inc (i+1) ?_;refine g3 ?_;exact bk2 (i+1,_,(x4,(⟨⟨none,0,[]⟩,true,⟨(some ⟨y,0,none⟩),1,[(⟨A6,c7,(pG (((i:Nat):Int))).1⟩:PolV)]⟩⟩:TyV))::NV) ⟨j2 (⟨by dsimp only;omega,vtT_step f.2 l rfl⟩),d7,j1⟩
 refine g15 ?_;refine cI (ι:=Nat×KVS×NamesTV) [(3,_),(4,_),(44,_),(45,_)] ⟨rfl,rfl,rfl,rfl,j1⟩ (λ⟨i,kv,NV⟩=>[(46,.int .i64 (i:Nat))]) (λ⟨i,kv,NV⟩=>[vT s kv]) (λ⟨i,kv,NV⟩=>[Fact.pure (i<=P.C.A.length/\ITAt P.pr i NV kv),rG NV]) (λ⟨i,kv,NV⟩=>P.C.A.length-i) (0,kv,NV) ⟨rfl,j1⟩ (.c0 .nil) ⟨j2 (⟨m0,itT_start f.2 m0⟩),d8,j1⟩ ?_;rintro⟨i,kv,NV⟩;dsimp only;refine bG d7 λhinv10=>?_;refine g6 ?_;refine fA (λq=>?_) λq=>?_
 .refine g6 ?_;obtain⟨d,c⟩:=gx P.C.A i;refine ss (ixs i) ?_;refine ss (oZ c 0) ?_;refine j4 mC λM=>?_;refine g10 ?_;have hx0:P.pr.C[i]?=some d.inp:=mK c;have D:=hs d (j3 c);refine bB (nG d) (Has.each f7 (j3 c)) ?_;have k:=(g.input d.inp (bCz (j3 c))).1;have B:d.B.A.length<=4:=hs d (j3 c);have k:d.name.length<=16:=k;refine g8 ?_;refine bQ (t:=40) bV<|bB (cL []) (Has.each_nil) ?_;refine cI (ι:=Nat×List PolV×Option Addr×Nat) [(3,_),(4,_),(10,_),(44,_),(45,_),(46,_),(51,_),(52,_)] ⟨rfl,rfl,rfl,rfl,rfl,rfl,rfl,rfl,j1⟩ (λ⟨j,vs,V2,cv2⟩=>[(11,.slice V2 vs.length cv2),(53,.int .i64 (j:Nat))]) (λ⟨j,vs,V2,cv2⟩=>[bV.row (.slice V2 vs.length cv2) 40 vs]) (λ⟨j,vs,V2,cv2⟩=>[Fact.pure (j<=d.B.A.length/\SdAt (dO P.pr) d.B.A vs j),cL vs]) (λ⟨j,vs,V2,cv2⟩=>d.B.A.length-j) (0,[],none,0) ⟨rfl,rfl,j1⟩ (.c0 .nil) ⟨j2 (⟨m0,bXp _ _⟩),d7,j1⟩ ?_;rintro⟨j,vs,V2,cv2⟩;dsimp only;refine bG d7 λa=>?_;have C:=sdT_len a.2 a.1;refine g6 ?_;refine fA (λp=>?_) λp=>?_
  .refine g6 ?_;obtain⟨b,e⟩:=gx d.B.A j;refine ss (ixs j) ?_;refine ss (oZ e 0) ?_;refine j4 zE λL=>?_;refine g8 ?_;refine bC func14 (bCf _ _ _ m0 b.name) rfl rfl .nil ⟨f7,j1⟩ λ_=>?_;refine g9 ?_;refine bKs (λo=>?_) λo=>?_
   .refine g3 ?_;refine j5 func29 (var_spec ((idxOf b.name (dO P.pr) 0))) j1 λ⟨A15,c16⟩=>?_;refine g10 ?_;refine k6 (m:=⟨A15,c16,(pG ((idxOf b.name (dO P.pr) 0))).1⟩) λK=>?_;refine bB (cL (vs++[(⟨A15,c16,(pG ((idxOf b.name (dO P.pr) 0))).1⟩:PolV)])) (Has.each_snoc d9 d7) ?_;refine cV kT2 (bT .head rfl) rfl rfl rfl rfl rfl rfl rfl s8 λA w=>?_;refine g6 ?_;refine inc (j+1) ?_;refine g3 ?_;exact bk2 (j+1,vs++[(⟨A15,c16,(pG ((idxOf b.name (dO P.pr) 0))).1⟩:PolV)],A,w) ⟨j2 (⟨by dsimp only;omega,bHm a.2 e ((if_pos ‹_›).symm)⟩),d7,j1⟩
   refine g4 ?_;refine j5 func31 (lH (b.n)) j1 λ⟨A20,c21⟩=>?_;refine k6 (m:=⟨A20,c21,bY (b.n)⟩) λJ=>?_;refine bB (cL (vs++[(⟨A20,c21,bY (b.n)⟩:PolV)])) (Has.each_snoc d9 d7) ?_;refine cV kT2 (bT .head rfl) rfl rfl rfl rfl rfl rfl rfl s8 λz v=>?_;refine g6 ?_;refine inc (j+1) ?_;refine g3 ?_;exact bk2 (j+1,vs++[(⟨A20,c21,bY (b.n)⟩:PolV)],z,v) ⟨j2 (⟨by dsimp only;omega,bHm a.2 e ((if_neg (show ¬(0:Int)<=idxOf b.name (dO P.pr) 0 by omega)).symm)⟩),d7,j1⟩
  refine g5 ?_;refine fS .head λh=>bS .head<|bB (rG ((nIn++d.name,(⟨⟨V2,cv2,vs⟩,false,⟨none,0,[]⟩⟩:TyV))::NV)) (Has.each_cons (bR (bZ d7 d9 h) bN) e9) ?_;refine cK _ _ [k8,u0,u5,u9,A00,u6,A02,A01,A68,(false,9)] cN o8 (.c0 (.c1 (.c1 .nil))) bA.self ?_;refine g6 ?_;refine stM rfl (dI rfl rfl rfl s8) ?_;refine g2 ?_;refine j5 func32 (fG V2 (vs.length) cv2) j1 λ_=>?_;refine g2 ?_;refine pP kT1 rfl (.inl rfl) rfl mapT underlying9 rfl rfl rfl ?_;refine g6 ?_;refine inc (i+1) ?_;refine g3 ?_;exact bk2 (i+1,_,(nIn++d.name,(⟨⟨V2,cv2,vs⟩,false,⟨none,0,[]⟩⟩:TyV))::NV) ⟨j2 (⟨by dsimp only;omega,itT_step hinv10.2 hx0 (sdT_end a.2 m0)⟩),d7,j1⟩
 refine g12 ?_;exact rs1 (I,s,kv,NV) ⟨d8,j2 ⟨hinv10.2.1,itT_end hinv10.2 (by rw[hpl];omega)⟩,j1⟩
theorem qF(n:Int):dH (bY n)=true:=bAy n
theorem zipT_len{op:rU}: ∀{X Y l:List Pol},bAd op X Y=some l->l.length=X.length
 |[],_,l,h=>by cases h;rfl
 |_::_,[],_,h=>by cases h
 |p::x,q::y,l,h=>by
  unfold bAd at h;split at h
  .cases h
  .cases e:bAd op x y with
   |none=>rw[e]at h;cases h
   |some k=>
    rw[e]at h;cases h;simp[zipT_len e]
theorem zipT_all{op:rU}{g:Pol->Prop}(ho: ∀p q,g (op p q).1): ∀{X Y l:List Pol},bAd op X Y=some l-> ∀v∈l,g v
 |[],_,l,h=>by cases h;intro v hv;cases hv
 |_::_,[],_,h=>by cases h
 |p::x,q::y,l,h=>by
  unfold bAd at h;split at h
  .cases h
  .cases e:bAd op x y with
   |none=>rw[e]at h;cases h
   |some k=>
    rw[e]at h;cases h;intro v hv
    rcases E2.1 hv with rfl|hv
    .exact ho p q
    .exact zipT_all ho e v hv
def bIc (op:rU):Prop:= ∀p q,dH (op p q).1=true
theorem addR:bIc addO:=λp q=>oA p q 1
theorem subR:bIc yO:=λp q=>oA p q (-1)
theorem mulR:bIc nA:=λp q=>bDm p q
theorem opR{f:Int}{op:rU}(h:rT f=some op):bIc op:=by
 unfold rT at h;split at h
 .cases h;exact addR
 .split at h
  .cases h;exact subR
  .split at h
   .cases h;exact mulR
   .cases h
theorem repT_len(x:List Pol)(n:Nat)(h:x.length=1):(repT x n).length=n:=by unfold repT;rw[List.length_flatten];simp[h]
theorem leftT_len{a b:TyP}(ha:WfT a)(h1:a.known=true):(tT a b).length=if a.B=[]/\b.B≠[]then b.values.length else a.values.length:=by
 unfold tT;split
 .rename_i h;exact repT_len _ _ (bDn ha h1 h.1)
 .rfl
theorem eachT_wf{op:Option rU}{a b:TyP}(ho: ∀o,op=some o->bIc o)(ha:WfT a):
  (∀v∈(lP op a b).1,dH v=true)/\((lP op a b).2=true->a.known=true/\b.known=true/\(lP op a b).1.length=if a.B=[]/\b.B≠[]then b.values.length else a.values.length)/\((lP op a b).2=false->(lP op a b).1=[]):=by
 cases op with
 |none=>exact⟨λv h=>(by cases h),λh=>(by cases h),λ_=>rfl⟩
 |some o=>
  by_cases c:a.known=false\/b.known=false
  .rw[bDc c];exact⟨λv h=>(by cases h),λh=>(by cases h),λ_=>rfl⟩
  .have h1:a.known=true:=by cases h:a.known;exact absurd (.inl h) c;rfl
   have h2:b.known=true:=by cases h:b.known;exact absurd (.inr h) c;rfl
   cases e:bAd o (tT a b) (rB a b)with
   |none=>
    rw[sO e h1 h2];exact⟨λv h=>(by cases h),λh=>(by cases h),λ_=>rfl⟩
   |some l=>
    rw[sA e h1 h2];exact⟨zipT_all (g:=λv=>dH v=true) (ho o rfl) e,λ_=>⟨h1,h2,by rw[zipT_len e,leftT_len ha h1]⟩,λh=>(by cases h)⟩
theorem oE{S:List Pol}(h:S.length<=4)(k: ∀s∈S,dH s=true):WfT ⟨S,false,[]⟩:=⟨h,k,λ_ h=>(by cases h),λh=>(by cases h),λ_=>rfl⟩
theorem literal_wf{nums:List Int}(h:nums≠[]):WfT (gP nums):=by
 have hs:(if 1<nums.length then [bY nums.length]else ([]:List Pol)).length<=4/\ ∀s∈(if 1<nums.length then [bY nums.length]else ([]:List Pol)),dH s=true:=by
  split
  .exact⟨n9,λs hs=>by rw[K7.1 hs];exact qF _⟩
  .exact⟨n9,λs hs=>(by cases hs)⟩
 unfold gP;split
 .exact oE hs.1 hs.2
 .rename_i hn;rw[not_or]at hn;refine⟨hs.1,hs.2,λv hv=>?_,λ_=>⟨by simp;omega,?_⟩,λh=>(by cases h)⟩
  .obtain⟨n,_,rfl⟩:=R2.1 hv;exact qF n
  .show(if _ then _ else _)=_/\_\/(if _ then _ else _)=_;rw[O4];split
   .exact .inr rfl
   .refine .inl ⟨rfl,?_⟩
    cases nums with
    |nil=>exact absurd rfl h
    |cons a l=>simp at*;omega
theorem mul1: ∀k:Fin 5,nA (bY 1) (bY (k.1:Nat))=(bY (k.1:Nat),0):=by decide+kernel
theorem add_num: ∀j k:Fin 5,(cD (bY (j.1:Nat)) (bY (k.1:Nat)) 1).1=bY ((j.1+k.1:Nat):Int):=by decide+kernel
theorem sub_num: ∀j k:Fin 5,k.1<=j.1->(cD (bY (j.1:Nat)) (bY (k.1:Nat)) (-1)).1=bY ((j.1-k.1:Nat):Int):=by decide+kernel
theorem bLr: ∀{S:List Pol} {p q:Pol},dH p=true->sL p S=some q->dH q=true
 |[],p,q,hp,h=>by cases h;exact hp
 |s::r,p,q,hp,h=>by
  unfold sL at h;split at h
  .cases h
  .exact bLr (bDm p s) h
theorem wf_head{a:TyP}(h:WfT a)(k:a.known=true)(hs:a.B=[]):dH (a.values.headD [])=true:=by
 have:=bDn h k hs
 match hv:a.values,this with
 |[v],_=>exact h.vr v (by rw[hv];exact K7.2 rfl)
theorem negW:WfT ⟨[],true,[[]]⟩:=⟨n9,λ_ h=>(by cases h),λv h=>by rw[K7.1 h];rfl,λ_=>⟨n9,.inl ⟨rfl,rfl⟩⟩,λh=>(by cases h)⟩
theorem monad_wf{f:Int}{a:TyP}(ha:WfT a):WfT (hJ f a).1:=by
 unfold hJ;split
 .split
  .exact ha
  .rename_i hs;split
   .exact ha
   .rename_i i;split
    .exact ha
    .exact oE n9 (λs h=>by rw[K7.1 h];exact wf_head ha (by simpa using i) (by simpa using hs))
 .split
  .refine⟨n9,λs h=>?_,ha.sr,λ_=>⟨ha.len,.inr rfl⟩,λh=>(by cases h)⟩;rw[K7.1 h];exact qF _
  .split
   .split
    .exact ha
    .rename_i p c;refine⟨n9,λs h=>?_,ha.vr,λk=>⟨(ha.kn k).1,.inr ?_⟩,ha.un⟩
     .rw[K7.1 h];exact bLr (qF 1) c
     .have n:=(ha.kn k).1
      rcases (ha.kn k).2 with h|h
      .rw[h.1]at c;cases c;show [bY 1]=[bY _];rw[h.2];rfl
      .rw[h]at c;have d:=mul1 ⟨a.values.length,m0⟩;unfold sL at c;dsimp only at d;rw[d]at c;cases c;rfl
   .split
    .dsimp only;split
     .refine⟨ha.len,ha.sr,λv h=>ha.vr v (Y2.1 h),λk=>?_,λk=>by show a.values.reverse=[];rw[ha.un k];rfl⟩;show a.values.reverse.length<=4/\(a.B=[]/\a.values.reverse.length=1\/a.B=[bY a.values.reverse.length]);rw[O8];exact ha.kn k
     .exact ha
    .split
     .refine⟨by show a.B.reverse.length<=4;rw[O8];exact ha.len,λs h=>ha.sr s (Y2.1 h),ha.vr,λk=>⟨(ha.kn k).1,?_⟩,ha.un⟩
      rcases (ha.kn k).2 with h|h
      .exact .inl ⟨by show a.B.reverse=[];rw[h.1];rfl,h.2⟩
      .exact .inr (by show a.B.reverse=_;rw[h];rfl)
     .split
      .exact ha
      .split
       .obtain⟨m,l,j⟩:=eachT_wf (op:=some yO) (b:=a) (λo h=>by cases h;exact subR) negW;refine⟨ha.len,ha.sr,m,λk=>?_,j⟩;obtain⟨_,g,e⟩:=l k;show(lP (some yO) ⟨[],true,[[]]⟩ a).1.length<=4/\(a.B=[]/\(lP (some yO) ⟨[],true,[[]]⟩ a).1.length=1\/a.B=[bY (lP (some yO) ⟨[],true,[[]]⟩ a).1.length]);rw[e];split
        .exact⟨sS ha,(ha.kn g).2⟩
        .rename_i hs;refine⟨n9,.inl ⟨?_,rfl⟩⟩
         simpa using hs
       .exact oE ha.len ha.sr
theorem rho_wf{a b:TyP}(ha:WfT a):WfT (zC a b).1:=by
 unfold zC;split
 .exact ha
 .split
  .exact ha
  .split
   .exact ha
   .split
    .exact ha
    .exact oE (sS ha) ha.vr
theorem cut_all{tk:Bool}{n:Int}{l:List Pol}{g:Pol->Prop}(h: ∀v∈l,g v): ∀v∈xK tk n l,g v:=by
 unfold xK;split
 .exact λv hv=>h v (Y0 hv)
 .exact λv hv=>h v (O3 hv)
theorem cut_len{tk:Bool}{n:Int}{l:List Pol}(h:max n (-n)<=l.length):(xK tk n l).length=if tk=true then (max n (-n)).toNat else l.length-(max n (-n)).toNat:=by
 unfold xK;cases tk
 .rw[if_neg (show ¬(false=true) by decide)]
  by_cases hn:(0:Int)<=n
  .rw[decide_eq_true hn,if_neg m9,N9,if_neg m0];omega
  .rw[decide_eq_false hn,if_pos rfl,K6,if_pos m0];omega
 .rw[if_pos (show true=true from rfl)]
  by_cases hn:(0:Int)<=n
  .rw[decide_eq_true hn,if_pos rfl,K6,if_neg m0];omega
  .rw[decide_eq_false hn,if_neg m9,N9,if_pos m0];omega
theorem bSb{S:List Pol}{s:Pol}(h:s∈S.tail):s∈S:=List.mem_of_mem_tail h
theorem part_wf{tk:Bool}{a b:TyP}(ha:WfT a)(hb:WfT b):WfT (mD tk a b).1:=by
 unfold mD;split
 .exact ha
 .rename_i hs;rw[not_or]at hs;split
  .exact ha
  .split
   .exact ha
   .rename_i n hn;split
    .exact ha
    .rename_i g;have g:fU (b.B.headD []) (max n (-n))=true:=by simpa using g
     have c: ∀p:Pol,(p::b.B.tail).length<=4:=λp=>by
      have:=hb.len;have h0:b.B≠[]:=hs.2
      cases e:b.B with
      |nil=>exact absurd e h0
      |cons s l=>rw[e]at this;exact this
     have i:b.known=true->b.B=[bY b.values.length]/\max n (-n)<=b.values.length/\b.values.length<=4:=λk=>by
      rcases (hb.kn k).2 with h|h
      .exact absurd h.1 hs.2
      .rw[h]at g;exact⟨h,bRt g,(hb.kn k).1⟩
     have f:b.known=false->(if b.known=true then xK tk n b.values else b.values)=[]:=λk=>by rw[k];exact hb.un k
     have d: ∀v∈(if b.known=true then xK tk n b.values else b.values),dH v=true:=by
      split
      .exact cut_all hb.vr
      .exact hb.vr
     split
     .rename_i ht;subst ht;refine⟨c _,λs h=>?_,d,λk=>?_,f⟩
      .rcases E2.1 h with rfl|h
       .exact qF _
       .exact hb.sr s (bSb h)
      .have k:b.known=true:=k;obtain⟨h1,h2,j⟩:=i k;show(if b.known=true then xK true n b.values else b.values).length<=4/\(_\/bY (max n (-n))::b.B.tail=[bY (if b.known=true then xK true n b.values else b.values).length]);rw[if_pos k,cut_len h2,if_pos rfl,h1];refine⟨m0,.inr ?_⟩;rw[show(((max n (-n)).toNat:Nat):Int)=max n (-n) by omega];rfl
     .rename_i ht;have ht:tk=false:=by simpa using ht
      subst ht;split
      .exact ha
      .refine⟨c _,λs h=>?_,d,λk=>?_,f⟩
       .rcases E2.1 h with rfl|h
        .exact oA _ _ _
        .exact hb.sr s (bSb h)
       .have k:b.known=true:=k;obtain⟨h1,h2,j⟩:=i k;show(if b.known=true then xK false n b.values else b.values).length<=4/\(_\/(cD (b.B.headD []) (bY (max n (-n))) (-1)).1::b.B.tail=[bY (if b.known=true then xK false n b.values else b.values).length]);rw[if_pos k,cut_len h2,if_neg m9,h1];refine⟨m0,.inr ?_⟩;have hx:=sub_num ⟨b.values.length,m0⟩ ⟨(max n (-n)).toNat,m0⟩ (by show(max n (-n)).toNat<=b.values.length;omega);dsimp only at hx;rw[show(((max n (-n)).toNat:Nat):Int)=max n (-n) by omega]at hx;show(cD (bY b.values.length) _ _).1::[]=_;rw[hx]
theorem oneT_num{a:TyP}(ha:WfT a)(k:a.known=true):fD a.B=[bY a.values.length]:=by
 unfold fD
 rcases (ha.kn k).2 with h|h
 .rw[if_pos h.1,h.2];rfl
 .rw[h,if_neg n9]
theorem oneT_right{a:TyP}(ha:WfT a): ∀s∈fD a.B,dH s=true:=by
 unfold fD;split
 .exact λs h=>by rw[K7.1 h];exact qF _
 .exact ha.sr
theorem oneT_len{a:TyP}(ha:WfT a)(p:Pol):(p::(fD a.B).tail).length<=4:=by
 unfold fD;split
 .simp
 .rename_i h0;have:=ha.len
  cases e:a.B with
  |nil=>exact absurd e h0
  |cons s l=>rw[e]at this;exact this
theorem cat_wf{a b:TyP}(ha:WfT a)(hb:WfT b):WfT (zQ a b).1:=by
 unfold zQ;split
 .exact ha
 .split
  .exact ha
  .have c: ∀s∈(cD ((fD a.B).headD []) ((fD b.B).headD []) 1).1::(fD b.B).tail,dH s=true:=λs h=>by
    rcases E2.1 h with rfl|h
    .exact oA _ _ _
    .exact oneT_right hb s (bSb h)
   split
   .rename_i d;refine⟨oneT_len hb _,c,λv h=>?_,λ_=>⟨?_,.inr ?_⟩,λh=>(by cases h)⟩
    .rcases E3.1 h with h|h
     .exact ha.vr v h
     .exact hb.vr v h
    .show(a.values++b.values).length<=4;rw[F4];exact d.2.2
    .show(cD ((fD a.B).headD []) ((fD b.B).headD []) 1).1::(fD b.B).tail=[bY (a.values++b.values).length];rw[oneT_num ha d.1,oneT_num hb d.2.1,F4];have hx:=add_num ⟨a.values.length,m0⟩ ⟨b.values.length,m0⟩;dsimp only at hx;show(cD (bY a.values.length) (bY b.values.length) 1).1::[]=_;rw[hx]
   .exact oE (oneT_len hb _) c
theorem dyad_wf{f:Int}{a b:TyP}(ha:WfT a)(hb:WfT b):WfT (pO f a b).1:=by
 unfold pO;split
 .exact rho_wf ha
 .split
  .exact part_wf ha hb
  .split
   .exact part_wf ha hb
   .split
    .exact cat_wf ha hb
    .split
     .exact oE ha.len ha.sr
     .obtain⟨m,l,j⟩:=eachT_wf (op:=rT f) (b:=b) (λo h=>opR h) ha
      by_cases hs:a.B=[]
      .rw[if_pos hs];refine⟨hb.len,hb.sr,m,λk=>?_,j⟩;obtain⟨d,i,c⟩:=l k;show(lP (rT f) a b).1.length<=4/\(b.B=[]/\(lP (rT f) a b).1.length=1\/b.B=[bY (lP (rT f) a b).1.length]);rw[c];split
       .exact⟨sS hb,(hb.kn i).2⟩
       .rename_i h
        have g:b.B=[]:=by
         by_cases e:b.B=[]
         .exact e
         .exact absurd ⟨hs,e⟩ h
        exact⟨sS ha,.inl ⟨g,bDn ha d hs⟩⟩
      .rw[if_neg hs];refine⟨ha.len,ha.sr,m,λk=>?_,j⟩;obtain⟨d,i,c⟩:=l k;show(lP (rT f) a b).1.length<=4/\(a.B=[]/\(lP (rT f) a b).1.length=1\/a.B=[bY (lP (rT f) a b).1.length]);rw[c,if_neg (λh=>hs h.1)];exact⟨sS ha,(ha.kn d).2⟩
theorem bWl{k:Bs}{t:TyP}: ∀{N:iA},jW k N=some t-> ∃p∈N,p.2=t
 |[],h=>by cases h
 |p::r,h=>by
  rw[jW]at h;split at h
  .injection h with h
   exact⟨p,E8 ..,h⟩
  .obtain⟨q,hq,e⟩:=bWl h;exact⟨q,E4 _ hq,e⟩
def pD (N:iA):Prop:= ∀q∈N,WfT q.2
theorem look_wf{N:iA}(h:pD N){k:Bs}{t:TyP}(e:jW k N=some t):WfT t:=by obtain⟨p,a,rfl⟩:=bWl e;exact h p a
theorem name_wf{N:iA}(h:pD N){s:Bs}{t:TyP}(e:nameT N s=some t):WfT t:=by
 unfold nameT at e;split at e
 .rename_i h1;cases e;exact look_wf h h1
 .split at e
  .rename_i h1;cases e;exact look_wf h h1
  .exact look_wf h e
theorem none_wf:WfT ⟨[],false,[]⟩:=oE n9 (λs h=>(by cases h))
theorem headW{st:List TyP}(h: ∀t∈st,WfT t)(k:1<=st.length):WfT (st.headD default):=by
 match st,k with
 |a::l,_=>exact h a (E8 ..)
theorem secondW{st:List TyP}(h: ∀t∈st,WfT t)(k:2<=st.length):WfT (st.tail.headD default):=by
 match st,k with
 |a::b::l,_=>exact h b (E4 _ (E8 ..))
theorem item_wf{N:iA}(hN:pD N){it:fE}{st:List TyP}(hs: ∀t∈st,WfT t)(hd:fI it<=st.length)(hnum:it.H=1->it.nums≠[])(h17:1<=it.H/\it.H<=7)(h0:(iO N it st).2=0):WfT (iO N it st).1:=by
 have h1:it.H=3\/it.H=5\/it.H=6->1<=st.length:=λh=>by rw[qQ h]at hd;exact hd
 have h2:it.H=4\/it.H=7->2<=st.length:=λh=>by rw[uL h]at hd;exact hd
 unfold iO at h0⊢;split
 .exact literal_wf (hnum ‹_›)
 .split
  .split
   .rename_i e;exact name_wf hN e
   .exact none_wf
  .split
   .exact monad_wf (headW hs (h1 m0))
   .split
    .have a:=headW hs (h1 m0);dsimp only;split
     .exact a
     .exact oE (by rw[K6];have:=a.len;omega) (λs h=>a.sr s (Y0 h))
    .split
     .have a:=headW hs (h1 m0);dsimp only;split
      .exact a
      .exact oE a.len a.sr
     .split
      .exact dyad_wf (secondW hs (h2 m0)) (headW hs (h2 m0 |>Y5))
      .rename_i i g f c b d;rw[if_neg i,if_neg g,if_neg f,if_neg c,if_neg b,if_neg d]at h0;have hx:=secondW hs (h2 m0);have hu:=headW hs (h2 m0 |>Y5);refine oE ?_ (λs h=>?_)
       .rw[F4];dsimp only at h0;split at h0
        .cases h0
        .omega
       .rcases E3.1 h with h|h
        .exact hx.sr s h
        .exact hu.sr s h
theorem varT_wf(k:Nat):WfT (bTw k):=⟨by simp[bTw],λs h=>(by cases h),λv h=>by rw[K7.1 h];exact bCt _,λ_=>⟨by simp[bTw],.inl ⟨rfl,rfl⟩⟩,λh=>(by cases h)⟩
theorem varsT_wf: ∀{vars:List Bs} {k:Nat} {N:iA},pD N->pD (rV vars k N)
 |[],_,_,h=>h
 |s::r,k,N,h=>by
  show pD (rV r (k+1) ((s,bTw k)::N));refine varsT_wf (λq hq=>?_)
  rcases E2.1 hq with rfl|hq
  .exact varT_wf k
  .exact h q hq
theorem insT_wf{vars:List Bs}: ∀{l:List iH} {N:iA},(∀x∈l,x.B.length<=4)->pD N->pD (bNg vars l N)
 |[],_,_,h=>h
 |x::r,N,hl,h=>by
  show pD (bNg vars r ((nIn++x.name,inT vars x)::N));refine insT_wf (λy hy=>hl y (E4 _ hy)) (λq hq=>?_)
  rcases E2.1 hq with rfl|hq
  .refine oE ?_ (λs hs=>?_)
   .rw[O4];exact hl x (E8 ..)
   .obtain⟨d,_,rfl⟩:=R2.1 hs;unfold bJo;split
    .exact bCt _
    .exact qF _
  .exact h q hq
theorem bPw{p:jB}(h:(dT p).2=true):pD (sI p):=
 insT_wf (λx hx=>((wC h).input x hx).2.1) (varsT_wf (λq hq=>(by cases hq)))
theorem flt_bad{f:Flt}(h:f.2≠0):(!rS ⟨f.1,f.2⟩ ⟨0,0⟩)=true:=by have:nT f=false:=Bool.eq_false_iff.2 λk=>h (by rw[isOk_iff.1 k]);have e:rS ⟨f.1,f.2⟩ ⟨0,0⟩=nT f:=rfl;rw[e,this];rfl
theorem bKl{n:Int}(h:n<0):bOu n=true:=by simp[bOu,h]
theorem bJw{n:Int}(h:65536<n):bOu n=true:=by simp[bOu,h]
theorem badT_c{n:Int}(h: ¬n<0)(k: ¬65536<n):bOu n=false:=by simp[bOu,h,k]
def vJ (s:Sl TyV):List TyP:=s.A.map TyV.t
def xZ (s:Sl TyV):Fact:=((tyE.sl (.slice s.I s.A.length s.cap) s.A).and (Fact.each s.A tyF)).and (Fact.pure (s.A.length<=s.cap))
def rN (N:iA)(l:List fE)(j:Nat)(hv ow:List TyV):Prop:=uP N l [] []=uP N (l.drop j) (stT hv) (ow.map TyV.t)/\qI (l.drop j) hv.length=some 1/\(∀a∈hv,WfT a.t)/\hv.length<=j/\ow.length=j
section
variable {N : iA} {l : List fE} {j : Nat} {hv ow : List TyV} {x : fE} {y z : TyV}
theorem bVy(hd:qI l 0=some 1):rN N l 0 [] []:=⟨rfl,hd,λa b=>(by simp at b),B0 _,rfl⟩
theorem bNx(h:rN N l j hv ow)(hx:l[j]?=some x):(fI x<=hv.length/\1<=x.H/\x.H<=7/\(x.H=1->x.nums≠[]/\x.nums.length<=65536))/\qI (l.drop (j+1)) (hv.length-fI x+1)=some 1:=by
 have a:=h.2.1;rw[kR hx,qI]at a;split at a
 .rename_i b;exact⟨b,a⟩
 .cases a
theorem stT_wf(h: ∀a∈hv,WfT a.t): ∀t∈stT hv,WfT t:=λt ht=>by unfold stT at ht;rw[Y2]at ht;obtain⟨b,c,rfl⟩:=R2.1 ht;exact h b c
theorem stT_length(hv:List TyV):(stT hv).length=hv.length:=by simp[stT]
theorem tsT_err(h:rN N l j hv ow)(hx:l[j]?=some x)(he:(iO N x (stT hv)).2≠0):uP N l [] []= .error (x.at_,(iO N x (stT hv)).2):=by rw[h.1,kR hx,uP,if_pos he]
theorem tsT_wf(hN:pD N)(h:rN N l j hv ow)(hx:l[j]?=some x)(he:(iO N x (stT hv)).2=0)(hy:y.t=(iO N x (stT hv)).1):WfT y.t:=by obtain⟨⟨h1,h2,a,h4⟩,_⟩:=bNx h hx;rw[hy];exact item_wf hN (stT_wf h.2.2.1) (by rw[stT_length];exact h1) (λe=>(h4 e).1) ⟨h2,a⟩ he
theorem qA(h:rN N l j hv ow)(hx:l[j]?=some x)(he:(iO N x (stT hv)).2=0)(hy:y.t=(iO N x (stT hv)).1)(hw:WfT y.t)(hz:z.t=y.t):rN N l (j+1) (hv.take (hv.length-fI x)++[y]) (ow++[z]):=by
 obtain⟨⟨h1,_⟩,d⟩:=bNx h hx;have c:(hv.take (hv.length-fI x)++[y]).length=hv.length-fI x+1:=by rw[F4,K6];simp
 refine⟨?_,by rw[c];exact d,λa b=>?_,by rw[c];have:=h.2.2.2.1;omega,by rw[F4,h.2.2.2.2];rfl⟩
 .rw[h.1,kR hx,uP,if_neg (by simp[he]),stT_push (T:=fI x) rfl,L2,T9,hz,hy]
 .rcases E3.1 b with b|b
  .exact h.2.2.1 a (Y0 b)
  .rw[K7.1 b];exact hw
theorem tsT_end(h:rN N l j hv ow)(hj:l.length<=j): ∃a,hv=[a]/\uP N l [] []= .ok ([a.t],ow.map TyV.t)/\WfT a.t:=by
 obtain⟨h1,h2,b,_,_⟩:=h;rw[pK hj,qI]at h2;injection h2 with h2
 match hv,h2 with
 |[a],_=>
  refine⟨a,rfl,?_,b a (E8 ..)⟩;rw[h1,pK hj];rfl
end
def bBc (ls:List nC)(i:Nat)(kv:KVS)(NV:NamesTV)(xs:List (Sl TyV))(r:List (List TyP)×Flt):Prop:=uE kv NV/\pD (lO NV)/\r=sF (lO NV) (ls.drop i) (xs.map vJ)/\xs.length=i
section
variable {ls : List nC} {i : Nat} {kv : KVS} {NV : NamesTV} {xs : List (Sl TyV)} {r : List (List TyP) × Flt} {l : nC} {a : TyV} {s : Sl TyV} {f : Flt}
theorem lsT_err(h:bBc ls i kv NV xs r)(hx:ls[i]?=some l)(hl:uP (lO NV) l.K [] []= .error f):r=([],f):=by rw[h.2.2.1,kR hx,sF,hl]
theorem lsT_step(h:bBc ls i kv NV xs r)(hx:ls[i]?=some l)(hl:uP (lO NV) l.K [] []= .ok ([a.t],s.A.map TyV.t))(ha:WfT a.t):bBc ls (i+1) (pX (lU++l.name) (tyC a) kv) ((lU++l.name,a)::NV) (xs++[s]) r:=by
 refine⟨nrT_add h.1 _ a,λp b=>?_,?_,by rw[F4,h.2.2.2];rfl⟩
 .rcases E2.1 b with rfl|b
  .exact ha
  .exact h.2.1 p b
 .rw[h.2.2.1,kR hx,sF,hl,L2];rfl
theorem lsT_end(h:bBc ls i kv NV xs r)(hi:ls.length<=i):r=(xs.map vJ,(0,0)):=by rw[h.2.2.1,pK hi];rfl
end
theorem ty_no{p:jB}(h:(dT p).2=false):gU p=([],(0,50)):=if_pos h
theorem bQl{p:jB}{x:iH}(h:(dT p).2=true)(hf:p.C.find? (bAf (dO p))=some x):gU p=([],(x.at_,80)):=by unfold gU;rw[if_neg am8,hf]
theorem ty_go{p:jB}(h:(dT p).2=true)(hf:p.C.find? (bAf (dO p))=none):gU p=sF (sI p) p.G []:=by unfold gU;rw[if_neg am8,hf]
theorem bGb(P:ProgV)(hP:sN P)(hl1:P.C.A.length<=140737488355328)(hl2:P.G.A.length<=140737488355328):cY prog 6 [.agg #[k7 P.C,k7 P.G]] [] [jY,jN.sl (k7 P.C) P.C.A,iY P.C.A,nW.sl (k7 P.G) P.G.A,lZ P.G.A] (λ(x:Option Addr×Nat×List (Sl TyV))=> .tuple #[.slice x.1 x.2.2.length x.2.1,.agg #[k9 (gU P.pr).2.1,k9 (gU P.pr).2.2]]) (λ_=>[]) (λ(x:Option Addr×Nat×List (Sl TyV))=>[tR.sl (.slice x.1 x.2.2.length x.2.1) x.2.2,Fact.each x.2.2 xZ,Fact.pure (x.2.2.map vJ=(gU P.pr).1/\x.2.2.length<=x.2.1)]):=by
 have hT:=dL;generalize E:gU P.pr=r;refine j8 func6 ntmps6 ?_;intro β hM;refine g2 ?_;refine j6 λb1=>?_;refine one ?_;refine j4 bEm λb2=>?_;refine g6 ?_;refine j5 func12 (sRight_spec P hP hl1 hl2) ⟨d7,d8,d9,e6,e7,j1⟩ λ_=>?_;refine g3 ?_;refine iK (λY=>?_) λY=>?_
 .refine g2 ?_;refine ss (j7 (bAc _)) ?_;refine g6 ?_;obtain rfl:=E.symm.trans (ty_no ‹_›);exact rs2 (none,0,[]) ⟨rJ,Has.each_nil,j2 ⟨rfl,B0 0⟩,j1⟩
 refine g3 ?_;have f:(dT P.pr).2=true:=by assumption
 have n:=wC f;have hs: ∀x∈P.C.A,x.B.A.length<=4:=λx hx=>by have h1:=(n.input x.inp (bCz hx)).2.1;have h2:x.inp.B.length=x.B.A.length:=O4 _;omega
 have hTT:=yC f;have hpl:P.pr.C.length=P.C.A.length:=O4 _;refine g2 ?_;refine j5 func13 (bWu P hl1 (λx hx=>B1 (hs x hx) m9) m0) ⟨d8,d9,j1⟩ λ⟨V,cv⟩=>?_;have hvl:(dO P.pr).length<=256:=B1 (vars_le P.pr) hTT;refine g13 ?_;refine cI (ι:=Nat) [(1,_),(3,_),(4,_),(27,_),(28,_)] ⟨rfl,rfl,rfl,rfl,rfl,j1⟩ (λi=>[(29,.int .i64 (i:Nat))]) (λ_=>[]) (λi=>[Fact.pure (i<=P.C.A.length/\zT (dO P.pr) P.pr.C i)]) (λi=>P.C.A.length-i) 0 ⟨rfl,j1⟩ .nil ⟨j2 (⟨m0,bVt⟩),j1⟩ ?_;rintro i;refine bG d7 λd=>?_;refine g6 ?_;refine fA (λhc30=>?_) λhc30=>?_
 .refine g6 ?_;obtain⟨x3,z⟩:=gx P.C.A i;refine ss (ixs i) ?_;refine ss (oZ z 0) ?_;refine j4 mC λb5=>?_;refine g4 ?_;have hx0:P.pr.C[i]?=some x3.inp:=mK z;have hxs:=hs x3 (j3 z);refine bB (nG x3) (Has.each e8 (j3 z)) ?_;refine g8 ?_;refine cI (ι:=Nat) [(1,_),(3,_),(4,_),(6,_),(27,_),(28,_),(29,_),(34,_),(35,_)] ⟨rfl,rfl,rfl,rfl,rfl,rfl,rfl,rfl,rfl,j1⟩ (λj=>[(36,.int .i64 (j:Nat))]) (λ_=>[]) (λj=>[Fact.pure (j<=x3.B.A.length/\bHd (dO P.pr) x3.inp.B j)]) (λj=>x3.B.A.length-j) 0 ⟨rfl,j1⟩ .nil ⟨j2 (⟨m0,few_in⟩),j1⟩ ?_;rintro j;refine bG d7 λhinv8=>?_;refine g6 ?_;refine fA (λX=>?_) λX=>?_
  .refine g6 ?_;obtain⟨x6,G⟩:=gx x3.B.A j;refine ss (ixs j) ?_;refine ss (oZ G 0) ?_;refine j4 zE λb8=>?_;refine g4 ?_;have hd0:x3.inp.B[j]?=some x6.sd:=mK G;refine g5 ?_;refine cF (λhg43=>?_) (λhg43=>?_)
   .have hg43:x6.name=([]:Bs):=eq_of_beq hg43;refine g4 ?_;refine lK (λN=>?_) λN=>?_
    .refine g16 ?_;refine cK _ _ [k8,u0,u5,u9,A42] cN o8 (.c0 (.c0 (.c1 .nil))) bA.self ?_;refine g2 ?_;refine stM rfl (j7 (yL _ _)) ?_;refine g16 ?_;have hr:=E.symm.trans (bQl f (bDp d.2 hx0 hinv8.2 hd0 aa8));subst hr;exact rs2 (none,0,[]) ⟨rJ,Has.each_nil,j2 ⟨rfl,B0 0⟩,j1⟩
    refine g6 ?_;refine lK (λM=>?_) λM=>?_
    .refine g10 ?_;refine cK _ _ [k8,u0,u5,u9,A42] cN o8 (.c0 (.c0 (.c1 .nil))) bA.self ?_;refine g2 ?_;refine stM rfl (j7 (yL _ _)) ?_;refine g16 ?_;have hr:=E.symm.trans (bQl f (bDp d.2 hx0 hinv8.2 hd0 aa8));subst hr;exact rs2 (none,0,[]) ⟨rJ,Has.each_nil,j2 ⟨rfl,B0 0⟩,j1⟩
    refine g3 ?_;refine bC func14 (bCf _ _ _ m0 x6.name) rfl rfl .nil ⟨e6,j1⟩ λ_=>?_;refine g4 ?_;refine bKs (λw=>?_) λw=>?_
    .refine bP<|cK _ _ [k8,u0,u5,u9,A42] cN o8 (.c0 (.c0 (.c1 .nil))) bA.self ?_;refine g2 ?_;refine stM rfl (j7 (yL _ _)) ?_;refine g16 ?_;have hr:=E.symm.trans (bQl f (bDp d.2 hx0 hinv8.2 hd0 aa8));subst hr;exact rs2 (none,0,[]) ⟨rJ,Has.each_nil,j2 ⟨rfl,B0 0⟩,j1⟩
    refine g5 ?_;refine inc (j+1) ?_;refine g3 ?_;exact bk2 (j+1) ⟨j2 (⟨m0,bHw hinv8.2 hd0 ad1⟩),j1⟩
   have hg43:x6.name≠([]:Bs):=λh=>absurd (beq_iff_eq.2 h) (by rw[show(x6.name==([]:Bs))=false from hg43];simp);refine g13 ?_;refine bC func14 (bCf _ _ _ m0 x6.name) rfl rfl .nil ⟨e6,j1⟩ λ_=>?_;refine g4 ?_;refine bKs (λw=>?_) λw=>?_
   .refine bP<|cK _ _ [k8,u0,u5,u9,A42] cN o8 (.c0 (.c0 (.c1 .nil))) bA.self ?_;refine g2 ?_;refine stM rfl (j7 (yL _ _)) ?_;refine g16 ?_;have hr:=E.symm.trans (bQl f (bDp d.2 hx0 hinv8.2 hd0 aa8));subst hr;exact rs2 (none,0,[]) ⟨rJ,Has.each_nil,j2 ⟨rfl,B0 0⟩,j1⟩
   refine g5 ?_;refine inc (j+1) ?_;refine g3 ?_;exact bk2 (j+1) ⟨j2 (⟨m0,bHw hinv8.2 hd0 ad1⟩),j1⟩
  refine g8 ?_;refine inc (i+1) ?_;refine g3 ?_;exact bk2 (i+1) ⟨j2 (⟨m0,few_out d.2 hx0 hinv8.2 aj0⟩),j1⟩
 refine g8 ?_;refine j5 func15 (newT_spec P hl1 f) ⟨e6,e7,e8,j1⟩ λ⟨cb,mb,kv0,NV0⟩=>?_;refine bG d8 λB=>?_;refine g10 ?_;have hfn:=few_end d.2 m0;have Z:=E.symm.trans (ty_go f hfn);rw[<-B.2]at Z;have hNW:pD (lO NV0):=by rw[B.2];exact bPw f
 have O:=bBq f;have K:P.pr.G.length=P.G.A.length:=O4 _;refine bQ (t:=35) tR<|bB (Fact.each ([]:List (Sl TyV)) xZ) (Has.each_nil) ?_;refine g8 ?_;refine cI (ι:=Nat×KVS×NamesTV×List (Sl TyV)×Option Addr×Nat) [(3,_),(9,_),(68,_),(69,_)] ⟨rfl,rfl,rfl,rfl,j1⟩ (λ⟨i,kv,NV,xs,A1,c1⟩=>[(10,.slice A1 xs.length c1),(70,.int .i64 (i:Nat))]) (λ⟨i,kv,NV,xs,A1,c1⟩=>[vT mb kv,tR.row (.slice A1 xs.length c1) 35 xs]) (λ⟨i,kv,NV,xs,A1,c1⟩=>[Fact.pure (i<=P.G.A.length/\bBc P.pr.G i kv NV xs r),rG NV,Fact.each xs xZ]) (λ⟨i,kv,NV,xs,A1,c1⟩=>P.G.A.length-i) (0,kv0,NV0,[],none,0) ⟨rfl,rfl,j1⟩ (.c2 (.c0 .nil)) ⟨j2 (⟨m0,B.1,hNW,Z,rfl⟩),d8,d7,j1⟩ ?_;rintro⟨i,kv,NV,xs,A1,c1⟩;dsimp only;refine bG d7 λc=>?_;refine g6 ?_;refine fA (λW=>?_) λW=>?_
 .refine g6 ?_;obtain⟨g,p⟩:=gx P.G.A i;refine ss (ixs i) ?_;refine ss (oZ p 0) ?_;refine j4 tP λb11=>?_;refine g11 ?_;have hx0:P.pr.G[i]?=some g.ln:=mK p;have hdp:=O g.ln (j3 hx0);have C:=n.line g.ln (j3 hx0);have hlnm:g.name.length<=16:=C.1;have hil:=C.2.1;have hie:g.ln.K.length=g.K.A.length:=O4 _;refine bB (mM.sl (.slice g.K.I g.K.A.length g.K.cap) g.K.A) (Has.left (Has.each j0 (j3 p)))<|bB (nN g.K.A) (Has.right (Has.each (Has.of zA) (j3 p)))<|bQ (t:=38) tyE<|bB (Fact.each ([]:List TyV) tyF) (Has.each_nil)<|bQ (t:=38) tyE<|bB (Fact.each ([]:List TyV) tyF) (Has.each_nil) ?_;refine g8 ?_;refine cI (ι:=Nat×List TyV×Option Addr×Nat×List TyV×Option Addr×Nat) [(3,_),(9,_),(10,_),(12,_),(68,_),(69,_),(70,_),(75,_),(76,_)] ⟨rfl,rfl,rfl,rfl,rfl,rfl,rfl,rfl,rfl,j1⟩ (λ⟨j,hv,A2,c2,ow,A4,c4⟩=>[(13,.slice A2 hv.length c2),(14,.slice A4 ow.length c4),(77,.int .i64 (j:Nat))]) (λ⟨j,hv,A2,c2,ow,A4,c4⟩=>[tyE.row (.slice A2 hv.length c2) 38 hv,tyE.row (.slice A4 ow.length c4) 38 ow]) (λ⟨j,hv,A2,c2,ow,A4,c4⟩=>[Fact.pure (j<=g.K.A.length/\rN (lO NV) g.ln.K j hv ow),Fact.each hv tyF,Fact.each ow tyF]) (λ⟨j,hv,A2,c2,ow,A4,c4⟩=>g.K.A.length-j) (0,[],none,0,[],none,0) ⟨rfl,rfl,rfl,j1⟩ (.c1 (.c0 .nil)) ⟨j2 (⟨m0,bVy hdp⟩),d8,d7,j1⟩ ?_;rintro⟨j,hv,A2,c2,ow,A4,c4⟩;dsimp only;refine bG d7 λb=>?_;have hvj:=b.2.2.2.2.1;have hwj:=b.2.2.2.2.2;refine g6 ?_;refine fA (λU=>?_) λU=>?_
  .refine g6 ?_;obtain⟨e,u⟩:=gx g.K.A j;refine ss (ixs j) ?_;refine ss (oZ u 0) ?_;refine j4 oY λb14=>?_;refine g4 ?_;have q:g.ln.K[j]?=some e.it:=mK u;have v:=(bNx b.2 q).1;have L:=(C.2.2 e.it (j3 q)).1;have htk0:=v.1;refine bB (bNi e) (Has.each e8 (j3 u)) ?_;refine g4 ?_;refine bC func16 (itemTS_spec cb mb kv NV c.2.1 e A2 c2 hv b.2.2.2.1 m0 v.1 ⟨v.2.1,v.2.2.1⟩ (λh=>(v.2.2.2 h).2) (λ_=>B1 L m9)) rfl rfl (.c6 (.c4 (.c1 .nil))) ⟨d7,d9,f7,j1⟩ λl=>?_;refine bG d8 λhy=>?_;refine g4 ?_;refine j4 rW λb16=>?_;refine g12 ?_;refine tL (λR=>?_) λR=>?_
   .refine bP<|cK _ _ [k8,u0,u5,u9,A00,(false,5)] cN o8 (.c0 (.c0 (.c0 (.c0 (.c0 (.c0 (.c0 (.c0 (.c1 .nil))))))))) bA.self ?_;refine g3 ?_;refine stM rfl (j7 (yL _ _)) ?_;refine g18 ?_;obtain rfl:=lsT_err c.2 hx0 (tsT_err b.2 q ‹_›);exact rs2 (none,0,[]) ⟨rJ,Has.each_nil,j2 ⟨rfl,B0 0⟩,j1⟩
   refine g6 ?_;have A:=tsT_wf c.2.2.1 b.2 q m0 hy;refine j5 func17 (ownT_spec l A) ⟨d7,j1⟩ λy=>?_;refine bG d8 λhz=>?_;refine kQ (m:=y) rfl rfl rfl rfl rfl λb18=>?_;refine gR kT6 (bT .head rfl) rfl rfl rfl rfl rfl rfl rfl s8 λA19 c20=>?_;refine bB (Fact.each (ow++[y]) tyF) (Has.each_snoc f4 d7) ?_;refine g3 ?_;refine kP _ _ (.fl 0 (.fl 1 (.fl 2 (.fl 3 (.fl 4 (.fl 6 (.two 5 7 (.op 7 (.op 8 (.fl 9 .nil))) (.op 5 (.op 8 (.fl 9 .nil)))))))))) cN o8 (.c0 (.c0 (.c0 (.c0 (.c0 (.c1 (.c1 (.c1 (.c1 (.c1 .nil)))))))))) bA.self ?_;refine g5 ?_;refine inc (hv.length-(fI e.it)) ?_;refine one ?_;refine gO (o:=_) (o':=_) rfl rfl ?_ ?_
   .refine jA hT (k:=(hv.length-fI e.it)) kT5 rfl rfl rfl rfl rfl rfl rfl rfl rfl m0 ?_;refine g2 ?_;refine kQ (m:=l) rfl rfl rfl rfl rfl λb21=>?_;refine g2 ?_;refine gR kT1 (bT .head rfl) rfl rfl rfl rfl rfl rfl rfl s8 λA22 c23=>?_;refine bB (Fact.each (hv.take (hv.length-fI e.it)++[l]) tyF) (Has.each_snoc (mY f4 _) e6) ?_;refine g7 ?_;refine inc (j+1) ?_;refine g3 ?_;exact bk2 (j+1,hv.take (hv.length-fI e.it)++[l],A22,c23,ow++[y],A19,c20) ⟨j2 (⟨by dsimp only;omega,qA b.2 q m0 hy A hz⟩),d7,d8,j1⟩
   refine kQ (m:=l) rfl rfl rfl rfl rfl λb24=>?_;refine g2 ?_;refine jA hT (k:=(hv.length-fI e.it)) kT6 rfl rfl rfl rfl rfl rfl rfl rfl rfl m0 ?_;refine g2 ?_;refine gR .head (bT kT1 rfl) rfl rfl rfl rfl rfl rfl rfl s8 λA25 c26=>?_;refine bB (Fact.each (hv.take (hv.length-fI e.it)++[l]) tyF) (Has.each_snoc (mY f4 _) e6) ?_;refine g7 ?_;refine inc (j+1) ?_;refine g3 ?_;exact bk2 (j+1,hv.take (hv.length-fI e.it)++[l],A25,c26,ow++[y],A19,c20) ⟨j2 (⟨by dsimp only;omega,qA b.2 q m0 hy A hz⟩),d7,d8,j1⟩
  refine g6 ?_;obtain⟨a,I,hle,hra⟩:=tsT_end b.2 m0;have J:hv[0]?=some a:=by rw[I];rfl
  have hvl:hv.length=1:=by rw[I];rfl
  have hxl:=c.2.2.2.2;have hfln:=n.lns;refine bB (tyF a) (Has.each d8 (j3 J))<|fS kT1 λD=>bS kT1<|bB (xZ (⟨A4,c4,ow⟩:Sl TyV)) ((Has.and (Has.and d7 e7) (j2 D)))<|bB (rG ((lU++g.name,a)::NV)) (Has.each_cons d9 i6) ?_;refine g3 ?_;refine bLz (m:=(⟨A4,c4,ow⟩:Sl TyV)) rfl rfl rfl rfl rfl λb27=>?_;refine bLx kT4 (bT .head rfl) rfl rfl rfl rfl rfl rfl rfl s8 λA28 c29=>?_;refine bB (Fact.each (xs++[(⟨A4,c4,ow⟩:Sl TyV)]) xZ) (Has.each_snoc j0 d8) ?_;refine g3 ?_;refine cK _ _ [k8,u0,u5,u9,A00,u6,A02,A01,A03,A04,A73] cN o8 (.c0 (.c0 (.c0 (.c0 (.c1 (.c1 (.c1 .nil))))))) bA.self ?_;refine g6 ?_;refine stM rfl (dI rfl rfl rfl s8) ?_;refine one ?_;refine stM rfl (ixs 0) ?_;refine stM rfl (oZ J 0) ?_;refine one ?_;refine pP kT4 rfl (.inl rfl) rfl mapT underlying9 rfl rfl rfl ?_;refine g6 ?_;refine inc (i+1) ?_;refine g3 ?_;exact bk2 (i+1,_,(lU++g.name,a)::NV,xs++[(⟨A4,c4,ow⟩:Sl TyV)],A28,c29) ⟨j2 (⟨by dsimp only;omega,lsT_step (s:=(⟨A4,c4,ow⟩:Sl TyV)) c.2 hx0 hle hra⟩),d8,d7,j1⟩
 refine g8 ?_;refine ss (j7 (bAp)) ?_;refine g5 ?_;have hr:=lsT_end c.2 (by rw[K];omega);subst hr;refine fS kT2 λQ=>bS kT2 ?_;exact rs2 (A1,c1,xs) ⟨d7,e6,j2 ⟨rfl,Q⟩,j1⟩
theorem same2_spec(p q:PolV)(hp:p.A.length<=140737488355328):cY prog 78 [k7 p,k7 q] [] [jU p,jU q] (λ_:Unit=> .bool (decide (p.A=q.A))) (λ_=>[]) (λ_=>[]):=by
 have e:decide (p.A=q.A)=vF p.A q.A:=by rw[L7,bWh];simp
 rw[e];exact jZ λ_ w a h=>same_any _ _ _ _ _ _ w (lA a (h _ mT0)) (lA a (h _ mT1)) hp
theorem tEq_1{a b:TyV}(h:bO a.B.A≠bO b.B.A):Value.bool false= .bool (decide (a.t=b.t)):=by rw[decide_eq_false (λe=>h (congrArg TyP.B e))]
theorem tEq_2{a b:TyV}(h:a.known≠b.known):Value.bool false= .bool (decide (a.t=b.t)):=by rw[decide_eq_false (λe=>h (congrArg TyP.known e))]
theorem tEq_3{a b:TyV}(h:bO a.B.A=bO b.B.A)(k:a.known=b.known):Value.bool (decide (bO a.values.A=bO b.values.A))= .bool (decide (a.t=b.t)):=by
 congr 1
 rw[L7,decide_eq_true_iff,decide_eq_true_iff];constructor
 .intro e;unfold TyV.t;rw[h,e,k]
 .exact λe=>congrArg TyP.values e
theorem bDq{xs:List (Sl TyV)}{i:Nat}{x:Sl TyV}(h:xs[i]?=some x):(xs.map vJ)[i]?=some (vJ x):=sU h
theorem wX(x:Sl TyV):(vJ x).length=x.A.length:=O4 _
theorem rowF_s{F:List Fact}{x:Sl TyV}(h:Has F (xZ x)):Has F (tyE.sl (k7 x) x.A):=h.left.left
theorem rowF_e{F:List Fact}{x:Sl TyV}(h:Has F (xZ x)):Has F (Fact.each x.A tyF):=h.left.right
theorem rowsF_len{x y:Sl TyV}(h:x.A.length≠y.A.length):vJ x≠vJ y:=λe=>h (by have:=congrArg Q8 e;rwa[wX,wX]at this)
theorem rowsE_len{xs ys:List (Sl TyV)}(h:xs.length≠ys.length):xs.map vJ≠ys.map vJ:=λe=>h (by have:=congrArg Q8 e;rwa[O4,O4]at this)
theorem vZ(A B:Option Addr)(ca cb:Nat)(a b:List PolV)(hl:a.length<=140737488355328):cY prog 46 [.slice A a.length ca,.slice B b.length cb] [] [bV.sl (.slice A a.length ca) a,cL a,bV.sl (.slice B b.length cb) b,cL b] (λ(_:Unit)=> .bool (decide (bO a=bO b))) (λ_=>[]) (λ_=>[]):=by
 have hT:=dL;refine j8 func46 ntmps46 ?_;intro β hM;refine sr<|sp hT ?_;refine nn<|bP<|sr<|sp4 hT ?_;refine sp hT ?_;refine nn<|bW rfl (λhc10=>?_) (λhc10=>?_)
 .have hc10:=bne_iff_ne.1 hc10;refine sr<|sp hT ?_;refine nn<|cX<|cH ?_;exact jF () rfl (bX rfl) .nil j1 (xV (λe=>by have:=congrArg Q8 e;rw[bI,bI]at this;omega))
 have hc10:=bne_eq_false_iff_eq.1 hc10;refine fF<|cZ<|bP<|sr<|sp hT ?_;refine nn<|iE<|cI (ι:=Nat) [(0,_),(1,_)] ⟨rfl,rfl,j1⟩ (λi=>[(5,.int .i64 (i:Nat))]) (λ_=>[]) (λi=>[Fact.pure (i<=a.length/\(bO a).take i=(bO b).take i)]) (λi=>a.length-i) 0 ⟨rfl,j1⟩ .nil ⟨j2 (⟨m0,rfl⟩),j1⟩ ?_;rintro i;refine bG d7 λd=>?_;refine bP<|sr<|sp4 hT ?_;refine nn<|bW rfl (λhc14=>?_) (λhc14=>?_)
 .have hc14:=of_decide_eq_true hc14;refine fF<|cZ<|bP<|iE<|bP<|cK _ _ [k8,u0,u5,u9,A00,u6,A02,A01,A68,A04] cN o8 .nil bA.self ?_;refine puM hT ?_;refine puM hT ?_
  obtain⟨x1,c⟩: ∃x',a[i]?=some x':=⟨_,F1 m0⟩
  refine stM rfl (cC hT (k:=i) (bE d8) rfl rfl rfl rfl rfl rfl rfl m0) ?_;refine stM rfl (j9 hT (dC.knows (bE d8) (k:=i) (x:=x1) c 0)) ?_;refine puM hT ?_;refine puM hT ?_
  obtain⟨x3,f⟩: ∃x',b[i]?=some x':=⟨_,F1 m0⟩
  refine stM rfl (cC hT (k:=i) (bE e6) rfl rfl rfl rfl rfl rfl rfl m0) ?_;refine stM rfl (j9 hT (dC.knows (bE e6) (k:=i) (x:=x3) f 0)) ?_;refine bEv (o:=_) rfl ?_;refine bG (dG (Has.each d9 (j3 c))) λg=>?_;refine j5 func78 (same2_spec x1 x3 g) ⟨(Has.each d9 (j3 c)),(Has.each e7 (j3 f)),j1⟩ λ_=>?_;refine fK .nil (bA.drop 0) ?_;refine puM hT ?_;refine tZ<|cZ<|bW rfl (λhc26=>?_) (λhc26=>?_)
  .have hc26:=xB hc26;refine sr<|sp hT ?_;refine nn<|cX<|iD<|cH<|cH<|iD<|cH ?_;exact jF () rfl (bX rfl) .nil j1 (xV (xO (jR c) (jR f) (bUn ‹_›)))
  have hc26:=mL hc26;refine fF<|lW<|cZ<|dE<|sp2 hT ?_;refine bJ (z':=(((i+1):Nat):Int)) (kD m0 m0) ?_;refine sp hT ?_;refine nn ?_;exact dR (i+1) m0 ⟨rfl,j1⟩ ⟨rfl,rfl,j1⟩ .nil ⟨j2 (⟨m0,xL d.2 (jR c) (jR f) (rH ‹_›)⟩),j1⟩ (bA.drop 1)
 have hc14:=Y7.1 (of_decide_eq_false hc14);refine sV<|nE<|nE<|sY<|cZ<|sr<|sp hT ?_;refine nn<|cX ?_;exact jF () rfl (bX rfl) .nil j1 (eqT_of (bCh d.2 (by rw[bI];omega) (by rw[bI];omega)))
theorem same9_spec(a b:TyV)(hs:a.B.A.length<=140737488355328)(hv:a.values.A.length<=140737488355328):cY prog 22 [.agg #[k7 a.B,.bool a.known,k7 a.values],.agg #[k7 b.B,.bool b.known,k7 b.values]] [] [tyF a,tyF b] (λ(_:Unit)=> .bool (decide (a.t=b.t))) (λ_=>[]) (λ_=>[]):=by
 have hT:=dL;refine j8 func22 ntmps22 ?_;intro β hM;refine bP<|bB (cO a.B) (jK d7) ?_;refine bB (bV.sl (.slice a.B.I a.B.A.length a.B.cap) a.B.A) (nY d7)<|bB (cL a.B.A) (oT d8)<|bG (bGj d9) λg=>bB (cO a.values) (jM e6)<|bB (bV.sl (.slice a.values.I a.values.A.length a.values.cap) a.values.A) (nY d7)<|bB (cL a.values.A) (oT d8)<|bG (bGj d9) λf=>bB (cO b.B) (jK f4)<|bB (bV.sl (.slice b.B.I b.B.A.length b.B.cap) b.B.A) (nY d7)<|bB (cL b.B.A) (oT d8)<|bG (bGj d9) λhc_bs=>bB (cO b.values) (jM f9)<|bB (bV.sl (.slice b.values.I b.values.A.length b.values.cap) b.values.A) (nY d7)<|bB (cL b.values.A) (oT d8)<|bG (bGj d9) λe=>?_;refine dE<|j6 λi=>?_;refine j6 λh=>?_;refine sp hT ?_;refine nn<|sr<|sp hT ?_;refine ss (ldO hT (gC kT1)) ?_;refine sp hT ?_;refine ss (ldO hT (gC .head)) ?_;refine j5 func46 (vZ a.B.I b.B.I a.B.cap b.B.cap a.B.A b.B.A m0) ⟨f9,f7,e7,e6,j1⟩ λ_=>?_;refine sp hT ?_;refine cF (λd=>?_) (λd=>?_)
 .refine sp hT ?_;refine ss (ldO hT (bRq kT1)) ?_;refine sp hT ?_;refine ss (ldO hT (bRq .head)) ?_;refine sp3 hT ?_;refine cF (λc=>?_) (λc=>?_)
  .have c:=eq_of_beq c;refine sp hT ?_;refine ss (ldO hT (tI kT1)) ?_;refine sp hT ?_;refine ss (ldO hT (tI .head)) ?_;refine j5 func46 (vZ a.values.I b.values.I a.values.cap b.values.cap a.values.A b.values.A m0) ⟨f4,e9,d8,d7,j1⟩ λ_=>?_;refine sp2 hT ?_;refine nn<|cX ?_;exact jF () rfl (bX rfl) .nil j1 (tEq_3 (of_decide_eq_true d) c)
  have c:=beq_eq_false_iff_ne.1 c;refine sk4 ?_;refine sk ?_;refine sp2 hT ?_;refine nn<|cX ?_;exact jF () rfl (bX rfl) .nil j1 (tEq_2 c)
 refine sk4 ?_;refine sk ?_;refine sp2 hT ?_;refine sk4 ?_;refine sk ?_;refine sp2 hT ?_;refine nn<|cX ?_;exact jF () rfl (bX rfl) .nil j1 (tEq_1 (of_decide_eq_false d))
theorem sameL9_spec(A B:Option Addr)(ca cb:Nat)(xs ys:List (Sl TyV))(hl:xs.length<=140737488355328)(hr: ∀x∈xs,x.A.length<=140737488355328/\ ∀t∈x.A,t.B.A.length<=140737488355328/\t.values.A.length<=140737488355328):cY prog 8 [.slice A xs.length ca,.slice B ys.length cb] [] [tR.sl (.slice A xs.length ca) xs,Fact.each xs xZ,tR.sl (.slice B ys.length cb) ys,Fact.each ys xZ] (λ(_:Unit)=> .bool (decide (xs.map vJ=ys.map vJ))) (λ_=>[]) (λ_=>[]):=by
 have hT:=dL;refine j8 func8 ntmps8 ?_;intro β hM;refine sr<|sp hT ?_;refine nn<|bP<|sr<|sp4 hT ?_;refine sp hT ?_;refine nn<|bW rfl (λhc11=>?_) (λhc11=>?_)
 .have hc11:=bne_iff_ne.1 hc11;refine sr<|sp hT ?_;refine nn<|cX<|cH ?_;exact jF () rfl (bX rfl) .nil j1 (xV (rowsE_len m0))
 have hc11:=bne_eq_false_iff_eq.1 hc11;refine fF<|cZ<|bP<|sr<|sp3 hT ?_;refine nn<|iE<|cI (ι:=Nat) [(0,_),(1,_),(13,_)] ⟨rfl,rfl,rfl,j1⟩ (λi=>[(14,.int .i64 (i:Nat))]) (λ_=>[]) (λi=>[Fact.pure (i<=xs.length/\(xs.map vJ).take i=(ys.map vJ).take i)]) (λi=>xs.length-i) 0 ⟨rfl,j1⟩ .nil ⟨j2 (⟨m0,rfl⟩),j1⟩ ?_;rintro i;refine bG d7 λg=>?_;refine sr<|sp hT ?_;refine nn<|bP<|bW rfl (λhc15=>?_) (λhc15=>?_)
 .have hc15:=of_decide_eq_true hc15;refine fF<|cZ<|bP<|iE<|sr<|sp2 hT ?_;refine nn<|bP<|bP<|cK _ _ [k8,u0,u5,u9,A00,u6,A02,A01,A03,A04,A08] cN o8 .nil bA.self ?_;refine puM hT ?_;refine puM hT ?_
  obtain⟨x1,a⟩: ∃x',xs[i]?=some x':=⟨_,F1 m0⟩
  refine stM rfl (cC hT (k:=i) (bE d8) rfl rfl rfl rfl rfl rfl rfl m0) ?_;refine stM rfl (j9 hT (dC.knows (bE d8) (k:=i) (x:=x1) a 0)) ?_;refine puM hT ?_;refine puM hT ?_;refine puM hT ?_
  obtain⟨x3,d⟩: ∃x',ys[i]?=some x':=⟨_,F1 m0⟩
  refine stM rfl (cC hT (k:=i) (bE e6) rfl rfl rfl rfl rfl rfl rfl m0) ?_;refine stM rfl (j9 hT (dC.knows (bE e6) (k:=i) (x:=x3) d 0)) ?_;refine puM hT ?_;refine puM hT ?_;refine tZ<|cZ<|bW rfl (λc=>?_) (λc=>?_)
  .have c:=bne_iff_ne.1 c;refine sr<|sp hT ?_;refine nn<|cX<|cH<|iD<|cH<|cH<|iD<|cH ?_;exact jF () rfl (bX rfl) .nil j1 (xV (xO (bDq a) (bDq d) (rowsF_len m0)))
  have c:=bne_eq_false_iff_eq.1 c;refine fF<|cZ<|bP<|bB (tyE.sl (.slice x1.I x1.A.length x1.cap) x1.A) (rowF_s (Has.each d9 (j3 a))) ?_;refine bB (Fact.each x1.A tyF) (rowF_e (Has.each e6 (j3 a)))<|bB (tyE.sl (.slice x3.I x3.A.length x3.cap) x3.A) (rowF_s (Has.each e9 (j3 d)))<|bB (Fact.each x3.A tyF) (rowF_e (Has.each f4 (j3 d))) ?_;have n:=hr x1 (j3 a);refine dE<|sp2 hT ?_;refine ss (cC hT (k:=i) (bE e8) rfl rfl rfl rfl rfl rfl rfl m0) ?_;refine ss (j9 hT (dC.knows (bE e8) (k:=i) (x:=x1) a 0)) ?_;refine sp2 hT ?_;refine nn<|iE<|cI (ι:=Nat) [(0,_),(1,_),(5,_),(13,_),(14,_),(32,_)] ⟨rfl,rfl,rfl,rfl,rfl,rfl,j1⟩ (λj=>[(33,.int .i64 (j:Nat))]) (λ_=>[]) (λj=>[Fact.pure (j<=x1.A.length/\(x1.A.map TyV.t).take j=(x3.A.map TyV.t).take j)]) (λj=>x1.A.length-j) 0 ⟨rfl,j1⟩ .nil ⟨j2 (⟨m0,rfl⟩),j1⟩ ?_;rintro j;refine bG d7 λf=>?_;refine sr<|sp hT ?_;refine nn<|bP<|bW rfl (λhc34=>?_) (λhc34=>?_)
  .have hc34:=of_decide_eq_true hc34;refine fF<|cZ<|bP<|iE<|sr<|sp2 hT ?_;refine nn<|bP<|cK _ _ [k8,u0,u5,u9,A00,u6,A02,A01,A03,A04,A08,A07,A09,A24,(false,14),A70] cN o8 .nil bA.self ?_;refine puM hT ?_;refine puM hT ?_;refine stM rfl (cC hT (k:=i) (bE e9) rfl rfl rfl rfl rfl rfl rfl m0) ?_;refine stM rfl (j9 hT (dC.knows (bE e9) (k:=i) (x:=x1) a 0)) ?_;refine puM hT ?_
   obtain⟨m,e⟩: ∃x',x1.A[j]?=some x':=⟨_,F1 m0⟩
   refine stM rfl (cC hT (k:=j) (bE e7) rfl rfl rfl rfl rfl rfl rfl m0) ?_;refine stM rfl (fM hT (dC.knows (bE e7) (k:=j) (x:=m) e 0) rfl rfl rfl rfl rfl) ?_;refine puM hT ?_;refine puM hT ?_;refine stM rfl (cC hT (k:=i) (bE f5) rfl rfl rfl rfl rfl rfl rfl m0) ?_;refine stM rfl (j9 hT (dC.knows (bE f5) (k:=i) (x:=x3) d 0)) ?_;refine puM hT ?_
   obtain⟨p,h⟩: ∃x',x3.A[j]?=some x':=⟨_,F1 m0⟩
   refine stM rfl (cC hT (k:=j) (bE d9) rfl rfl rfl rfl rfl rfl rfl m0) ?_;refine stM rfl (fM hT (dC.knows (bE d9) (k:=j) (x:=p) h 0) rfl rfl rfl rfl rfl) ?_;refine bEv (o:=_) rfl ?_;have l:=n.2 m (j3 e);refine j5 func22 (same9_spec m p l.1 l.2) ⟨Has.each e6 (j3 e),Has.each d8 (j3 h),j1⟩ λ_=>?_;refine fK .nil (bA.drop 0) ?_;refine puM hT ?_;refine tZ<|cZ<|bW rfl (λb=>?_) (λb=>?_)
   .have b:=xB b;refine sr<|sp hT ?_;refine nn<|cX<|iD<|cH<|cH<|iD<|iD<|cH<|cH<|iD<|cH ?_;exact jF () rfl (bX rfl) .nil j1 (xV (xO (bDq a) (bDq d) (xO (sU e) (sU h) (bUn ‹_›))))
   have b:=mL b;refine fF<|lW<|cZ<|dE<|sp hT ?_;refine bJ (z':=(((j+1):Nat):Int)) (kD m0 m0) ?_;refine sp hT ?_;refine nn ?_;exact dR (j+1) m0 ⟨rfl,j1⟩ ⟨rfl,rfl,rfl,rfl,rfl,rfl,j1⟩ .nil ⟨j2 (⟨m0,xL f.2 (sU e) (sU h) (rH ‹_›)⟩),j1⟩ (bA.drop 1)
  have hc34:=Y7.1 (of_decide_eq_false hc34);refine sV<|nE<|nE<|sY<|lW<|cZ<|dE<|sp hT ?_;refine bJ (z':=(((i+1):Nat):Int)) (kD m0 m0) ?_;refine sp hT ?_;refine nn ?_;exact dR (i+1) m0 ⟨rfl,j1⟩ ⟨rfl,rfl,rfl,j1⟩ .nil ⟨j2 (⟨m0,xL g.2 (bDq a) (bDq d) (bCh f.2 (by rw[wX];omega) (by rw[wX];omega))⟩),j1⟩ (bA.drop 6)
 have hc15:=Y7.1 (of_decide_eq_false hc15);refine sV<|nE<|nE<|sY<|cZ<|sr<|sp hT ?_;refine nn<|cX ?_;exact jF () rfl (bX rfl) .nil j1 (eqT_of (bCh g.2 ab2 ab2))
section
variable {P : Program} {β : fR} {n : Nat} {Γ : Env} {H : List bL} {F : List Fact}
theorem spec_step{ι:Type}{f:FuncId}{args:List Value}{Hin:List bL}{Pre:List Fact}{val:ι->Value}{Hout Hout':ι->List bL}{post post':ι->List Fact}(h:cY P f args Hin Pre val Hout post)
  (hc: ∀(x:ι) (β:fR),At β 0 [] (Hout x) (post x) λ_ w=> ∃S',St β (Hout' x) S' w/\All (post' x) S' w):cY P f args Hin Pre val Hout' post':=λS w s k=>(h S w s k).mono λe a ⟨x,S',he,hs,b⟩=>by obtain⟨c,h1,h2⟩:=hc x _ {tmps:= #[],defers:=[]} a S' ⟨rfl,C4 _,λi v hv=>by cases hv⟩ hs b;exact⟨x,c,he,h1,h2⟩
theorem at_fin{H':List bL}{G:List Fact}(hH:Sel H H')(hF:bA F G):At β n Γ H F λ_ w=> ∃S',St β H' S' w/\All G S' w:=λ_ w S _ s k=>⟨S,s.sel hH,hF.all S w k⟩
end
def x8:Arr:=⟨[3],[1,2,3]⟩
def okB (p:jB):Bool:=
 (p.C.all λx=>decide (x.name.length<=140737488355328)&&x.B.all λd=>decide (d.name.length<=140737488355328/\ -9223372036854775808<=d.n/\d.n<=9223372036854775807))&&
 (p.G.all λx=>decide (x.name.length<=140737488355328)&&x.K.all λit=>decide (it.name.length<=140737488355328)&&it.nums.all λz=>decide (-9223372036854775808<=z/\z<=9223372036854775807))&&
 decide (p.C.length<=140737488355328/\p.G.length<=140737488355328)&&p.C.all λx=>decide (x.B.length<=4)
theorem ok_of{x:ProgV}(h:okB x.pr=true):(sN x/\x.C.A.length<=140737488355328/\x.G.A.length<=140737488355328)/\ ∀y∈x.C.A,y.B.A.length<=140737488355328:=by
 unfold okB at h;simp only[J3,List.all_eq_true,decide_eq_true_eq]at h;obtain⟨⟨⟨h1,h2⟩,i,h4⟩,e⟩:=h;refine⟨⟨⟨λy hy=>?_,λy hy=>?_⟩,by have:x.pr.C.length=x.C.A.length:=O4 _;omega,by have:x.pr.G.length=x.G.A.length:=O4 _;omega⟩,λy hy=>?_⟩
 .obtain⟨a,b⟩:=h1 y.inp (R2.2 ⟨y,hy,rfl⟩);exact⟨a,λd c=>b d.sd (R2.2 ⟨d,c,rfl⟩)⟩
 .obtain⟨a,b⟩:=h2 y.ln (R2.2 ⟨y,hy,rfl⟩);exact⟨a,λd c=>b d.it (R2.2 ⟨d,c,rfl⟩)⟩
 .have g:=e y.inp (R2.2 ⟨y,hy,rfl⟩);have f:y.inp.B.length=y.B.A.length:=O4 _;omega
def s91:Bs:=[105,110,32,120,32,110,10,111,117,116,32,120,32,99,97,116,32,120]
def s92:Bs:=[105,110,32,120,32,110,10,111,117,116,32,120,32,43,32,49,32,50]
def s93:Bs:=[105,110,32,120,32,110,10,111,117,116,32,49,32,116,97,107,101,32,120]
def s94:Bs:=[111,117,116,32,50,32,51,32,114,104,111,32,49]
theorem p91:(iZ s91).2=(0,0):=by decide+kernel
theorem p92:(iZ s92).2=(0,0):=by decide+kernel
theorem p93:(iZ s93).2=(0,0):=by decide+kernel
theorem p94:(iZ s94).2=(0,0):=by decide+kernel
def yF (s:Bs):List TyP:=(gU (iZ s).1).1.getLast?.getD []
def lastTy(s:Bs):TyP:=(yF s).getLast?.getD default
theorem f91:(gU (iZ s91).1).2=(0,0)/\(gU (iZ s91).1).1.getLast?=some (yF s91)/\(yF s91).getLast?=some (lastTy s91)/\(lastTy s91).B=[[⟨2,1,0,0,0,0,0⟩]]:=by decide+kernel
theorem f94:(gU (iZ s94).1).2=(0,0)/\(gU (iZ s94).1).1.getLast?=some (yF s94)/\(yF s94).getLast?=some (lastTy s94)/\(lastTy s94).B.length=2:=by decide+kernel
theorem f92:gU (iZ s92).1=([],(13,91)):=by decide+kernel
theorem f93:gU (iZ s93).1=([],(13,93)):=by decide+kernel
theorem l91:(gU (iZ s91).1).1.length<=1000/\(yF s91).length<=1000:=by decide+kernel
theorem l94:(gU (iZ s94).1).1.length<=1000/\(yF s94).length<=1000:=by decide+kernel
theorem last_at{α β:Type}{g:α->β}{xs:List α}{T:List β}{r:β}(h:xs.map g=T)(h1:T.getLast?=some r): ∃x,xs[xs.length-1]?=some x/\g x=r/\1<=xs.length:=by
 subst h;rw[Y1,O4,List.getElem?_map]at h1
 cases e:xs[xs.length-1]? with
 |none=>rw[e]at h1;cases h1
 |some x=>
  rw[e]at h1;cases h1;have:=(F3.1 e).1;exact⟨x,rfl,rfl,m0⟩
theorem one_pol9{l:List PolV}{q:Pol}(h:bO l=[q]): ∃p,l=[p]/\p.A=q:=by
 match l,h with
 |[p],h=>
  unfold bO at h;simp only[N7,List.map_nil,List.cons.injEq,and_true]at h;exact⟨p,rfl,h⟩
theorem bMh(s:Bs)(hs:s.length<=65536)(h0:(iZ s).2=(0,0))(T:List (List TyP))(row:List TyP)(t:TyP)(hT9:gU (iZ s).1=(T,(0,0)))(h1:T.getLast?=some row)(h2:row.getLast?=some t)(hTl:T.length<=1000)(hrl:row.length<=1000):cY prog 11 [.string (bs s)] [] [jY] (λ(x:TyV)=> .tuple #[tyC x,.agg #[k9 0,k9 0]]) (λ_=>[]) (λ(x:TyV)=>[tyF x,Fact.pure (x.t=t)]):=by
 have hT:=dL;refine j8 func11 ntmps11 ?_;intro β hM;refine g2 ?_;refine j4 rW λB=>?_;refine j4 bEm λA=>?_;refine g5 ?_;have j:=bSc s (B1 hs m9);rw[h0]at j;refine j5 func27 j ⟨d7,j1⟩ λb=>?_;refine bG d8 λn=>bB (jN.sl (.slice b.C.I b.C.A.length b.C.cap) b.C.A) (Has.left (Has.left d7))<|bB (iY b.C.A) (Has.right (Has.left d8))<|bB (nW.sl (.slice b.G.I b.G.A.length b.G.cap) b.G.A) (Has.left (Has.right d9))<|bB (lZ b.G.A) (Has.right (Has.right e6)) ?_;have d:=bYc h0;rw[<-n]at d;have f:=wC d.1;have e:=f.ok d.2;refine g3 ?_;refine j4 rF λz=>?_;refine j4 bEm λy=>?_;refine g8 ?_;refine ss (j7 (bAp)) ?_;refine ss (gG ⟨0,0⟩ ⟨0,0⟩ rfl rfl rfl) ?_;refine bF (t':=false) af8 ?_;refine g8 ?_;have i:=bGb b e.1 e.2.1 e.2.2;rw[n,hT9]at i;refine j5 func6 i ⟨e9,e6,d9,d8,d7,j1⟩ λ⟨A6,c7,xs8⟩=>?_;refine iC (v':= .tuple #[.slice A6 xs8.length c7,.agg #[.int .i64 0,.int .i64 0]]) rfl<|bG d9 λm=>bB (tR.sl (.slice A6 xs8.length c7) xs8) (d7)<|bB (Fact.each xs8 xZ) (d9) ?_;obtain⟨a,c,l,p⟩:=last_at m.1 h1;obtain⟨h,k,o,r⟩:=last_at (g:=TyV.t) l h2;have v:1<=xs8.length:=p;have u:xs8.length<=1000:=by have:=congrArg Q8 m.1;rw[O4]at this;have w:xs8.length=T.length:=this;omega
 have q:a.A.length<=1000:=by have:=congrArg Q8 l;rw[wX]at this;omega
 refine bB (xZ a) (Has.each d7 (j3 c))<|bB (tyE.sl (.slice a.I a.A.length a.cap) a.A) (rowF_s d7)<|bB (tyF h) (Has.each (rowF_e d8) (j3 k)) ?_;refine g11 ?_;refine ss (j7 (bAp)) ?_;refine ss (gG ⟨0,0⟩ ⟨0,0⟩ rfl rfl rfl) ?_;refine bF (t':=false) af8 ?_;refine g4 ?_;refine bF (t':=false) (beq_eq_false_iff_ne.2 m0) ?_;refine g6 ?_;refine inc (xs8.length-1) ?_;refine ss (ixs (xs8.length-1)) ?_;refine ss (gI c 0) ?_;refine g2 ?_;refine bF (t':=false) (beq_eq_false_iff_ne.2 m0) ?_;refine g12 ?_;refine inc (xs8.length-1) ?_;refine ss (ixs (xs8.length-1)) ?_;refine ss (gI c 0) ?_;refine g4 ?_;refine cK _ _ [k8,u0,u5,u9,A00,u6,A02,A75,A68] cN o8 (.c0 (.c0 .nil)) bA.self ?_;refine g4 ?_;refine inc (a.A.length-1) ?_;refine stM rfl (ixs (a.A.length-1)) ?_;refine stM rfl (oZ k 0) ?_;refine g10 ?_;exact rs2 (h:TyV) ⟨d7,j2 o,j1⟩
theorem bIs(s:Bs)(hs:s.length<=65536)(h0:(iZ s).2=(0,0))(f:Flt)(hf:f.2≠0)(hT9:gU (iZ s).1=([],f)):cY prog 11 [.string (bs s)] [] [jY] (λ(x:TyV)=> .tuple #[tyC x,.agg #[k9 f.1,k9 f.2]]) (λ_=>[]) (λ(x:TyV)=>[tyF x,Fact.pure (x.t=⟨[],false,[]⟩)]):=by have hT:=dL;refine j8 func11 ntmps11 ?_;intro β hM;refine g2 ?_;refine j4 rW λm=>?_;refine j4 bEm λl=>?_;refine g5 ?_;have g:=bSc s (B1 hs m9);rw[h0]at g;refine j5 func27 g ⟨d7,j1⟩ λa=>?_;refine bG d8 λh=>bB (jN.sl (.slice a.C.I a.C.A.length a.C.cap) a.C.A) (Has.left (Has.left d7))<|bB (iY a.C.A) (Has.right (Has.left d8))<|bB (nW.sl (.slice a.G.I a.G.A.length a.G.cap) a.G.A) (Has.left (Has.right d9))<|bB (lZ a.G.A) (Has.right (Has.right e6)) ?_;have b:=bYc h0;rw[<-h]at b;have d:=wC b.1;have c:=d.ok b.2;refine g3 ?_;refine j4 rF λk=>?_;refine j4 bEm λj=>?_;refine g8 ?_;refine ss (j7 (bAp)) ?_;refine ss (gG ⟨0,0⟩ ⟨0,0⟩ rfl rfl rfl) ?_;refine bF (t':=false) af8 ?_;refine g8 ?_;have e:=bGb a c.1 c.2.1 c.2.2;rw[h,hT9]at e;refine j5 func6 e ⟨e9,e6,d9,d8,d7,j1⟩ λ⟨A6,c7,xs8⟩=>?_;refine iC (v':= .tuple #[.slice A6 xs8.length c7,.agg #[.int .i64 f.1,.int .i64 f.2]]) rfl<|bG d9 λi=>bB (tR.sl (.slice A6 xs8.length c7) xs8) (d7)<|bB (Fact.each xs8 xZ) (d9) ?_;refine g11 ?_;refine ss (j7 (bAp)) ?_;refine ss (gG ⟨f.1,f.2⟩ ⟨0,0⟩ rfl rfl rfl) ?_;refine bF (t':=true) (flt_bad hf) ?_;refine g19 ?_;refine cK _ _ [k8,u0,A05,A06] cN o8 (.c0 (.c0 .nil)) bA.self ?_;refine stM rfl (j7 (yJ)) ?_;refine g11 ?_;exact rs2 (noTy:TyV) ⟨noTy_F,j2 rfl,j1⟩
theorem shown9_spec:cY prog 5 [] [] [jY] (λ(_:Unit)=> .bool true) (λ_=>[]) (λ_=>[]):=by
 have hT:=dL;refine j8 func5 ntmps5 ?_;intro β hM;refine g7 ?_;refine bC func11 (bMh s91 m9 p91 _ _ _ (Prod.ext rfl f91.1) f91.2.1 f91.2.2.1 l91.1 l91.2) rfl rfl .nil ⟨d7,j1⟩ λc=>?_;refine bG d8 λj=>?_;obtain⟨a,hpl,d⟩:=one_pol9 ((congrArg TyP.B j).trans f91.2.2.2);refine bB (cO c.B) (jK d7)<|cE c.B mT0 λh=>bB (cO c.values) (jM e6)<|cE c.values mT0 λg=>bB (fL.sl (.slice a.I a.A.length a.cap) a.A) (xC (Has.each e6 (by rw[hpl];exact K7.2 rfl))) ?_;have n:c.B.A.length=1:=by rw[hpl];rfl
 have m:a.A.length=1:=by rw[d];rfl
 refine g3 ?_;refine j4 rW λB=>?_;refine j4 bEm λA=>?_;refine g6 ?_;refine j5 func11 (bIs s92 m9 p92 (13,91) m9 f92) ⟨f7,j1⟩ λr=>?_;refine bG d8 λp=>?_;refine g3 ?_;refine j4 rW λz=>?_;refine j4 bEm λy=>?_;refine g6 ?_;refine j5 func11 (bIs s93 m9 p93 (13,93) m9 f93) ⟨i6,j1⟩ λq=>?_;refine bG d8 λo=>?_;refine g3 ?_;refine j4 rW λw=>?_;refine j4 bEm λv=>?_;refine g6 ?_;refine bC func11 (bMh s94 m9 p94 _ _ _ (Prod.ext rfl f94.1) f94.2.1 f94.2.2.1 l94.1 l94.2) rfl rfl .nil ⟨j0,j1⟩ λb=>?_;refine bG d8 λi=>?_;have l:b.B.A.length=2:=by have:=(congrArg (λt:TyP=>t.B.length) i).trans f94.2.2.2;have this:(bO b.B.A).length=2:=this;rwa[bI]at this
 refine bB (cO b.B) (jK d7)<|cE b.B mT0 λf=>bB (cO b.values) (jM e6)<|cE b.values mT0 λe=>?_;refine g3 ?_;refine j4 rW λu=>?_;refine j4 bEm λs=>?_;refine g8 ?_;refine ss (j7 (bAp)) ?_;refine ss (gG ⟨0,0⟩ ⟨0,0⟩ rfl rfl rfl) ?_;refine bF (t':=false) af8 ?_;refine g2 ?_;refine ss (j7 (bAp)) ?_;refine ss (gG ⟨0,0⟩ ⟨0,0⟩ rfl rfl rfl) ?_;refine bF (t':=false) af8 ?_;refine g6 ?_;refine bF (t':=false) (bne_eq_false_iff_eq.2 m0) ?_;refine g4 ?_;refine ss (ixs 0) ?_;refine ss (dA hT (dC.knows (bE (Has.of (u8 (u8 mT1)))) (k:=0) (x:=a) (by rw[hpl];rfl) 0) rfl rfl rfl rfl rfl) ?_;refine g2 ?_;refine bF (t':=false) (bne_eq_false_iff_eq.2 m0) ?_;refine g6 ?_;refine bF (t':=false) (bne_eq_false_iff_eq.2 m0) ?_;refine g10 ?_;refine ss (ixs 0) ?_;refine ss (dA hT (dC.knows (bE (Has.of (u8 (u8 mT1)))) (k:=0) (x:=a) (by rw[hpl];rfl) 0) rfl rfl rfl rfl rfl) ?_;refine ss (ixs 0) ?_;refine one ?_;refine ss (dA hT (dC.knows (bE i7) (k:=0) (x:=(⟨2,1,0,0,0,0,0⟩:Mono)) (by rw[d];rfl) 0) rfl rfl rfl rfl rfl) ?_;refine one ?_;refine bF (t':=true) (by rfl) ?_;refine g2 ?_;refine ss (j7 (yL _ _)) ?_;refine ss (vP ⟨13,91⟩ ⟨13,91⟩ rfl rfl rfl) ?_;refine bF (t':=true) af8 ?_;refine g3 ?_;refine ss (j7 (yL _ _)) ?_;refine ss (vP ⟨13,93⟩ ⟨13,93⟩ rfl rfl rfl) ?_;refine bF (t':=true) af8 ?_;refine g5 ?_;exact rs1 () trivial
theorem lineT_wf{N:iA}(hN:pD N): ∀{l:List fE} {st all:List TyP} {r:List TyP×List TyP},qI l st.length=some 1->(∀t∈st,WfT t)->(∀t∈all,WfT t)->uP N l st all= .ok r->(∀t∈r.1,WfT t)/\(∀t∈r.2,WfT t)/\r.2.length=all.length+l.length/\r.1.length=1
 |[],st,all,r,hd,hs,ha,h=>by
  cases h;rw[qI]at hd;injection hd with hd
  exact⟨hs,ha,n9,hd⟩
 |x::l,st,all,r,hd,hs,ha,h=>by
  rw[qI]at hd;split at hd
  .rename_i f;rw[uP]at h;split at h
   .cases h
   .rename_i he;have he:(iO N x st).2=0:=by simpa using he
    have g:=item_wf hN hs f.1 (λe=>(f.2.2.2 e).1) ⟨f.2.1,f.2.2.1⟩ he;have i:((iO N x st).1::st.drop (fI x)).length=st.length-fI x+1:=by simp
    obtain⟨a,b,c,d⟩:=lineT_wf hN (by rw[i];exact hd) (λt ht=>by
     rcases E2.1 ht with rfl|ht
     .exact g
     .exact hs t (O3 ht)) (λt ht=>by
     rcases E3.1 ht with ht|ht
     .exact ha t ht
     .rw[K7.1 ht];exact g) h
    exact⟨a,b,by rw[c,F4,F5];simp;omega,d⟩
  .cases hd
theorem bYd: ∀{ls:List nC} {N:iA} {out:List (List TyP)},pD N->(∀l∈ls,qI l.K 0=some 1/\l.K.length<=255)->(∀o∈out,o.length<=255/\ ∀t∈o,WfT t)->(∀o∈(sF N ls out).1,o.length<=255/\ ∀t∈o,WfT t)/\(sF N ls out).1.length<=out.length+ls.length
 |[],N,out,_,_,ho=>⟨ho,by simp[sF]⟩
 |l::ls,N,out,hN,hl,ho=>by
  rw[sF];have j:=hl l (E8 ..)
  cases e:uP N l.K [] []with
  |error f=>exact⟨λo h=>(by cases h),n9⟩
  |ok r=>
   obtain⟨a,b,c,d⟩:=lineT_wf hN j.1 (λt h=>(by cases h)) (λt h=>(by cases h)) e;obtain⟨g,all⟩:=r
   have i:WfT (g.getLastD default):=by
    match g,d with
    |[t],_=>exact a t (K7.2 rfl)
   have:=bYd (ls:=ls) (N:=(lU++l.name,g.getLastD default)::N) (out:=out++[all]) (λq hq=>by
    rcases E2.1 hq with rfl|hq
    .exact i
    .exact hN q hq) (λm k=>hl m (E4 _ k)) (λo h=>by
    rcases E3.1 h with h|h
    .exact ho o h
    .rw[K7.1 h]
     exact⟨by have:=j.2;simp at c;omega,b⟩)
   refine⟨this.1,B1 this.2 ?_⟩;simp;omega
theorem types_wf(p:jB):(∀o∈(gU p).1,o.length<=255/\ ∀t∈o,WfT t)/\(gU p).1.length<=64:=by
 unfold gU;split
 .exact⟨λo h=>(by cases h),n9⟩
 .rename_i hr;have hr:(dT p).2=true:=by simpa using hr
  cases p.C.find? (bAf (dO p))with
  |some x=>exact⟨λo h=>(by cases h),n9⟩
  |none=>
   have hf:=wC hr;have b:=bBq hr;have:=bYd (ls:=p.G) (N:=sI p) (out:=[]) (bPw hr) (λl a=>⟨b l a,(hf.line l a).2.1⟩) (λo h=>(by cases h));exact⟨this.1,B1 this.2 (by have:=hf.lns;simp;omega)⟩
theorem rows_few{xs:List (Sl TyV)}{p:jB}(h:xs.map vJ=(gU p).1):xs.length<=140737488355328:=by have:=(types_wf p).2;rw[<-h,O4]at this;omega
theorem rows_big{xs:List (Sl TyV)}{p:jB}(h:xs.map vJ=(gU p).1): ∀x∈xs,x.A.length<=140737488355328/\ ∀t∈x.A,t.B.A.length<=140737488355328/\t.values.A.length<=140737488355328:=λx hx=>by obtain⟨h1,h2⟩:=(types_wf p).1 (vJ x) (by rw[<-h];exact X9 hx);rw[wX]at h1;refine⟨m0,λt ht=>?_⟩;have c:=h2 t.t (X9 ht);have a:=oV c;have b:=wZ c;omega
set_option maxRecDepth 100000
set_option maxHeartbeats 1000000 in
theorem bVk(a b:Mono)(w:World):
  Calls prog 143 #[.agg #[k9 a.n,l5 a.U.toNat,l5 a.T.toNat,l5 a.R.toNat,l5 a.Q.toNat,l5 a.O.toNat,l5 a.N.toNat],.agg #[k9 b.n,l5 b.U.toNat,l5 b.T.toNat,l5 b.R.toNat,l5 b.Q.toNat,l5 b.O.toNat,l5 b.N.toNat]] w λe w'=>e= .returned (k9 (bDz a b))/\Below w.heap.size w w':=by
 go_enter func143,ntmps143
 go_wp2
 refine wp_loop_rounds 7 ?_
 repeat any_goals (first|(rw[rounds_succ];go_wp2)|(go_quiet (fail);go_wp2))
 all_goals go_ret
 all_goals refine⟨ret_int ?_,?_⟩
 all_goals first|((repeat refine vO ?_ _);go_grown;done)|(go_light;simp[bDz,Mono.E,bBf, *];done)|(go_light;simp[bDz,Mono.E,bBf, *];rfl)
end
section
open Go.RowKit Go.Proofs.Tryz
set_option maxRecDepth 100000
theorem cmp_flip: ∀(l m:List UInt8),(S6 l m=1↔S6 m l<0)/\(S6 l m=0↔S6 m l=0)
 |[],[]=>by simp[S6]
 |[],_::_=>by simp[S6]
 |_::_,[]=>by simp[S6]
 |a::l,b::m=>by
  have c:=cmp_flip l m;rw[bBf,bBf]
  by_cases h1:b.toNat<a.toNat
  .rw[if_pos h1,if_neg m0,if_pos h1];simp
  .rw[if_neg h1]
   by_cases h2:a.toNat<b.toNat
   .rw[if_pos h2,if_pos h2];simp
   .rw[if_neg h2,if_neg h2,if_neg h1];exact c
theorem bVw(a b:Mono):bDz a b=1↔ord a b<0:=(cmp_flip _ _).1
theorem small_not{m:Mono}(h:qH m=false):(m.n==0)=true\/((m.n==0)=false/\decide (16777216<m.n)=true)\/((m.n==0)=false/\decide (16777216<m.n)=false/\decide (m.n< -16777216)=true)\/
  ((m.n==0)=false/\decide (16777216<m.n)=false/\decide (m.n< -16777216)=false/\decide (8<(m.deg:Int))=true):=by have a: ¬(m.n≠0/\m.n<=16777216/\ -16777216<=m.n/\m.deg<=8):=of_decide_eq_false h;simp only[beq_iff_eq,beq_eq_false_iff_ne,decide_eq_true_eq,decide_eq_false_iff_not];omega
theorem small_all{m:Mono}(h:qH m=true):(m.n==0)=false/\decide (16777216<m.n)=false/\decide (m.n< -16777216)=false/\decide (8<(m.deg:Int))=false:=by have a:m.n≠0/\m.n<=16777216/\ -16777216<=m.n/\m.deg<=8:=of_decide_eq_true h;simp only[beq_eq_false_iff_ne,decide_eq_false_iff_not];omega
set_option maxHeartbeats 1000000 in
theorem bHf(A:Option Addr)(c:Nat)(xs:List Mono)(w:World)(ha:lM w A xs)(hx:xs.length<=140737488355328):
  Calls prog 107 #[.slice A xs.length c] w λe w'=>e= .returned (.bool (dH xs))/\Below w.heap.size w w':=by
 by_cases hl:xs.length<=48
 .have hl1:decide ((48:Int)<(xs.length:Int))=false:=by simp;omega
  have Ha:=S7 ha;clear ha
  go_enter func107,ntmps107
  go_wp2
  go_loopw [3] (λi wr=> ∃k:Nat,k<=xs.length/\i= .int .i64 k/\Hid (dH xs=gD (if k=0 then none else xs[k-1]?) (xs.drop k))/\Below w.heap.size w wr) (λi _=>xs.length-(intOf i).toNat)
  case atStart=>exact⟨0,C4 _,rfl,by show _=_;simp[dH,hl],Below.refl _ _⟩
  case round=>
   obtain⟨k,hk,rfl,hs,hbl⟩:=hrel
   by_cases hlt:k<xs.length
   .obtain⟨m,hm,dm⟩:=nO hlt;obtain⟨b,o,rfl,hB,c0,c1,c2,c3,c4,c5,c6⟩:=Ha.out.below hbl k m hm;have HN:=S7 (show qH m=false->dH xs=false by intro hsb;rw[hs.out,dm];split<;>(try cases xs[k-1]?)<;>simp[gD,hsb]);have HM:=S7 hm;have HD:=S7 dm;cases hsb:qH m
    .have HN':=S7 (HN.out hsb);have HBL:=S7 hbl;clear dm hm hbl hB HN hs HM HD
     rcases small_not hsb with t0|⟨t0,t1⟩|⟨t0,t1,t2⟩|⟨t0,t1,t2,t3⟩
     all_goals go_wp2_with (go_at_call 142;refine(bFv m _).mono ?_;rintro e w1 ⟨rfl,hb1⟩)
     all_goals go_ret
     all_goals refine⟨gQ HN'.out.symm,?_⟩
     all_goals first|exact HBL.out|exact HBL.out.trans (hb1.mono HBL.out.size)
    .obtain⟨t0,t1,t2,t3⟩:=small_all hsb;have HC:=S7 (Ha.out.below hbl k m hm);have HBL:=S7 hbl;clear dm hm hbl hB HN
     go_wp2_with (go_at_call 142;refine(bFv m _).mono ?_;rintro e w1 ⟨rfl,hb1⟩)
     clear c0 c1 c2 c3 c4 c5 c6 t0 t1 t2 t3;have HB1:=S7 (show Below w.heap.size w w1 from HBL.out.trans (hb1.mono HBL.out.size));clear hb1 HBL HC
     rcases S8 k with hk0|hk0
     .have hk1:decide (0<k)=false:=by simp;omega
      have HS:=S7 (show dH xs=gD (if k+1=0 then none else xs[k+1-1]?) (xs.drop (k+1)) by rw[hs.out,HD.out,if_pos hk0,if_neg m0,show k+1-1=k from rfl,HM.out];simp[gD,hsb]);clear hs hk0 HM HD;refine nK m7 m7 ?_
      repeat (go_big_quiet_step (fail))
      refine wpQuiet_nil ?_;rintro _ ⟨x,rfl⟩
      go_wp2
      go_roundw
      case rel=>exact⟨k+1,m0,by go_num,HS,HB1.out.trans (x.h.mono HB1.out.size)⟩
      case measure=>simp[intOf];omega
     .have hk1:decide (0<k)=true:=by simp;omega
      obtain⟨j,rfl⟩: ∃j,k=j+1:=⟨k-1,m0⟩
      obtain⟨q,hq⟩: ∃q,xs[j]?=some q:=⟨xs[j]'m0,F1 _⟩
      have HS:=S7 (show dH xs=(decide (ord q m<0)&&gD (some m) (xs.drop (j+1+1))) by rw[hs.out,HD.out,if_neg m0,show j+1-1=j from rfl,hq];simp[gD,hsb])
      have p0:iR w1 b (o+j*7) q/\iR w1 b (o+(j+1)*7) m:=by
       obtain⟨b1,o1,e1,hB1,hm1⟩:=Ha.out.below HB1.out j q hq;obtain⟨b2,o2,e2,hB2,hm2⟩:=Ha.out.below HB1.out (j+1) m HM.out;injection e1 with e1
       injection e1 with e1 e1'
       injection e2 with e2
       injection e2 with e2 e2'
       subst e1 e1' e2 e2';exact⟨hm1,hm2⟩
      obtain⟨r0,r1,r2,r3,r4,r5,r6⟩:=p0.2.later;obtain⟨s0,s1,s2,s3,s4,s5,s6⟩:=p0.1.later;clear hs hk0 hq p0;have Hor:=S7 (iN.calls (W0:=w1) λW _=>bVk q m W);refine nK m7 m7 ?_
      repeat (go_big_quiet_step ((go_at_call 143;exact Hor.out _)))
      refine wpQuiet_nil ?_;rintro _ ⟨x,rfl⟩;clear r0 r1 r2 r3 r4 r5 r6 s0 s1 s2 s3 s4 s5 s6 Hor;have HBX:=S7 (show Below w.heap.size w x.w from HB1.out.trans (x.h.mono HB1.out.size));clear HB1
      by_cases ho:ord q m<0
      .have ho1:(bDz q m !=1)=false:=by simp[(bVw q m).2 ho]
       go_wp2
       go_roundw
       case rel=>exact⟨j+1+1,m0,by go_num,ah5,HBX.out⟩
       case measure=>simp[intOf];omega
      .have ho1:(bDz q m !=1)=true:=by rw[bne_iff_ne];intro h;exact ho ((bVw q m).1 h)
       go_wp2
       go_ret
       exact⟨gQ ak6,HBX.out⟩
   .have hk':k=xs.length:=m0
    go_wp2
    go_ret
    refine⟨gQ ?_,hbl⟩;rw[hs.out,K3 m0];split<;>(try cases xs[k-1]?)<;>simp[gD]
 .have hl1:decide ((48:Int)<(xs.length:Int))=true:=by simp;omega
  go_enter func107,ntmps107
  go_wp2
  go_ret
  exact⟨gQ (by simp[dH,hl]),Below.refl _ _⟩
end
section
open Go.RowKit Go.Proofs.Tryz
theorem wrap_eq(z:Int):IntKind.i64.wrap z=wrap64 z:=by unfold wrap64;simp only[J5,J6,J7];simp;omega
theorem bCl(a b:UInt8):IntKind.u8.wrap ((a.toNat:Int)+(b.toNat:Int))=((a+b).toNat:Int):=by rw[UInt8.toNat_add];simp only[J5,J6,J7];simp
def polyT:Tab:=[(2,⟨.int .i64,1⟩),(3,⟨.int .i64,1⟩),(5,⟨.int .u8,1⟩),(4,⟨.bool,1⟩),(43,⟨.struct [(2,0),(41,1)],7⟩),(40,⟨.slice 43,1⟩),
 (41,⟨.array 6 5,6⟩),(60,⟨.slice 2,1⟩)]
theorem xH:fX prog polyT:=yB.ok
 ⟨⟨by rw[underlying2];rfl,m7⟩,⟨by rw[underlying3];rfl,m7⟩,⟨by rw[underlying5];rfl,m7⟩,⟨by rw[underlying4];rfl,m7⟩,⟨by rw[underlying43];rfl,m7⟩,
  ⟨by rw[underlying40];rfl,m7⟩,⟨by rw[underlying41];rfl,m7⟩,⟨by rw[underlying60];rfl,m7⟩,j1⟩
theorem monoZero:(prog.info? 43).bind (·.zero)=some (.agg #[k9 0,l5 0,l5 0,l5 0,l5 0,l5 0,l5 0]):=by obtain⟨i,h,a,_⟩:=bWc;rw[h];exact a
theorem built_n(z:Int):prog.built 43 [(0,k9 z)]=some #[k9 z,l5 0,l5 0,l5 0,l5 0,l5 0,l5 0]:=m7
theorem built_ne(z:Int)(a b c d e f:Value):prog.built 43 [(0,k9 z),(1,.agg #[a,b,c,d,e,f])]=some #[k9 z,a,b,c,d,e,f]:=m7
section
variable {β : fR} {n : Nat} {Γ : Env} {H : List bL} {F : List Fact} {Q : Exit -> Act -> World -> Prop}
theorem at_one{ops:Array Oper}{rest:List Oper}{o:Oper}{d:Nat}{x:Operand}{m:Mono}(hw:want ops Γ o=some true)(ho:o.op= .buildSlice 40 1 #[(0,x)])(hd:o.dst=some d)(hn:Nat.blt d n=true)
  (hx:Γ.ev x=some (.agg #[k9 m.n,l5 m.U.toNat,l5 m.T.toNat,l5 m.R.toNat,l5 m.Q.toNat,l5 m.O.toNat,l5 m.N.toNat])) (k: ∀b,At β n ((d,.slice (some ⟨b,0,none⟩) 1 1)::Γ) (.obj b (.cells (fL.all [m]).toArray 43)::H) F (wpList prog ops Q rest)):At β n Γ H F (wpList prog ops Q (o::rest)):=by
 obtain⟨i,hi,a,hs,_⟩:=bWc;refine jT hw ho hd hn hx underlying40 hi a m0 m0 ?_ k;rw[hs]
 kernel_rfl
theorem at_app{ops:Array Oper}{rest:List Oper}{o:Oper}{d:Nat}{x y:Operand}{c q:Nat}{v:Value}{A:Option Addr}{xs ys:List Mono}{H':List bL}(hH:cU H (fL.row v 43 xs) H')(hr:dC β H F fL A ys)(hg:o.guard=none)
  (ho:o.op= .call {callee:= .builtin .append,args:= #[x,y],argTypes:= #[40,40]}) (hd:o.dst=some d) (hn:Nat.blt d n=true)
  (hx:Γ.ev x=some v) (hy:Γ.ev y=some (.slice A q c)) (hq:q=ys.length) (hne:0<ys.length) (hl:xs.length+ys.length<=8796093022208)
  (k: ∀A' cap',At β n ((d,.slice A' (xs++ys).length cap')::Γ) (fL.row (.slice A' (xs++ys).length cap') 43 (xs++ys)::H') F (wpList prog ops Q rest)):At β n Γ H F (wpList prog ops Q (o::rest)):=by obtain⟨i,hi,a,hs,b⟩:=bWc;exact zZ hH hr hg ho hd hn underlying40 hi a hs b rfl hx hy hq hne m0 m9 k
end
theorem bQr(a b:Mono):cY prog 143 [.agg #[k9 a.n,l5 a.U.toNat,l5 a.T.toNat,l5 a.R.toNat,l5 a.Q.toNat,l5 a.O.toNat,l5 a.N.toNat],.agg #[k9 b.n,l5 b.U.toNat,l5 b.T.toNat,l5 b.R.toNat,l5 b.Q.toNat,l5 b.O.toNat,l5 b.N.toNat]] [] [] (λ_:Unit=> k9 (bDz a b)) (λ_=>[]) (λ_=>[]):=jZ λ_ w _ _=>bVk a b w
theorem pM(A:Option Addr)(c:Nat)(l:List Mono)(hl:l.length<=140737488355328):cY prog 107 [.slice A l.length c] [] [fL.sl (.slice A l.length c) l] (λ_:Unit=> .bool (dH l)) (λ_=>[]) (λ_=>[]):=
 jZ λ_ w a h=>bHf A c l w (monos_of a (h _ (E8 ..))).1 hl
def pS (m:Mono):List Mono->List Mono
 |[]=>[m]
 |a::l=>if m.key<a.key then a::pS m l else if a.key=m.key then ⟨wrap64 (a.n+m.n),a.U,a.T,a.R,a.Q,a.O,a.N⟩::l else m::a::l
theorem bVo{a b:Mono}:bDz a b=1↔b.key<a.key:=by
 rw[bXk]
 by_cases h:b.key<a.key
 .simp[h]
 .by_cases h2:a.key<b.key<;>simp[h,h2]
theorem bXu{a b:Mono}:bDz a b=0↔a.key=b.key:=by
 rw[bXk]
 by_cases h:b.key<a.key
 .simp[h];omega
 .by_cases h2:a.key<b.key
  .simp[h,h2];omega
  .simp[h,h2];omega
theorem take_more{l:List Mono}{m x:Mono}{i:Nat}(hx:l[i]?=some x)(h: ∀y∈l.take i,m.key<y.key)(hk:m.key<x.key): ∀y∈l.take (i+1),m.key<y.key:=λy hy=>by
 rw[R6,hx,Z1]at hy
 rcases E3.1 hy with hy|hy
 .exact h y hy
 .rw[K7.1 hy];exact hk
theorem put_eq{m x:Mono}: ∀{l:List Mono} {i:Nat},l[i]?=some x->(∀y∈l.take i,m.key<y.key)->x.key=m.key->pS m l=l.set i ⟨IntKind.i64.wrap (x.n+m.n),x.U,x.T,x.R,x.Q,x.O,x.N⟩
 |[],i,h,_,_=>by simp at h
 |a::l,0,h,_,hk=>by
  simp at h;subst h;rw[pS,if_neg m0,if_pos hk,wrap_eq];rfl
 |a::l,i+1,h,ht,hk=>by rw[pS,if_pos (ht a n9),put_eq (l:=l) (i:=i) ad7 (λy hy=>ht y ae5) hk];rfl
theorem put_ins{m:Mono}: ∀{l:List Mono} {i:Nat},(∀y∈l.take i,m.key<y.key)->i<=l.length->(∀x,l[i]?=some x->x.key<m.key)->pS m l=l.take i++m::l.drop i
 |[],i,_,hi,_=>by
  have:i=0:=by simpa using hi
  subst this;rfl
 |a::l,0,_,_,hx=>by
  have:=hx a rfl;rw[pS,if_neg m0,if_neg m0];rfl
 |a::l,i+1,ht,hi,hx=>by rw[pS,if_pos (ht a n9),put_ins (l:=l) (i:=i) (λy hy=>ht y ae5) (by simpa using hi) (λx h=>hx x ad7)];rfl
theorem bTv{l cur:List Mono}{i:Nat}(hi:i<=l.length)(h: ∃z,cur=l.take i++z::l.drop i)(m:Mono):cur.set i m=l.take i++m::l.drop i:=by obtain⟨z,rfl⟩:=h;rw[List.set_append_right _ _ s8,show i-(l.take i).length=0 from by simp;omega];rfl
theorem bVn{l cur:List Mono}{k:Nat}{x:Mono}(hk:k<=l.length)(h0:0<k)(h: ∃z,cur=l.take k++z::l.drop k)(hx:cur[k-1]?=some x): ∃z,cur.set k x=l.take (k-1)++z::l.drop (k-1):=by
 obtain⟨z,b⟩:=h;refine⟨x,?_⟩;rw[bTv hk ⟨z,b⟩ x]
 obtain⟨j,rfl⟩: ∃j,k=j+1:=⟨k-1,m0⟩
 rw[Nat.add_sub_cancel]at hx⊢
 have c:l[j]?=some x:=by rw[b,List.getElem?_append_left s8,List.getElem?_take_of_lt m0]at hx;exact hx
 have d:l.drop j=x::l.drop (j+1):=by
  have a:j<l.length:=m0
  rw[K2 a]
  congr 1
  exact(F3.1 c).2
 rw[R6,c,d];simp
theorem bTm(A:Option Addr)(cap:Nat)(l:List Mono)(m:Mono)(hl:l.length<=1000000):cY prog 108 [.slice A l.length cap,.agg #[k9 m.n,l5 m.U.toNat,l5 m.T.toNat,l5 m.R.toNat,l5 m.Q.toNat,l5 m.O.toNat,l5 m.N.toNat]] [fL.row (.slice A l.length cap) 43 l] [] (λ(x:Option Addr×Nat)=> .slice x.1 (pS m l).length x.2) (λ(x:Option Addr×Nat)=>[fL.row (.slice x.1 (pS m l).length x.2) 43 (pS m l)]) (λ_=>[]):=by
 have hT:=xH;refine j8 func108 ntmps108 ?_;intro β hM;refine g2 ?_;refine j6 λo=>?_;refine g10 ?_;refine sQ (ι:=Nat) (λi=>[(0,.slice A l.length cap),(3,.pointer (some ⟨o,0,none⟩)),(5,.int .i64 (i:Nat))]) (λi=>[.obj o (.cells m.cells.toArray 43),fL.row (.slice A l.length cap) 43 l]) (λi=>[Fact.pure (i<=l.length/\ ∀x∈l.take i,m.key<x.key)]) (λi=>l.length-i) 0 ⟨rfl,rfl,rfl,j1⟩ (.c0 (.c0 .nil)) ⟨j2 n9,j1⟩ ?_;rintro i;refine bG d7 λb=>?_;refine g2 ?_;refine cK _ _ [k8,u0,u5,u9,A00,u6,A02,A01,A03,A04,A73,A07,A09] cN o8 (.c0 (.c0 .nil)) bA.self ?_;refine g5 ?_;refine lK (λhg11=>?_) λhg11=>?_
 .refine g2 ?_;obtain⟨K,d⟩:=gx l i;refine stM rfl (ixs i) ?_;refine stM rfl (fM hT (dC.knows (cM kT1) d 0) rfl rfl rfl rfl rfl) ?_;refine g2 ?_;refine kI (cB func143 rfl rfl) (bQr _ _) rfl rfl rfl rfl rfl .nil .nil nR j1 (λ_=>True) (λ_ _ _ _=>trivial) λ_ _=>?_;refine fK (.c0 (.c0 .nil)) ⟨d7,j1⟩ ?_;refine g4 ?_;refine gJ (λhc19=>?_) λhc19=>?_
  .have hc19:=bVo.1 hc19;refine g6 ?_;refine inc (i+1) ?_;refine g4 ?_;exact jV (i+1) m0 ⟨rfl,rfl,rfl,j1⟩ (.c0 (.c0 .nil)) ⟨j2 (⟨m0,take_more ‹l[i]?=some _› b.2 hc19⟩),j1⟩
  have hc19:=mt bVo.2 hc19;refine g7 ?_;refine cK _ _ [k8,u0,u5,u9,A00,u6,A02,A01,A03,A04,A73,A07,A09] cN o8 (.c0 (.c0 .nil)) bA.self ?_;refine g5 ?_;refine lK (λf=>?_) λf=>?_
  .refine g2 ?_;refine stM rfl (ixs i) ?_;refine stM rfl (fM hT (dC.knows (cM kT1) d 0) rfl rfl rfl rfl rfl) ?_;refine g2 ?_;refine kI (cB func143 rfl rfl) (bQr _ _) rfl rfl rfl rfl rfl .nil .nil nR j1 (λ_=>True) (λ_ _ _ _=>trivial) λ_ _=>?_;refine fK (.c0 (.c0 .nil)) ⟨d7,j1⟩ ?_;refine g4 ?_;refine gJ (λhc34=>?_) λhc34=>?_
   .have hc34:=bXu.1 hc34;refine bP<|uF kT1 m0 λg hg=>?_;subst hg;refine cK _ _ [k8,u0,u5,u9,A00,u6,A01,A03,A17,A04,A08,A07,(false,12)] cN o8 (.c0 .nil) bA.self ?_;refine g4 ?_;refine stM rfl (fY hT (k:=i) rfl rfl rfl rfl rfl rfl m0) ?_;refine g4 ?_;refine ss (j9 hT (dC.knows (cM kT1) d 0)) ?_;refine fK (.c0 .nil) ⟨d7,j1⟩ ?_;refine one ?_;refine stM rfl (fY hT (k:=i) rfl rfl rfl rfl rfl rfl m0) ?_;refine g2 ?_;refine fV hT (k:=i) (fo:=0) (y':=⟨_,_,_,_,_,_,_⟩) kT1 rfl rfl rfl rfl rfl rfl rfl rfl rfl d rfl ?_;refine fK (.c1 .nil) ⟨d7,j1⟩ ?_;refine g10 ?_;rw[put_eq d b.2 hc34,W9];exact bRs (some ⟨g,0,none⟩,cap) rfl rfl rfl (.c0 .nil) trivial
   have hc34:=mt bXu.2 hc34;refine g3 ?_;have c: ∀x,l[i]?=some x->x.key<m.key:=λx hx=>by rw[d]at hx;cases hx;omega
   refine g3 ?_;refine at_one (m:=m) rfl rfl rfl rfl rfl λL=>?_;refine at_app kT2 (bT .head rfl) rfl rfl rfl rfl rfl rfl rfl n9 ab1 λM c6=>?_;refine g5 ?_;refine uF .head n9 λg7 hg=>?_;subst hg;have G:(l++[m]).length=l.length+1:=by simp
   refine g4 ?_;refine inc ((l++[m]).length-1) ?_;refine g4 ?_;refine sQ (ι:=Nat×List Mono) (λ⟨k,cur⟩=>[(0,.slice (some ⟨g7,0,none⟩) (l++[m]).length c6),(3,.pointer (some ⟨o,0,none⟩)),(5,.int .i64 (i:Nat)),(6,.int .i64 (k:Nat))]) (λ⟨k,cur⟩=>[fL.row (.slice (some ⟨g7,0,none⟩) (l++[m]).length c6) 43 cur,.obj o (.cells m.cells.toArray 43)]) (λ⟨k,cur⟩=>[Fact.pure (i<=k/\k<=l.length/\ ∃z,cur=l.take k++z::l.drop k)]) (λ⟨k,cur⟩=>k) ((l++[m]).length-1,l++[m]) ⟨rfl,rfl,rfl,rfl,j1⟩ (.c0 (.c1 .nil)) ⟨j2 (⟨m0,m0,m,n9⟩),j1⟩ ?_;rintro⟨k,cur⟩;dsimp only;refine bG d7 λa=>?_;have B:cur.length=l.length+1:=by obtain⟨z,v⟩:=a.2.2;rw[v];simp;omega
   refine g8 ?_;refine fA (λh=>?_) λh=>?_
   .refine g10 ?_;refine inc (k-1) ?_;obtain⟨x8,w⟩:=gx cur (k-1);refine ss (fY hT (k:=(k-1)) rfl rfl rfl rfl rfl rfl m0) ?_;refine ss (fM hT (dC.knows (cM .head) w 0) rfl rfl rfl rfl rfl) ?_;obtain⟨x10,t⟩:=gx cur k;refine ss (fY hT (k:=k) rfl rfl rfl rfl rfl rfl m0) ?_;refine fV hT (k:=k) (fo:=0) (y':=x8) .head rfl rfl rfl rfl rfl rfl rfl rfl rfl t rfl ?_;refine g6 ?_;refine inc (k-1) ?_;refine g3 ?_;exact jV (k-1,_) aa2 ⟨rfl,rfl,rfl,rfl,j1⟩ (.c0 (.c0 .nil)) ⟨j2 (by refine⟨m0,m0,?_⟩;exact bVn a.2.1 m0 a.2.2 ‹cur[k-1]?=some _›),j1⟩
   refine g10 ?_;obtain⟨E,s⟩:=gx cur i;refine ss (fY hT (k:=i) rfl rfl rfl rfl rfl rfl m0) ?_;refine fV hT (k:=i) (fo:=0) (y':=m) .head rfl rfl rfl rfl rfl rfl rfl rfl rfl s rfl ?_;refine g9 ?_;have y:k=i:=m0
   subst y;have e:pS m l=cur.set k m:=(put_ins b.2 b.1 c).trans (bTv b.1 a.2.2 m).symm;have e2:(cur.set k m).length=(l++[m]).length:=by rw[W9];omega
   rw[e,e2];exact bRs (some ⟨g7,0,none⟩,c6) rfl rfl rfl (.c0 .nil) trivial
  omega
 refine g7 ?_;refine fK (.c0 (.c0 .nil)) ⟨d7,j1⟩ ?_;refine g12 ?_;refine cK _ _ [k8,u0,u5,u9,A00,u6,A02,A01,A03,A04,A73,A07,A09] cN o8 (.c0 (.c0 .nil)) bA.self ?_;refine g5 ?_;refine lK (λf=>?_) λf=>?_
 .omega
 refine g7 ?_;refine fK (.c0 (.c0 .nil)) ⟨d7,j1⟩ ?_;refine g8 ?_;have c: ∀x,l[i]?=some x->x.key<m.key:=λx hx=>by rw[List.getElem?_eq_none m0]at hx;cases hx
 refine g3 ?_;refine at_one (m:=m) rfl rfl rfl rfl rfl λI=>?_;refine at_app kT2 (bT .head rfl) rfl rfl rfl rfl rfl rfl rfl n9 ab1 λJ j=>?_;refine g5 ?_;refine uF .head n9 λg17 hg=>?_;subst hg;have G:(l++[m]).length=l.length+1:=by simp
 refine g4 ?_;refine inc ((l++[m]).length-1) ?_;refine g4 ?_;refine sQ (ι:=Nat×List Mono) (λ⟨k,cur⟩=>[(0,.slice (some ⟨g17,0,none⟩) (l++[m]).length j),(3,.pointer (some ⟨o,0,none⟩)),(5,.int .i64 (i:Nat)),(6,.int .i64 (k:Nat))]) (λ⟨k,cur⟩=>[fL.row (.slice (some ⟨g17,0,none⟩) (l++[m]).length j) 43 cur,.obj o (.cells m.cells.toArray 43)]) (λ⟨k,cur⟩=>[Fact.pure (i<=k/\k<=l.length/\ ∃z,cur=l.take k++z::l.drop k)]) (λ⟨k,cur⟩=>k) ((l++[m]).length-1,l++[m]) ⟨rfl,rfl,rfl,rfl,j1⟩ (.c0 (.c1 .nil)) ⟨j2 (⟨m0,m0,m,n9⟩),j1⟩ ?_;rintro⟨k,cur⟩;dsimp only;refine bG d7 λa=>?_;have B:cur.length=l.length+1:=by obtain⟨z,v⟩:=a.2.2;rw[v];simp;omega
 refine g8 ?_;refine fA (λh=>?_) λh=>?_
 .refine g10 ?_;refine inc (k-1) ?_;obtain⟨u,r⟩:=gx cur (k-1);refine ss (fY hT (k:=(k-1)) rfl rfl rfl rfl rfl rfl m0) ?_;refine ss (fM hT (dC.knows (cM .head) r 0) rfl rfl rfl rfl rfl) ?_;obtain⟨D,q⟩:=gx cur k;refine ss (fY hT (k:=k) rfl rfl rfl rfl rfl rfl m0) ?_;refine fV hT (k:=k) (fo:=0) (y':=u) .head rfl rfl rfl rfl rfl rfl rfl rfl rfl q rfl ?_;refine g6 ?_;refine inc (k-1) ?_;refine g3 ?_;exact jV (k-1,_) aa2 ⟨rfl,rfl,rfl,rfl,j1⟩ (.c0 (.c0 .nil)) ⟨j2 (by refine⟨m0,m0,?_⟩;exact bVn a.2.1 m0 a.2.2 ‹cur[k-1]?=some _›),j1⟩
 refine g10 ?_;obtain⟨C,p⟩:=gx cur i;refine ss (fY hT (k:=i) rfl rfl rfl rfl rfl rfl m0) ?_;refine fV hT (k:=i) (fo:=0) (y':=m) .head rfl rfl rfl rfl rfl rfl rfl rfl rfl p rfl ?_;refine g9 ?_;have y:k=i:=m0
 subst y;have e:pS m l=cur.set k m:=(put_ins b.2 b.1 c).trans (bTv b.1 a.2.2 m).symm;have e2:(cur.set k m).length=(l++[m]).length:=by rw[W9];omega
 rw[e,e2];exact bRs (some ⟨g17,0,none⟩,j) rfl rfl rfl (.c0 .nil) trivial
def rM (l:List Mono):List Mono×Int:=if dH (l.filter nz)then (l.filter nz,0)else ([],21)
theorem bOo(x:Mono):[x].filter nz=if x.n=0 then []else [x]:=by by_cases h:x.n=0<;>simp[List.filter_cons,nz,h]
theorem bOv(A:Option Addr)(c:Nat)(l:List Mono)(hl:l.length<=1000000):cY prog 109 [.slice A l.length c] [] [fL.sl (.slice A l.length c) l] (λ(x:Option Addr×Nat)=> .tuple #[.slice x.1 (rM l).1.length x.2,k9 (rM l).2]) (λ(x:Option Addr×Nat)=>[fL.row (.slice x.1 (rM l).1.length x.2) 43 (rM l).1]) (λ_=>[]):=by
 have hT:=xH;refine j8 func109 ntmps109 ?_;intro β hM;refine g13 ?_;refine bQ (t:=43) fL ?_;refine g5 ?_;refine sQ (ι:=Nat×List Mono×Option Addr×Nat) (λ⟨i,out,B,cb⟩=>[(0,.slice A l.length c),(4,.slice B out.length cb),(5,.int .i64 (i:Nat))]) (λ⟨i,out,B,cb⟩=>[fL.row (.slice B out.length cb) 43 out]) (λ⟨i,out,B,cb⟩=>[Fact.pure (i<=l.length/\out=(l.take i).filter nz),fL.sl (.slice A l.length c) l]) (λ⟨i,out,B,cb⟩=>l.length-i) (0,[],none,0) ⟨rfl,rfl,rfl,j1⟩ (.c0 .nil) ⟨j2 n9,d7,j1⟩ ?_;rintro⟨i,out,B,cb⟩;dsimp only;refine bG d7 λa=>?_;have j:out.length<=l.length:=by rw[a.2];exact B1 (List.length_filter_le _ _) s8
 refine g9 ?_;refine fA (λh=>?_) λh=>?_
 .refine g8 ?_;obtain⟨x1,f⟩:=gx l i;refine ss (ixs i) ?_;refine one ?_;refine ss (j9 hT (dC.knows (bE d8) f 0)) ?_;refine g3 ?_;refine tL (λd=>?_) λd=>?_
  .refine g4 ?_;refine ss (ixs i) ?_;refine ss (fM hT (dC.knows (bE d8) f 0) rfl rfl rfl rfl rfl) ?_;refine at_one (m:=x1) rfl rfl rfl rfl rfl λk=>?_;refine at_app kT1 (bT .head rfl) rfl rfl rfl rfl rfl rfl rfl n9 ab1 λn c5=>?_;refine g7 ?_;refine inc (i+1) ?_;refine g3 ?_;exact jV (i+1,_,_,_) aa2 ⟨rfl,rfl,rfl,j1⟩ (.c0 .nil) ⟨j2 (by refine⟨m0,?_⟩;rw[R6,f,Y3,<-a.2,Z1,bOo];simp[d]),d8,j1⟩
  refine g6 ?_;refine inc (i+1) ?_;refine g3 ?_;exact jV (i+1,_,_,_) aa2 ⟨rfl,rfl,rfl,j1⟩ (.c0 .nil) ⟨j2 (by refine⟨m0,?_⟩;rw[R6,f,Y3,<-a.2,Z1,bOo];simp[d]),d8,j1⟩
 refine g9 ?_;refine kI (cB func107 rfl rfl) (pM _ _ out m0) rfl rfl rfl rfl rfl .nil (.c0 .nil) (bCx nR) ⟨d7,j1⟩ (λ_=>True) (λ_ _ _ _=>trivial) λ_ _=>?_;refine g3 ?_;refine iK (λb=>?_) λb=>?_
 .refine g8 ?_
  have g:rM l=([],21):=by
   have e:out=l.filter nz:=by rw[a.2,F6 m0]
   unfold rM;rw[<-e,b];rfl
  rw[g];refine bQ (t:=43) fL ?_;exact pY (none,0) rfl rfl rfl rfl (.c0 .nil) trivial
 refine g10 ?_
 have g:rM l=(out,0):=by
  have e:out=l.filter nz:=by rw[a.2,F6 m0]
  unfold rM;rw[<-e,b];rfl
 rw[g];exact pY (B,cb) rfl rfl rfl rfl (.c0 .nil) trivial
def lY (acc:List Mono)(l:List Mono):List Mono:=l.foldl (λa m=>pS m a) acc
def bLb (s:Int)(m:Mono):Mono:=⟨wrap64 (s*m.n),m.U,m.T,m.R,m.Q,m.O,m.N⟩
theorem putP_len(m:Mono): ∀l:List Mono,(pS m l).length<=l.length+1
 |[]=>by simp[pS]
 |a::l=>by
  have:=putP_len m l;rw[pS];split
  .simp;omega
  .split<;>simp
theorem rX: ∀(l acc:List Mono),(lY acc l).length<=acc.length+l.length
 |[],acc=>by simp[lY]
 |m::l,acc=>by have h1:=rX l (pS m acc);have h2:=putP_len m acc;have e:lY acc (m::l)=lY (pS m acc) l:=rfl;rw[e,F5];omega
theorem bEg(acc l k:List Mono):lY acc (l++k)=lY (lY acc l) k:=List.foldl_append
theorem bCi(acc l:List Mono)(m:Mono):lY acc (l++[m])=pS m (lY acc l):=by rw[bEg];rfl
def iI (p q:List Mono)(s:Int):List Mono×Int:=if dH p&&dH q then rM (lY (lY [] p) (q.map (bLb s)))else ([],20)
def qC (p q:List Mono):List Mono×Int:=if dH p&&dH q then rM (lY [] (p.flatMap λa=>q.map (mulM a)))else ([],20)
theorem flat_len(q:List Mono): ∀l:List Mono,(l.flatMap λa=>q.map (mulM a)).length=l.length*q.length
 |[]=>by simp
 |a::l=>by rw[Y4,F4,flat_len q l,O4,F5,Nat.add_mul,Nat.one_mul,Nat.add_comm]
theorem refMul_len{p q:List Mono}{i:Nat}(hi:i<=p.length):(lY [] ((p.take i).flatMap λa=>q.map (mulM a))).length<=i*q.length:=by refine B1 (rX _ _) ?_;rw[flat_len,K6,Nat.min_eq_left hi];simp
theorem xX{p:List Mono}(h:dH p=true):p.length<=48:=by unfold dH at h;simp at h;exact h.1
theorem bEd(A B:Option Addr)(c d:Nat)(p q:List Mono)(s:Int)(hpl:p.length<=140737488355328)(hql:q.length<=140737488355328):cY prog 144 [.slice A p.length c,.slice B q.length d,k9 s] [] [fL.sl (.slice A p.length c) p,fL.sl (.slice B q.length d) q] (λ(x:Option Addr×Nat)=> .tuple #[.slice x.1 (iI p q s).1.length x.2,k9 (iI p q s).2]) (λ(x:Option Addr×Nat)=>[fL.row (.slice x.1 (iI p q s).1.length x.2) 43 (iI p q s).1]) (λ_=>[]):=by
 have hT:=xH;refine j8 func144 ntmps144 ?_;intro β hM;refine g10 ?_;refine kI (cB func107 rfl rfl) (pM _ _ p m0) rfl rfl rfl rfl rfl .nil .nil nR ⟨d7,j1⟩ (λ_=>True) (λ_ _ _ _=>trivial) λ_ _=>?_;refine g2 ?_;refine k_nt (λg=>?_) λg=>?_
 .have f:=g;refine g15 ?_;have m:iI p q s=([],20):=by unfold iI;simp[f]
  rw[m];refine bQ (t:=43) fL ?_;exact pY (none,0) rfl rfl rfl rfl (.c0 .nil) trivial
 have f:=g;refine one ?_;refine kI (cB func107 rfl rfl) (pM _ _ q m0) rfl rfl rfl rfl rfl .nil .nil nR ⟨d8,j1⟩ (λ_=>True) (λ_ _ _ _=>trivial) λ_ _=>?_;refine g4 ?_;refine iK (λh=>?_) λh=>?_
 .have j:=h;refine g8 ?_;have m:iI p q s=([],20):=by unfold iI;simp[f,j]
  rw[m];refine bQ (t:=43) fL ?_;exact pY (none,0) rfl rfl rfl rfl (.c0 .nil) trivial
 have j:=h;have v:=xX f;have hq:=xX j;refine g9 ?_;refine bQ (t:=43) fL ?_;refine g5 ?_;refine sQ (ι:=Nat×List Mono×Option Addr×Nat) (λ⟨i,cur,C,e⟩=>[(0,.slice A p.length c),(1,.slice B q.length d),(2,.int .i64 s),(8,.slice C cur.length e),(9,.int .i64 (i:Nat))]) (λ⟨i,cur,C,e⟩=>[fL.row (.slice C cur.length e) 43 cur]) (λ⟨i,cur,C,e⟩=>[Fact.pure (i<=p.length/\cur=lY [] (p.take i)),fL.sl (.slice A p.length c) p,fL.sl (.slice B q.length d) q]) (λ⟨i,cur,C,e⟩=>p.length-i) (0,[],none,0) ⟨rfl,rfl,rfl,rfl,rfl,j1⟩ (.c0 .nil) ⟨j2 (⟨m0,by rfl⟩),d7,d8,j1⟩ ?_;rintro⟨i,cur,C,e⟩;dsimp only;refine bG d7 λb=>?_;have r:cur.length<=i:=by rw[b.2];exact B1 (rX _ _) s8
 refine g9 ?_;refine fA (λn=>?_) λn=>?_
 .refine g8 ?_;obtain⟨x1,o⟩:=gx p i;refine ss (ixs i) ?_;refine ss (fM hT (dC.knows (bE d8) o 0) rfl rfl rfl rfl rfl) ?_;refine bC func108 (bTm _ _ cur x1 m0) rfl rfl (.c0 .nil) j1 λ⟨B3,c4⟩=>?_;refine g7 ?_;refine inc (i+1) ?_;refine g3 ?_;exact jV (i+1,_,_,_) aa2 ⟨rfl,rfl,rfl,rfl,rfl,j1⟩ (.c0 .nil) ⟨j2 (by refine⟨m0,?_⟩;rw[R6,‹p[i]?=some _›,Z1,bCi,<-b.2]),d8,d9,j1⟩
 refine g12 ?_;refine sQ (ι:=Nat×List Mono×Option Addr×Nat) (λ⟨k,cur,C,e⟩=>[(1,.slice B q.length d),(2,.int .i64 s),(8,.slice C cur.length e),(10,.int .i64 (k:Nat))]) (λ⟨k,cur,C,e⟩=>[fL.row (.slice C cur.length e) 43 cur]) (λ⟨k,cur,C,e⟩=>[Fact.pure (k<=q.length/\cur=lY (lY [] p) ((q.take k).map (bLb s))),fL.sl (.slice B q.length d) q]) (λ⟨k,cur,C,e⟩=>q.length-k) (0,cur,C,e) ⟨rfl,rfl,rfl,rfl,j1⟩ (.c0 .nil) ⟨j2 (⟨m0,by rw[b.2,F6 m0];rfl⟩),d9,j1⟩ ?_;rintro⟨k,cur,C,e⟩;dsimp only;refine bG d7 λa=>?_;have r:cur.length<=p.length+k:=by rw[a.2];refine B1 (rX _ _) ?_;have:=rX p [];simp at this⊢;omega
 refine g9 ?_;refine fA (λhc34=>?_) λhc34=>?_
 .refine g4 ?_;refine cK _ _ [k8,u0,u5,u9,A00,u6,A02,A01,A03,A04,A08,A07,A09,A24,(false,14),A70] cN o8 .nil bA.self ?_;refine g4 ?_;obtain⟨u,l⟩:=gx q k;refine stM rfl (ixs k) ?_;refine one ?_;refine stM rfl (j9 hT (dC.knows (bE d8) l 0)) ?_;refine g3 ?_;refine stM rfl (ixs k) ?_;refine one ?_;refine stM rfl (fM hT (dC.knows (bE d8) l 1) rfl rfl rfl rfl rfl) ?_;refine stM rfl (j7 (built_ne _ _ _ _ _ _ _)) ?_;refine one ?_;refine bC func108 (bTm _ _ cur ⟨_,_,_,_,_,_,_⟩ m0) rfl rfl (.c0 .nil) j1 λ⟨B7,c8⟩=>?_;refine fK .nil ⟨d7,d8,j1⟩ ?_;refine g7 ?_;refine inc (k+1) ?_;refine g3 ?_;exact jV (k+1,_,_,_) aa2 ⟨rfl,rfl,rfl,rfl,j1⟩ (.c0 .nil) ⟨j2 (by refine⟨m0,?_⟩;rw[R6,‹q[k]?=some _›,Z1,L2,T9,bCi,<-a.2,bLb,<-wrap_eq];rfl),d8,j1⟩
 refine g8 ?_;refine kI (cB func109 rfl rfl) (bOv _ _ cur m0) rfl rfl rfl rfl rfl .nil (.c0 .nil) (bCx nR) ⟨d7,j1⟩ (λ_=>True) (λ_ _ _ _=>trivial) λ⟨B9,c10⟩ _=>?_;refine g7 ?_;have m:iI p q s=rM cur:=by unfold iI;rw[f,j,a.2,F6 m0];rfl
 rw[m];exact pY (B9,c10) rfl rfl rfl rfl (.c0 .nil) trivial
theorem refMul_spec(A B:Option Addr)(c d:Nat)(p q:List Mono)(hpl:p.length<=140737488355328)(hql:q.length<=140737488355328):cY prog 72 [.slice A p.length c,.slice B q.length d] [] [fL.sl (.slice A p.length c) p,fL.sl (.slice B q.length d) q] (λ(x:Option Addr×Nat)=> .tuple #[.slice x.1 (qC p q).1.length x.2,k9 (qC p q).2]) (λ(x:Option Addr×Nat)=>[fL.row (.slice x.1 (qC p q).1.length x.2) 43 (qC p q).1]) (λ_=>[]):=by
 have hT:=xH;refine j8 func72 ntmps72 ?_;intro β hM;refine g10 ?_;refine kI (cB func107 rfl rfl) (pM _ _ p m0) rfl rfl rfl rfl rfl .nil .nil nR ⟨d7,j1⟩ (λ_=>True) (λ_ _ _ _=>trivial) λ_ _=>?_;refine g2 ?_;refine k_nt (λh=>?_) λh=>?_
 .have g:=h;refine g15 ?_;have m:qC p q=([],20):=by unfold qC;simp[g]
  rw[m];refine bQ (t:=43) fL ?_;exact pY (none,0) rfl rfl rfl rfl (.c0 .nil) trivial
 have g:=h;refine one ?_;refine kI (cB func107 rfl rfl) (pM _ _ q m0) rfl rfl rfl rfl rfl .nil .nil nR ⟨d8,j1⟩ (λ_=>True) (λ_ _ _ _=>trivial) λ_ _=>?_;refine g4 ?_;refine iK (λj=>?_) λj=>?_
 .have l:=j;refine g8 ?_;have m:qC p q=([],20):=by unfold qC;simp[g,l]
  rw[m];refine bQ (t:=43) fL ?_;exact pY (none,0) rfl rfl rfl rfl (.c0 .nil) trivial
 have l:=j;have v:=xX g;have hq:=xX l;refine g9 ?_;refine bQ (t:=43) fL ?_;refine g5 ?_;refine sQ (ι:=Nat×List Mono×Option Addr×Nat) (λ⟨i,cur,C,e⟩=>[(0,.slice A p.length c),(1,.slice B q.length d),(6,.slice C cur.length e),(7,.int .i64 (i:Nat))]) (λ⟨i,cur,C,e⟩=>[fL.row (.slice C cur.length e) 43 cur]) (λ⟨i,cur,C,e⟩=>[Fact.pure (i<=p.length/\cur=lY [] ((p.take i).flatMap λa=>q.map (mulM a))),fL.sl (.slice A p.length c) p,fL.sl (.slice B q.length d) q]) (λ⟨i,cur,C,e⟩=>p.length-i) (0,[],none,0) ⟨rfl,rfl,rfl,rfl,j1⟩ (.c0 .nil) ⟨j2 (⟨m0,by rfl⟩),d7,d8,j1⟩ ?_;rintro⟨i,cur,C,e⟩;dsimp only;refine bG d7 λf=>?_;have u:cur.length<=i*q.length:=by rw[f.2];exact refMul_len m0
 have s:i*q.length<=48*48:=Nat.mul_le_mul m0 hq;refine g9 ?_;refine fA (λo=>?_) λo=>?_
 .refine g5 ?_;obtain⟨y,hy⟩:=gx p i;refine g5 ?_;refine sQ (ι:=Nat×List Mono×Option Addr×Nat) (λ⟨k,cur',C',e'⟩=>[(0,.slice A p.length c),(1,.slice B q.length d),(6,.slice C' cur'.length e'),(7,.int .i64 (i:Nat)),(8,.int .i64 (k:Nat))]) (λ⟨k,cur',C',e'⟩=>[fL.row (.slice C' cur'.length e') 43 cur']) (λ⟨k,cur',C',e'⟩=>[Fact.pure (k<=q.length/\cur'=lY cur ((q.take k).map (mulM y))),fL.sl (.slice A p.length c) p,fL.sl (.slice B q.length d) q]) (λ⟨k,cur',C',e'⟩=>q.length-k) (0,cur,C,e) ⟨rfl,rfl,rfl,rfl,rfl,j1⟩ (.c0 .nil) ⟨j2 (⟨m0,by rfl⟩),d8,d9,j1⟩ ?_;rintro⟨k,cur',C',e'⟩;dsimp only;refine bG d7 λhinv8=>?_;have r:cur'.length<=cur.length+k:=by rw[hinv8.2];refine B1 (rX _ _) s8
  refine g9 ?_;refine fA (λn=>?_) λn=>?_
  .refine g5 ?_;refine cK _ _ [k8,u0,u5,u9,A00,u6,A02,A01,A03,A04,A08,A07,(false,12),(false,13)] cN o8 (.c0 .nil) bA.self ?_;refine g2 ?_;refine stM rfl (ixs i) ?_;refine one ?_;refine stM rfl (j9 hT (dC.knows (bE d8) hy 0)) ?_;refine g2 ?_;obtain⟨x1,b⟩:=gx q k;refine stM rfl (ixs k) ?_;refine one ?_;refine stM rfl (j9 hT (dC.knows (bE d9) b 0)) ?_;refine one ?_;refine stM rfl (j7 (built_n _)) ?_;refine one ?_;refine j4 monoZero λw=>?_;refine fK (.c1 .nil) ⟨d7,d8,d9,j1⟩ ?_;refine g2 ?_;refine fK (.c1 .nil) ⟨d7,d8,d9,j1⟩ ?_;refine g9 ?_;refine bWp 7 ?_;refine oJ ?_;refine g7 ?_;refine cA rfl m9 ?_;refine g4 ?_;refine cK _ _ [k8,u0,u5,u9,A00,u6,A02,A01,A03,A04,A08,A07,A09,A24,A61,A70,A78,A76,A80] cN o8 (.c1 .nil) bA.self ?_;refine g4 ?_;refine stM rfl (ixs i) ?_;refine one ?_;refine stM rfl (fQ hT (k:=0) rfl rfl rfl rfl rfl rfl m0) ?_;refine stM rfl (j9 hT (dC.knows (bE d8) hy 1)) ?_;refine g3 ?_;refine stM rfl (ixs k) ?_;refine one ?_;refine stM rfl (fQ hT (k:=0) rfl rfl rfl rfl rfl rfl m0) ?_;refine stM rfl (j9 hT (dC.knows (bE d9) b 1)) ?_;refine one ?_;refine bJ (bCl _ _) ?_;refine one ?_;refine stM rfl (fQ hT (k:=0) rfl rfl rfl rfl rfl rfl m0) ?_;refine g2 ?_;refine fK (.c1 .nil) ⟨d7,d8,d9,j1⟩ ?_;refine g6 ?_;refine inc 1 ?_;refine g3 ?_;refine oJ ?_;refine g7 ?_;refine cA rfl m9 ?_;refine g4 ?_;refine cK _ _ [k8,u0,u5,u9,A00,u6,A02,A01,A03,A04,A08,A07,A09,A24,A61,A70,A78,A76,A80] cN o8 (.c1 .nil) bA.self ?_;refine g4 ?_;refine stM rfl (ixs i) ?_;refine one ?_;refine stM rfl (fQ hT (k:=1) rfl rfl rfl rfl rfl rfl m0) ?_;refine stM rfl (j9 hT (dC.knows (bE d8) hy 2)) ?_;refine g3 ?_;refine stM rfl (ixs k) ?_;refine one ?_;refine stM rfl (fQ hT (k:=1) rfl rfl rfl rfl rfl rfl m0) ?_;refine stM rfl (j9 hT (dC.knows (bE d9) b 2)) ?_;refine one ?_;refine bJ (bCl _ _) ?_;refine one ?_;refine stM rfl (fQ hT (k:=1) rfl rfl rfl rfl rfl rfl m0) ?_;refine g2 ?_;refine fK (.c1 .nil) ⟨d7,d8,d9,j1⟩ ?_;refine g6 ?_;refine inc 2 ?_;refine g3 ?_;refine oJ ?_;refine g7 ?_;refine cA rfl m9 ?_;refine g4 ?_;refine cK _ _ [k8,u0,u5,u9,A00,u6,A02,A01,A03,A04,A08,A07,A09,A24,A61,A70,A78,A76,A80] cN o8 (.c1 .nil) bA.self ?_;refine g4 ?_;refine stM rfl (ixs i) ?_;refine one ?_;refine stM rfl (fQ hT (k:=2) rfl rfl rfl rfl rfl rfl m0) ?_;refine stM rfl (j9 hT (dC.knows (bE d8) hy 3)) ?_;refine g3 ?_;refine stM rfl (ixs k) ?_;refine one ?_;refine stM rfl (fQ hT (k:=2) rfl rfl rfl rfl rfl rfl m0) ?_;refine stM rfl (j9 hT (dC.knows (bE d9) b 3)) ?_;refine one ?_;refine bJ (bCl _ _) ?_;refine one ?_;refine stM rfl (fQ hT (k:=2) rfl rfl rfl rfl rfl rfl m0) ?_;refine g2 ?_;refine fK (.c1 .nil) ⟨d7,d8,d9,j1⟩ ?_;refine g6 ?_;refine inc 3 ?_;refine g3 ?_;refine oJ ?_;refine g7 ?_;refine cA rfl m9 ?_;refine g4 ?_;refine cK _ _ [k8,u0,u5,u9,A00,u6,A02,A01,A03,A04,A08,A07,A09,A24,A61,A70,A78,A76,A80] cN o8 (.c1 .nil) bA.self ?_;refine g4 ?_;refine stM rfl (ixs i) ?_;refine one ?_;refine stM rfl (fQ hT (k:=3) rfl rfl rfl rfl rfl rfl m0) ?_;refine stM rfl (j9 hT (dC.knows (bE d8) hy 4)) ?_;refine g3 ?_;refine stM rfl (ixs k) ?_;refine one ?_;refine stM rfl (fQ hT (k:=3) rfl rfl rfl rfl rfl rfl m0) ?_;refine stM rfl (j9 hT (dC.knows (bE d9) b 4)) ?_;refine one ?_;refine bJ (bCl _ _) ?_;refine one ?_;refine stM rfl (fQ hT (k:=3) rfl rfl rfl rfl rfl rfl m0) ?_;refine g2 ?_;refine fK (.c1 .nil) ⟨d7,d8,d9,j1⟩ ?_;refine g6 ?_;refine inc 4 ?_;refine g3 ?_;refine oJ ?_;refine g7 ?_;refine cA rfl m9 ?_;refine g4 ?_;refine cK _ _ [k8,u0,u5,u9,A00,u6,A02,A01,A03,A04,A08,A07,A09,A24,A61,A70,A78,A76,A80] cN o8 (.c1 .nil) bA.self ?_;refine g4 ?_;refine stM rfl (ixs i) ?_;refine one ?_;refine stM rfl (fQ hT (k:=4) rfl rfl rfl rfl rfl rfl m0) ?_;refine stM rfl (j9 hT (dC.knows (bE d8) hy 5)) ?_;refine g3 ?_;refine stM rfl (ixs k) ?_;refine one ?_;refine stM rfl (fQ hT (k:=4) rfl rfl rfl rfl rfl rfl m0) ?_;refine stM rfl (j9 hT (dC.knows (bE d9) b 5)) ?_;refine one ?_;refine bJ (bCl _ _) ?_;refine one ?_;refine stM rfl (fQ hT (k:=4) rfl rfl rfl rfl rfl rfl m0) ?_;refine g2 ?_;refine fK (.c1 .nil) ⟨d7,d8,d9,j1⟩ ?_;refine g6 ?_;refine inc 5 ?_;refine g3 ?_;refine oJ ?_;refine g7 ?_;refine cA rfl m9 ?_;refine g4 ?_;refine cK _ _ [k8,u0,u5,u9,A00,u6,A02,A01,A03,A04,A08,A07,A09,A24,A61,A70,A78,A76,A80] cN o8 (.c1 .nil) bA.self ?_;refine g4 ?_;refine stM rfl (ixs i) ?_;refine one ?_;refine stM rfl (fQ hT (k:=5) rfl rfl rfl rfl rfl rfl m0) ?_;refine stM rfl (j9 hT (dC.knows (bE d8) hy 6)) ?_;refine g3 ?_;refine stM rfl (ixs k) ?_;refine one ?_;refine stM rfl (fQ hT (k:=5) rfl rfl rfl rfl rfl rfl m0) ?_;refine stM rfl (j9 hT (dC.knows (bE d9) b 6)) ?_;refine one ?_;refine bJ (bCl _ _) ?_;refine one ?_;refine stM rfl (fQ hT (k:=5) rfl rfl rfl rfl rfl rfl m0) ?_;refine g2 ?_;refine fK (.c1 .nil) ⟨d7,d8,d9,j1⟩ ?_;refine g6 ?_;refine inc 6 ?_;refine g3 ?_;refine oJ ?_;refine g7 ?_;refine jL rfl m9 ?_;refine g8 ?_;refine bC func108 (bTm _ _ cur' ⟨_,_,_,_,_,_,_⟩ m0) rfl rfl (.c1 .nil) j1 λ⟨B4,c5⟩=>?_;refine g7 ?_;refine inc (k+1) ?_;refine g3 ?_;exact jV (k+1,_,_,_) aa2 ⟨rfl,rfl,rfl,rfl,rfl,j1⟩ (.c0 .nil) ⟨j2 (by refine⟨m0,?_⟩;rw[R6,‹q[k]?=some _›,Z1,L2,T9,bCi,<-hinv8.2,mulM,<-wrap_eq];rfl),d8,d9,j1⟩
  refine g9 ?_;refine inc (i+1) ?_;refine g3 ?_;exact jV (i+1,_,_,_) aa2 ⟨rfl,rfl,rfl,rfl,j1⟩ (.c0 .nil) ⟨j2 (by refine⟨m0,?_⟩;rw[R6,hy,Z1,List.flatMap_append,List.flatMap_singleton,bEg,<-f.2,hinv8.2,F6 m0]),d8,d9,j1⟩
 refine g8 ?_;refine kI (cB func109 rfl rfl) (bOv _ _ cur m0) rfl rfl rfl rfl rfl .nil (.c0 .nil) (bCx nR) ⟨d7,j1⟩ (λ_=>True) (λ_ _ _ _=>trivial) λ⟨B6,c7⟩ _=>?_;refine g7 ?_;have m:qC p q=rM cur:=by unfold qC;rw[g,l,f.2,F6 m0];rfl
 rw[m];exact pY (B6,c7) rfl rfl rfl rfl (.c0 .nil) trivial
end
section
open Go.RowKit Go.Sort Go.Proofs.Tryz
def dX (a b:Int):Prop:=(18446744073709551616:Int)∣a-b
theorem dX.refl(a:Int):dX a a:=by unfold dX;omega
theorem dX.of_eq{a b:Int}(h:a=b):dX a b:=by unfold dX;omega
theorem dX.symm{a b:Int}(h:dX a b):dX b a:=by unfold dX at*;omega
theorem dX.trans{a b c:Int}(h:dX a b)(h2:dX b c):dX a c:=by unfold dX at*;omega
theorem dX.add{a b c d:Int}(h:dX a b)(h2:dX c d):dX (a+c) (b+d):=by unfold dX at*;omega
theorem dX.sub{a b c d:Int}(h:dX a b)(h2:dX c d):dX (a-c) (b-d):=by unfold dX at*;omega
theorem dX.mul{a b:Int}(h:dX a b)(c:Int):dX (a*c) (b*c):=by unfold dX at*;rw[<-Int.sub_mul];exact Int.dvd_trans h (Int.dvd_mul_right _ _)
theorem uO(a:Int):dX (wrap64 a) a:=by unfold dX wrap64;omega
theorem yA(a:Int): -9223372036854775808<=wrap64 a/\wrap64 a<9223372036854775808:=by unfold wrap64;omega
theorem dX.eq{a b:Int}(h:dX a b)(h1: -9223372036854775808<=a/\a<9223372036854775808)(h2: -9223372036854775808<=b/\b<9223372036854775808):a=b:=by unfold dX at h;omega
def bIq (F:Mono->Int):Prop:= ∀a b:Mono,a.key=b.key->F a=F b
def jC (f:Mono->Int):List Mono->Int
 |[]=>0
 |m::l=>f m+jC f l
def lin (F:Mono->Int)(L:List Mono):Int:=jC (λm=>m.n*F m) L
theorem bWo(f g:Mono->Int): ∀l,jC (λm=>f m+g m) l=jC f l+jC g l
 |[]=>rfl
 |m::l=>by simp only[jC,bWo f g l];omega
theorem bSf: ∀l,jC (λ_=>0) l=0
 |[]=>rfl
 |m::l=>by simp only[jC,bSf l];omega
theorem bWy(f:Mono->Int)(c:Int): ∀l,jC (λm=>f m*c) l=jC f l*c
 |[]=>by simp[jC]
 |m::l=>by simp only[jC,bWy f c l,Int.add_mul]
theorem bRd(f:Mono->Mono->Int)(q:List Mono): ∀p,jC (λa=>jC (λb=>f a b) q) p=jC (λb=>jC (λa=>f a b) p) q
 |[]=>by simp only[jC,bSf]
 |a::p=>by simp only[jC,bRd f q p,bWo]
theorem bBv{f g:Mono->Int}: ∀{l:List Mono},(∀m∈l,f m=g m)->jC f l=jC g l
 |[],_=>rfl
 |m::l,h=>by simp only[jC];rw[h m n9,bBv λx hx=>h x ah0]
theorem bOh{f g:Mono->Int}: ∀{l:List Mono},(∀m∈l,dX (f m) (g m))->dX (jC f l) (jC g l)
 |[],_=>dX.refl _
 |m::l,h=>(h m n9).add (bOh λx hx=>h x ah0)
theorem bXm{F:Mono->Int}(hF:bIq F)(k:Mono)(x:Int): ∀L,lin F (setTo k x L)=lin F L+(x-xM k L)*F k
 |[]=>by
  have:F {k with n:=x}=F k:=hF _ _ rfl;simp only[lin,setTo,xM,jC,this];simp
 |m::L=>by
  have b:F {k with n:=x}=F k:=hF _ _ rfl;have a:=bXm hF k x L;unfold lin at a;unfold setTo xM lin
  by_cases h:k.sameE m=true
  .have h2:F m=F k:=hF _ _ (sameE_E.1 h).symm;simp only[if_pos h,jC,b,h2,Int.sub_mul];omega
  .simp only[if_neg h,jC,a];omega
theorem bXx{F:Mono->Int}(hF:bIq F)(m:Mono)(v:Int)(L:List Mono):dX (lin F (zU m v L)) (lin F L+v*F m):=by unfold zU;rw[bXm hF];refine(dX.refl _).add (dX.mul ?_ _);have:=uO (xM m L+v);unfold dX at*;omega
theorem bFb{F:Mono->Int}(hF:bIq F)(g:Mono->Int): ∀(p L:List Mono),dX (lin F (kK g L p)) (lin F L+jC (λm=>g m*F m) p)
 |[],L=>by simp only[kK,jC,Y8];exact dX.refl _
 |m::p,L=>by refine(bFb hF g p (zU m (g m) L)).trans ?_;refine((bXx hF m (g m) L).add (dX.refl _)).trans (dX.of_eq ?_);simp only[jC];omega
theorem bRv{F:Mono->Int}(hF:bIq F)(a:Mono): ∀(q L:List Mono),dX (lin F (rY a L q)) (lin F L+jC (λb=>a.n*b.n*F (mulM a b)) q)
 |[],L=>by simp only[rY,jC,Y8];exact dX.refl _
 |b::q,L=>by refine(bRv hF a q _).trans ?_;refine(((bXx hF (mulM a b) _ L).trans ((dX.refl _).add ((uO _).mul _))).add (dX.refl _)).trans (dX.of_eq ?_);simp only[jC];omega
theorem bSl{F:Mono->Int}(hF:bIq F)(q:List Mono): ∀(p L:List Mono),dX (lin F (mG q L p)) (lin F L+jC (λa=>jC (λb=>a.n*b.n*F (mulM a b)) q) p)
 |[],L=>by simp only[mG,jC,Y8];exact dX.refl _
 |a::p,L=>by refine(bSl hF q p _).trans ?_;refine((bRv hF a q L).add (dX.refl _)).trans (dX.of_eq ?_);simp only[jC];omega
def Fit (L:List Mono):Prop:= ∀m∈L,-9223372036854775808<=m.n/\m.n<9223372036854775808
theorem bVp(m:Mono)(v:Int){L:List Mono}(h:Fit L):Fit (zU m v L):=λy hy=>by
 rcases bLj hy with rfl|hy
 .exact yA _
 .exact h y hy
theorem bEn(g:Mono->Int): ∀(p:List Mono) {L:List Mono},Fit L->Fit (kK g L p)
 |[],_,h=>h
 |_::p,_,h=>bEn g p (bVp _ _ h)
theorem bTh(a:Mono): ∀(q:List Mono) {L:List Mono},Fit L->Fit (rY a L q)
 |[],_,h=>h
 |_::q,_,h=>bTh a q (bVp _ _ h)
theorem bPy(q:List Mono): ∀(p:List Mono) {L:List Mono},Fit L->Fit (mG q L p)
 |[],_,h=>h
 |a::p,_,h=>bPy q p (bTh a q h)
theorem bNp:Fit []:=λ_ h=>by simp at h
def ind (k:Nat)(m:Mono):Int:=if m.key=k then 1 else 0
theorem ext_ind(k:Nat):bIq (ind k):=λa b h=>by unfold ind;rw[h]
theorem mV(F:Mono->Int)(m:Mono)(L:List Mono):lin F (m::L)=m.n*F m+lin F L:=rfl
theorem ind_ne{k:Nat}{m:Mono}(h:m.key≠k):ind k m=0:=if_neg h
theorem ind_self(m:Mono):ind m.key m=1:=if_pos rfl
theorem yK{k:Nat}: ∀{L:List Mono},(∀y∈L,y.key≠k)->lin (ind k) L=0
 |[],_=>rfl
 |m::L,h=>by rw[mV,yK (L:=L) (k:=k) λy hy=>h y ae5,ind_ne (h m n9)];simp
theorem lin_ind{x:Mono}: ∀{L:List Mono},lX L->x∈L->lin (ind x.key) L=x.n
 |[],_,h=>by simp at h
 |m::L,hA,h=>by
  obtain⟨h1,h2⟩:=E5.1 hA;rw[mV]
  rcases E2.1 h with rfl|h
  .rw[yK (L:=L) (k:=x.key) λy hy=>Ne.symm (h1 y hy),ind_self];simp
  .rw[lin_ind h2 h,ind_ne (h1 x h)];simp
theorem bVs{L L':List Mono}(hA:lX L)(hf:Fit L)(hA':lX L')(hf':Fit L')(h: ∀F,bIq F->dX (lin F L) (lin F L')){x:Mono}(hx:x∈qX L):x∈qX L':=by
 obtain⟨hx,h0⟩:=bJx.1 hx;have e:=h _ (ext_ind x.key);rw[lin_ind hA hx]at e;have a:=hf x hx
 by_cases hy: ∃y∈L',y.key=x.key
 .obtain⟨y,hy,b⟩:=hy;rw[<-b,lin_ind hA' hy]at e;have hn:=e.eq a (hf' y hy);rw[eq_of_key b.symm hn]at h0⊢;exact bJx.2 ⟨hy,h0⟩
 .rw[yK λy h1 h2=>hy ⟨y,h1,h2⟩]at e;exact absurd (e.eq a m0) h0
theorem bFq{L L':List Mono}(hA:lX L)(hf:Fit L)(hA':lX L')(hf':Fit L')(h: ∀F,bIq F->dX (lin F L) (lin F L')):qX L=qX L':=
 qU.ext (bAt hA) (bAt hA') λ_=>⟨bVs hA hf hA' hf' h,bVs hA' hf' hA hf λF a=>(h F a).symm⟩
theorem vN: ∀{l:List Mono} {o:Option Mono},gD o l=true->qU l/\(∀a,o=some a-> ∀m∈l,m.key<a.key)/\(∀m∈l,qH m=true)
 |[],_,_=>⟨by simp[qU],n9,n9⟩
 |m::l,none,h=>by
  rw[gD,J3]at h;obtain⟨h1,h2,d⟩:=vN h.2;refine⟨E5.2 ⟨λb c=>h2 m rfl b c,h1⟩,n9,?_⟩;intro x hx
  rcases E2.1 hx with rfl|hx
  .exact h.1
  .exact d x hx
 |m::l,some a,h=>by
  rw[gD,J3,J3,decide_eq_true_eq]at h;obtain⟨h1,h2,d⟩:=vN h.2.2;have e:=(ord_lt _ _).1 h.2.1;refine⟨E5.2 ⟨λb c=>h2 m rfl b c,h1⟩,?_,?_⟩
  .intro g f x hx;obtain rfl:a=g:=Option.some.inj f
   rcases E2.1 hx with rfl|hx
   .exact e
   .exact Nat.lt_trans (h2 m rfl x hx) e
  .intro x hx
   rcases E2.1 hx with rfl|hx
   .exact h.1
   .exact d x hx
theorem right_all{p:List Mono}(h:dH p=true):qU p/\(∀m∈p,qH m=true)/\p.length<=48:=by simp only[dH,J3,decide_eq_true_eq]at h;exact⟨(vN h.2).1,(vN h.2).2.2,h.1⟩
theorem right_fit{p:List Mono}(h:dH p=true):Fit p:=λm a=>by have:=(right_all h).2.1 m a;simp only[qH,decide_eq_true_eq]at this;omega
def bXi (p q:List Mono)(s:Int):List Mono:=kK (λm=>wrap64 (s*m.n)) (kK Mono.n [] p) q
theorem bXw:lX []:=by simp[lX]
theorem bBp(p q:List Mono)(s:Int):lX (bXi p q s):=rR _ _ (rR _ _ bXw)
theorem bKv(p q:List Mono)(s:Int):Fit (bXi p q s):=bEn _ _ (bEn _ _ bNp)
theorem bKp{F:Mono->Int}(hF:bIq F)(p q:List Mono)(s:Int):dX (lin F (bXi p q s)) (lin F p+s*lin F q):=by
 refine(bFb hF _ q _).trans ?_;refine dX.add ((bFb hF _ p _).trans (dX.of_eq ?_)) ?_
 .simp only[lin,jC,Int.zero_add]
 .unfold lin;rw[Y9,<-bWy];refine bOh λm _=>((uO _).mul _).trans (dX.of_eq ?_);rw[Y9 s,Z0,Y9 s,Z0]
theorem bTu{F:Mono->Int}(hF:bIq F)(p q:List Mono):dX (lin F (mG q [] p)) (jC (λa=>jC (λb=>a.n*b.n*F (mulM a b)) q) p):=by refine(bSl hF q p []).trans (dX.of_eq ?_);simp only[lin,jC,Int.zero_add]
theorem bFj(p q:List Mono):lX (mG q [] p):=zG _ _ bXw
theorem bTr(p q:List Mono):Fit (mG q [] p):=bPy _ _ bNp
theorem mulM_comm(a b:Mono):mulM a b=mulM b a:=by simp only[mulM,Y9 a.n,Z2 a.U,Z2 a.T,Z2 a.R,Z2 a.Q,Z2 a.O,Z2 a.N]
theorem bothP_L(p q:List Mono)(s:Int):cD p q s=if dH p&&dH q then kS (bXi p q s)else ([],20):=rfl
theorem add_comm(p q:List Mono):cD p q 1=cD q p 1:=by
 have h:qX (bXi p q 1)=qX (bXi q p 1):=bFq (bBp _ _ _) (bKv _ _ _) (bBp _ _ _) (bKv _ _ _) λF a=>
  (bKp a p q 1).trans ((dX.of_eq m0).trans (bKp a q p 1).symm)
 rw[bothP_L,bothP_L,Bool.and_comm];unfold kS;rw[h]
theorem mul_comm(p q:List Mono):nA p q=nA q p:=by
 have h:qX (mG q [] p)=qX (mG p [] q):=bFq (bFj _ _) (bTr _ _) (bFj _ _) (bTr _ _) λF c=>
  (bTu c p q).trans ((dX.of_eq (by
   rw[bRd];refine bBv λb _=>bBv λa _=>?_
   rw[mulM_comm,Y9 a.n])).trans (bTu c q p).symm)
 unfold nA;rw[Bool.and_comm];unfold kS;rw[h]
end
section
open Go.RowKit Go.Proofs.Tryz
theorem lin_put{F:Mono->Int}(hF:bIq F)(m:Mono): ∀l:List Mono,dX (lin F (pS m l)) (lin F l+m.n*F m)
 |[]=>dX.of_eq (by rw[pS,mV];show _=(0:Int)+_;have:lin F []=0:=rfl;omega)
 |a::l=>by
  have b:=lin_put hF m l;rw[pS];split
  .rw[mV,mV];exact((dX.refl (a.n*F a)).add b).trans (dX.of_eq m0)
  .split
   .rename_i c;have e1:F ⟨wrap64 (a.n+m.n),a.U,a.T,a.R,a.Q,a.O,a.N⟩=F a:=hF _ _ rfl;rw[mV,mV,e1,<-hF a m c];have h:=((uO (a.n+m.n)).mul (F a)).add (dX.refl (lin F l));have e:(a.n+m.n)*F a+lin F l=a.n*F a+lin F l+m.n*F a:=by rw[Int.add_mul];omega
    exact e▸h
   .rw[mV];exact dX.of_eq m0
theorem zD{F:Mono->Int}(hF:bIq F): ∀(l acc:List Mono),dX (lin F (lY acc l)) (lin F acc+lin F l)
 |[],acc=>dX.of_eq (by show lin F acc=_;have:lin F []=0:=rfl;omega)
 |m::l,acc=>by have h:=zD hF l (pS m acc);have h2:=(lin_put hF m acc).add (dX.refl (lin F l));rw[mV];exact h.trans (h2.trans (dX.of_eq m0))
theorem bXf(m:Mono): ∀{l:List Mono},qU l->qU (pS m l)/\ ∀k,m.key<k->(∀y∈l,y.key<k)-> ∀y∈pS m l,y.key<k
 |[],_=>by simp[pS,qU]
 |a::l,h=>by
  obtain⟨h1,h2⟩:=E5.1 h;obtain⟨d,c⟩:=bXf m h2
  have key: ∀y∈pS m (a::l),y.key<=m.key\/y.key<=a.key:=λy hy=>by
   rw[pS]at hy;split at hy
   .rename_i b
    rcases E2.1 hy with rfl|hy
    .exact .inr (B0 _)
    .exact .inr (Y6 (c a.key b h1 y hy))
   .split at hy
    .rcases E2.1 hy with rfl|hy
     .exact .inr (B0 _)
     .exact .inr (Y6 (h1 y hy))
    .rcases E2.1 hy with rfl|hy
     .exact .inl (B0 _)
     .rcases E2.1 hy with rfl|hy
      .exact .inr (B0 _)
      .exact .inr (Y6 (h1 y hy))
  refine⟨?_,λk b e y hy=>?_⟩
  .rw[pS];split
   .rename_i b;exact E5.2 ⟨λy hy=>c a.key b h1 y hy,d⟩
   .split
    .exact E5.2 ⟨λy hy=>h1 y hy,h2⟩
    .refine E5.2 ⟨λy hy=>?_,h⟩
     rcases E2.1 hy with rfl|hy
     .omega
     .have:=h1 y hy;omega
  .have f:=e a (E8 ..)
   rcases key y hy with h|h<;>omega
theorem tY: ∀(l:List Mono) {acc:List Mono},qU acc->qU (lY acc l)
 |[],_,h=>h
 |m::l,_,h=>tY l (bXf m h).1
theorem fit_put{m:Mono}(hm: -9223372036854775808<=m.n/\m.n<9223372036854775808): ∀{l:List Mono},Fit l->Fit (pS m l)
 |[],_=>λy hy=>by
  rw[pS]at hy;rw[K7.1 hy];exact hm
 |a::l,h=>λy hy=>by
  have b:Fit l:=λx hx=>h x (E4 _ hx);rw[pS]at hy;split at hy
  .rcases E2.1 hy with rfl|hy
   .exact h _ (E8 ..)
   .exact fit_put hm b y hy
  .split at hy
   .rcases E2.1 hy with rfl|hy
    .exact yA _
    .exact b y hy
   .rcases E2.1 hy with rfl|hy
    .exact hm
    .exact h y hy
theorem yI: ∀(l:List Mono) {acc:List Mono},Fit l->Fit acc->Fit (lY acc l)
 |[],_,_,h=>h
 |m::l,_,hl,h=>yI l (λx hx=>hl x (E4 _ hx)) (fit_put (hl m (E8 ..)) h)
theorem bPs{l:List Mono}(h:qU l):qX l=l.filter nz:=by unfold qX;have e:(l.filter λm=>m.n !=0)=l.filter nz:=rfl;rw[e];refine List.mergeSort_of_pairwise ?_;refine List.Pairwise.imp (λ{a b} hab=>?_) (h.filter nz);exact decide_eq_true (Y6 hab)
theorem bGw{l L:List Mono}(hf:qU l)(hfit:Fit l)(hA:lX L)(hL:Fit L)(h: ∀F,bIq F->dX (lin F l) (lin F L)):rM l=kS L:=by
 have e:l.filter nz=qX L:=by rw[<-bPs hf];exact bFq hf.apart hfit hA hL h
 unfold rM kS;rw[e]
theorem bWg{F:Mono->Int}(hF:bIq F)(s:Int): ∀q:List Mono,dX (lin F (q.map (bLb s))) (s*lin F q)
 |[]=>dX.of_eq (by show(0:Int)=s*0;simp)
 |m::q=>by have a:=bWg hF s q;rw[N7,mV,mV,Int.mul_add,hF (bLb s m) m rfl];have h:=(uO (s*m.n)).mul (F m);rw[Z0]at h;exact h.add a
theorem bEh(p q:List Mono)(s:Int):iI p q s=cD p q s:=by
 rw[bothP_L];unfold iI
 cases b:dH p with
 |false=>rfl
 |true=>
  cases hq:dH q with
  |false=>rfl
  |true=>
   refine bGw (tY _ (tY _ List.Pairwise.nil)) (yI _ (λy hy=>?_) (yI _ (right_fit b) bNp)) (bBp p q s) (bKv p q s) λF a=>?_
   .obtain⟨x,_,rfl⟩:=R2.1 hy;exact yA _
   .have h1:=zD a (q.map (bLb s)) (lY [] p);have h2:=zD a p [];have c:=bKp a p q s;have h0:lin F []=0:=rfl;exact h1.trans (((h2.trans (dX.of_eq m0)).add (bWg a s q)).trans c.symm)
theorem lin_row{F:Mono->Int}(a:Mono): ∀q:List Mono,dX (lin F (q.map (mulM a))) (jC (λb=>a.n*b.n*F (mulM a b)) q)
 |[]=>dX.refl _
 |b::q=>(((uO (a.n*b.n)).mul (F (mulM a b))).add (lin_row a q))
theorem lin_app(F:Mono->Int): ∀l k:List Mono,lin F (l++k)=lin F l+lin F k
 |[],k=>by show lin F k=(0:Int)+_;omega
 |m::l,k=>by rw[R0,mV,mV,lin_app F l k];omega
theorem lin_flat{F:Mono->Int}(q:List Mono): ∀p:List Mono,dX (lin F (p.flatMap λa=>q.map (mulM a))) (jC (λa=>jC (λb=>a.n*b.n*F (mulM a b)) q) p)
 |[]=>dX.refl _
 |a::p=>by rw[Y4,lin_app];exact(lin_row a q).add (lin_flat q p)
theorem refMul_mul(p q:List Mono):qC p q=nA p q:=by
 unfold qC nA
 cases c:dH p with
 |false=>rfl
 |true=>
  cases hq:dH q with
  |false=>rfl
  |true=>
   refine bGw (tY _ List.Pairwise.nil) (yI _ (λy hy=>?_) bNp) (bFj p q) (bTr p q) λF b=>?_
   .obtain⟨a,_,hy⟩:=List.mem_flatMap.1 hy;obtain⟨x,_,rfl⟩:=R2.1 hy;exact yA _
   .have h1:=zD b (p.flatMap λa=>q.map (mulM a)) [];have h0:lin F []=0:=rfl;exact h1.trans (((dX.of_eq m0).trans (lin_flat q p)).trans (bTu b p q).symm)
theorem refAdd_spec(A B:Option Addr)(c d:Nat)(p q:List Mono)(hpl:p.length<=140737488355328)(hql:q.length<=140737488355328):cY prog 110 [.slice A p.length c,.slice B q.length d] [] [fL.sl (.slice A p.length c) p,fL.sl (.slice B q.length d) q] (λ(x:Option Addr×Nat)=> .tuple #[.slice x.1 (iI p q 1).1.length x.2,k9 (iI p q 1).2]) (λ(x:Option Addr×Nat)=>[fL.row (.slice x.1 (iI p q 1).1.length x.2) 43 (iI p q 1).1]) (λ_=>[]):=by have hT:=xH;refine j8 func110 ntmps110 ?_;intro β hM;refine g10 ?_;refine bC func144 (bEd _ _ _ _ p q 1 m0 m0) rfl rfl .nil ⟨d7,d8,j1⟩ λ⟨A1,c2⟩=>?_;refine g7 ?_;exact pY (A1,c2) rfl rfl rfl rfl (.c0 .nil) trivial
theorem refSub_spec(A B:Option Addr)(c d:Nat)(p q:List Mono)(hpl:p.length<=140737488355328)(hql:q.length<=140737488355328):cY prog 111 [.slice A p.length c,.slice B q.length d] [] [fL.sl (.slice A p.length c) p,fL.sl (.slice B q.length d) q] (λ(x:Option Addr×Nat)=> .tuple #[.slice x.1 (iI p q (-1)).1.length x.2,k9 (iI p q (-1)).2]) (λ(x:Option Addr×Nat)=>[fL.row (.slice x.1 (iI p q (-1)).1.length x.2) 43 (iI p q (-1)).1]) (λ_=>[]):=by have hT:=xH;refine j8 func111 ntmps111 ?_;intro β hM;refine g10 ?_;refine bC func144 (bEd _ _ _ _ p q (-1) m0 m0) rfl rfl .nil ⟨d7,d8,j1⟩ λ⟨A1,c2⟩=>?_;refine g7 ?_;exact pY (A1,c2) rfl rfl rfl rfl (.c0 .nil) trivial
set_option maxRecDepth 100000
set_option maxHeartbeats 1000000 in
theorem rQ(A:Option Addr)(c:Nat)(xs:List Mono)(w:World)(ha:lM w A xs)(hx:xs.length<=140737488355328):
  Calls prog 71 #[.slice A xs.length c] w λe w'=>e= .returned (.bool (lC xs))/\Below w.heap.size w w':=by
 have Ha:=S7 ha;clear ha
 go_enter func71,ntmps71
 go_wp2
 go_loop [3] (λi=> ∃k:Nat,k<=xs.length/\i= .int .i64 k/\Hid (xs.any wW=(xs.drop k).any wW)) (λi=>xs.length-(intOf i).toNat)
 case atStart=>exact⟨0,C4 _,rfl,rfl⟩
 case round=>
  obtain⟨k,hk,rfl,hs⟩:=hrel
  by_cases hlt:k<xs.length
  .obtain⟨m,hm,dm⟩:=nO hlt;obtain⟨b,o,rfl,hB,c0,c1,c2,c3,c4,c5,c6⟩:=Ha.out k m hm;have HS:=S7 (show xs.any wW=(wW m || (xs.drop (k+1)).any wW) by rw[hs.out,dm,X7]);clear hs hm dm hB c1 c2 c3 c4 c5 c6
   by_cases hn:m.n<0
   .have hn1:decide (m.n<0)=true:=by simpa using hn
    go_wp2
    go_ret
    exact⟨gQ (by unfold lC;rw[HS.out,show wW m=true from hn1,Bool.true_or];simp),Below.refl _ _⟩
   .have hn1:decide (m.n<0)=false:=by simpa using hn
    go_wp2
    go_round
    case rel=>exact⟨k+1,m0,by go_num,(by show _=_;rw[HS.out,show wW m=false from hn1,Bool.false_or])⟩
    case measure=>simp[intOf];omega
  .have HS:=S7 (show xs.any wW=false by rw[hs.out,K3 m0];rfl);clear hs
   go_wp2_with fail
   refine(bHf A c xs _ Ha.out hx).mono ?_;rintro e w1 ⟨rfl,hb1⟩
   go_wp2
   go_ret
   exact⟨gQ (by unfold lC;rw[HS.out];simp),hb1⟩
theorem flatE_deg(m:Mono):(((m.deg:Nat):Int)==0)=tQ m:=by
 rw[L7,beq_iff_eq];simp only[tQ,Mono.sameE,J3,beq_iff_eq,Mono.deg]
 have h: ∀e:UInt8,e=0↔e.toNat=0:=λe=>⟨λh=>by rw[h];rfl,λh=>UInt8.toNat_inj.1 (by rw[h];rfl)⟩
 rw[h,h,h,h,h,h];omega
set_option maxHeartbeats 1000000 in
theorem bUl(A:Option Addr)(c:Nat)(xs:List Mono)(n:Int)(w:World)(ha:lM w A xs)(hx:xs.length<=140737488355328):
  Calls prog 112 #[.slice A xs.length c,k9 n] w λe w'=>e= .returned (.bool (fU xs n))/\Below w.heap.size w w':=by
 have Ha:=S7 ha;clear ha;cases hg:lC xs
 .go_enter func112,ntmps112
  go_wp2_with fail
  refine(rQ A c xs _ Ha.out hx).mono ?_;rintro e w1 ⟨rfl,hb1⟩
  go_wp2
  go_ret
  exact⟨gQ (by unfold fU;rw[hg];rfl),hb1⟩
 .by_cases hn:n<=0
  .have hn1:decide (n<=0)=true:=by simpa using hn
   go_enter func112,ntmps112
   go_wp2_with fail
   refine(rQ A c xs _ Ha.out hx).mono ?_;rintro e w1 ⟨rfl,hb1⟩
   go_wp2
   go_ret
   exact⟨gQ ak1,hb1⟩
  .have hn1:decide (n<=0)=false:=by simpa using hn
   rcases S8 xs.length with h0|h0
   .have h01:decide (0<xs.length)=false:=by simp[h0]
    have H0:=S7 h0;clear h0
    go_enter func112,ntmps112
    go_wp2_with fail
    refine(rQ A c xs _ Ha.out hx).mono ?_;rintro e w1 ⟨rfl,hb1⟩
    go_wp2
    go_ret
    have e:xs=[]:=List.eq_nil_of_length_eq_zero H0.out;subst e;exact⟨gQ ak1,hb1⟩
   .have h01:decide (0<xs.length)=true:=by simpa using h0
    obtain⟨m,hm⟩: ∃m,xs[xs.length-1]?=some m:=⟨xs[xs.length-1]'m0,F1 _⟩
    have HL:=S7 (show xs.getLast?=some m by rw[Y1];exact hm);have HM:=S7 hm;clear hm
    go_enter func112,ntmps112
    go_wp2_with fail
    refine(rQ A c xs _ Ha.out hx).mono ?_;rintro e w1 ⟨rfl,hb1⟩;obtain⟨b,o,hA,hB,c0,c1,c2,c3,c4,c5,c6⟩:=Ha.out.below hb1 _ m HM.out;subst hA;have hi:((xs.length:Int)-1).toNat=xs.length-1:=m0
    have H1:=S7 hb1;clear hb1 hB
    go_wp2_with fail
    refine(bFv m _).mono ?_;rintro e w2 ⟨rfl,hb2⟩;have HF:=flatE_deg m;obtain⟨b2,o2,hA2,hB2,k0,_⟩:=Ha.out.below (H1.out.trans (hb2.mono H1.out.size)) _ m HM.out;injection hA2 with hA2
    injection hA2 with hA2 hA3
    subst hA2 hA3;have H2:=S7 (H1.out.trans (hb2.mono H1.out.size));clear hb2 hB2 HM c0 c1 c2 c3 c4 c5 c6;cases hf:tQ m
    .rw[hf]at HF
     go_wp2
     go_ret
     exact⟨gQ ah6,H2.out⟩
    .rw[hf]at HF
     go_wp2
     go_ret
     exact⟨gQ ah6,H2.out⟩
end
section
open Go.RowKit Go.Sort Go.Proofs.Tryz
set_option maxRecDepth 100000
set_option maxHeartbeats 400000 in
theorem refConst_any(n:Int)(w:World):Calls prog 69 #[k9 n] w (zR w (gV n)):=by
 have hbn:=sR
 by_cases h0:n=0
 .have e:gV n=([],0):=by unfold gV;rw[if_pos h0]
  rw[e];subst h0
  go_enter func69,ntmps69
  go_wp2
  go_ret2
  exact⟨_,rfl,Below.refl _ _,Res.nil _ _ _ _⟩
 .have h01:(n==0)=false:=by simpa using h0
  by_cases h1:16777216<n
  .have e:gV n=([],21):=by unfold gV;rw[if_neg h0,if_pos (.inl h1)]
   rw[e];have h11:decide (16777216<n)=true:=by simpa using h1
   go_enter func69,ntmps69
   go_wp2
   go_ret2
   exact⟨_,rfl,Below.refl _ _,Res.nil _ _ _ _⟩
  .have h11:decide (16777216<n)=false:=by simpa using h1
   by_cases h2:n< -16777216
   .have e:gV n=([],21):=by unfold gV;rw[if_neg h0,if_pos (.inr h2)]
    rw[e];have h21:decide (n< -16777216)=true:=by simpa using h2
    go_enter func69,ntmps69
    go_wp2
    go_ret2
    exact⟨_,rfl,Below.refl _ _,Res.nil _ _ _ _⟩
   .have e:gV n=([num0 n],0):=by unfold gV;rw[if_neg h0,if_neg m0]
    rw[e];have h21:decide (n< -16777216)=false:=by simpa using h2
    go_enter func69,ntmps69
    go_wp2
    go_ret2
    exact⟨_,rfl,by go_grown,res_one w (num0 n)⟩
set_option maxHeartbeats 1000000 in
theorem refVar_any(k:Int)(w:World):Calls prog 106 #[k9 k] w (zR w (pG k)):=by
 have hbn:=sR
 by_cases h0:k<0
 .have e:pG k=([],23):=by unfold pG;rw[if_pos (.inl h0)]
  rw[e];have h01:decide (k<0)=true:=by simpa using h0
  go_enter func106,ntmps106
  go_wp2
  go_ret2
  exact⟨_,rfl,Below.refl _ _,Res.nil _ _ _ _⟩
 .by_cases h6:6<=k
  .have e:pG k=([],23):=by unfold pG;rw[if_pos (.inr h6)]
   rw[e];have h01:decide (k<0)=false:=by simpa using h0
   have h61:decide (6<=k)=true:=by simpa using h6
   go_enter func106,ntmps106
   go_wp2
   go_ret2
   exact⟨_,rfl,Below.refl _ _,Res.nil _ _ _ _⟩
  .have hk:k=0\/k=1\/k=2\/k=3\/k=4\/k=5:=m0
   clear h0 h6
   rcases hk with rfl|rfl|rfl|rfl|rfl|rfl
   .go_enter func106,ntmps106
    go_wp2
    go_ret2
    have hg:((w.alloc (.cells #[.int .i64 1,.int .u8 1,.int .u8 0,.int .u8 0,.int .u8 0,.int .u8 0,.int .u8 0] 43)).alloc (.cells #[.int .i64 1,.int .u8 1,.int .u8 0,.int .u8 0,.int .u8 0,.int .u8 0,.int .u8 0] 43)).heap[w.heap.size+1]?=some (.cells #[.int .i64 1,.int .u8 1,.int .u8 0,.int .u8 0,.int .u8 0,.int .u8 0,.int .u8 0] 43):=by rw[<-V6];exact heap_alloc_new _ _
    exact⟨_,rfl,by go_grown,tO (m:=⟨1,1,0,0,0,0,0⟩) hg m0⟩
   .go_enter func106,ntmps106
    go_wp2
    go_ret2
    have hg:((w.alloc (.cells #[.int .i64 1,.int .u8 0,.int .u8 1,.int .u8 0,.int .u8 0,.int .u8 0,.int .u8 0] 43)).alloc (.cells #[.int .i64 1,.int .u8 0,.int .u8 1,.int .u8 0,.int .u8 0,.int .u8 0,.int .u8 0] 43)).heap[w.heap.size+1]?=some (.cells #[.int .i64 1,.int .u8 0,.int .u8 1,.int .u8 0,.int .u8 0,.int .u8 0,.int .u8 0] 43):=by rw[<-V6];exact heap_alloc_new _ _
    exact⟨_,rfl,by go_grown,tO (m:=⟨1,0,1,0,0,0,0⟩) hg m0⟩
   .go_enter func106,ntmps106
    go_wp2
    go_ret2
    have hg:((w.alloc (.cells #[.int .i64 1,.int .u8 0,.int .u8 0,.int .u8 1,.int .u8 0,.int .u8 0,.int .u8 0] 43)).alloc (.cells #[.int .i64 1,.int .u8 0,.int .u8 0,.int .u8 1,.int .u8 0,.int .u8 0,.int .u8 0] 43)).heap[w.heap.size+1]?=some (.cells #[.int .i64 1,.int .u8 0,.int .u8 0,.int .u8 1,.int .u8 0,.int .u8 0,.int .u8 0] 43):=by rw[<-V6];exact heap_alloc_new _ _
    exact⟨_,rfl,by go_grown,tO (m:=⟨1,0,0,1,0,0,0⟩) hg m0⟩
   .go_enter func106,ntmps106
    go_wp2
    go_ret2
    have hg:((w.alloc (.cells #[.int .i64 1,.int .u8 0,.int .u8 0,.int .u8 0,.int .u8 1,.int .u8 0,.int .u8 0] 43)).alloc (.cells #[.int .i64 1,.int .u8 0,.int .u8 0,.int .u8 0,.int .u8 1,.int .u8 0,.int .u8 0] 43)).heap[w.heap.size+1]?=some (.cells #[.int .i64 1,.int .u8 0,.int .u8 0,.int .u8 0,.int .u8 1,.int .u8 0,.int .u8 0] 43):=by rw[<-V6];exact heap_alloc_new _ _
    exact⟨_,rfl,by go_grown,tO (m:=⟨1,0,0,0,1,0,0⟩) hg m0⟩
   .go_enter func106,ntmps106
    go_wp2
    go_ret2
    have hg:((w.alloc (.cells #[.int .i64 1,.int .u8 0,.int .u8 0,.int .u8 0,.int .u8 0,.int .u8 1,.int .u8 0] 43)).alloc (.cells #[.int .i64 1,.int .u8 0,.int .u8 0,.int .u8 0,.int .u8 0,.int .u8 1,.int .u8 0] 43)).heap[w.heap.size+1]?=some (.cells #[.int .i64 1,.int .u8 0,.int .u8 0,.int .u8 0,.int .u8 0,.int .u8 1,.int .u8 0] 43):=by rw[<-V6];exact heap_alloc_new _ _
    exact⟨_,rfl,by go_grown,tO (m:=⟨1,0,0,0,0,1,0⟩) hg m0⟩
   .go_enter func106,ntmps106
    go_wp2
    go_ret2
    have hg:((w.alloc (.cells #[.int .i64 1,.int .u8 0,.int .u8 0,.int .u8 0,.int .u8 0,.int .u8 0,.int .u8 1] 43)).alloc (.cells #[.int .i64 1,.int .u8 0,.int .u8 0,.int .u8 0,.int .u8 0,.int .u8 0,.int .u8 1] 43)).heap[w.heap.size+1]?=some (.cells #[.int .i64 1,.int .u8 0,.int .u8 0,.int .u8 0,.int .u8 0,.int .u8 0,.int .u8 1] 43):=by rw[<-V6];exact heap_alloc_new _ _
    exact⟨_,rfl,by go_grown,tO (m:=⟨1,0,0,0,0,0,1⟩) hg m0⟩
end
section
open Go.RowKit Go.Proofs.Tryz
section
variable {f : FuncId} {args : List Value} {r : List Mono × Int} {p q : PolV}
theorem bKd(hl:r.1.length<=140737488355328)(h:cY prog f args [] [fL.sl (k7 p) p.A,fL.sl (k7 q) q.A] (λx:Option Addr×Nat=> .tuple #[.slice x.1 r.1.length x.2,k9 r.2]) (λx=>[fL.row (.slice x.1 r.1.length x.2) 43 r.1]) (λ_=>[])):
  cY prog f args [] [jU p,jU q] (λx:Option Addr×Nat=> .tuple #[.slice x.1 r.1.length x.2,k9 r.2]) (λ_=>[]) (λx=>[jU ⟨x.1,x.2,r.1⟩]):=by
 have h1:cY prog f args [] [jU p,jU q] (λx:Option Addr×Nat=> .tuple #[.slice x.1 r.1.length x.2,.int .i64 r.2]) (λx=>[fL.row (.slice x.1 r.1.length x.2) 43 r.1]) (λ_=>[]):=
  λS w s k=>h S w s (All.cons (k _ (.head _)).1 (All.cons (k _ (.tail _ (.head _))).1 λg hg=>(by simp at hg)))
 refine spec_step h1 λx β=>?_;refine bS (E:=fL) .head ?_;exact at_fin .nil ⟨(Has.of (.head _)).and (j2 hl),j1⟩
theorem bKq(n:Int):cY prog 69 [k9 n] [] [] (λx:Option Addr×Nat=> .tuple #[.slice x.1 (gV n).1.length x.2,k9 (gV n).2]) (λ_=>[]) (λx=>[jU ⟨x.1,x.2,(gV n).1⟩]):=
 qK (B1 (lJ (bAy n)) m9) λ_ w _ _=>refConst_any n w
theorem refVar9(k:Int):cY prog 106 [k9 k] [] [] (λx:Option Addr×Nat=> .tuple #[.slice x.1 (pG k).1.length x.2,k9 (pG k).2]) (λ_=>[]) (λx=>[jU ⟨x.1,x.2,(pG k).1⟩]):=
 qK (B1 (lJ (bCt k)) m9) λ_ w _ _=>refVar_any k w
theorem bWs(hp:p.A.length<=140737488355328):cY prog 71 [k7 p] [] [jU p] (λ_:Unit=> .bool (lC p.A)) (λ_=>[]) (λ_=>[]):=
 jZ λ_ w a h=>rQ _ _ _ w (lA a (h _ (.head _))) hp
theorem bSq(n:Int)(hp:p.A.length<=140737488355328):cY prog 112 [k7 p,k9 n] [] [jU p] (λ_:Unit=> .bool (fU p.A n)) (λ_=>[]) (λ_=>[]):=
 jZ λ_ w a h=>bUl _ _ _ n w (lA a (h _ (.head _))) hp
theorem refAdd9(hp:p.A.length<=140737488355328)(hq:q.A.length<=140737488355328):cY prog 110 [k7 p,k7 q] [] [jU p,jU q] (λx:Option Addr×Nat=> .tuple #[.slice x.1 (cD p.A q.A 1).1.length x.2,k9 (cD p.A q.A 1).2]) (λ_=>[]) (λx=>[jU ⟨x.1,x.2,(cD p.A q.A 1).1⟩]):=
 bKd (B1 (lJ (oA _ _ _)) m9) (by have h:=refAdd_spec p.I q.I p.cap q.cap p.A q.A hp hq;rw[bEh]at h;exact h)
theorem refSub9(hp:p.A.length<=140737488355328)(hq:q.A.length<=140737488355328):cY prog 111 [k7 p,k7 q] [] [jU p,jU q] (λx:Option Addr×Nat=> .tuple #[.slice x.1 (cD p.A q.A (-1)).1.length x.2,k9 (cD p.A q.A (-1)).2]) (λ_=>[]) (λx=>[jU ⟨x.1,x.2,(cD p.A q.A (-1)).1⟩]):=
 bKd (B1 (lJ (oA _ _ _)) m9) (by have h:=refSub_spec p.I q.I p.cap q.cap p.A q.A hp hq;rw[bEh]at h;exact h)
theorem refMul9(hp:p.A.length<=140737488355328)(hq:q.A.length<=140737488355328):cY prog 72 [k7 p,k7 q] [] [jU p,jU q] (λx:Option Addr×Nat=> .tuple #[.slice x.1 (nA p.A q.A).1.length x.2,k9 (nA p.A q.A).2]) (λ_=>[]) (λx=>[jU ⟨x.1,x.2,(nA p.A q.A).1⟩]):=
 bKd (B1 (lJ (bDm _ _)) m9) (by have h:=refMul_spec p.I q.I p.cap q.cap p.A q.A hp hq;rw[refMul_mul]at h;exact h)
