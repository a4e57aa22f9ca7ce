/- Texts of one proof, one behind the other: PlN, PolyK, PlS, PlT, TysN, TysO, FuH, FullK, FullL, FullM, PlU, PlV. -/
import Derived.Test.YtnfiadlonjediaaGreatDoorM12
import Derived.Test.YtnfiadlonjediaaGreatDoorM7
import Derived.Test.YtnfiadlonjediaaGreatDoorM15
import Derived.Test.YtnfiadlonjediaaGreatDoorM10
import Derived.Test.YtnfiadlonjediaaGreatDoorM14
set_option maxRecDepth 100000
namespace Go.Proofs.YtnfiadlonjediaaGreatDoor
open _root_.List renaming cons_append->eH,getElem?_eq_getElem->D7,take_add_one->W7,getElem?_eq_some_iff->D9,getElem_cons_drop->Y2,take_length->eI,append_nil->P9,length_set->P6,drop_of_length_le->R5,perm_append_comm->aV,eq_nil_of_length_eq_zero->K9,replicate->T9,replicate_succ->X9,ext_getElem->Y0,length_replicate->X2,getElem?_replicate->eJ,getElem?_set_self->P7,getElem?_set_ne->P8
open _root_.Nat renaming le_refl->B8,le_trans->B9,blt->C0
open _root_.Bool renaming and_eq_true->G1
open Sem renaming run_bind->E6
open Result renaming andThen_ok->E8
section
open Go.RowKit Go.Proofs.Tryz
def oneK (i:Int)(y:LifeC)(k:Nat)(s:PlC):PlC:=match (s.laid[k]?).bind id with
 |some q=>if y.to_<i then {s with laid:=s.laid.set k none,free:=if q.size=[]then s.free else s.free++[q]}else s
 |none=>s
def relK (i:Int)(l:List LifeC)(s:PlC):Nat->PlC
 |0=>s
 |k+1=>match l[k]? with
  |some y=>oneK i y k (relK i l s k)
  |none=>relK i l s k
theorem bAt(i:Int): ∀(ys:List LifeC) (r:List (Option SpC)),(relGo i ys r).1.length=r.length
 |[],l=>rfl
 |y::ys,[]=>by simp[relGo]
 |y::ys,none::r=>by simp[relGo,bAt i ys r]
 |y::ys,some q::r=>by
  have:=bAt i ys r;simp only[relGo];split<;>simp[this]
theorem bNz(i:Int)(y:LifeC)(o:Option SpC): ∀(ys:List LifeC) (r:List (Option SpC)),ys.length=r.length->relGo i (ys++[y]) (r++[o])=
  match o with
  |some q=>if y.to_<i then ((relGo i ys r).1++[none],(relGo i ys r).2++(if q.size=[]then []else [q]))else ((relGo i ys r).1++[some q],(relGo i ys r).2)
  |none=>((relGo i ys r).1++[none],(relGo i ys r).2)
 |[],[],_=>by
  cases o with
  |none=>simp[relGo]
  |some q=>
   by_cases h:y.to_<i
   .by_cases a:q.size=[]<;>simp[relGo,h,a]
   .simp[relGo,h]
 |[],_::_,h=>by simp at h
 |_::_,[],h=>by simp at h
 |z::ys,p::r,h=>by
  have c:=bNz i y o ys r ab0
  cases p with
  |none=>
   simp only[eH,relGo,c]
   cases o with
   |none=>rfl
   |some q=>by_cases h1:y.to_<i<;>simp[h1]
  |some p=>
   simp only[eH,relGo,c]
   cases o with
   |none=>
    by_cases a:z.to_<i
    .simp only[a,if_true]
     by_cases b:p.size=[]<;>simp[b]
    .simp[a]
   |some q=>
    by_cases h1:y.to_<i<;>by_cases a:z.to_<i<;>by_cases b:p.size=[]<;>by_cases h4:q.size=[]<;>simp[h1,a,b,h4]
theorem relK_at(i:Int)(l:List LifeC)(s:PlC)(hl:l.length=s.laid.length): ∀k,k<=l.length->relK i l s k={s with laid:=(relGo i (l.take k) (s.laid.take k)).1++s.laid.drop k,free:=s.free++(relGo i (l.take k) (s.laid.take k)).2}
 |0,_=>by simp[relK,relGo]
 |k+1,h=>by
  have j:=relK_at i l s hl k k9
  obtain⟨y,f⟩: ∃y,l[k]?=some y:=⟨_,D7 k9⟩
  obtain⟨o,ho⟩: ∃o,s.laid[k]?=some o:=⟨_,D7 k9⟩
  have p:l.take (k+1)=l.take k++[y]:=by rw[W7,f];rfl
  have n:s.laid.take (k+1)=s.laid.take k++[o]:=by rw[W7,ho];rfl
  have c:s.laid.drop k=o::s.laid.drop (k+1):=by
   obtain⟨hlt,e⟩:=D9.1 ho;rw[<-e,Y2 hlt]
  have a:((relGo i (l.take k) (s.laid.take k)).1).length=k:=by
   rw[bAt];simp;omega
  rw[p,n,bNz i y o _ _ n9];simp only[relK,f];rw[j];generalize relGo i (l.take k) (s.laid.take k)=g at a
  have d:(g.1++s.laid.drop k)[k]?=some o:=by
   rw[List.getElem?_append_right k9,a,Nat.sub_self,c];rfl
  have b: ∀z,(g.1++s.laid.drop k).set k z=g.1++z::s.laid.drop (k+1):=λz=>by
   rw[List.set_append_right _ _ k9,a,Nat.sub_self,c];rfl
  unfold oneK;simp only[d,Option.bind_some,id]
  cases o with
  |none=>simp[c]
  |some q=>
   by_cases h1:y.to_<i
   .simp only[h1,if_true,b]
    by_cases m:q.size=[]<;>simp[m]
   .simp[h1,c]
theorem relK_eq(i:Int)(l:List LifeC)(s:PlC)(hl:l.length=s.laid.length):relK i l s l.length=relC i l s:=by
 rw[relK_at i l s hl _ (B8 _),eI,hl,eI,List.drop_length,P9];rfl
theorem relK_len(i:Int)(l:List LifeC)(s:PlC): ∀k,(relK i l s k).laid.length=s.laid.length
 |0=>rfl
 |k+1=>by
  have a:=relK_len i l s k;unfold relK;split
  .unfold oneK;split
   .split
    .show(((relK i l s k).laid).set k none).length=_;rw[P6,a]
    .exact a
   .exact a
  .exact a
theorem bBw{f:FuncId}{args:List Value}{Pre:List bE}{r:List Mono×Int}(hl:r.1.length<=8796093022208)(h: ∀S w,(∀b,S b->b<w.heap.size)->All Pre S w->Calls prog f args.toArray w (bJm w r)):
  bZ prog f args [] Pre (λx:Option Addr×Nat=> .tuple #[.slice x.1 r.1.length x.2,j5 r.2]) (λ_=>[]) (λx=>[fB ⟨x.1,x.2,r.1⟩]):=λS w s k=>by
 refine(h S w (λb hb=>(s.zone b hb).1) k).mono ?_;intro e p hg;obtain⟨v,rfl,hb,A,c,rfl,hr⟩:=hg;refine⟨(A,c),λb=>S b\/(w.heap.size<=b/\b<p.heap.size),rfl,⟨oM.of_below _ hb,λc i=>by simp at i,λc i=>by simp at i,List.Pairwise.nil,λb j=>?_⟩,All.cons ⟨?_,hl⟩ (λg hg=>by simp at hg)⟩
 .rcases j with h|h
  .exact⟨Nat.lt_of_lt_of_le (s.zone b h).1 hb.size,.inl h⟩
  .exact⟨h.2,.inr (.inr h.1)⟩
 .rcases hr with hr|⟨g,rfl,hg,hr⟩
  .exact⟨A,c,rfl,λk m d=>by
    have hr:r.1=[]:=hr
    simp[hr]at d⟩
  .have q:=hr.monos;obtain⟨z,y,e,h⟩:=sl_of (c:=c) q;injection e with a n l
   subst a;refine⟨_,c,rfl,λk m d=>?_⟩;obtain⟨b,o,u,a,n,l,t⟩:=h k m d;injection a with a
   injection a with a e5
   subst a;exact⟨_,o,u,by rw[e5],.inr ⟨hg,n⟩,l,t⟩
theorem bGp{p:List Mono}(h:cJ p=true):p.length<=48:=by
 simp only[cJ,G1,decide_eq_true_eq]at h;exact h.1
theorem bFn(L:List Mono):cJ (gM L).1=true/\((gM L).2≠0->(gM L).1=[]):=by
 unfold gM;split
 .rename_i h;exact⟨h,λh=>absurd rfl h⟩
 .exact⟨rfl,λ_=>rfl⟩
theorem both_right(p q:List Mono)(s:Int):cJ (bothP p q s).1=true:=by
 unfold bothP;split
 .exact(bFn _).1
 .rfl
theorem mul_right(p q:List Mono):cJ (nW p q).1=true:=by
 unfold nW;split
 .exact(bFn _).1
 .rfl
theorem const_right(n:Int):cJ (kP n).1=true:=by
 unfold kP;split
 .rfl
 .split
  .rfl
  .rename_i h0 h1;simp only[not_or,Int.not_lt]at h1;simp[cJ,dN,num0,gL,h0,Mono.deg,h1]
section
variable (p q : PolV)
theorem add_spec(hp:p.list.length<=140737488355328)(hq:q.list.length<=140737488355328):bZ prog 96 [j0 p,j0 q] [] [fB p,fB q] (λx:Option Addr×Nat=> .tuple #[.slice x.1 (bothP p.list q.list 1).1.length x.2,j5 (bothP p.list q.list 1).2]) (λ_=>[]) (λx=>[fB ⟨x.1,x.2,(bothP p.list q.list 1).1⟩]):=
 bBw (B9 (bGp (both_right _ _ _)) l5) λ_ w a h=>add_any _ _ _ _ _ _ w (mE a (h _ (.head _))) (mE a (h _ (.tail _ (.head _)))) hp hq
theorem mul_spec(hp:p.list.length<=140737488355328)(hq:q.list.length<=140737488355328):bZ prog 94 [j0 p,j0 q] [] [fB p,fB q] (λx:Option Addr×Nat=> .tuple #[.slice x.1 (nW p.list q.list).1.length x.2,j5 (nW p.list q.list).2]) (λ_=>[]) (λx=>[fB ⟨x.1,x.2,(nW p.list q.list).1⟩]):=
 bBw (B9 (bGp (mul_right _ _)) l5) λ_ w a h=>mul_any _ _ _ _ _ _ w (mE a (h _ (.head _))) (mE a (h _ (.tail _ (.head _)))) hp hq
theorem const_spec(n:Int):bZ prog 93 [j5 n] [] [] (λx:Option Addr×Nat=> .tuple #[.slice x.1 (kP n).1.length x.2,j5 (kP n).2]) (λ_=>[]) (λx=>[fB ⟨x.1,x.2,(kP n).1⟩]):=
 bBw (B9 (bGp (const_right n)) l5) λ_ w _ _=>const_any n w
end
section
variable {R : Option (List Mono)} {l : List (List Mono)} {n p : List Mono} {i : Nat}
theorem size_ok'(h:R=pI (l.drop i) n)(hx:l[i]?=some p)(he:(nW n p).2=0):R=pI (l.drop (i+1)) (nW n p).1:=by
 obtain⟨hlt,e⟩:=D9.1 hx;rw[h,<-Y2 hlt,e,pI,if_pos he]
theorem size_bad'(h:R=pI (l.drop i) n)(hx:l[i]?=some p)(he:(nW n p).2≠0):R=none:=by
 obtain⟨hlt,e⟩:=D9.1 hx;rw[h,<-Y2 hlt,e,pI,if_neg he]
theorem uS(h:R=pI (l.drop i) n)(hi:l.length<=i):R=some n:=by
 rw[h,R5 hi,pI]
end
section
variable {sides : List (List Mono)} {b i : Nat} {again : Bool} {s : PlC} {n : List Mono} {q : SpC}
theorem lay_size(h:qZ sides=none):layC sides b again s=none:=by unfold layC;rw[h]
theorem lay_take(h:qZ sides=some n)(ha:again=true)(hn:n≠[])(hi:s.free.findIdx? (λy=>decide (y.size=n))=some i)(hq:s.free[i]?=some q):layC sides b again s=some {s with free:=s.free.eraseIdx i,laid:=s.laid.set b (some q),ats:=s.ats.set b q.at_}:=by
 unfold layC bDb;rw[h];simp only[ha,hn,ne_eq,not_false_eq_true,and_self,if_true,hi,hq]
theorem bTd(hf:again=false\/s.free.findIdx? (λy=>decide (y.size=n))=none):bDb n again s.free=none:=by
 unfold bDb
 rcases hf with hf|hf
 .rw[if_neg (by simp[hf])]
 .split
  .rw[hf]
  .rfl
theorem lay_new(h:qZ sides=some n)(hf:again=false\/s.free.findIdx? (λy=>decide (y.size=n))=none)(he:(bothP s.end_ n 1).2=0):layC sides b again s=some {s with end_:=(bothP s.end_ n 1).1,laid:=s.laid.set b (some ⟨s.end_,n⟩),ats:=s.ats.set b s.end_}:=by
 unfold layC;rw[h];simp only[bTd hf,he,if_true]
theorem bVi(h:qZ sides=some n)(hf:again=false\/s.free.findIdx? (λy=>decide (y.size=n))=none)(he:(bothP s.end_ n 1).2≠0):layC sides b again s=none:=by
 unfold layC;rw[h];simp only[bTd hf,he,if_false]
end
section
variable {st : PSt} {pool fs : List SpotV} {s : PlC} {M i : Nat} {x : SpotV} {n : List Mono}
theorem gJ.ne(h:gJ st pool s fs M)(hx:x∈fs):sz x≠[]:=by
 obtain⟨k,r,a,hr⟩:=bFt.1 (h.flat.mem_iff.2 hx);exact(h.ok k r a).2.2.2.2 x hr
theorem gJ.free_ne(h:gJ st pool s fs M){q:SpC}(hi:s.free.findIdx? (λy=>decide (y.size=n))=some i)(hq:s.free[i]?=some q):n≠[]:=by
 have h1:=List.findIdx?_eq_some_iff_getElem.1 hi;obtain⟨hlt,b,_⟩:=h1;obtain⟨_,e⟩:=D9.1 hq;rw[e]at b;have hn:q.size=n:=by simpa using b
 have d:q∈fs.map SpotV.c:=by rw[h.free];exact List.mem_of_getElem? hq
 obtain⟨x,hx,a⟩:=List.mem_map.1 d;have:=h.ne hx;rw[<-hn,<-a];exact this
theorem rel_new(h:gJ st pool s fs M)(b:Nat)(hb:b<s.laid.length)(n e:PolV)(he:e.list=(bothP s.end_ n.list 1).1):gJ {st with kv:=setS b ⟨st.end_,n,0⟩ st.kv,end_:=e} (⟨st.end_,n,0⟩::pool) {s with end_:=(bothP s.end_ n.list 1).1,laid:=s.laid.set b (some ⟨s.end_,n.list⟩),ats:=s.ats.set b s.end_} fs M:=by
 have h1:=rel_end (rel_laid (h.wide ⟨st.end_,n,0⟩) b hb (List.mem_cons_self ..) (s.ats.set b s.end_)) e _ he
 have a:(⟨st.end_,n,0⟩:SpotV).c=⟨s.end_,n.list⟩:=by
  show SpC.mk st.end_.list n.list=_;rw[h.end_]
 rw[a]at h1;exact h1
end
section
variable {P : Program} {β : dE} {n : Nat} {Γ : Env} {H : List bC} {F : List bE} {Q : Exit -> Act -> World -> Prop}
theorem bPg{ι:Type}{c:Code}(Δ:Env)(hΔ:Γ.Sub Δ)(G:ι->Env)(HH:ι->List bC)(FF:ι->List bE)(μ:ι->Nat)(x0:ι)(hG:Γ.Sub (G x0))(hH:H.Perm (HH x0))(hF:bA F (FF x0))
  (round: ∀x,At β n (G x++Δ) (HH x) (FF x++F) (c.wp P (Exit.then (Back β n (λx=>G x++Δ) HH (λx=>FF x++F) μ (μ x)) Q))):At β n Γ H F ((Code.loop c).wp P Q):=
 dW hH (at_loop (λx=>G x++Δ) HH (λx=>FF x++F) μ x0 (hG.append hΔ) Sel.self (hF.append bA.self) round)
theorem pB{ι:Type}{G:ι->Env}{Δ:Env}{HH:ι->List bC}{FF:ι->List bE}{F0:List bE}{μ:ι->Nat}{m:Nat}(x:ι)(hμ:μ x<m)(hG:Γ.Sub (G x))(hΔ:Γ.Sub Δ)(hH:H.Perm (HH x))(hF:bA F (FF x))(hF0:bA F F0):
  At β n Γ H F (Back β n (λx=>G x++Δ) HH (λx=>FF x++F0) μ m):=
 dW hH (at_back (G:=λx=>G x++Δ) (FF:=λx=>FF x++F0) x hμ (hG.append hΔ) Sel.self (hF.append hF0))
end
section
variable {st : PSt} {pool fs : List SpotV} {s : PlC} {M b : Nat} {i : Int} {y : LifeC} {q : SpotV}
theorem one_none(h:gJ st pool s fs M)(hg:rT b st.kv=none):oneK i y b s=s:=by
 have:=h.laid b;rw[hg]at this;unfold oneK;rw[<-this];rfl
theorem one_stay(h:gJ st pool s fs M)(hg:rT b st.kv=some q)(hi: ¬y.to_<i):oneK i y b s=s:=by
 have:=h.laid b;rw[hg]at this;unfold oneK;rw[<-this];simp only[Option.map_some];rw[if_neg hi]
theorem one_gone(h:gJ st pool s fs M)(hg:rT b st.kv=some q)(hi:y.to_<i):oneK i y b s={s with laid:=s.laid.set b none,free:=if sz q=[]then s.free else s.free++[q.c]}:=by
 have:=h.laid b;rw[hg]at this;unfold oneK;rw[<-this];simp only[Option.map_some];rw[if_pos hi];rfl
theorem zY{ls:List LifeC}{k:Nat}(h:ls[k]?=some y):relK i ls s (k+1)=oneK i y k (relK i ls s k):=by
 show(match ls[k]? with|some y=>oneK i y k (relK i ls s k)|none=>relK i ls s k)=_;rw[h]
theorem lc_at{l:List dQ}{k:Nat}{u:dQ}(h:l[k]?=some u):(lc l)[k]?=some u.c:=by
 show(l.map dQ.c)[k]?=_;rw[List.getElem?_map,h];rfl
end
theorem delS_V(k:Int): ∀kv,bKy k (kvV kv)=kvV (delS k kv)
 |[]=>rfl
 |p::r=>by
  show(if k==p.1 then kvV r else (p.1,spV p.2)::bKy k (kvV r))=_;unfold delS;split
  .rfl
  .rw[delS_V k r];rfl
theorem spotZero(w:World):(zeroValue 214).run prog w= .ok (.agg #[.slice none 0 0,.slice none 0 0,j5 0]) w:=by
 obtain⟨i,a,hz,_⟩:=yM;simp[zeroValue,typeInfo,a,hz]
theorem nL(a0:Option Addr)(l0 c0:Nat)(a1:Option Addr)(l1 c1:Nat):prog.built 214 [(0,.slice a0 l0 c0),(1,.slice a1 l1 c1)]=some #[.slice a0 l0 c0,.slice a1 l1 c1,j5 0]:=l4
theorem lay_spec(pb mb:Nat)(st:PSt)(pool fs:List SpotV)(s:PlC)(M:Nat)(h:gJ st pool s fs M)(hM:M<=70000000)(b:Nat)(hb:b<s.laid.length)(sides:Sl PolV)(again:Bool):bZ prog 40 [.pointer (some ⟨pb,0,none⟩),j5 (b:Nat),j0 sides,.bool again] (plH pb mb st) [fB st.end_,bE.each pool mB,tV sides] (λ(x:PSt×List SpotV×List SpotV×PolV)=> .tuple #[j0 x.2.2.2,j5 (if (layC (polsL sides.list) b again s).isSome then 0 else 140)]) (λ(x:PSt×List SpotV×List SpotV×PolV)=>plH pb mb x.1) (λ(x:PSt×List SpotV×List SpotV×PolV)=>[fB x.1.end_,bE.each x.2.1 mB,fB x.2.2.2,bE.pure (∀s',layC (polsL sides.list) b again s=some s'->gJ x.1 x.2.1 s' x.2.2.1 (M+2)/\s'.ats=s.ats.set b x.2.2.2.list)]):=by
 have hT:=fI;generalize o:qZ (polsL sides.list)=R;refine i7 func40 ntmps40 ?_;intro β hM;refine fS<|bP (iY.sl (.slice sides.addr sides.list.length sides.cap) sides.list) (qM d9) ?_;refine bM (wL e6) λr=>?_;have J:=r.1;have I:=r.2;refine g7 ?_;refine f7 func93 (const_spec 1) .nil e8 λG=>?_;refine g16 ?_;refine bY (ι:=PolV×Nat) [(0,_),(1,_),(3,_),(24,_),(25,_)] ⟨rfl,rfl,rfl,rfl,rfl,e8⟩ (λ⟨cur,i⟩=>[(10,.slice cur.addr cur.list.length cur.cap),(26,.int .i64 (i:Nat))]) (λ_=>[]) (λ⟨cur,i⟩=>[bE.pure (i<=sides.list.length/\R=pI ((polsL sides.list).drop i) cur.list),fB cur]) (λ⟨cur,i⟩=>sides.list.length-i) (⟨G.1,G.2,(kP 1).1⟩,0) ⟨rfl,rfl,e8⟩ .nil ⟨e9 (⟨k9,by rw[<-o];rfl⟩),d7,e8⟩ ?_;rintro⟨cur,i⟩;dsimp only;refine bM d7 λd=>?_;refine g6 ?_;refine fD (λz=>?_) λz=>?_
 .refine g5 ?_;obtain⟨x,hx⟩:=gx sides.list i;refine bP (fB x) (Has.each (qJ (Has.of mT6)) (f4 hx)) ?_;refine one ?_;refine ss (ixs i) ?_;refine ss (jB hx 0) ?_;refine g12 ?_;refine bM (gI d9) λk=>bM (gI d7) λD=>?_;refine f7 func94 (mul_spec (p:=cur) (q:=x) k D) .nil ⟨d9,d7,e8⟩ λE=>?_;refine g13 ?_;refine bEw (λy=>?_) λy=>?_
  .refine g12 ?_;have hl:layC (polsL sides.list) b again s=none:=lay_size (o.trans (size_bad' d.2 (cW hx) ‹_›));exact sC (st,pool,fs,⟨none,0,[]⟩) rfl (rv_tmp rfl) (rv_tmp rfl) (.c0 (.c0 (.cons .head Sel.self))) ⟨Has.of mT6,Has.of mT7,polF_nil,e9 (λs' c=>by rw[hl]at c;cases c),e8⟩ aa8
  refine g5 ?_;refine inc (i+1) ?_;refine g3 ?_;exact iC (⟨E.1,E.2,(nW cur.list x.list).1⟩,i+1) n3 ⟨rfl,rfl,e8⟩ ⟨rfl,rfl,rfl,rfl,rfl,e8⟩ (.c0 (.c0 (.cons .head Sel.self))) ⟨e9 (⟨by dsimp only;omega,size_ok' d.2 (cW hx) ‹_›⟩),d7,e8⟩ (bA.drop 4)
 refine g11 ?_;refine uY (λm=>?_) λm=>?_
 .refine g4 ?_;refine bG func95 (take_spec pb mb st pool fs s M h k9 cur) rfl rfl Split.all ⟨d8,Has.of mT5,e8⟩ λK=>?_;rw[P9];refine bM d7 λe=>?_;obtain⟨a,A,_|q⟩:=K
  .dsimp only at e⊢;have j:a.end_=st.end_:=e.2.1;refine bP (fB a.end_) (j.symm▸(Has.of mT5)) ?_;refine g3 ?_;refine f9 wH λQ=>?_;refine g19 ?_;refine ss (cC rfl rfl (nL _ _ _ _ _ _)) ?_;refine f9 wH λP=>?_;refine g4 ?_;refine dC _ _ [(true,0),(true,1),(true,2),(true,3),(true,4),(true,5),(false,6)] dJ l8 (.c0 (.c0 (.c0 (.c0 (Sel.skip Sel.self))))) bA.self ?_;refine g7 ?_;refine rQ kT4 rfl (.inl rfl) rfl underlying102 underlying3 rfl rfl rfl ?_;have g:=setS_V (b:Nat) (⟨a.end_,cur,0⟩:SpotV) a.kv;unfold spV at g;rw[show bCk ((b:Nat):Int) (.agg #[.slice a.end_.addr a.end_.list.length a.end_.cap,.slice cur.addr cur.list.length cur.cap,.int .i64 0]) (kvV a.kv)=kvV (setS ((b:Nat):Int) (⟨a.end_,cur,0⟩:SpotV) a.kv)from g];refine bCd (.c1 (.c1 (.c1 (.c1 (Sel.skip Sel.self))))) (bA.drop 0) ?_;refine g9 ?_;refine bM (gI d7) λhel=>bM (gI e6) λk=>?_;refine f7 func96 (add_spec (p:=a.end_) (q:=cur) hel k) .nil ⟨d7,e6,e8⟩ λC=>?_;refine g14 ?_;refine bEw (λl=>?_) λl=>?_
   .refine g8 ?_;have f:qZ (polsL sides.list)=some cur.list:=o.trans (uS d.2 o8);have hl:=bVi (b:=b) (again:=again) f (.inr e.1.2) (by rw[<-e.1.1.end_];assumption);exact sC ({a with kv:=setS ((b:Nat):Int) (⟨a.end_,cur,0⟩:SpotV) a.kv},pool,fs,⟨none,0,[]⟩) rfl (rv_tmp rfl) (rv_tmp rfl) (.c3 (.c3 (.c0 (Sel.skip (Sel.skip Sel.self))))) ⟨d8,Has.of mT8,polF_nil,e9 (λs' c=>by rw[hl]at c;cases c),e8⟩ aa8
   refine g20 ?_;have f:qZ (polsL sides.list)=some cur.list:=o.trans (uS d.2 o8);have hl:=lay_new (b:=b) (again:=again) f (.inr e.1.2) (by rw[<-e.1.1.end_];assumption);have n:=rel_new e.1.1 b hb cur ⟨C.1,C.2,(bothP a.end_.list cur.list 1).1⟩ (by rw[e.1.1.end_]);refine bP (bE.each ((⟨a.end_,cur,0⟩:SpotV)::pool) mB) (Has.each_cons (Has.and d8 e7) (Has.of mT8)) ?_;exact sC ({{a with kv:=setS ((b:Nat):Int) (⟨a.end_,cur,0⟩:SpotV) a.kv}with end_:=⟨C.1,C.2,(bothP a.end_.list cur.list 1).1⟩},((⟨a.end_,cur,0⟩:SpotV)::pool),A,a.end_) rfl (rv_tmp rfl) (rv_tmp rfl) (.c0 (.c3 (.c0 (Sel.skip (Sel.skip Sel.self))))) ⟨d8,d7,d9,e9 (λs' c=>by rw[hl]at c;cases c;exact⟨n.more k9,by rw[e.1.1.end_]⟩),e8⟩ aa8
  dsimp only at e⊢;have j:a.end_=st.end_:=e.2.1;refine bP (fB a.end_) (j.symm▸(Has.of mT5)) ?_;obtain⟨u,L,w,v,t⟩:=e.1;refine g3 ?_;refine f9 wH λO=>?_;refine g11 ?_;refine dC _ _ [(true,0),(true,1),(true,2),(true,3),(true,4),(true,5),(false,6)] dJ l8 (.c0 (.c0 (.c0 (Sel.skip Sel.self)))) bA.self ?_;refine g7 ?_;refine rQ kT3 rfl (.inl rfl) rfl underlying102 underlying3 rfl rfl rfl ?_;have g:=setS_V (b:Nat) q a.kv;unfold spV at g;rw[show bCk ((b:Nat):Int) (.agg #[.slice q.at_.addr q.at_.list.length q.at_.cap,.slice q.size.addr q.size.list.length q.size.cap,.int .i64 q.since]) (kvV a.kv)=kvV (setS ((b:Nat):Int) q a.kv)from g];refine bCd (.c1 (.c1 (.c1 (Sel.skip Sel.self)))) (bA.drop 0) ?_;refine g12 ?_;have f:qZ (polsL sides.list)=some cur.list:=o.trans (uS d.2 o8);have hl:=lay_take (b:=b) (again:=again) f ‹_› (h.free_ne v w) v w;exact sC ({a with kv:=setS ((b:Nat):Int) q a.kv},pool,A,q.at_) rfl (rv_tmp rfl) (rv_tmp rfl) (.c2 (.c2 (.c0 (Sel.skip Sel.self)))) ⟨d7,Has.of mT7,spotsF_at (Has.of mT7) u,e9 (λs' c=>by rw[hl]at c;cases c;exact⟨(rel_laid t b hb u _).more k9,rfl⟩),e8⟩ aa8
 refine g9 ?_;refine ss (cC rfl rfl (nL _ _ _ _ _ _)) ?_;refine f9 wH λN=>?_;refine g4 ?_;refine dC _ _ [(true,0),(true,1),(true,2),(true,3),(true,4),(true,5),(false,6)] dJ l8 (.c0 (.c0 (.c0 (Sel.skip Sel.self)))) bA.self ?_;refine g7 ?_;refine rQ kT3 rfl (.inl rfl) rfl underlying102 underlying3 rfl rfl rfl ?_;have g:=setS_V (b:Nat) (⟨st.end_,cur,0⟩:SpotV) st.kv;unfold spV at g;rw[show bCk ((b:Nat):Int) (.agg #[.slice st.end_.addr st.end_.list.length st.end_.cap,.slice cur.addr cur.list.length cur.cap,.int .i64 0]) (kvV st.kv)=kvV (setS ((b:Nat):Int) (⟨st.end_,cur,0⟩:SpotV) st.kv)from g];refine bCd (.c1 (.c1 (.c1 (Sel.skip Sel.self)))) (bA.drop 0) ?_;refine g9 ?_;refine bM (gI e7) λhel=>bM (gI d8) λk=>?_;refine f7 func96 (add_spec (p:=st.end_) (q:=cur) hel k) .nil ⟨e7,d8,e8⟩ λB=>?_;refine g14 ?_;refine bEw (λl=>?_) λl=>?_
 .refine g8 ?_;have f:qZ (polsL sides.list)=some cur.list:=o.trans (uS d.2 o8);have hl:=bVi (b:=b) (again:=again) f (.inl (by simpa using m)) (by rw[<-h.end_];assumption);exact sC ({st with kv:=setS ((b:Nat):Int) (⟨st.end_,cur,0⟩:SpotV) st.kv},pool,fs,⟨none,0,[]⟩) rfl (rv_tmp rfl) (rv_tmp rfl) (.c2 (.c2 (.c0 (Sel.skip Sel.self)))) ⟨Has.of mT5,Has.of mT6,polF_nil,e9 (λs' c=>by rw[hl]at c;cases c),e8⟩ aa8
 refine g20 ?_;have f:qZ (polsL sides.list)=some cur.list:=o.trans (uS d.2 o8);have hl:=lay_new (b:=b) (again:=again) f (.inl (by simpa using m)) (by rw[<-h.end_];assumption);have n:=rel_new h b hb cur ⟨B.1,B.2,(bothP st.end_.list cur.list 1).1⟩ (by rw[h.end_]);refine bP (bE.each ((⟨st.end_,cur,0⟩:SpotV)::pool) mB) (Has.each_cons (Has.and (Has.of mT5) d9) (Has.of mT6)) ?_;exact sC ({{st with kv:=setS ((b:Nat):Int) (⟨st.end_,cur,0⟩:SpotV) st.kv}with end_:=⟨B.1,B.2,(bothP st.end_.list cur.list 1).1⟩},((⟨st.end_,cur,0⟩:SpotV)::pool),fs,st.end_) rfl (rv_tmp rfl) (rv_tmp rfl) (.c0 (.c2 (.c0 (Sel.skip Sel.self)))) ⟨d8,d7,Has.of mT6,e9 (λs' c=>by rw[hl]at c;cases c;exact⟨n.more k9,by rw[h.end_]⟩),e8⟩ aa8
theorem release_spec(pb mb:Nat)(st:PSt)(pool fs:List SpotV)(s:PlC)(M:Nat)(h:gJ st pool s fs M)(LA:Option Addr)(lcap:Nat)(ls:List dQ)(hM:M+3*ls.length<=70000000)(hn:ls.length=s.laid.length)(stp:Int):bZ prog 42 [.pointer (some ⟨pb,0,none⟩),.slice LA ls.length lcap,j5 stp] (plH pb mb st) [fB st.end_,bE.each pool mB,lR.sl (.slice LA ls.length lcap) ls] (λ(_:PSt×List SpotV×List SpotV)=> .tuple #[]) (λ(x:PSt×List SpotV×List SpotV)=>plH pb mb x.1) (λ(x:PSt×List SpotV×List SpotV)=>[fB x.1.end_,bE.each x.2.1 mB,bE.pure (gJ x.1 x.2.1 (relC stp (lc ls) s) x.2.2 (M+3*ls.length))]):=by
 have hT:=fI;refine i7 func42 ntmps42 ?_;intro β hM;refine g8 ?_;refine bPg (ι:=PSt×List SpotV×List SpotV×Nat) [(0,_),(1,_),(2,_),(10,_)] ⟨rfl,rfl,rfl,rfl,e8⟩ (λ⟨st,pool,fs,i⟩=>[(11,.int .i64 (i:Nat))]) (λ⟨st,pool,fs,i⟩=>plH pb mb st) (λ⟨st,pool,fs,i⟩=>[bE.pure (i<=ls.length/\gJ st pool (relK stp (lc ls) s i) fs (M+3*i)),fB st.end_,bE.each pool mB]) (λ⟨st,pool,fs,i⟩=>ls.length-i) (st,pool,fs,0) ⟨rfl,e8⟩ (List.Perm.refl _) ⟨e9 (⟨k9,h⟩),d7,d8,e8⟩ ?_;rintro⟨st,pool,fs,i⟩;dsimp only;refine bM d7 λa=>?_;refine g6 ?_;refine fD (λl=>?_) λl=>?_
 .refine g11 ?_
  rcases hg:rT (i:Nat) st.kv with _|q
  .refine g6 ?_;refine ss (lL (v:= .tuple #[.agg #[.slice none 0 0,.slice none 0 0,.int .i64 0],.bool false]) (qA kT2) rfl underlying102 underlying3 spotZero rfl rfl (by rw[getS_V,hg];rfl)) ?_;refine g3 ?_;refine f9 wH λz=>?_;refine g24 ?_;refine inc (i+1) ?_;refine g3 ?_;refine pV (.c1 (.c1 (.c1 (Sel.skip Sel.self)))) ?_;exact pB (st,pool,fs,i+1) n3 ⟨rfl,e8⟩ ⟨rfl,rfl,rfl,rfl,e8⟩ (List.Perm.refl _) ⟨e9 (⟨by dsimp only;omega,(by obtain⟨u,hu⟩: ∃u,ls[i]?=some u:=⟨_,D7 k9⟩;rw[zY (lc_at hu),one_none a.2 hg];exact a.2.more n3)⟩),d8,d9,e8⟩ (bA.drop 3)
  refine g6 ?_;refine ss (lL (v:= .tuple #[.agg #[.slice q.at_.addr q.at_.list.length q.at_.cap,.slice q.size.addr q.size.list.length q.size.cap,.int .i64 q.since],.bool true]) (qA kT2) rfl underlying102 underlying3 spotZero rfl rfl (by rw[getS_V,hg];rfl)) ?_;refine g3 ?_;refine f9 wH λy=>?_;refine g10 ?_;obtain⟨o,b⟩:=gx ls i;refine ss (ixs i) ?_;refine one ?_;refine ss (jB b 1) ?_;refine g5 ?_;refine fD (λk=>?_) λk=>?_
  .refine g7 ?_;refine bUi kT3 rfl rfl rfl underlying102 underlying3 rfl rfl ?_;rw[delS_V];have n:q∈pool:=by obtain⟨p,r,e⟩:=getS_mem hg;rw[<-e];exact a.2.poolL p r
   have f:=rel_gone a.2 i (by rw[relK_len];omega);refine g10 ?_;refine fD (λj=>?_) λj=>?_
   .refine g3 ?_;have c:sz q≠[]:=λe=>by have w:q.size.list.length=0:=congrArg List.length e;omega
    refine pV (.c1 (.c1 (.c1 (.cons .head Sel.self)))) ?_;refine dW (aV (l₁:=[_])) ?_;refine bG func97 (give_spec pb mb _ pool fs _ _ f k9 q n c) rfl rfl (Split.front _ _) ⟨d9,e8⟩ λm=>?_;refine dW aV ?_;refine bM d8 λd=>bP (fB m.end_) ((show m.end_=st.end_ from d.2)▸e6) ?_;refine g5 ?_;refine inc (i+1) ?_;refine g3 ?_;refine pV (.c1 (.c1 (.c1 (Sel.skip Sel.self)))) ?_;exact pB (m,(⟨q.at_,q.size,st.since+1⟩:SpotV)::pool,fs++[(⟨q.at_,q.size,st.since+1⟩:SpotV)],i+1) n3 ⟨rfl,e8⟩ ⟨rfl,rfl,rfl,rfl,e8⟩ (List.Perm.refl _) ⟨e9 (⟨by dsimp only;omega,(by rw[zY (lc_at b),one_gone a.2 hg ‹_›,if_neg c];exact(d.1).more n3)⟩),d7,d8,e8⟩ (bA.drop 6)
   refine g5 ?_;refine inc (i+1) ?_;refine g3 ?_;refine pV (.c2 (.c2 (.c0 (Sel.skip Sel.self)))) ?_;exact pB (({st with kv:=delS ((i:Nat):Int) st.kv}:PSt),pool,fs,i+1) n3 ⟨rfl,e8⟩ ⟨rfl,rfl,rfl,rfl,e8⟩ (List.Perm.refl _) ⟨e9 (⟨by dsimp only;omega,(by rw[zY (lc_at b),one_gone a.2 hg ‹_›,if_pos (K9 (by show q.size.list.length=0;omega))];exact f.more n3)⟩),d8,d9,e8⟩ (bA.drop 3)
  refine g5 ?_;refine inc (i+1) ?_;refine g3 ?_;refine pV (.c1 (.c1 (.c1 (Sel.skip Sel.self)))) ?_;exact pB (st,pool,fs,i+1) n3 ⟨rfl,e8⟩ ⟨rfl,rfl,rfl,rfl,e8⟩ (List.Perm.refl _) ⟨e9 (⟨by dsimp only;omega,(by rw[zY (lc_at b),one_stay a.2 hg (λhlt=>by have:o.to_<stp:=hlt;omega)];exact a.2.more n3)⟩),d8,d9,e8⟩ (bA.drop 3)
 refine g4 ?_;have t:i=ls.length:=k9
 have g:gJ st pool (relC stp (lc ls) s) fs (M+3*ls.length):=by rw[<-relK_eq stp (lc ls) s (by rw[lc_len];exact hn),lc_len,<-t];exact a.2
 exact cT (st,pool,fs) rfl (.c0 (.c0 (.cons .head Sel.self))) ⟨d8,d9,e9 g,e8⟩ (rfl)
end
section
open Go.RowKit Go.ChangeShapes Go.WideShapes Go.Proofs.Tryz
def fuseT:Tab:=[(3,⟨.int .i64,1⟩),(2,⟨.int .i64,1⟩),(5,⟨.int .u8,1⟩),(4,⟨.bool,1⟩),(77,⟨.int .u8,1⟩),(32,⟨.int .i64,1⟩),(43,⟨.slice 111,1⟩),(42,⟨.slice 43,1⟩),(172,⟨.struct [(3,0),(3,1),(2,2),(43,3),(77,4)],5⟩),(78,⟨.slice 172,1⟩),(95,⟨.struct [(42,0),(3,1)],2⟩),(22,⟨.slice 95,1⟩),(80,⟨.struct [(3,0),(3,1),(43,2),(42,3),(77,4),(78,5)],6⟩),(23,⟨.slice 80,1⟩),(24,⟨.slice 3,1⟩),(99,⟨.slice 4,1⟩),(26,⟨.struct [(3,0),(22,1),(23,2),(24,3)],4⟩),(114,⟨.struct [(3,0),(3,1)],2⟩),(97,⟨.slice 114,1⟩),(201,⟨.struct [(3,0),(3,1),(3,2),(99,3)],4⟩),(198,⟨.array 64 4,64⟩),(111,⟨.struct [(2,0),(109,1)],7⟩),(109,⟨.array 6 5,6⟩),(290,⟨.slice 5,1⟩),(224,⟨.int .u64,1⟩),(199,⟨.other,1⟩),(274,⟨.other,1⟩),(126,⟨.other,1⟩),(314,⟨.slice 78,1⟩)]
theorem fuseT_ok:dU prog fuseT:=tA.ok
 ⟨⟨by rw[underlying3];rfl,l4⟩,
  ⟨by rw[underlying2];rfl,l4⟩,
  ⟨by rw[underlying5];rfl,l4⟩,
  ⟨by rw[underlying4];rfl,l4⟩,
  ⟨by rw[underlying77];rfl,l4⟩,
  ⟨by rw[underlying32];rfl,l4⟩,
  ⟨by rw[underlying43];rfl,l4⟩,
  ⟨by rw[underlying42];rfl,l4⟩,
  ⟨by rw[underlying172];rfl,l4⟩,
  ⟨by rw[underlying78];rfl,l4⟩,
  ⟨by rw[underlying95];rfl,l4⟩,
  ⟨by rw[underlying22];rfl,l4⟩,
  ⟨by rw[underlying80];rfl,l4⟩,
  ⟨by rw[underlying23];rfl,l4⟩,
  ⟨by rw[underlying24];rfl,l4⟩,
  ⟨by rw[underlying99];rfl,l4⟩,
  ⟨by rw[underlying26];rfl,l4⟩,
  ⟨by rw[underlying114];rfl,l4⟩,
  ⟨by rw[underlying97];rfl,l4⟩,
  ⟨by rw[underlying201];rfl,l4⟩,
  ⟨by rw[underlying198];rfl,l4⟩,
  ⟨by rw[underlying111];rfl,l4⟩,
  ⟨by rw[underlying109];rfl,l4⟩,
  ⟨by rw[underlying290];rfl,l4⟩,
  ⟨by rw[underlying224];rfl,l4⟩,
  ⟨by rw[underlying199];rfl,l4⟩,
  ⟨by rw[underlying274];rfl,l4⟩,
  ⟨by rw[underlying126];rfl,l4⟩,
  ⟨by rw[underlying314];rfl,l4⟩,e8⟩
end
section
open Go.RowKit Go.ChangeShapes Go.WideShapes Go.Proofs.Tryz
theorem monoInfo: ∃i:TypeInfo,prog.info? 111=some i/\i.zero=some (.agg #[j5 0,j6 0,j6 0,j6 0,j6 0,j6 0,j6 0])/\i.size=7/\i.bytes=16:=by
 have h:(prog.info? 111).map (λi=>(i.zero,i.size,i.bytes))=some (some (.agg #[.int .i64 0,.int .u8 0,.int .u8 0,.int .u8 0,.int .u8 0,.int .u8 0,.int .u8 0]),7,16):=l4
 cases a:prog.info? 111 with
 |none=>simp[a]at h
 |some i=>simp[a]at h;exact⟨i,rfl,h.1,h.2.1,h.2.2⟩
theorem at_none_mono{β:dE}{n:Nat}{Γ:Env}{H:List bC}{F:List bE}{Q:Exit->Act->World->Prop}{ops:Array Oper}{rest:List Oper}{o:Oper}{d:Nat}(hw:want ops Γ o=some true)(ho:o.op= .buildSlice 43 0 #[])(hd:o.dst=some d)(hn:C0 d n=true)
  (k: ∀b,At β n ((d,.slice (some ⟨b,0,none⟩) 0 0)::Γ) (oI.row (.slice (some ⟨b,0,none⟩) 0 0) 111 []::H) F (wpList prog ops Q rest)):At β n Γ H F (wpList prog ops Q (o::rest)):=by
 obtain⟨i,a,_⟩:=monoInfo;exact bHs oI hw ho hd hn underlying43 a k
theorem at_app_mono{β:dE}{n:Nat}{Γ:Env}{H:List bC}{F:List bE}{Q:Exit->Act->World->Prop}{ops:Array Oper}{rest:List Oper}{o:Oper}{d:Nat}{x y:Operand}{c q:Nat}{v:Value}{A:Option Addr}{xs ys:List Mono}{H':List bC}(hH:bU H (oI.row v 111 xs) H')(hr:dO β H F oI A ys)(hg:o.guard=none)
  (ho:o.op= .call {callee:= .builtin .append,args:= #[x,y],argTypes:= #[43,43]}) (hd:o.dst=some d) (hn:C0 d n=true)
  (hx:Γ.ev x=some v) (hy:Γ.ev y=some (.slice A q c)) (hq:q=ys.length) (hl:xs.length+ys.length<=8796093022208)
  (k: ∀A' cap',At β n ((d,.slice A' (xs++ys).length cap')::Γ) (oI.row (.slice A' (xs++ys).length cap') 111 (xs++ys)::H') F (wpList prog ops Q rest)):At β n Γ H F (wpList prog ops Q (o::rest)):=by
 obtain⟨i,b,hz,a,hb⟩:=monoInfo;exact jW hH hr hg ho hd hn underlying43 b hz a hb rfl hx hy hq k9 l5 k
end
section
open Go.RowKit Go.Proofs.Tryz
theorem sti_isnilS{P:Program}{β:dE}{n:Nat}{Γ:Env}{H:List bC}{F:List bE}{o:Oper}{x:Operand}{t e tt:TypeId}{A:Option Addr}{l c:Nat}(hu:P.underlying t=some (.slice e))(ho:o.op= .binOp .eql t x (.const (.slice none 0 0)) tt)(hx:Γ.ev x=some (.slice A l c)):Sti P β n Γ H F o (.bool A.isNone):=λa w S f s k=>by
 unfold execOp;simp only[ho,f.ev hx];rw[E6,E6]
 have hg:(eqGuard .eql t x (.const (.slice none 0 0)) (.slice A l c) (.slice none 0 0)).run P w= .ok () w:=by
  unfold eqGuard;simp
 have b:(Act.eval a (.const (.slice none 0 0)))= .slice none 0 0:=rfl;rw[b,hg,E8,Lib.run_eql_slice_nil w t e A l c 0 0 hu];rfl
theorem has_isnilH{α:Type}{E:Flat α}{F:List bE}{A:Option Addr}{l c:Nat}{xs:List α}(h:Has F (E.sl (.slice A l c) xs)):Has F (bE.pure (A.isNone=true->xs=[])):=λS w k hn=>by
 obtain⟨f,d,e,h⟩:=h S w k;injection e with e1
 subst e1
 cases xs with
 |nil=>rfl
 |cons x r=>
  obtain⟨b,o,a,e,_⟩:=h 0 x rfl;rw[e]at hn;cases hn
theorem cloneM_spec(l:PolV)(hl:l.list.length<=8796093022208):bZ prog 41 [j0 l] [] [oI.sl (j0 l) l.list] (λ(x:Option Addr×Nat)=> .slice x.1 l.list.length x.2) (λ_=>[]) (λ(x:Option Addr×Nat)=>[fB ⟨x.1,x.2,l.list⟩]):=by
 have hT:=fuseT_ok;refine i7 func41 ntmps41 ?_;intro β hM;refine g9 ?_;refine ss (sti_isnilS underlying43 rfl rfl) ?_;refine g2 ?_;refine uY (λc=>?_) λc=>?_
 .refine fS<|bP (bE.pure (l.addr.isNone=true->l.list=[])) (has_isnilH d7) ?_;refine bM d7 λa=>?_;have b:=a ‹_›;refine cG (t:=111) oI ?_;refine g6 ?_;obtain⟨f,lc,d⟩:=l;obtain rfl:d=[]:=b;refine bHh .head λe=>iQ .head ?_;exact rs1 (_,_) ⟨Has.and d7 (e9 (by dsimp only;first|omega|(simp;done))),e8⟩
 refine g4 ?_;refine at_none_mono rfl rfl rfl rfl λg=>?_;refine one ?_;refine at_app_mono .head (bV d7) rfl rfl rfl rfl rfl rfl rfl n9 λh c3=>?_;rw[List.nil_append];refine g4 ?_;refine bHh .head λe=>iQ .head ?_;exact rs1 (_,_) ⟨Has.and d7 (e9 (by dsimp only;first|omega|(simp;done))),e8⟩
section
variable {α : Type} {l : List α}
theorem each_set{g:α->bE}{F:List bE}{k:Nat}{x:α}(h:Has F (bE.each l g))(hx:Has F (g x)):Has F (bE.each (l.set k x) g):=λS w q y a=>by
 rcases List.mem_or_eq_of_mem_set a with h1|rfl
 .exact h S w q y h1
 .exact hx S w q
end
theorem bKr{vars:Int}{bufs:List gP}: ∀{r:List bX} {made:List Bool},mF vars bufs r made=true-> ∀x∈r,∃m,nB vars m x=true
 |[],_,_,x,hx=>by cases hx
 |y::r,made,h,x,hx=>by
  rw[mF,G1,G1,G1]at h;obtain⟨_,b,a⟩:=h
  rcases List.mem_cons.1 hx with rfl|hx
  .exact⟨made,b⟩
  .exact bKr a x hx
section
variable {c : gD} {i b n m k : Nat} {x : gV} {ub : lW} {wh w T : Bool} {A B : List (List Mono)} {p q : List Mono}
theorem right_ne(h:cY c.c=true)(hx:c.steps.list[i]?=some x)(e:x.how=2):x.loops.list.length≠0:=by
 obtain⟨_,_,d,_⟩:=fL h;obtain⟨g,h4⟩:=bKr d x.c (f4 (dI hx));unfold nB at h4;simp only[G1]at h4;have a:=h4.2.2.2.2.1;have a:(if x.how=1 then x.fn==0 else if x.how=2\/x.how=3 then !x.c.loops.isEmpty&&kG x.fn true else false)=true:=a;rw[if_neg k9,if_pos (.inl e),G1]at a;intro f;have:x.loops.list=[]:=K9 f;have b:(!(polsL x.loops.list).isEmpty)=true:=a.1;rw[this]at b;cases b
theorem polsF_take{F:List bE}{xs:List PolV}(n:Nat)(h:Has F (bFm xs)):Has F (bFm (xs.take n)):=λS w k p a=>h S w k p (List.mem_of_mem_take a)
theorem take_snoc'{α:Type}{l:List α}{i:Nat}{x:α}(hx:l[i]?=some x):l.take (i+1)=l.take i++[x]:=by
 rw[W7,hx];rfl
theorem polsL_take(l:List PolV)(n:Nat):polsL (l.take n)=(polsL l).take n:=List.map_take
theorem wholeA(e:x.how=2):wholeS x.c ub.c.sides=(decide (x.at_.list.length=0)&&decide (polsL (x.loops.list.take (x.loops.list.length-1))=polsL ub.sides.list)):=by
 unfold wholeS;show(x.at_.list.isEmpty&&decide ((if x.how=2 then (polsL x.loops.list).dropLast else polsL x.loops.list)=polsL ub.sides.list))=_;rw[if_pos e,polsL_take,List.dropLast_eq_take,bW]
 congr 1
 cases x.at_.list<;>rfl
theorem wholeB(e:x.how≠2):wholeS x.c ub.c.sides=(decide (x.at_.list.length=0)&&decide (polsL x.loops.list=polsL ub.sides.list)):=by
 unfold wholeS;show(x.at_.list.isEmpty&&decide ((if x.how=2 then (polsL x.loops.list).dropLast else polsL x.loops.list)=polsL ub.sides.list))=_;rw[if_neg e]
 congr 1
 cases x.at_.list<;>rfl
end
theorem bGq{c:dA}:(nC c).length=c.bufs.length:=List.length_mapIdx
theorem at_makeInts{β:dE}{n:Nat}{Γ:Env}{H:List bC}{F:List bE}{Q:Exit->Act->World->Prop}{ops:Array Oper}{rest:List Oper}{o:Oper}{d:Nat}{m:Nat}{x y:Operand}(hw:want ops Γ o=some true)(ho:o.op= .makeSlice 24 x y)(hd:o.dst=some d)(hn:C0 d n=true)
  (hx:Γ.ev x=some (j5 (m:Nat))) (hy:Γ.ev y=some (j5 (m:Nat))) (hm:m<=1000000)
  (k: ∀b,At β n ((d,.slice (some ⟨b,0,none⟩) m m)::Γ) (cK.row (.slice (some ⟨b,0,none⟩) m m) 3 (T9 m (0:Int))::H) F (wpList prog ops Q rest)):At β n Γ H F (wpList prog ops Q (o::rest)):=by
 obtain⟨i,c,hz,a,hb⟩:=intInfo;refine bAr (E:=cK) hw ho hd hn hx hy underlying24 c hz a aa2 v6 ?_ n4 k
 have e: ∀m,cK.all (T9 m (0:Int))=T9 m (.int .i64 0):=λm=>by
  induction m with
  |zero=>rfl
  |succ m ih=>rw[X9,X9,<-ih];rfl
 rw[e];unfold madeCells;apply Y0
 .simp[cK]
 .intro i h1 f;simp[Value.cells,Nat.mod_one]
theorem gK{P:Program}{β:dE}{n:Nat}{Γ:Env}{H Hk:List bC}{F F0:List bE}{Q:Exit->Act->World->Prop}{ops:Array Oper}{r:List (Bool×Nat)}{o:Oper}{l k d:Nat}(hk:ops[k]?=some o)(hw:want ops Γ o=some false)(hd:o.dst=some d)(hn:C0 d n=true)
  (K:At β n ((d,undef)::Γ) H F (mM P ops (StF β Hk F0) Q l r)):At β n Γ H F (mM P ops (StF β Hk F0) Q l ((true,k)::r)):=λa w S f s b=>by
 refine⟨o,undef,hk,.inr ⟨f.want hw,rfl⟩,?_⟩;rw[hd];exact K _ _ S (f.put m9 undef) s b
section
variable {c : gD} {i b : Nat} {mn : List Int} {fl : List Bool} {x : gV} {ub : lW} {z : Int} {V : Bool}
def bVp (c:dA)(i:Nat)(mn:List Int)(fl:List Bool):Prop:=mn.length=c.bufs.length/\fl.length=c.bufs.length/\ ∀b u,c.bufs[b]?=some u->mn[b]?=some ((bBl (c.steps.take i) b:Nat):Int)/\fl[b]?=some (bCj (c.steps.take i) b u)
theorem fullS_start{c:dA}:bVp c 0 (T9 c.bufs.length 0) (T9 c.bufs.length false):=by
 refine⟨X2,X2,λb u hb=>?_⟩;have:=(D9.1 hb).1;rw[eJ,eJ,if_pos this,if_pos this];exact⟨rfl,rfl⟩
theorem bJj(h:bVp c.c i mn fl)(hu:c.bufs.list[b]?=some ub)(hz:mn[b]?=some z):0<=z/\z<=i:=by
 have h1:=(h.2.2 b ub.c (cN hu)).1;rw[hz]at h1;injection h1 with h1
 have:bBl (c.c.steps.take i) b<=i:=by
  unfold bBl;exact B9 (List.length_filter_le ..) (List.length_take_le ..)
 omega
theorem pO(h:bVp c.c i mn fl)(hx:c.steps.list[i]?=some x)(h0:0<=x.buf)(hu:c.bufs.list[x.buf.toNat]?=some ub)(hz:mn[x.buf.toNat]?=some z)(hV:V=(decide (z+1=1)&&wholeS x.c ub.c.sides)):bVp c.c (i+1) (mn.set x.buf.toNat (z+1)) (fl.set x.buf.toNat V):=by
 obtain⟨h1,k,j⟩:=h;refine⟨by rw[P6];exact h1,by rw[P6];exact k,λb u hb=>?_⟩;obtain⟨d,g⟩:=j b u hb;have hlt:=(D9.1 hb).1;rw[show c.c.steps.take (i+1)=c.c.steps.take i++[x.c]from take_snoc' (dI hx),cntMk_snoc]
 by_cases e:x.buf.toNat=b
 .subst e;have a:x.c.buf=((x.buf.toNat:Nat):Int):=by show x.buf=_;omega
  rw[hz]at d;injection d with d
  have f:u=ub.c:=by
   have:=(cN hu).symm.trans hb;injection this with this
   exact this.symm
  rw[P7 k9,P7 k9,if_pos a,fullAt_here a,hV,d,f];refine⟨by rw[Int.natCast_add];rfl,?_⟩
  have:decide (((bBl (c.c.steps.take i) x.buf.toNat:Nat):Int)+1=1)=decide (bBl (c.c.steps.take i) x.buf.toNat+1=1):=by
   rw[Bool.eq_iff_iff];simp only[decide_eq_true_eq];omega
  rw[this]
 .have a:x.c.buf≠(b:Int):=by show x.buf≠_;omega
  rw[P8 e,P8 e,if_neg a,fullAt_other a];exact⟨d,g⟩
theorem fullS_end(h:bVp c.c i mn fl)(hi:c.steps.list.length<=i):fl=nC c.c:=by
 obtain⟨h1,d,a⟩:=h;rw[List.take_of_length_le (show c.c.steps.length<=i by rw[show c.c.steps.length=c.steps.list.length from fC _];exact hi)]at a;apply List.ext_getElem?;intro b;unfold nC;rw[List.getElem?_mapIdx]
 cases hb:c.c.bufs[b]? with
 |none=>rw[List.getElem?_eq_none (by rw[d];exact List.getElem?_eq_none_iff.1 hb)];rfl
 |some u=>rw[(a b u hb).2];rfl
end
theorem fullP_spec(c:gD)(hr:cY c.c=true):bZ prog 38 [.agg #[j5 c.vars,j0 c.bufs,j0 c.steps,j0 c.outs]] [] [oJ c] (λ(x:Option Addr×Nat)=> .slice x.1 c.bufs.list.length x.2) (λ(x:Option Addr×Nat)=>[lJ.row (.slice x.1 c.bufs.list.length x.2) 4 (nC c.c)]) (λ_=>[]):=by
 have hT:=fK;generalize hV:nC c.c=V;obtain⟨Z,G,W⟩:=bFj hr;have s:c.c.bufs.length=c.bufs.list.length:=cD _;have X:c.c.steps.length=c.steps.list.length:=fC _;refine i7 func38 ntmps38 ?_;intro β hM;refine fS<|bP (bBb.sl (.slice c.bufs.addr c.bufs.list.length c.bufs.cap) c.bufs.list) (rR (lQ d7)) ?_;refine bP (sO.sl (.slice c.steps.addr c.steps.list.length c.steps.cap) c.steps.list) (qS (iG d8)) ?_;refine one ?_;refine i6 λb1=>?_;refine g8 ?_;refine at_makeInts (m:=c.bufs.list.length) rfl rfl rfl rfl rfl rfl k9 λb2=>?_;refine g8 ?_;refine bDr (m:=c.bufs.list.length) rfl rfl rfl rfl rfl rfl k9 λb3=>?_;refine g13 ?_;refine bY (ι:=Nat×List Int×List Bool) [(1,_),(3,_),(4,_),(18,_),(19,_)] ⟨rfl,rfl,rfl,rfl,rfl,e8⟩ (λ⟨i,mn,fl⟩=>[(20,.int .i64 (i:Nat))]) (λ⟨i,mn,fl⟩=>[cK.row (.slice (some ⟨b2,0,none⟩) c.bufs.list.length c.bufs.list.length) 3 mn,lJ.row (.slice (some ⟨b3,0,none⟩) c.bufs.list.length c.bufs.list.length) 4 fl]) (λ⟨i,mn,fl⟩=>[bE.pure (i<=c.steps.list.length/\bVp c.c i mn fl)]) (λ⟨i,mn,fl⟩=>c.steps.list.length-i) (0,T9 c.bufs.list.length 0,T9 c.bufs.list.length false) ⟨rfl,e8⟩ (.c1 (.c0 .nil)) ⟨e9 (⟨k9,by rw[<-s];exact fullS_start⟩),e8⟩ ?_;rintro⟨i,mn,fl⟩;dsimp only;refine bM d7 λa=>?_;have q:mn.length=c.bufs.list.length:=by rw[a.2.1];exact s
 have n:fl.length=c.bufs.list.length:=by rw[a.2.2.1];exact s
 refine g6 ?_;refine fD (λB=>?_) λB=>?_
 .refine g6 ?_;obtain⟨x4,e⟩:=gx c.steps.list i;refine ss (ixs i) ?_;refine ss (kV e 0) ?_;refine f9 wT λb6=>?_;refine g4 ?_;refine bP (oL x4) (Has.each (qU (iG e6)) (f4 e)) ?_;obtain⟨h,C,_⟩:=G x4.c (f4 (dI e))
  replace h:0<=x4.buf:=h
  replace C:x4.buf<(c.c.bufs.length:Nat):=C
  obtain⟨b,d⟩:=gx c.bufs.list x4.buf.toNat;refine bP (bufF b) (Has.each (bEg (lQ e7)) (f4 d))<|bP (iY.sl (.slice b.sides.addr b.sides.list.length b.sides.cap) b.sides.list) (qM d7)<|bM (wL d8) λU=>bP (bFm b.sides.list) (qJ d8)<|bP (iY.sl (.slice x4.loops.addr x4.loops.list.length x4.loops.cap) x4.loops.list) (qM (mV e6))<|bM (wL (mV e7)) λr=>?_;have R:=r.1;have Q:=r.2;refine bP (oI.sl (.slice x4.at_.addr x4.at_.list.length x4.at_.cap) x4.at_.list) (sS (stepF_a e7))<|bP (bFm x4.loops.list) (qJ (mV (Has.of mT5))) ?_;refine g14 ?_;refine fG (λA=>?_) λA=>?_
  .refine g5 ?_;refine bF (nN k9 k9) ?_;have J:=right_ne hr e ‹_›;refine bF (z':=((x4.loops.list.length-1:Nat):Int)) k9 ?_;have Y:=right_ne hr e ‹_›;refine ss (bHl hT (k:=(x4.loops.list.length-1)) rfl rfl rfl rfl rfl k9 k9) ?_;refine bP (iY.sl (.slice x4.loops.addr (x4.loops.list.length-1) x4.loops.cap) (x4.loops.list.take (x4.loops.list.length-1))) (has_take d9 k9)<|bP (bFm (x4.loops.list.take (x4.loops.list.length-1))) (polsF_take _ d8) ?_;refine g4 ?_;have hTw:=wholeA (ub:=b) (x:=x4) ‹_›;refine g4 ?_;obtain⟨l,g⟩:=gx mn x4.buf.toNat l7;refine ss (bJ hT (k:=x4.buf.toNat) (cH kT1) rfl rfl rfl rfl rfl q.symm k9 l7) ?_;have E:=bJj a.2 d g;refine ss (jB g 0) ?_;refine one ?_;refine bF (nN k9 k9) ?_;refine ss (bJ hT (k:=x4.buf.toNat) (cH kT1) rfl rfl rfl rfl rfl q.symm k9 l7) ?_;refine cQ hT (k:=x4.buf.toNat) (fo:=0) (y':=(l+1:Int)) kT1 rfl rfl rfl rfl rfl rfl rfl rfl rfl g rfl ?_;refine g9 ?_;refine ss (bJ hT (k:=x4.buf.toNat) (bV (Has.of mT11)) rfl rfl rfl rfl rfl rfl k9 k9) ?_;refine one ?_;refine ss (jB d 0) ?_;have D:=bKf x4.loops.addr b.sides.addr x4.loops.cap b.sides.cap (x4.loops.list.take (x4.loops.list.length-1)) b.sides.list aa6;rw[show(x4.loops.list.take (x4.loops.list.length-1)).length=(x4.loops.list.length-1) by rw[List.length_take];omega]at D;refine f7 func90 D .nil ⟨d8,d7,(Has.of mT6),(Has.of mT5),e8⟩ λ_=>?_;refine g3 ?_;refine qN 19 _ _ [(true,0),(true,1),(true,2),(true,3),(true,4),(true,5),(true,6),(true,7),(true,8),(true,9),(true,10),(true,11),(true,12),(true,13),(true,14),(true,15),(true,16),(true,17),(false,18)] dJ l8 (.c0 (.c0 (.c1 .nil))) bA.self ?_;refine g6 ?_;refine stL rfl (bJ hT (k:=x4.buf.toNat) (cH .head) rfl rfl rfl rfl rfl n7 k9 l7) ?_;refine stL rfl (bK hT (dO.knows (cH .head) (k:=x4.buf.toNat) (x:=(l+1:Int)) (P7 l7) 0) rfl rfl rfl rfl rfl) ?_;refine g2 ?_;refine k_eq (λp=>?_) λp=>?_
   .refine g6 ?_;refine k_eq (λo=>?_) λo=>?_
    .refine g3 ?_;obtain⟨P,z⟩:=gx fl x4.buf.toNat l7;refine ss (bJ hT (k:=x4.buf.toNat) (cH kT2) rfl rfl rfl rfl rfl n.symm k9 l7) ?_;refine g2 ?_;refine cQ hT (k:=x4.buf.toNat) (fo:=0) (y':=(decide (polsL (x4.loops.list.take (x4.loops.list.length-1))=polsL b.sides.list))) kT2 rfl rfl rfl rfl rfl rfl rfl rfl rfl z rfl ?_;refine g5 ?_;refine inc (i+1) ?_;refine g3 ?_;exact bk2 (i+1,(mn.set x4.buf.toNat (l+1:Int)),(fl.set x4.buf.toNat (decide (polsL (x4.loops.list.take (x4.loops.list.length-1))=polsL b.sides.list)))) ⟨e9 (⟨by dsimp only;omega,pO a.2 e h d g (by rw[hTw,decide_eq_true (show l+1=1 by omega),decide_eq_true (show x4.at_.list.length=0 by omega)];simp)⟩),e8⟩
    refine gK rfl rfl rfl rfl ?_;refine g2 ?_;obtain⟨O,y⟩:=gx fl x4.buf.toNat l7;refine ss (bJ hT (k:=x4.buf.toNat) (cH kT2) rfl rfl rfl rfl rfl n.symm k9 l7) ?_;refine g2 ?_;refine cQ hT (k:=x4.buf.toNat) (fo:=0) (y':=(false)) kT2 rfl rfl rfl rfl rfl rfl rfl rfl rfl y rfl ?_;refine g5 ?_;refine inc (i+1) ?_;refine g3 ?_;exact bk2 (i+1,(mn.set x4.buf.toNat (l+1:Int)),(fl.set x4.buf.toNat (false))) ⟨e9 (⟨by dsimp only;omega,pO a.2 e h d g v7⟩),e8⟩
   refine gK rfl rfl rfl rfl ?_;refine gK rfl rfl rfl rfl ?_;refine gK rfl rfl rfl rfl ?_;refine gK rfl rfl rfl rfl ?_;refine g2 ?_;refine gK rfl rfl rfl rfl ?_;refine g2 ?_;obtain⟨N,w⟩:=gx fl x4.buf.toNat l7;refine ss (bJ hT (k:=x4.buf.toNat) (cH kT2) rfl rfl rfl rfl rfl n.symm k9 l7) ?_;refine g2 ?_;refine cQ hT (k:=x4.buf.toNat) (fo:=0) (y':=(false)) kT2 rfl rfl rfl rfl rfl rfl rfl rfl rfl w rfl ?_;refine g5 ?_;refine inc (i+1) ?_;refine g3 ?_;exact bk2 (i+1,(mn.set x4.buf.toNat (l+1:Int)),(fl.set x4.buf.toNat (false))) ⟨e9 (⟨by dsimp only;omega,pO a.2 e h d g (by rw[decide_eq_false (show ¬l+1=1 by omega)];rfl)⟩),e8⟩
  refine g3 ?_;have hTw:=wholeB (ub:=b) (x:=x4) ‹_›;refine g4 ?_;obtain⟨j,f⟩:=gx mn x4.buf.toNat l7;refine ss (bJ hT (k:=x4.buf.toNat) (cH kT1) rfl rfl rfl rfl rfl q.symm k9 l7) ?_;have E:=bJj a.2 d f;refine ss (jB f 0) ?_;refine one ?_;refine bF (nN k9 k9) ?_;refine ss (bJ hT (k:=x4.buf.toNat) (cH kT1) rfl rfl rfl rfl rfl q.symm k9 l7) ?_;refine cQ hT (k:=x4.buf.toNat) (fo:=0) (y':=(j+1:Int)) kT1 rfl rfl rfl rfl rfl rfl rfl rfl rfl f rfl ?_;refine g9 ?_;refine ss (bJ hT (k:=x4.buf.toNat) (bV (Has.of mT9)) rfl rfl rfl rfl rfl rfl k9 k9) ?_;refine one ?_;refine ss (jB d 0) ?_;have D:=bKf x4.loops.addr b.sides.addr x4.loops.cap b.sides.cap x4.loops.list b.sides.list aa6;refine f7 func90 D .nil ⟨d9,d7,e7,e6,e8⟩ λ_=>?_;refine g3 ?_;refine qN 19 _ _ [(true,0),(true,1),(true,2),(true,3),(true,4),(true,5),(true,6),(true,7),(true,8),(true,9),(true,10),(true,11),(true,12),(true,13),(true,14),(true,15),(true,16),(true,17),(false,18)] dJ l8 (.c0 (.c0 (.c1 .nil))) bA.self ?_;refine g6 ?_;refine stL rfl (bJ hT (k:=x4.buf.toNat) (cH .head) rfl rfl rfl rfl rfl n7 k9 l7) ?_;refine stL rfl (bK hT (dO.knows (cH .head) (k:=x4.buf.toNat) (x:=(j+1:Int)) (P7 l7) 0) rfl rfl rfl rfl rfl) ?_;refine g2 ?_;refine k_eq (λp=>?_) λp=>?_
  .refine g6 ?_;refine k_eq (λo=>?_) λo=>?_
   .refine g3 ?_;obtain⟨M,v⟩:=gx fl x4.buf.toNat l7;refine ss (bJ hT (k:=x4.buf.toNat) (cH kT2) rfl rfl rfl rfl rfl n.symm k9 l7) ?_;refine g2 ?_;refine cQ hT (k:=x4.buf.toNat) (fo:=0) (y':=(decide (polsL x4.loops.list=polsL b.sides.list))) kT2 rfl rfl rfl rfl rfl rfl rfl rfl rfl v rfl ?_;refine g5 ?_;refine inc (i+1) ?_;refine g3 ?_;exact bk2 (i+1,(mn.set x4.buf.toNat (j+1:Int)),(fl.set x4.buf.toNat (decide (polsL x4.loops.list=polsL b.sides.list)))) ⟨e9 (⟨by dsimp only;omega,pO a.2 e h d f (by rw[hTw,decide_eq_true (show j+1=1 by omega),decide_eq_true (show x4.at_.list.length=0 by omega)];simp)⟩),e8⟩
   refine gK rfl rfl rfl rfl ?_;refine g2 ?_;obtain⟨L,u⟩:=gx fl x4.buf.toNat l7;refine ss (bJ hT (k:=x4.buf.toNat) (cH kT2) rfl rfl rfl rfl rfl n.symm k9 l7) ?_;refine g2 ?_;refine cQ hT (k:=x4.buf.toNat) (fo:=0) (y':=(false)) kT2 rfl rfl rfl rfl rfl rfl rfl rfl rfl u rfl ?_;refine g5 ?_;refine inc (i+1) ?_;refine g3 ?_;exact bk2 (i+1,(mn.set x4.buf.toNat (j+1:Int)),(fl.set x4.buf.toNat (false))) ⟨e9 (⟨by dsimp only;omega,pO a.2 e h d f v7⟩),e8⟩
  refine gK rfl rfl rfl rfl ?_;refine gK rfl rfl rfl rfl ?_;refine gK rfl rfl rfl rfl ?_;refine gK rfl rfl rfl rfl ?_;refine g2 ?_;refine gK rfl rfl rfl rfl ?_;refine g2 ?_;obtain⟨K,t⟩:=gx fl x4.buf.toNat l7;refine ss (bJ hT (k:=x4.buf.toNat) (cH kT2) rfl rfl rfl rfl rfl n.symm k9 l7) ?_;refine g2 ?_;refine cQ hT (k:=x4.buf.toNat) (fo:=0) (y':=(false)) kT2 rfl rfl rfl rfl rfl rfl rfl rfl rfl t rfl ?_;refine g5 ?_;refine inc (i+1) ?_;refine g3 ?_;exact bk2 (i+1,(mn.set x4.buf.toNat (j+1:Int)),(fl.set x4.buf.toNat (false))) ⟨e9 (⟨by dsimp only;omega,pO a.2 e h d f (by rw[decide_eq_false (show ¬j+1=1 by omega)];rfl)⟩),e8⟩
 refine g12 ?_;have I:=fullS_end a.2 k9;obtain rfl:fl=V:=I.trans hV;exact rs1 (_,_) trivial
section
variable {c : dA} {r : Option (List (List Mono) × List Mono)} {n b i : Nat} {s s' : PlC} {u : gP} {y : LifeC} {x : bX} {t : Bool}
def endC (o:Option PlC):Option (List (List Mono)×List Mono):=o.map λs=>(s.ats,s.end_)
def bNj (c:dA)(o:Option PlC):Option (List (List Mono)×List Mono):=match o with
 |none=>none
 |some s=>endC (goC c (cX c) (nC c) c.steps 0 s)
theorem plan_begin(c:dA):tS c=bNj c (kL c.bufs (cX c) c.bufs.length 0 (tJ c.bufs.length)):=by
 unfold tS bNj endC
 cases kL c.bufs (cX c) c.bufs.length 0 (tJ c.bufs.length)with
 |none=>rfl
 |some s=>
  simp only;cases goC c (cX c) (nC c) c.steps 0 s<;>rfl
theorem vY{m:Nat}(h:r=bNj c (kL c.bufs (cX c) m b s))(hm:m=n+1)(hu:c.bufs[b]?=some u)(hy:(cX c)[b]?=some y):
  (¬y.from_<0->r=bNj c (kL c.bufs (cX c) n (b+1) s))/\(y.from_<0->(∀s',layC u.sides b false s=some s'->r=bNj c (kL c.bufs (cX c) n (b+1) s'))/\(layC u.sides b false s=none->r=none)):=by
 subst hm;rw[kL,hu,hy]at h;simp only at h;refine⟨λh1=>by rw[h,if_neg h1],λh1=>⟨λs' a=>by rw[h,if_pos h1,a],λa=>by rw[h,if_pos h1,a];rfl⟩⟩
theorem begin_end(h:r=bNj c (kL c.bufs (cX c) 0 b s)):r=endC (goC c (cX c) (nC c) c.steps 0 s):=h
theorem go_step{ls:List bX}(h:r=endC (goC c (cX c) (nC c) (ls.drop i) i s))(hx:ls[i]?=some x)(hu:c.bufs[x.buf.toNat]?=some u)(hy:(cX c)[x.buf.toNat]?=some y)(ht:(nC c)[x.buf.toNat]?=some t):
  (¬y.from_=(i:Int)->r=endC (goC c (cX c) (nC c) (ls.drop (i+1)) (i+1) s))/\(y.from_=(i:Int)->(∀s',layC u.sides x.buf.toNat t (relC i (cX c) s)=some s'->r=endC (goC c (cX c) (nC c) (ls.drop (i+1)) (i+1) s'))/\(layC u.sides x.buf.toNat t (relC i (cX c) s)=none->r=none)):=by
 obtain⟨hlt,e⟩:=D9.1 hx;rw[<-Y2 hlt,e,goC,hu,hy,ht]at h;simp only at h;refine⟨λh1=>by rw[h,if_neg h1],λh1=>⟨λs' a=>by rw[h,if_pos h1,a],λa=>by rw[h,if_pos h1,a];rfl⟩⟩
theorem go_end{ls:List bX}(h:r=endC (goC c (cX c) (nC c) (ls.drop i) i s))(hi:ls.length<=i):r=some (s.ats,s.end_):=by
 rw[h,R5 hi,goC];rfl
end
def bCr:PolV:=⟨none,0,[]⟩
theorem madePols(m:Nat):(madeCells (Value.slice none 0 0).cells (m*1)).toList=iY.all (T9 m bCr):=by
 have e: ∀m,iY.all (T9 m bCr)=T9 m (.slice none 0 0):=λm=>by
  induction m with
  |zero=>rfl
  |succ m ih=>rw[X9,X9,<-ih];rfl
 rw[e];unfold madeCells;apply Y0
 .simp
 .intro i h1 a;simp[Value.cells,Nat.mod_one]
section
variable {β : dE} {n : Nat} {Γ : Env} {H : List bC} {F : List bE} {Q : Exit -> Act -> World -> Prop} {ops : Array Oper} {rest : List Oper} {o : Oper} {d : Nat}
theorem at_makePols{m:Nat}{x y:Operand}(hw:want ops Γ o=some true)(ho:o.op= .makeSlice 42 x y)(hd:o.dst=some d)(hn:C0 d n=true)
  (hx:Γ.ev x=some (j5 (m:Nat))) (hy:Γ.ev y=some (j5 (m:Nat))) (hm:m<=1000000)
  (k: ∀b,At β n ((d,.slice (some ⟨b,0,none⟩) m m)::Γ) (iY.row (.slice (some ⟨b,0,none⟩) m m) 43 (T9 m bCr)::H) F (wpList prog ops Q rest)):At β n Γ H F (wpList prog ops Q (o::rest)):=by
 obtain⟨i,c,hz,a,hb⟩:=polsInfo;exact bAr (E:=iY) hw ho hd hn hx hy underlying42 c hz a aa2 v6 (madePols m) n4 k
end
theorem bDv(d:Nat)(x y:dQ)(w:World):(Op.equalIn (d+2) 114 (.agg #[j5 x.from_,j5 x.to_]) (.agg #[j5 y.from_,j5 y.to_])).run prog w= .ok (x.from_==y.from_&&x.to_==y.to_) w:=by
 have e:prog.underlying 114=some (.struct (prog.fieldsOf 114)):=l4
 have c:prog.stoodInHeld 114=false:=l4
 have f:(prog.fieldsOf 114).toList=[⟨ "From",3,0,false, "", "",0⟩,⟨ "To",3,1,false, "", "",8⟩]:=l4
 have b: ∀z:dQ,(part 3 #[.int .i64 z.from_,.int .i64 z.to_] 0).run prog w= .ok (.int .i64 z.from_) w:=λz=>by kernel_rfl
 have a: ∀z:dQ,(part 3 #[.int .i64 z.from_,.int .i64 z.to_] 1).run prog w= .ok (.int .i64 z.to_) w:=λz=>by kernel_rfl
 rw[run_equalIn_agg w (d+1) 114 _ _ e c,f];simp only[Op.eqFields,E6,Sem.run_ite,Sem.run_pure,b,a,E8,run_equalIn_int w d 3 .i64 .i64 _ _ underlying3]
 by_cases h1:x.from_=y.from_<;>by_cases g:x.to_=y.to_<;>simp[h1,g]
theorem bRp{β:dE}{n:Nat}{Γ:Env}{H:List bC}{F:List bE}{o:Oper}{a b:Operand}{tt:TypeId}(x y:dQ)(ho:o.op= .binOp .neq 114 a b tt)(hx:Γ.ev a=some (.agg #[j5 x.from_,j5 x.to_]))(hy:Γ.ev b=some (.agg #[j5 y.from_,j5 y.to_])):Sti prog β n Γ H F o (.bool (!(x.from_==y.from_&&x.to_==y.to_))):=λc w S f s k=>by
 have hq:prog.eqGuardType prog.depth 114=false:=l4
 have hg:(eqGuard .neq 114 a b (.agg #[.int .i64 x.from_,.int .i64 x.to_]) (.agg #[.int .i64 y.from_,.int .i64 y.to_])).run prog w= .ok () w:=by
  unfold eqGuard;have d:(program:Sem Program).run prog w= .ok prog w:=rfl;simp[d,hq]
 have hr:(binOp .neq 114 (.agg #[.int .i64 x.from_,.int .i64 x.to_]) (.agg #[.int .i64 y.from_,.int .i64 y.to_])).run prog w= .ok (.bool (!(x.from_==y.from_&&x.to_==y.to_))) w:=by
  rw[run_neq_struct,bDv 9998 x y w];rfl
 unfold execOp;simp only[ho,f.ev hx,f.ev hy];rw[E6,E6,hg,E8,hr];rfl
theorem lay_len{sides:List (List Mono)}{b:Nat}{again:Bool}{s s':PlC}(h:layC sides b again s=some s'):s'.laid.length=s.laid.length:=by
 unfold layC at h;split at h
 .cases h
 .split at h
  .cases h;simp
  .split at h
   .cases h;simp
   .cases h
theorem rel_len(i:Int)(l:List LifeC)(s:PlC):(relC i l s).laid.length=s.laid.length:=bAt i l s.laid
theorem lc_lv(l:List LifeC):lc (lv l)=l:=by
 unfold lc lv;rw[List.map_map];exact List.map_id' l
theorem bQx(pb mb:Nat)(st:PSt)(pool fs:List SpotV)(s:PlC)(M:Nat)(h:gJ st pool s fs M)(LA:Option Addr)(lcap n:Nat)(ls:List LifeC)(hl:ls.length=n)(hM:M+3*n<=70000000)(hn:n=s.laid.length)(stp:Int):bZ prog 42 [.pointer (some ⟨pb,0,none⟩),.slice LA n lcap,j5 stp] (plH pb mb st) [fB st.end_,bE.each pool mB,lR.sl (.slice LA n lcap) (lv ls)] (λ_:PSt×List SpotV×List SpotV=> .tuple #[]) (λx=>plH pb mb x.1)
  (λx=>[fB x.1.end_,bE.each x.2.1 mB,bE.pure (gJ x.1 x.2.1 (relC stp ls s) x.2.2 (M+3*n))]):=by
 have a:(lv ls).length=n:=by rw[bGy,hl]
 subst a;have:=release_spec pb mb st pool fs s M h LA lcap (lv ls) hM hn stp;rw[lc_lv]at this;exact this
theorem bAx(bp bc bo:Nat)(c:gD)(OA:Option Addr)(oc N:Nat)(ats:List PolV)(hN:ats.length=N)(pb mb:Nat)(st:PSt)(pool fs:List SpotV)(s:PlC)(M:Nat)(h:gJ st pool s fs M)(hM:M<=60000000)(b:Nat)(z:Int)(hz:z=(b:Nat))(u:lW)(hu:c.bufs.list[b]?=some u)(hb:b<s.laid.length)(hba:b<N)(ha:s.ats=ats.map (·.list))(again:Bool):bZ prog 39 [j5 z,.bool again,.pointer (some ⟨bp,0,none⟩),.pointer (some ⟨bc,0,none⟩),.pointer (some ⟨bo,0,none⟩)] (.obj bp (.cells ([.pointer (some ⟨pb,0,none⟩)]:List Value).toArray 101):: .obj bc (.cells ([j5 c.vars,j0 c.bufs,j0 c.steps,j0 c.outs]:List Value).toArray 26):: .obj bo (.cells ([.slice OA N oc,.slice none 0 0]:List Value).toArray 45)::iY.row (.slice OA N oc) 43 ats::plH pb mb st) [oJ c,fB st.end_,bE.each pool mB] (λ(_:PSt×List SpotV×List SpotV×PolV)=> j5 (if (layC (polsL u.sides.list) b again s).isSome then 0 else 140)) (λ(x:PSt×List SpotV×List SpotV×PolV)=>(.obj bp (.cells ([.pointer (some ⟨pb,0,none⟩)]:List Value).toArray 101):: .obj bc (.cells ([j5 c.vars,j0 c.bufs,j0 c.steps,j0 c.outs]:List Value).toArray 26):: .obj bo (.cells ([.slice OA N oc,.slice none 0 0]:List Value).toArray 45)::iY.row (.slice OA N oc) 43 (ats.set b x.2.2.2)::plH pb mb x.1)) (λ(x:PSt×List SpotV×List SpotV×PolV)=>[fB x.1.end_,bE.each x.2.1 mB,fB x.2.2.2,bE.pure (∀s',layC (polsL u.sides.list) b again s=some s'->gJ x.1 x.2.1 s' x.2.2.1 (M+2)/\s'.ats=(ats.set b x.2.2.2).map (·.list))]):=by
 have hT:=fI;subst hz;have j:=(D9.1 hu).1;obtain⟨l,g⟩:=gx ats b;refine i7 func39 ntmps39 ?_;intro β hM;refine fS<|bP (bBb.sl (.slice c.bufs.addr c.bufs.list.length c.bufs.cap) c.bufs.list) (rR (lQ d7)) ?_;refine g5 ?_;refine dC _ _ [(true,0),(true,1),(true,2),(true,3),(true,4),(true,5),(true,6),(true,7),(true,8),(false,9),(true,10),(true,11),(true,12),(true,13),(true,14)] dJ l8 (.c0 (.c0 (.c0 (.c0 .nil)))) bA.self ?_;refine g5 ?_;refine stM rfl (ixs b) ?_;refine one ?_;refine stM rfl (jB hu 0) ?_;refine g2 ?_;refine bP (tV u.sides) (Has.each (bEg (lQ d8)) (f4 hu)) ?_;refine dW (aV (l₁:=[_,_,_,_])) ?_;refine bG func40 (lay_spec pb mb st pool fs s M h k9 b hb u.sides again) rfl rfl (Split.front _ _) ⟨e6,e7,d7,e8⟩ λa=>?_;refine dW aV ?_;refine bM e6 λe=>?_;refine g9 ?_;refine dC _ _ [(true,0),(true,1),(true,2),(true,3),(false,4),(false,5),(false,6)] dJ l8 (.c0 (.c0 (.c0 (.c1 (.c1 (.c1 (Sel.skip Sel.self))))))) bA.self ?_;refine g5 ?_;refine bM (bOy d9) λi=>?_;refine f7 func41 (cloneM_spec a.2.2.2 i) .nil ⟨sS d9,e8⟩ λf=>?_;refine bCd (.c0 (.c0 (.c0 (.c1 (.c1 (.c1 (Sel.skip Sel.self))))))) (bA.drop 1) ?_;refine one ?_;refine ss (bJ hT (k:=b) (cH kT3) rfl rfl rfl rfl rfl hN.symm rfl k9) ?_;refine bCd (.c0 (.c0 (.c0 (.c1 (.c1 (.c1 (Sel.skip Sel.self))))))) (bA.drop 1) ?_;refine one ?_;refine cQ hT (k:=b) (fo:=0) (y':=(⟨f.1,f.2,a.2.2.2.list⟩:PolV)) kT3 rfl rfl rfl rfl rfl rfl rfl rfl rfl g rfl ?_;refine bCd (.c1 (.c1 (.c1 (.c1 (.c1 (.c1 (Sel.skip Sel.self))))))) (bA.drop 1) ?_;refine g9 ?_;exact oS (a.1,a.2.1,a.2.2.1,(⟨f.1,f.2,a.2.2.2.list⟩:PolV)) rfl (rv_tmp rfl) (.c1 (.c1 (.c1 (.c0 (.c0 (.c0 (.cons .head Sel.self))))))) ⟨d8,d9,d7,e9 (λs' d=>⟨(e s' d).1,by rw[(e s' d).2,ha,List.map_set]⟩),e8⟩ (rfl)
def iK (c:dA):(List (List Mono)×List Mono)×Int:=if cY c=true then match tS c with
 |some r=>(r,0)
 |none=>(([],[]),140)
 else (([],[]),100)
section
variable {c : dA}
theorem planW_no(h:cY c=false):iK c=(([],[]),100):=by unfold iK;rw[if_neg w8]
theorem bKp(h:cY c=true)(hp:tS c=none):iK c=(([],[]),140):=by unfold iK;rw[if_pos h,hp]
theorem planW_ok{r:List (List Mono)×List Mono}(h:cY c=true)(hp:tS c=some r):iK c=(r,0):=by unfold iK;rw[if_pos h,hp]
end
abbrev st0:PSt:=⟨⟨none,0,[]⟩,none,0,[],0,[]⟩
theorem rel_start(n:Nat):gJ st0 [] (tJ n) [] 0 where
 end_:=rfl
 free:=rfl
 flat:=List.Perm.refl _
 rise:=List.Pairwise.nil
 top:=λ_ h=>by cases h
 apart:=λi _ r _ h=>by simp at h
 ok:=λk r h=>by simp at h
 keys:=List.nodup_nil
 laid:=λb=>by
  show none=((T9 n (none:Option SpC))[b]?).bind id;rw[eJ];split<;>rfl
 poolR:=λ_ h=>by cases h
 poolL:=λ_ h=>by cases h
 low:=Int.le_refl _
 high:=Int.le_refl _
 many:=B8 _
 len:=B8 _
theorem bQp{l:List LifeC}{k:Nat}{x:dQ}(h:(lv l)[k]?=some x):l[k]?=some x.c:=by
 have h1:=lc_at h;rw[lc_lv]at h1;exact h1
theorem life_none0{x:dQ}(h:(!(x.from_==0&&x.to_== -1))=false): ¬x.c.from_<0:=by
 show ¬x.from_<0
 simp at h;omega
theorem bRh(mb:Nat):prog.built 105 [(3,.map (some mb))]=some #[.slice none 0 0,.slice none 0 0,j5 0,.map (some mb)]:=l4
theorem zero_pp:(prog.info? 101).bind (·.zero)=some (.pointer none):=l4
theorem each_repl(n:Nat){F:List bE}:Has F (bE.each (T9 n bCr) fB):=λS w k x hx=>by
 have:=List.eq_of_mem_replicate hx;subst this;exact polF_nil S w k
theorem pols_len{A:Option Addr}{n c:Nat}{l:List PolV}{F:List bE}(h:Has F (iY.sl (.slice A n c) l))(hl:l.length=n):Has F (iY.sl (.slice A l.length c) l):=by rw[hl];exact h
theorem bHv{F:List bE}:Has F (iY.sl (.slice none 0 0) []):=λ_ _ _=>⟨none,0,rfl,λk x h=>by simp at h⟩
theorem oG:(prog.info? 45).bind (·.zero)=some (.agg #[.slice none 0 0,.slice none 0 0]):=l4
theorem jN:prog.built 45 []=some #[.slice none 0 0,.slice none 0 0]:=l4
theorem sZ(a0:Option Addr)(l0 c0:Nat):prog.built 45 [(0,.slice a0 l0 c0)]=some #[.slice a0 l0 c0,.slice none 0 0]:=l4
theorem PlanF_spec(c:gD):bZ prog 14 [.agg #[j5 c.vars,j0 c.bufs,j0 c.steps,j0 c.outs]] [] [oJ c,bE.cells 0 0 [j5 0,j5 (-1)]] (λ(x:LayV)=> .tuple #[.agg #[j0 x.at_,j0 x.size],j5 (iK c.c).2]) (λ_=>[]) (λ(x:LayV)=>[iY.sl (j0 x.at_) x.at_.list,bE.each x.at_.list fB,fB x.size,bE.pure ((polsL x.at_.list,x.size.list)=(iK c.c).1)]):=by
 have hT:=fI;generalize hR:tS c.c=R;refine i7 func14 ntmps14 ?_;intro β hM;refine g2 ?_;refine i6 λb1=>?_;refine f9 oG λb2=>?_;refine g7 ?_;refine f7 func33 (bCm c) .nil ⟨d7,e8⟩ λ_=>?_;refine g3 ?_;refine bBd (λhc16=>?_) λhc16=>?_
 .refine g2 ?_;refine ss (cC rfl rfl (jN)) ?_;refine g6 ?_;have hW:=planW_no (c:=c.c) (by simpa using hc16);exact rs2 (⟨⟨none,0,[]⟩,⟨none,0,[]⟩⟩:LayV) ⟨bHv,Has.each_nil,polF_nil,e9 (by rw[hW];rfl),e8⟩ (he:=by rw[hW];rfl)
 refine g3 ?_;have hr:cY c.c=true:=by simpa using hc16
 obtain⟨hbz,hst,hou⟩:=bFj hr;have hnb:c.c.bufs.length=c.bufs.list.length:=cD _;have hns:c.c.steps.length=c.steps.list.length:=fC _;refine bP (bBb.sl (.slice c.bufs.addr c.bufs.list.length c.bufs.cap) c.bufs.list) (rR (lQ d7)) ?_;refine dC _ _ [(true,0),(true,2),(false,1),(false,3),(true,4),(true,5)] dJ l8 (.c0 (.c0 .nil)) bA.self ?_;refine g3 ?_;refine f7 func37 (lives_spec c hr) .nil ⟨d8,d9,e8⟩ λ⟨LA,lcp⟩=>?_;refine iQ (E:=lR) .head ?_;refine g2 ?_;refine f7 func38 (fullP_spec c hr) .nil ⟨d9,e8⟩ λ⟨FA,fcp⟩=>?_;refine iQ (E:=lJ) .head ?_;refine g7 ?_;refine bPw .i64 rfl rfl rfl rfl λmb=>?_;refine ss (cC rfl rfl (bRh mb)) ?_;refine i6 λb3=>?_;refine cG (t:=284) qO ?_;refine f9 zero_pp λb4=>?_;refine g8 ?_;refine at_makePols (m:=c.bufs.list.length) rfl rfl rfl rfl rfl rfl k9 λb5=>?_;refine ss (cC rfl rfl (sZ _ _ _)) ?_;refine f9 oG λb6=>?_;refine g11 ?_;refine bP (fB st0.end_) (polF_nil)<|bP (bE.each ([]:List SpotV) mB) (Has.each_nil)<|bP (bE.each (T9 c.bufs.list.length bCr) fB) (each_repl _) ?_;refine g8 ?_;refine pV (.c6 (.c2 (.c5 (.c0 (.c0 (.c1 (.c0 (.cons .head Sel.self)))))))) ?_;refine bPg (ι:=PSt×List SpotV×List SpotV×List PolV×PlC×Nat) [(1,_),(2,_),(4,_),(5,_),(6,_),(7,_),(8,_),(33,_)] ⟨rfl,rfl,rfl,rfl,rfl,rfl,rfl,rfl,e8⟩ (λ⟨st,pool,fs,ats,s,b⟩=>[(34,.int .i64 (b:Nat))]) (λ⟨st,pool,fs,ats,s,b⟩=>(.obj b2 (.cells ([.slice none 0 0,.slice none 0 0]:List Value).toArray 45):: .obj b4 (.cells ([.pointer (some ⟨b3,0,none⟩)]:List Value).toArray 101):: .obj b1 (.cells ([.int .i64 c.vars,.slice c.bufs.addr c.bufs.list.length c.bufs.cap,.slice c.steps.addr c.steps.list.length c.steps.cap,.slice c.outs.addr c.outs.list.length c.outs.cap]:List Value).toArray 26):: .obj b6 (.cells ([.slice (some ⟨b5,0,none⟩) c.bufs.list.length c.bufs.list.length,.slice none 0 0]:List Value).toArray 45)::iY.row (.slice (some ⟨b5,0,none⟩) c.bufs.list.length c.bufs.list.length) 43 ats::plH b3 mb st)) (λ⟨st,pool,fs,ats,s,b⟩=>[bE.pure (b<=c.bufs.list.length/\gJ st pool s fs (2*b)/\s.ats=ats.map (·.list)/\ats.length=c.bufs.list.length/\s.laid.length=c.bufs.list.length/\R=bNj c.c (kL c.c.bufs (cX c.c) (c.bufs.list.length-b) b s)),fB st.end_,bE.each pool mB,bE.each ats fB]) (λ⟨st,pool,fs,ats,s,b⟩=>c.bufs.list.length-b) (st0,[],[],T9 c.bufs.list.length bCr,tJ c.bufs.list.length,0) ⟨rfl,e8⟩ (List.Perm.refl _) ⟨e9 (⟨k9,rel_start _,by simp[tJ,bCr],X2,by simp[tJ],by rw[<-hR,plan_begin,hnb];rfl⟩),d9,d8,d7,e8⟩ ?_;rintro⟨st,pool,fs,ats,s,b⟩;dsimp only;refine bM d7 λhinv8=>?_;have h:=hinv8.2.1;have ha:=hinv8.2.2.1;have hal:=hinv8.2.2.2.1;have hsl:=hinv8.2.2.2.2.1;refine g6 ?_;refine fD (λhc35=>?_) λhc35=>?_
 .refine g11 ?_;have hmn:c.bufs.list.length-b=(c.bufs.list.length-(b+1))+1:=k9
  obtain⟨u,hu⟩:=gx c.bufs.list b;obtain⟨y,hy⟩:=gx (lv (cX c.c)) b (by rw[bGy,lX,hnb];omega);refine dC _ _ [(true,0),(true,1),(true,2),(true,3),(true,4),(true,5),(true,6),(true,7),(true,8),(true,9),(true,10),(true,11),(true,12),(true,13)] dJ l8 (.c0 (.c0 (.c0 (.c0 (.c0 (.c0 (.c0 (.cons .head Sel.self)))))))) bA.self ?_;refine g2 ?_;refine stM rfl (bJ hT (k:=b) (bV (Has.of mT8)) rfl rfl rfl rfl rfl (by rw[bGy,lX,hnb]) rfl ((D9.1 hy).1)) ?_;refine stM rfl (kV hy 0) ?_;refine stM rfl (sH hT (bI (off:=0) (Has.of mT11)) rfl rfl rfl rfl rfl) ?_;refine stM rfl (bRp y ⟨0,-1⟩ rfl rfl rfl) ?_;refine one ?_;refine dB (λhg43=>?_) (λhg43=>?_)
  .refine g2 ?_;refine stM rfl (bJ hT (k:=b) (bV (Has.of mT8)) rfl rfl rfl rfl rfl (by rw[bGy,lX,hnb]) rfl ((D9.1 hy).1)) ?_;refine one ?_;refine stM rfl (jB hy 0) ?_;refine g4 ?_;refine fD (λhc50=>?_) λhc50=>?_
   .refine fS ?_
    rcases hly:layC (polsL u.sides.list) b false s with _|s'
    .refine g3 ?_;refine dW (aV (l₁:=[_])) ?_;refine lA (j4 func39) (bAx b4 b1 b6 c (some ⟨b5,0,none⟩) c.bufs.list.length c.bufs.list.length ats hal b3 mb st pool fs s (2*b) h k9 b (b:Nat) rfl u hu k9 k9 ha false) rfl rfl rfl rfl rfl rfl rfl (Split.front _ _) ⟨Has.of mT10,d8,d9,e8⟩ λy7=>?_;refine dW aV ?_;refine bM e6 λhpu=>bF (z':=140) (by rw[hly];rfl) ?_;refine g7 ?_;refine bQ (t':=true) l5 ?_;refine g5 ?_;refine ss (cC rfl rfl (jN)) ?_;refine g11 ?_;have hW:=bKp hr (hR.trans (((vY hinv8.2.2.2.2.2 hmn (cN hu) (bQp hy)).2 ‹_›).2 hly));exact rs2 (⟨⟨none,0,[]⟩,⟨none,0,[]⟩⟩:LayV) ⟨bHv,Has.each_nil,polF_nil,e9 (by rw[hW];rfl),e8⟩ (he:=by rw[hW];rfl)
    refine g3 ?_;refine dW (aV (l₁:=[_])) ?_;refine lA (j4 func39) (bAx b4 b1 b6 c (some ⟨b5,0,none⟩) c.bufs.list.length c.bufs.list.length ats hal b3 mb st pool fs s (2*b) h k9 b (b:Nat) rfl u hu k9 k9 ha false) rfl rfl rfl rfl rfl rfl rfl (Split.front _ _) ⟨Has.of mT10,d8,d9,e8⟩ λy8=>?_;refine dW aV ?_;refine bM e6 λhpu=>bF (z':=0) (by rw[hly];rfl)<|bP (bE.each (ats.set b y8.2.2.2) fB) (each_set (Has.of mT7) d9) ?_;refine g7 ?_;refine bQ (t':=false) l5 ?_;refine g8 ?_;refine inc (b+1) ?_;refine g3 ?_;exact pB (y8.1,y8.2.1,y8.2.2.1,ats.set b y8.2.2.2,s',b+1) n3 ⟨rfl,e8⟩ ⟨rfl,rfl,rfl,rfl,rfl,rfl,rfl,rfl,e8⟩ (List.Perm.refl _) ⟨e9 (⟨by dsimp only;omega,(hpu s' hly).1.more n3,(hpu s' hly).2,by rw[P6];exact hal,by rw[lay_len hly];exact hsl,((vY hinv8.2.2.2.2.2 hmn (cN hu) (bQp hy)).2 ‹_›).1 s' hly⟩),d8,d9,d7,e8⟩ (bA.drop 9)
   refine g5 ?_;refine inc (b+1) ?_;refine g3 ?_;exact pB (st,pool,fs,ats,s,b+1) n3 ⟨rfl,e8⟩ ⟨rfl,rfl,rfl,rfl,rfl,rfl,rfl,rfl,e8⟩ (List.Perm.refl _) ⟨e9 (⟨by dsimp only;omega,h.more n3,ha,hal,hsl,(vY hinv8.2.2.2.2.2 hmn (cN hu) (bQp hy)).1 (by show ¬dQ.from_ _<0;omega)⟩),d8,d9,e6,e8⟩ (bA.drop 4)
  refine g15 ?_;refine inc (b+1) ?_;refine g3 ?_;exact pB (st,pool,fs,ats,s,b+1) n3 ⟨rfl,e8⟩ ⟨rfl,rfl,rfl,rfl,rfl,rfl,rfl,rfl,e8⟩ (List.Perm.refl _) ⟨e9 (⟨by dsimp only;omega,h.more n3,ha,hal,hsl,(vY hinv8.2.2.2.2.2 hmn (cN hu) (bQp hy)).1 (life_none0 hg43)⟩),d8,d9,e6,e8⟩ (bA.drop 4)
 refine g15 ?_;refine bPg (ι:=PSt×List SpotV×List SpotV×List PolV×PlC×Nat) [(2,_),(4,_),(5,_),(6,_),(7,_),(8,_),(60,_),(61,_)] ⟨rfl,rfl,rfl,rfl,rfl,rfl,rfl,rfl,e8⟩ (λ⟨st,pool,fs,ats,s,i⟩=>[(62,.int .i64 (i:Nat))]) (λ⟨st,pool,fs,ats,s,i⟩=>(.obj b2 (.cells ([.slice none 0 0,.slice none 0 0]:List Value).toArray 45):: .obj b4 (.cells ([.pointer (some ⟨b3,0,none⟩)]:List Value).toArray 101):: .obj b1 (.cells ([.int .i64 c.vars,.slice c.bufs.addr c.bufs.list.length c.bufs.cap,.slice c.steps.addr c.steps.list.length c.steps.cap,.slice c.outs.addr c.outs.list.length c.outs.cap]:List Value).toArray 26):: .obj b6 (.cells ([.slice (some ⟨b5,0,none⟩) c.bufs.list.length c.bufs.list.length,.slice none 0 0]:List Value).toArray 45)::iY.row (.slice (some ⟨b5,0,none⟩) c.bufs.list.length c.bufs.list.length) 43 ats::plH b3 mb st)) (λ⟨st,pool,fs,ats,s,i⟩=>[bE.pure (i<=c.steps.list.length/\gJ st pool s fs (2048+3100*i)/\s.ats=ats.map (·.list)/\ats.length=c.bufs.list.length/\s.laid.length=c.bufs.list.length/\R=endC (goC c.c (cX c.c) (nC c.c) (c.c.steps.drop i) i s)),fB st.end_,bE.each pool mB,bE.each ats fB]) (λ⟨st,pool,fs,ats,s,i⟩=>c.steps.list.length-i) (st,pool,fs,ats,s,0) ⟨rfl,e8⟩ (List.Perm.refl _) ⟨e9 (⟨k9,h.more k9,ha,hal,hsl,begin_end (b:=b) (by have hb0:=hinv8.2.2.2.2.2;rwa[show c.bufs.list.length-b=0 by omega]at hb0)⟩),d8,d9,e6,e8⟩ ?_;rintro⟨st,pool,fs,ats,s,i⟩;dsimp only;refine bM d7 λhinv16=>?_;have h:=hinv16.2.1;have ha:=hinv16.2.2.1;have hal:=hinv16.2.2.2.1;have hsl:=hinv16.2.2.2.2.1;refine g6 ?_;refine fD (λhc63=>?_) λhc63=>?_
 .refine g5 ?_;refine bP (sO.sl (.slice c.steps.addr c.steps.list.length c.steps.cap) c.steps.list) (qS (iG (Has.of mT14))) ?_;obtain⟨x,hx⟩:=gx c.steps.list i;obtain⟨hb0,hb1,_⟩:=hst x.c (f4 (dI hx))
  replace hb0:0<=x.buf:=hb0
  replace hb1:x.buf<(c.c.bufs.length:Nat):=hb1
  have hbz2:x.buf.toNat<c.bufs.list.length:=k9
  obtain⟨u,hu⟩: ∃u,c.bufs.list[x.buf.toNat]?=some u:=⟨_,D7 hbz2⟩
  obtain⟨y,hy⟩:=gx (lv (cX c.c)) x.buf.toNat (by rw[bGy,lX,hnb];omega);obtain⟨t,ht⟩:=gx (nC c.c) x.buf.toNat (by rw[bGq,hnb];omega);have hgo:=go_step hinv16.2.2.2.2.2 (dI hx) (cN hu) (bQp hy) ht;refine g2 ?_;refine ss (ixs i) ?_;refine ss (kV hx 0) ?_;refine f9 wT λb9=>?_;refine g10 ?_;refine ss (bJ hT (k:=x.buf.toNat) (bV (Has.of mT13)) rfl rfl rfl rfl rfl (by rw[bGy,lX,hnb]) k9 ((D9.1 hy).1)) ?_;refine one ?_;refine ss (jB hy 0) ?_;refine g4 ?_;refine bEw (λhc74=>?_) λhc74=>?_
  .refine g6 ?_;refine inc (i+1) ?_;refine g3 ?_;refine pV (.c1 (.c1 (.c1 (.c1 (.c1 (.c1 (.c1 (.c1 (Sel.skip Sel.self))))))))) ?_;exact pB (st,pool,fs,ats,s,i+1) n3 ⟨rfl,e8⟩ ⟨rfl,rfl,rfl,rfl,rfl,rfl,rfl,rfl,e8⟩ (List.Perm.refl _) ⟨e9 (⟨by dsimp only;omega,h.more n3,ha,hal,hsl,hgo.1 ‹_›⟩),d9,e6,e7,e8⟩ (bA.drop 5)
  refine g7 ?_;refine dW (aV (l₁:=[_,_,_,_,_,_])) ?_;refine bG func42 (bQx b3 mb st pool fs s (2048+3100*i) h LA lcp c.bufs.list.length (cX c.c) (by rw[lX,hnb]) k9 hsl.symm (i:Nat)) rfl rfl (Split.front _ _) ⟨d9,e6,Has.of mT13,e8⟩ λy10=>?_;refine dW aV ?_;refine bM d9 λhrl=>?_;refine g3 ?_
  rcases hly:layC (polsL u.sides.list) x.buf.toNat t (relC (i:Nat) (cX c.c) s)with _|s'
  .refine dC _ _ [(true,0),(true,1),(true,2),(true,3),(true,4),(true,5),(true,6),(true,7),(false,8),(true,9)] dJ l8 (.c0 (.c0 (.c0 (.c0 (.c0 .nil))))) bA.self ?_;refine g6 ?_;refine stM rfl (bJ hT (k:=x.buf.toNat) (bV (Has.of (u8 mT7))) rfl rfl rfl rfl rfl (by rw[bGq,hnb]) k9 ((D9.1 ht).1)) ?_;refine stM rfl (jB ht 0) ?_;refine one ?_;refine pV (.c1 (.c0 (.c0 (.c0 (.c0 (.c0 (.c0 (.c0 (.cons .head Sel.self))))))))) ?_;refine dW (aV (l₁:=[_,_])) ?_;refine lA (j4 func39) (bAx b4 b1 b6 c (some ⟨b5,0,none⟩) c.bufs.list.length c.bufs.list.length ats hal b3 mb y10.1 y10.2.1 y10.2.2 (relC (i:Nat) (cX c.c) s) (2048+3100*i+3*c.bufs.list.length) hrl k9 x.buf.toNat x.buf k9 u hu (by rw[rel_len,hsl];exact hbz2) k9 ha t) rfl rfl rfl rfl rfl rfl rfl (Split.front _ _) ⟨Has.of (u8 (u8 mT2)),d7,d8,e8⟩ λy11=>?_;refine dW aV ?_;refine bM e6 λhpu=>bF (z':=140) (by rw[hly];rfl) ?_;refine g8 ?_;refine bQ (t':=true) l5 ?_;refine g5 ?_;refine ss (cC rfl rfl (jN)) ?_;refine g11 ?_;have hW:=bKp hr (hR.trans ((hgo.2 ‹_›).2 hly));exact rs2 (⟨⟨none,0,[]⟩,⟨none,0,[]⟩⟩:LayV) ⟨bHv,Has.each_nil,polF_nil,e9 (by rw[hW];rfl),e8⟩ (he:=by rw[hW];rfl)
  refine dC _ _ [(true,0),(true,1),(true,2),(true,3),(true,4),(true,5),(true,6),(true,7),(false,8),(true,9)] dJ l8 (.c0 (.c0 (.c0 (.c0 (.c0 .nil))))) bA.self ?_;refine g6 ?_;refine stM rfl (bJ hT (k:=x.buf.toNat) (bV (Has.of (u8 mT7))) rfl rfl rfl rfl rfl (by rw[bGq,hnb]) k9 ((D9.1 ht).1)) ?_;refine stM rfl (jB ht 0) ?_;refine one ?_;refine pV (.c1 (.c0 (.c0 (.c0 (.c0 (.c0 (.c0 (.c0 (.cons .head Sel.self))))))))) ?_;refine dW (aV (l₁:=[_,_])) ?_;refine lA (j4 func39) (bAx b4 b1 b6 c (some ⟨b5,0,none⟩) c.bufs.list.length c.bufs.list.length ats hal b3 mb y10.1 y10.2.1 y10.2.2 (relC (i:Nat) (cX c.c) s) (2048+3100*i+3*c.bufs.list.length) hrl k9 x.buf.toNat x.buf k9 u hu (by rw[rel_len,hsl];exact hbz2) k9 ha t) rfl rfl rfl rfl rfl rfl rfl (Split.front _ _) ⟨Has.of (u8 (u8 mT2)),d7,d8,e8⟩ λy12=>?_;refine dW aV ?_;refine bM e6 λhpu=>bF (z':=0) (by rw[hly];rfl)<|bP (bE.each (ats.set x.buf.toNat y12.2.2.2) fB) (each_set (Has.of mT11) d9) ?_;refine g8 ?_;refine bQ (t':=false) l5 ?_;refine g8 ?_;refine inc (i+1) ?_;refine g3 ?_;refine pV (.c0 (.c1 (.c1 (.c1 (.c1 (.c1 (.c1 (.c1 (Sel.skip Sel.self))))))))) ?_;exact pB (y12.1,y12.2.1,y12.2.2.1,ats.set x.buf.toNat y12.2.2.2,s',i+1) n3 ⟨rfl,e8⟩ ⟨rfl,rfl,rfl,rfl,rfl,rfl,rfl,rfl,e8⟩ (List.Perm.refl _) ⟨e9 (⟨by dsimp only;omega,(hpu s' hly).1.more n3,(hpu s' hly).2,by rw[P6];exact hal,by rw[lay_len hly,rel_len];exact hsl,(hgo.2 ‹_›).1 s' hly⟩),d8,d9,d7,e8⟩ (bA.drop 13)
 refine g23 ?_;have hW:=planW_ok hr (hR.trans (go_end hinv16.2.2.2.2.2 (by show c.c.steps.length<=i;rw[hns];omega)));refine iQ (E:=iY) kT4 ?_;exact rs2 (⟨⟨(some ⟨b5,0,none⟩),c.bufs.list.length,ats⟩,st.end_⟩:LayV) ⟨pols_len d7 hal,e7,d9,e9 (by rw[hW,ha,<-h.end_];rfl),e8⟩ (he:=by rw[hW];exact congrArg (λk=>Value.tuple #[.agg #[.slice (some ⟨b5,0,none⟩) k c.bufs.list.length,.slice st.end_.addr st.end_.list.length st.end_.cap],.int .i64 0]) hal.symm)
end
end Go.Proofs.YtnfiadlonjediaaGreatDoor
