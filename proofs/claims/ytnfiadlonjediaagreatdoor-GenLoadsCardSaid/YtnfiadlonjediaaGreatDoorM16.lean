/- Texts of one proof, one behind the other: PlN, PolyK, PlS, PlT, TysN, TysO, FuH, FullK, FullL, FullM, PlU, PlV. -/
import Derived.Test.YtnfiadlonjediaaGreatDoorM12
import Derived.Test.YtnfiadlonjediaaGreatDoorM7
import Derived.Test.YtnfiadlonjediaaGreatDoorM15
import Derived.Test.YtnfiadlonjediaaGreatDoorM10
import Derived.Test.YtnfiadlonjediaaGreatDoorM14
set_option maxRecDepth 100000
namespace Go.Proofs.YtnfiadlonjediaaGreatDoor
section
open Go.RowKit Go.Proofs.Tryz
def oneK (i:Int)(y:LifeC)(k:Nat)(s:PlC):PlC:=match (s.laid[k]?).bind id with
 |some q=>if y.to_<i then {s with laid:=s.laid.set k none,free:=if q.size=[]then s.free else s.free++[q]}else s
 |none=>s
def relK (i:Int)(l:List LifeC)(s:PlC):Nat->PlC
 |0=>s
 |k+1=>match l[k]? with
  |some y=>oneK i y k (relK i l s k)
  |none=>relK i l s k
theorem yJ(i:Int): ∀(ys:List LifeC) (r:List (Option SpC)),(relGo i ys r).1.length=r.length
 |[],l=>rfl
 |y::ys,[]=>by simp[relGo]
 |y::ys,none::r=>by simp[relGo,yJ i ys r]
 |y::ys,some q::r=>by
  have:=yJ i ys r;simp only[relGo];split<;>simp[this]
theorem bIo(i:Int)(y:LifeC)(o:Option SpC): ∀(ys:List LifeC) (r:List (Option SpC)),ys.length=r.length->relGo i (ys++[y]) (r++[o])=
  match o with
  |some q=>if y.to_<i then ((relGo i ys r).1++[none],(relGo i ys r).2++(if q.size=[]then []else [q]))else ((relGo i ys r).1++[some q],(relGo i ys r).2)
  |none=>((relGo i ys r).1++[none],(relGo i ys r).2)
 |[],[],_=>by
  cases o with
  |none=>simp[relGo]
  |some q=>
   by_cases h:y.to_<i
   .by_cases h2:q.size=[]<;>simp[relGo,h,h2]
   .simp[relGo,h]
 |[],_::_,h=>by simp at h
 |_::_,[],h=>by simp at h
 |z::ys,p::r,h=>by
  have ih:=bIo i y o ys r aa7
  cases p with
  |none=>
   simp only[List.cons_append,relGo,ih]
   cases o with
   |none=>rfl
   |some q=>by_cases h1:y.to_<i<;>simp[h1]
  |some p=>
   simp only[List.cons_append,relGo,ih]
   cases o with
   |none=>
    by_cases h2:z.to_<i
    .simp only[h2,if_true]
     by_cases h3:p.size=[]<;>simp[h3]
    .simp[h2]
   |some q=>
    by_cases h1:y.to_<i<;>by_cases h2:z.to_<i<;>by_cases h3:p.size=[]<;>by_cases h4:q.size=[]<;>simp[h1,h2,h3,h4]
theorem relK_at(i:Int)(l:List LifeC)(s:PlC)(hl:l.length=s.laid.length): ∀k,k<=l.length->relK i l s k={s with laid:=(relGo i (l.take k) (s.laid.take k)).1++s.laid.drop k,free:=s.free++(relGo i (l.take k) (s.laid.take k)).2}
 |0,_=>by simp[relK,relGo]
 |k+1,h=>by
  have ih:=relK_at i l s hl k k7
  obtain⟨y,hy⟩: ∃y,l[k]?=some y:=⟨_,List.getElem?_eq_getElem k7⟩
  obtain⟨o,ho⟩: ∃o,s.laid[k]?=some o:=⟨_,List.getElem?_eq_getElem k7⟩
  have e1:l.take (k+1)=l.take k++[y]:=by rw[List.take_add_one,hy];rfl
  have e2:s.laid.take (k+1)=s.laid.take k++[o]:=by rw[List.take_add_one,ho];rfl
  have e3:s.laid.drop k=o::s.laid.drop (k+1):=by
   obtain⟨hlt,e⟩:=List.getElem?_eq_some_iff.1 ho;rw[<-e,List.getElem_cons_drop hlt]
  have hlen:((relGo i (l.take k) (s.laid.take k)).1).length=k:=by
   rw[yJ];simp;omega
  rw[e1,e2,bIo i y o _ _ o7];simp only[relK,hy];rw[ih];generalize relGo i (l.take k) (s.laid.take k)=g at hlen
  have hat:(g.1++s.laid.drop k)[k]?=some o:=by
   rw[List.getElem?_append_right k7,hlen,Nat.sub_self,e3];rfl
  have hset: ∀z,(g.1++s.laid.drop k).set k z=g.1++z::s.laid.drop (k+1):=λz=>by
   rw[List.set_append_right _ _ k7,hlen,Nat.sub_self,e3];rfl
  unfold oneK;simp only[hat,Option.bind_some,id]
  cases o with
  |none=>simp[e3]
  |some q=>
   by_cases h1:y.to_<i
   .simp only[h1,if_true,hset]
    by_cases h2:q.size=[]<;>simp[h2]
   .simp[h1,e3]
theorem relK_eq(i:Int)(l:List LifeC)(s:PlC)(hl:l.length=s.laid.length):relK i l s l.length=relC i l s:=by
 rw[relK_at i l s hl _ (Nat.le_refl _),List.take_length,hl,List.take_length,List.drop_length,List.append_nil];rfl
theorem relK_len(i:Int)(l:List LifeC)(s:PlC): ∀k,(relK i l s k).laid.length=s.laid.length
 |0=>rfl
 |k+1=>by
  have ih:=relK_len i l s k;unfold relK;split
  .unfold oneK;split
   .split
    .show(((relK i l s k).laid).set k none).length=_;rw[List.length_set,ih]
    .exact ih
   .exact ih
  .exact ih
theorem zO{f:FuncId}{args:List Value}{Pre:List bC}{r:List Mono×Int}(hl:r.1.length<=8796093022208)(h: ∀S w,(∀b,S b->b<w.heap.size)->All Pre S w->Calls prog f args.toArray w (bGc w r)):
  cE prog f args [] Pre (λx:Option Addr×Nat=> .tuple #[.slice x.1 r.1.length x.2,.int .i64 r.2]) (λ_=>[]) (λx=>[fC ⟨x.1,x.2,r.1⟩]):=λS w s k=>by
 refine(h S w (λb hb=>(s.zone b hb).1) k).mono ?_;intro e w' hg;obtain⟨v,rfl,hb,A,c,rfl,hr⟩:=hg;refine⟨(A,c),λb=>S b\/(w.heap.size<=b/\b<w'.heap.size),rfl,⟨nP.of_below _ hb,λc hc=>by simp at hc,λc hc=>by simp at hc,List.Pairwise.nil,λb hb'=>?_⟩,All.cons ⟨?_,hl⟩ (λg hg=>by simp at hg)⟩
 .rcases hb' with h|h
  .exact⟨Nat.lt_of_lt_of_le (s.zone b h).1 hb.size,.inl h⟩
  .exact⟨h.2,.inr (.inr h.1)⟩
 .rcases hr with hr|⟨g,rfl,hg,hr⟩
  .exact⟨A,c,rfl,λk m hk=>by
    have hr:r.1=[]:=hr
    simp[hr]at hk⟩
  .have hm:=hr.monos;obtain⟨A',c',e,h⟩:=sl_of (c:=c) hm;injection e with e1 e2 e3
   subst e1;refine⟨_,c,rfl,λk m hk=>?_⟩;obtain⟨b,o,cs,e1,e2,e3,e4⟩:=h k m hk;injection e1 with e1
   injection e1 with e1 e5
   subst e1;exact⟨_,o,cs,by rw[e5],.inr ⟨hg,e2⟩,e3,e4⟩
theorem bEk{p:List Mono}(h:cL p=true):p.length<=48:=by
 simp only[cL,Bool.and_eq_true,decide_eq_true_eq]at h;exact h.1
theorem bAt(L:List Mono):cL (gM L).1=true/\((gM L).2≠0->(gM L).1=[]):=by
 unfold gM;split
 .rename_i h;exact⟨h,λh=>absurd rfl h⟩
 .exact⟨rfl,λ_=>rfl⟩
theorem both_right(p q:List Mono)(s:Int):cL (bothP p q s).1=true:=by
 unfold bothP;split
 .exact(bAt _).1
 .rfl
theorem mul_right(p q:List Mono):cL (mW p q).1=true:=by
 unfold mW;split
 .exact(bAt _).1
 .rfl
theorem const_right(n:Int):cL (kO n).1=true:=by
 unfold kO;split
 .rfl
 .split
  .rfl
  .rename_i h0 h1;simp only[not_or,Int.not_lt]at h1;simp[cL,dI,num0,gU,h0,Mono.deg,h1]
section
variable (p q : PolV)
theorem add_spec(hp:p.list.length<=140737488355328)(hq:q.list.length<=140737488355328):cE prog 96 [.slice p.addr p.list.length p.cap,.slice q.addr q.list.length q.cap] [] [fC p,fC q] (λx:Option Addr×Nat=> .tuple #[.slice x.1 (bothP p.list q.list 1).1.length x.2,.int .i64 (bothP p.list q.list 1).2]) (λ_=>[]) (λx=>[fC ⟨x.1,x.2,(bothP p.list q.list 1).1⟩]):=
 zO (Nat.le_trans (bEk (both_right _ _ _)) m7) λ_ w hS h=>add_any _ _ _ _ _ _ w (kI hS (h _ (.head _))) (kI hS (h _ (.tail _ (.head _)))) hp hq
theorem mul_spec(hp:p.list.length<=140737488355328)(hq:q.list.length<=140737488355328):cE prog 94 [.slice p.addr p.list.length p.cap,.slice q.addr q.list.length q.cap] [] [fC p,fC q] (λx:Option Addr×Nat=> .tuple #[.slice x.1 (mW p.list q.list).1.length x.2,.int .i64 (mW p.list q.list).2]) (λ_=>[]) (λx=>[fC ⟨x.1,x.2,(mW p.list q.list).1⟩]):=
 zO (Nat.le_trans (bEk (mul_right _ _)) m7) λ_ w hS h=>mul_any _ _ _ _ _ _ w (kI hS (h _ (.head _))) (kI hS (h _ (.tail _ (.head _)))) hp hq
theorem const_spec(n:Int):cE prog 93 [.int .i64 n] [] [] (λx:Option Addr×Nat=> .tuple #[.slice x.1 (kO n).1.length x.2,.int .i64 (kO n).2]) (λ_=>[]) (λx=>[fC ⟨x.1,x.2,(kO n).1⟩]):=
 zO (Nat.le_trans (bEk (const_right n)) m7) λ_ w _ _=>const_any n w
end
section
variable {R : Option (List Mono)} {l : List (List Mono)} {n p : List Mono} {i : Nat}
theorem size_ok'(h:R=oD (l.drop i) n)(hx:l[i]?=some p)(he:(mW n p).2=0):R=oD (l.drop (i+1)) (mW n p).1:=by
 obtain⟨hlt,e⟩:=List.getElem?_eq_some_iff.1 hx;rw[h,<-List.getElem_cons_drop hlt,e,oD,if_pos he]
theorem size_bad'(h:R=oD (l.drop i) n)(hx:l[i]?=some p)(he:(mW n p).2≠0):R=none:=by
 obtain⟨hlt,e⟩:=List.getElem?_eq_some_iff.1 hx;rw[h,<-List.getElem_cons_drop hlt,e,oD,if_neg he]
theorem tO(h:R=oD (l.drop i) n)(hi:l.length<=i):R=some n:=by
 rw[h,List.drop_of_length_le hi,oD]
end
section
variable {sides : List (List Mono)} {b i : Nat} {again : Bool} {s : PlC} {n : List Mono} {q : SpC}
theorem lay_size(h:qJ sides=none):layC sides b again s=none:=by unfold layC;rw[h]
theorem lay_take(h:qJ sides=some n)(ha:again=true)(hn:n≠[])(hi:s.free.findIdx? (λy=>decide (y.size=n))=some i)(hq:s.free[i]?=some q):layC sides b again s=some {s with free:=s.free.eraseIdx i,laid:=s.laid.set b (some q),ats:=s.ats.set b q.at_}:=by
 unfold layC bAq;rw[h];simp only[ha,hn,ne_eq,not_false_eq_true,and_self,if_true,hi,hq]
theorem bOs(hf:again=false\/s.free.findIdx? (λy=>decide (y.size=n))=none):bAq n again s.free=none:=by
 unfold bAq
 rcases hf with hf|hf
 .rw[if_neg (by simp[hf])]
 .split
  .rw[hf]
  .rfl
theorem lay_new(h:qJ sides=some n)(hf:again=false\/s.free.findIdx? (λy=>decide (y.size=n))=none)(he:(bothP s.end_ n 1).2=0):layC sides b again s=some {s with end_:=(bothP s.end_ n 1).1,laid:=s.laid.set b (some ⟨s.end_,n⟩),ats:=s.ats.set b s.end_}:=by
 unfold layC;rw[h];simp only[bOs hf,he,if_true]
theorem bOh(h:qJ sides=some n)(hf:again=false\/s.free.findIdx? (λy=>decide (y.size=n))=none)(he:(bothP s.end_ n 1).2≠0):layC sides b again s=none:=by
 unfold layC;rw[h];simp only[bOs hf,he,if_false]
end
section
variable {st : PSt} {pool fs : List SpotV} {s : PlC} {M i : Nat} {x : SpotV} {n : List Mono}
theorem gH.ne(h:gH st pool s fs M)(hx:x∈fs):sz x≠[]:=by
 obtain⟨k,r,hk,hr⟩:=bBt.1 (h.flat.mem_iff.2 hx);exact(h.ok k r hk).2.2.2.2 x hr
theorem gH.free_ne(h:gH st pool s fs M){q:SpC}(hi:s.free.findIdx? (λy=>decide (y.size=n))=some i)(hq:s.free[i]?=some q):n≠[]:=by
 have h1:=List.findIdx?_eq_some_iff_getElem.1 hi;obtain⟨hlt,hp,_⟩:=h1;obtain⟨_,e⟩:=List.getElem?_eq_some_iff.1 hq;rw[e]at hp;have hn:q.size=n:=by simpa using hp
 have hm:q∈fs.map SpotV.c:=by rw[h.free];exact List.mem_of_getElem? hq
 obtain⟨x,hx,hxq⟩:=List.mem_map.1 hm;have:=h.ne hx;rw[<-hn,<-hxq];exact this
theorem rel_new(h:gH st pool s fs M)(b:Nat)(hb:b<s.laid.length)(n e:PolV)(he:e.list=(bothP s.end_ n.list 1).1):gH {st with kv:=setS b ⟨st.end_,n,0⟩ st.kv,end_:=e} (⟨st.end_,n,0⟩::pool) {s with end_:=(bothP s.end_ n.list 1).1,laid:=s.laid.set b (some ⟨s.end_,n.list⟩),ats:=s.ats.set b s.end_} fs M:=by
 have h1:=rel_end (rel_laid (h.wide ⟨st.end_,n,0⟩) b hb (List.mem_cons_self ..) (s.ats.set b s.end_)) e _ he
 have e1:(⟨st.end_,n,0⟩:SpotV).c=⟨s.end_,n.list⟩:=by
  show SpC.mk st.end_.list n.list=_;rw[h.end_]
 rw[e1]at h1;exact h1
end
section
variable {P : Program} {β : dC} {n : Nat} {Γ : Env} {H : List bD} {F : List bC} {Q : Exit -> Act -> World -> Prop}
theorem bMw{ι:Type}{c:Code}(Δ:Env)(hΔ:Γ.Sub Δ)(G:ι->Env)(HH:ι->List bD)(FF:ι->List bC)(μ:ι->Nat)(x0:ι)(hG:Γ.Sub (G x0))(hH:H.Perm (HH x0))(hF:bA F (FF x0))
  (round: ∀x,At β n (G x++Δ) (HH x) (FF x++F) (c.wp P (Exit.then (Back β n (λx=>G x++Δ) HH (λx=>FF x++F) μ (μ x)) Q))):At β n Γ H F ((Code.loop c).wp P Q):=
 dZ hH (at_loop (λx=>G x++Δ) HH (λx=>FF x++F) μ x0 (hG.append hΔ) Sel.self (hF.append bA.self) round)
theorem nR{ι:Type}{G:ι->Env}{Δ:Env}{HH:ι->List bD}{FF:ι->List bC}{F0:List bC}{μ:ι->Nat}{m:Nat}(x:ι)(hμ:μ x<m)(hG:Γ.Sub (G x))(hΔ:Γ.Sub Δ)(hH:H.Perm (HH x))(hF:bA F (FF x))(hF0:bA F F0):
  At β n Γ H F (Back β n (λx=>G x++Δ) HH (λx=>FF x++F0) μ m):=
 dZ hH (at_back (G:=λx=>G x++Δ) (FF:=λx=>FF x++F0) x hμ (hG.append hΔ) Sel.self (hF.append hF0))
end
section
variable {st : PSt} {pool fs : List SpotV} {s : PlC} {M b : Nat} {i : Int} {y : LifeC} {q : SpotV}
theorem one_none(h:gH st pool s fs M)(hg:qV b st.kv=none):oneK i y b s=s:=by
 have:=h.laid b;rw[hg]at this;unfold oneK;rw[<-this];rfl
theorem one_stay(h:gH st pool s fs M)(hg:qV b st.kv=some q)(hi: ¬y.to_<i):oneK i y b s=s:=by
 have:=h.laid b;rw[hg]at this;unfold oneK;rw[<-this];simp only[Option.map_some];rw[if_neg hi]
theorem one_gone(h:gH st pool s fs M)(hg:qV b st.kv=some q)(hi:y.to_<i):oneK i y b s={s with laid:=s.laid.set b none,free:=if sz q=[]then s.free else s.free++[q.c]}:=by
 have:=h.laid b;rw[hg]at this;unfold oneK;rw[<-this];simp only[Option.map_some];rw[if_pos hi];rfl
theorem yC{ls:List LifeC}{k:Nat}(h:ls[k]?=some y):relK i ls s (k+1)=oneK i y k (relK i ls s k):=by
 show(match ls[k]? with|some y=>oneK i y k (relK i ls s k)|none=>relK i ls s k)=_;rw[h]
theorem lc_at{l:List dV}{k:Nat}{u:dV}(h:l[k]?=some u):(lc l)[k]?=some u.c:=by
 show(l.map dV.c)[k]?=_;rw[List.getElem?_map,h];rfl
end
theorem delS_V(k:Int): ∀kv,bGx k (kvV kv)=kvV (delS k kv)
 |[]=>rfl
 |p::r=>by
  show(if k==p.1 then kvV r else (p.1,spV p.2)::bGx k (kvV r))=_;unfold delS;split
  .rfl
  .rw[delS_V k r];rfl
theorem spotZero(w:World):(zeroValue 214).run prog w= .ok (.agg #[.slice none 0 0,.slice none 0 0,.int .i64 0]) w:=by
 obtain⟨i,hi,hz,_⟩:=xC;simp[zeroValue,typeInfo,hi,hz]
theorem mI(a0:Option Addr)(l0 c0:Nat)(a1:Option Addr)(l1 c1:Nat):prog.built 214 [(0,.slice a0 l0 c0),(1,.slice a1 l1 c1)]=some #[.slice a0 l0 c0,.slice a1 l1 c1,.int .i64 0]:=k8
theorem lay_spec(pb mb:Nat)(st:PSt)(pool fs:List SpotV)(s:PlC)(M:Nat)(h:gH st pool s fs M)(hM:M<=70000000)(b:Nat)(hb:b<s.laid.length)(sides:Sl PolV)(again:Bool):cE prog 40 [.pointer (some ⟨pb,0,none⟩),.int .i64 (b:Nat),.slice sides.addr sides.list.length sides.cap,.bool again] (plH pb mb st) [fC st.end_,bC.each pool lK,oL sides] (λ(x:PSt×List SpotV×List SpotV×PolV)=> .tuple #[.slice x.2.2.2.addr x.2.2.2.list.length x.2.2.2.cap,.int .i64 (if (layC (polsL sides.list) b again s).isSome then 0 else 140)]) (λ(x:PSt×List SpotV×List SpotV×PolV)=>plH pb mb x.1) (λ(x:PSt×List SpotV×List SpotV×PolV)=>[fC x.1.end_,bC.each x.2.1 lK,fC x.2.2.2,bC.pure (∀s',layC (polsL sides.list) b again s=some s'->gH x.1 x.2.1 s' x.2.2.1 (M+2)/\s'.ats=s.ats.set b x.2.2.2.list)]):=by
 have hT:=fK;generalize hR:qJ (polsL sides.list)=R;refine j2 func40 ntmps40 ?_;intro β hM;refine fT<|bK (iD.sl (.slice sides.addr sides.list.length sides.cap) sides.list) (qR d9) ?_;refine bJ (uP e6) λhsc=>?_;have hsc1:=hsc.1;have hsc2:=hsc.2;refine g7 ?_;refine f9 func93 (const_spec 1) .nil e8 λy1=>?_;refine g16 ?_;refine bU (ι:=PolV×Nat) [(0,_),(1,_),(3,_),(24,_),(25,_)] ⟨rfl,rfl,rfl,rfl,rfl,e8⟩ (λ⟨cur,i⟩=>[(10,.slice cur.addr cur.list.length cur.cap),(26,.int .i64 (i:Nat))]) (λ_=>[]) (λ⟨cur,i⟩=>[bC.pure (i<=sides.list.length/\R=oD ((polsL sides.list).drop i) cur.list),fC cur]) (λ⟨cur,i⟩=>sides.list.length-i) (⟨y1.1,y1.2,(kO 1).1⟩,0) ⟨rfl,rfl,e8⟩ .nil ⟨e9 (⟨k7,by rw[<-hR];rfl⟩),d7,e8⟩ ?_;rintro⟨cur,i⟩;dsimp only;refine bJ d7 λhinv3=>?_;refine g6 ?_;refine dH (λhc27=>?_) λhc27=>?_
 .refine g5 ?_;obtain⟨x,hx⟩:=gx sides.list i;refine bK (fC x) (Has.each (qO (Has.of mT6)) (f5 hx)) ?_;refine one ?_;refine ss (ixs i) ?_;refine ss (fJ hx 0) ?_;refine g12 ?_;refine bJ (gG d9) λhcl=>bJ (gG d7) λhxl=>?_;refine f9 func94 (mul_spec (p:=cur) (q:=x) hcl hxl) .nil ⟨d9,d7,e8⟩ λy2=>?_;refine g13 ?_;refine bNw (λhc37=>?_) λhc37=>?_
  .refine g12 ?_;have hl:layC (polsL sides.list) b again s=none:=lay_size (hR.trans (size_bad' hinv3.2 (dD hx) ‹_›));exact qW (st,pool,fs,⟨none,0,[]⟩) rfl (rv_tmp rfl) (rv_tmp rfl) (.c0 (.c0 (.cons .head Sel.self))) ⟨Has.of mT6,Has.of mT7,polF_nil,e9 (λs' hs'=>by rw[hl]at hs';cases hs'),e8⟩ aa2
  refine g5 ?_;refine inc (i+1) ?_;refine g3 ?_;exact oC (⟨y2.1,y2.2,(mW cur.list x.list).1⟩,i+1) n9 ⟨rfl,rfl,e8⟩ ⟨rfl,rfl,rfl,rfl,rfl,e8⟩ (.c0 (.c0 (.cons .head Sel.self))) ⟨e9 (⟨by dsimp only;omega,size_ok' hinv3.2 (dD hx) ‹_›⟩),d7,e8⟩ (bA.drop 4)
 refine g11 ?_;refine yS (λhc39=>?_) λhc39=>?_
 .refine g4 ?_;refine bF func95 (take_spec pb mb st pool fs s M h k7 cur) rfl rfl Split.all ⟨d8,Has.of mT5,e8⟩ λy3=>?_;rw[List.append_nil];refine bJ d7 λhtk=>?_;obtain⟨st1,fs1,_|q⟩:=y3
  .dsimp only at htk⊢;have hend:st1.end_=st.end_:=htk.2.1;refine bK (fC st1.end_) (hend.symm▸(Has.of mT5)) ?_;refine g3 ?_;refine i7 vC λb4=>?_;refine g19 ?_;refine ss (cK rfl rfl (mI _ _ _ _ _ _)) ?_;refine i7 vC λb5=>?_;refine g4 ?_;refine dS _ _ [(true,0),(true,1),(true,2),(true,3),(true,4),(true,5),(false,6)] dW l8 (.c0 (.c0 (.c0 (.c0 (Sel.skip Sel.self))))) bA.self ?_;refine g7 ?_;refine qS kT4 rfl (.inl rfl) rfl underlying102 underlying3 rfl rfl rfl ?_;have hkv:=setS_V (b:Nat) (⟨st1.end_,cur,0⟩:SpotV) st1.kv;unfold spV at hkv;rw[show zR ((b:Nat):Int) (.agg #[.slice st1.end_.addr st1.end_.list.length st1.end_.cap,.slice cur.addr cur.list.length cur.cap,.int .i64 0]) (kvV st1.kv)=kvV (setS ((b:Nat):Int) (⟨st1.end_,cur,0⟩:SpotV) st1.kv)from hkv];refine zQ (.c1 (.c1 (.c1 (.c1 (Sel.skip Sel.self))))) (bA.drop 0) ?_;refine g9 ?_;refine bJ (gG d7) λhel=>bJ (gG e6) λhcl=>?_;refine f9 func96 (add_spec (p:=st1.end_) (q:=cur) hel hcl) .nil ⟨d7,e6,e8⟩ λy6=>?_;refine g14 ?_;refine bNw (λhc77=>?_) λhc77=>?_
   .refine g8 ?_;have hsz:qJ (polsL sides.list)=some cur.list:=hR.trans (tO hinv3.2 o9);have hl:=bOh (b:=b) (again:=again) hsz (.inr htk.1.2) (by rw[<-htk.1.1.end_];assumption);exact qW ({st1 with kv:=setS ((b:Nat):Int) (⟨st1.end_,cur,0⟩:SpotV) st1.kv},pool,fs,⟨none,0,[]⟩) rfl (rv_tmp rfl) (rv_tmp rfl) (.c3 (.c3 (.c0 (Sel.skip (Sel.skip Sel.self))))) ⟨d8,Has.of mT8,polF_nil,e9 (λs' hs'=>by rw[hl]at hs';cases hs'),e8⟩ aa2
   refine g20 ?_;have hsz:qJ (polsL sides.list)=some cur.list:=hR.trans (tO hinv3.2 o9);have hl:=lay_new (b:=b) (again:=again) hsz (.inr htk.1.2) (by rw[<-htk.1.1.end_];assumption);have hrn:=rel_new htk.1.1 b hb cur ⟨y6.1,y6.2,(bothP st1.end_.list cur.list 1).1⟩ (by rw[htk.1.1.end_]);refine bK (bC.each ((⟨st1.end_,cur,0⟩:SpotV)::pool) lK) (Has.each_cons (Has.and d8 e7) (Has.of mT8)) ?_;exact qW ({{st1 with kv:=setS ((b:Nat):Int) (⟨st1.end_,cur,0⟩:SpotV) st1.kv}with end_:=⟨y6.1,y6.2,(bothP st1.end_.list cur.list 1).1⟩},((⟨st1.end_,cur,0⟩:SpotV)::pool),fs1,st1.end_) rfl (rv_tmp rfl) (rv_tmp rfl) (.c0 (.c3 (.c0 (Sel.skip (Sel.skip Sel.self))))) ⟨d8,d7,d9,e9 (λs' hs'=>by rw[hl]at hs';cases hs';exact⟨hrn.more k7,by rw[htk.1.1.end_]⟩),e8⟩ aa2
  dsimp only at htk⊢;have hend:st1.end_=st.end_:=htk.2.1;refine bK (fC st1.end_) (hend.symm▸(Has.of mT5)) ?_;obtain⟨hqp,i1,hi1,hi2,hrel⟩:=htk.1;refine g3 ?_;refine i7 vC λb7=>?_;refine g11 ?_;refine dS _ _ [(true,0),(true,1),(true,2),(true,3),(true,4),(true,5),(false,6)] dW l8 (.c0 (.c0 (.c0 (Sel.skip Sel.self)))) bA.self ?_;refine g7 ?_;refine qS kT3 rfl (.inl rfl) rfl underlying102 underlying3 rfl rfl rfl ?_;have hkv:=setS_V (b:Nat) q st1.kv;unfold spV at hkv;rw[show zR ((b:Nat):Int) (.agg #[.slice q.at_.addr q.at_.list.length q.at_.cap,.slice q.size.addr q.size.list.length q.size.cap,.int .i64 q.since]) (kvV st1.kv)=kvV (setS ((b:Nat):Int) q st1.kv)from hkv];refine zQ (.c1 (.c1 (.c1 (Sel.skip Sel.self)))) (bA.drop 0) ?_;refine g12 ?_;have hsz:qJ (polsL sides.list)=some cur.list:=hR.trans (tO hinv3.2 o9);have hl:=lay_take (b:=b) (again:=again) hsz ‹_› (h.free_ne hi2 hi1) hi2 hi1;exact qW ({st1 with kv:=setS ((b:Nat):Int) q st1.kv},pool,fs1,q.at_) rfl (rv_tmp rfl) (rv_tmp rfl) (.c2 (.c2 (.c0 (Sel.skip Sel.self)))) ⟨d7,Has.of mT7,spotsF_at (Has.of mT7) hqp,e9 (λs' hs'=>by rw[hl]at hs';cases hs';exact⟨(rel_laid hrel b hb hqp _).more k7,rfl⟩),e8⟩ aa2
 refine g9 ?_;refine ss (cK rfl rfl (mI _ _ _ _ _ _)) ?_;refine i7 vC λb8=>?_;refine g4 ?_;refine dS _ _ [(true,0),(true,1),(true,2),(true,3),(true,4),(true,5),(false,6)] dW l8 (.c0 (.c0 (.c0 (Sel.skip Sel.self)))) bA.self ?_;refine g7 ?_;refine qS kT3 rfl (.inl rfl) rfl underlying102 underlying3 rfl rfl rfl ?_;have hkv:=setS_V (b:Nat) (⟨st.end_,cur,0⟩:SpotV) st.kv;unfold spV at hkv;rw[show zR ((b:Nat):Int) (.agg #[.slice st.end_.addr st.end_.list.length st.end_.cap,.slice cur.addr cur.list.length cur.cap,.int .i64 0]) (kvV st.kv)=kvV (setS ((b:Nat):Int) (⟨st.end_,cur,0⟩:SpotV) st.kv)from hkv];refine zQ (.c1 (.c1 (.c1 (Sel.skip Sel.self)))) (bA.drop 0) ?_;refine g9 ?_;refine bJ (gG e7) λhel=>bJ (gG d8) λhcl=>?_;refine f9 func96 (add_spec (p:=st.end_) (q:=cur) hel hcl) .nil ⟨e7,d8,e8⟩ λy9=>?_;refine g14 ?_;refine bNw (λhc77=>?_) λhc77=>?_
 .refine g8 ?_;have hsz:qJ (polsL sides.list)=some cur.list:=hR.trans (tO hinv3.2 o9);have hl:=bOh (b:=b) (again:=again) hsz (.inl (by simpa using hc39)) (by rw[<-h.end_];assumption);exact qW ({st with kv:=setS ((b:Nat):Int) (⟨st.end_,cur,0⟩:SpotV) st.kv},pool,fs,⟨none,0,[]⟩) rfl (rv_tmp rfl) (rv_tmp rfl) (.c2 (.c2 (.c0 (Sel.skip Sel.self)))) ⟨Has.of mT5,Has.of mT6,polF_nil,e9 (λs' hs'=>by rw[hl]at hs';cases hs'),e8⟩ aa2
 refine g20 ?_;have hsz:qJ (polsL sides.list)=some cur.list:=hR.trans (tO hinv3.2 o9);have hl:=lay_new (b:=b) (again:=again) hsz (.inl (by simpa using hc39)) (by rw[<-h.end_];assumption);have hrn:=rel_new h b hb cur ⟨y9.1,y9.2,(bothP st.end_.list cur.list 1).1⟩ (by rw[h.end_]);refine bK (bC.each ((⟨st.end_,cur,0⟩:SpotV)::pool) lK) (Has.each_cons (Has.and (Has.of mT5) d9) (Has.of mT6)) ?_;exact qW ({{st with kv:=setS ((b:Nat):Int) (⟨st.end_,cur,0⟩:SpotV) st.kv}with end_:=⟨y9.1,y9.2,(bothP st.end_.list cur.list 1).1⟩},((⟨st.end_,cur,0⟩:SpotV)::pool),fs,st.end_) rfl (rv_tmp rfl) (rv_tmp rfl) (.c0 (.c2 (.c0 (Sel.skip Sel.self)))) ⟨d8,d7,Has.of mT6,e9 (λs' hs'=>by rw[hl]at hs';cases hs';exact⟨hrn.more k7,by rw[h.end_]⟩),e8⟩ aa2
theorem release_spec(pb mb:Nat)(st:PSt)(pool fs:List SpotV)(s:PlC)(M:Nat)(h:gH st pool s fs M)(LA:Option Addr)(lcap:Nat)(ls:List dV)(hM:M+3*ls.length<=70000000)(hn:ls.length=s.laid.length)(stp:Int):cE prog 42 [.pointer (some ⟨pb,0,none⟩),.slice LA ls.length lcap,.int .i64 stp] (plH pb mb st) [fC st.end_,bC.each pool lK,lE.sl (.slice LA ls.length lcap) ls] (λ(_:PSt×List SpotV×List SpotV)=> .tuple #[]) (λ(x:PSt×List SpotV×List SpotV)=>plH pb mb x.1) (λ(x:PSt×List SpotV×List SpotV)=>[fC x.1.end_,bC.each x.2.1 lK,bC.pure (gH x.1 x.2.1 (relC stp (lc ls) s) x.2.2 (M+3*ls.length))]):=by
 have hT:=fK;refine j2 func42 ntmps42 ?_;intro β hM;refine g8 ?_;refine bMw (ι:=PSt×List SpotV×List SpotV×Nat) [(0,_),(1,_),(2,_),(10,_)] ⟨rfl,rfl,rfl,rfl,e8⟩ (λ⟨st,pool,fs,i⟩=>[(11,.int .i64 (i:Nat))]) (λ⟨st,pool,fs,i⟩=>plH pb mb st) (λ⟨st,pool,fs,i⟩=>[bC.pure (i<=ls.length/\gH st pool (relK stp (lc ls) s i) fs (M+3*i)),fC st.end_,bC.each pool lK]) (λ⟨st,pool,fs,i⟩=>ls.length-i) (st,pool,fs,0) ⟨rfl,e8⟩ (List.Perm.refl _) ⟨e9 (⟨k7,h⟩),d7,d8,e8⟩ ?_;rintro⟨st,pool,fs,i⟩;dsimp only;refine bJ d7 λhinv1=>?_;refine g6 ?_;refine dH (λhc12=>?_) λhc12=>?_
 .refine g11 ?_
  rcases hg:qV (i:Nat) st.kv with _|q
  .refine g6 ?_;refine ss (kZ (v:= .tuple #[.agg #[.slice none 0 0,.slice none 0 0,.int .i64 0],.bool false]) (oY kT2) rfl underlying102 underlying3 spotZero rfl rfl (by rw[getS_V,hg];rfl)) ?_;refine g3 ?_;refine i7 vC λb1=>?_;refine g24 ?_;refine inc (i+1) ?_;refine g3 ?_;refine oS (.c1 (.c1 (.c1 (Sel.skip Sel.self)))) ?_;exact nR (st,pool,fs,i+1) n9 ⟨rfl,e8⟩ ⟨rfl,rfl,rfl,rfl,e8⟩ (List.Perm.refl _) ⟨e9 (⟨by dsimp only;omega,(by obtain⟨u,hu⟩: ∃u,ls[i]?=some u:=⟨_,List.getElem?_eq_getElem k7⟩;rw[yC (lc_at hu),one_none hinv1.2 hg];exact hinv1.2.more n9)⟩),d8,d9,e8⟩ (bA.drop 3)
  refine g6 ?_;refine ss (kZ (v:= .tuple #[.agg #[.slice q.at_.addr q.at_.list.length q.at_.cap,.slice q.size.addr q.size.list.length q.size.cap,.int .i64 q.since],.bool true]) (oY kT2) rfl underlying102 underlying3 spotZero rfl rfl (by rw[getS_V,hg];rfl)) ?_;refine g3 ?_;refine i7 vC λb2=>?_;refine g10 ?_;obtain⟨x3,hx4⟩:=gx ls i;refine ss (ixs i) ?_;refine one ?_;refine ss (fJ hx4 1) ?_;refine g5 ?_;refine dH (λhc32=>?_) λhc32=>?_
  .refine g7 ?_;refine bQx kT3 rfl rfl rfl underlying102 underlying3 rfl rfl ?_;rw[delS_V];have hqp:q∈pool:=by obtain⟨p,hp,e⟩:=getS_mem hg;rw[<-e];exact hinv1.2.poolL p hp
   have hgo:=rel_gone hinv1.2 i (by rw[relK_len];omega);refine g10 ?_;refine dH (λhc41=>?_) λhc41=>?_
   .refine g3 ?_;have hsz:sz q≠[]:=λe=>by have e2:q.size.list.length=0:=congrArg List.length e;omega
    refine oS (.c1 (.c1 (.c1 (.cons .head Sel.self)))) ?_;refine dZ (List.perm_append_comm (l₁:=[_])) ?_;refine bF func97 (give_spec pb mb _ pool fs _ _ hgo k7 q hqp hsz) rfl rfl (Split.front _ _) ⟨d9,e8⟩ λy5=>?_;refine dZ List.perm_append_comm ?_;refine bJ d8 λhgv=>bK (fC y5.end_) ((show y5.end_=st.end_ from hgv.2)▸e6) ?_;refine g5 ?_;refine inc (i+1) ?_;refine g3 ?_;refine oS (.c1 (.c1 (.c1 (Sel.skip Sel.self)))) ?_;exact nR (y5,(⟨q.at_,q.size,st.since+1⟩:SpotV)::pool,fs++[(⟨q.at_,q.size,st.since+1⟩:SpotV)],i+1) n9 ⟨rfl,e8⟩ ⟨rfl,rfl,rfl,rfl,e8⟩ (List.Perm.refl _) ⟨e9 (⟨by dsimp only;omega,(by rw[yC (lc_at hx4),one_gone hinv1.2 hg ‹_›,if_neg hsz];exact(hgv.1).more n9)⟩),d7,d8,e8⟩ (bA.drop 6)
   refine g5 ?_;refine inc (i+1) ?_;refine g3 ?_;refine oS (.c2 (.c2 (.c0 (Sel.skip Sel.self)))) ?_;exact nR (({st with kv:=delS ((i:Nat):Int) st.kv}:PSt),pool,fs,i+1) n9 ⟨rfl,e8⟩ ⟨rfl,rfl,rfl,rfl,e8⟩ (List.Perm.refl _) ⟨e9 (⟨by dsimp only;omega,(by rw[yC (lc_at hx4),one_gone hinv1.2 hg ‹_›,if_pos (List.eq_nil_of_length_eq_zero (by show q.size.list.length=0;omega))];exact hgo.more n9)⟩),d8,d9,e8⟩ (bA.drop 3)
  refine g5 ?_;refine inc (i+1) ?_;refine g3 ?_;refine oS (.c1 (.c1 (.c1 (Sel.skip Sel.self)))) ?_;exact nR (st,pool,fs,i+1) n9 ⟨rfl,e8⟩ ⟨rfl,rfl,rfl,rfl,e8⟩ (List.Perm.refl _) ⟨e9 (⟨by dsimp only;omega,(by rw[yC (lc_at hx4),one_stay hinv1.2 hg (λhlt=>by have:x3.to_<stp:=hlt;omega)];exact hinv1.2.more n9)⟩),d8,d9,e8⟩ (bA.drop 3)
 refine g4 ?_;have hi:i=ls.length:=k7
 have hfin:gH st pool (relC stp (lc ls) s) fs (M+3*ls.length):=by rw[<-relK_eq stp (lc ls) s (by rw[lc_len];exact hn),lc_len,<-hi];exact hinv1.2
 exact cR (st,pool,fs) rfl (.c0 (.c0 (.cons .head Sel.self))) ⟨d8,d9,e9 hfin,e8⟩ (rfl)
end
section
open Go.RowKit Go.ChangeShapes Go.WideShapes Go.Proofs.Tryz
def fuseT:Tab:=[(3,⟨.int .i64,1⟩),(2,⟨.int .i64,1⟩),(5,⟨.int .u8,1⟩),(4,⟨.bool,1⟩),(77,⟨.int .u8,1⟩),(32,⟨.int .i64,1⟩),(43,⟨.slice 111,1⟩),(42,⟨.slice 43,1⟩),(172,⟨.struct [(3,0),(3,1),(2,2),(43,3),(77,4)],5⟩),(78,⟨.slice 172,1⟩),(95,⟨.struct [(42,0),(3,1)],2⟩),(22,⟨.slice 95,1⟩),(80,⟨.struct [(3,0),(3,1),(43,2),(42,3),(77,4),(78,5)],6⟩),(23,⟨.slice 80,1⟩),(24,⟨.slice 3,1⟩),(99,⟨.slice 4,1⟩),(26,⟨.struct [(3,0),(22,1),(23,2),(24,3)],4⟩),(114,⟨.struct [(3,0),(3,1)],2⟩),(97,⟨.slice 114,1⟩),(201,⟨.struct [(3,0),(3,1),(3,2),(99,3)],4⟩),(198,⟨.array 64 4,64⟩),(111,⟨.struct [(2,0),(109,1)],7⟩),(109,⟨.array 6 5,6⟩),(290,⟨.slice 5,1⟩),(224,⟨.int .u64,1⟩),(199,⟨.other,1⟩),(274,⟨.other,1⟩),(126,⟨.other,1⟩),(314,⟨.slice 78,1⟩)]
theorem fuseT_ok:dY prog fuseT:=uO.ok
 ⟨⟨by rw[underlying3];rfl,k8⟩,
  ⟨by rw[underlying2];rfl,k8⟩,
  ⟨by rw[underlying5];rfl,k8⟩,
  ⟨by rw[underlying4];rfl,k8⟩,
  ⟨by rw[underlying77];rfl,k8⟩,
  ⟨by rw[underlying32];rfl,k8⟩,
  ⟨by rw[underlying43];rfl,k8⟩,
  ⟨by rw[underlying42];rfl,k8⟩,
  ⟨by rw[underlying172];rfl,k8⟩,
  ⟨by rw[underlying78];rfl,k8⟩,
  ⟨by rw[underlying95];rfl,k8⟩,
  ⟨by rw[underlying22];rfl,k8⟩,
  ⟨by rw[underlying80];rfl,k8⟩,
  ⟨by rw[underlying23];rfl,k8⟩,
  ⟨by rw[underlying24];rfl,k8⟩,
  ⟨by rw[underlying99];rfl,k8⟩,
  ⟨by rw[underlying26];rfl,k8⟩,
  ⟨by rw[underlying114];rfl,k8⟩,
  ⟨by rw[underlying97];rfl,k8⟩,
  ⟨by rw[underlying201];rfl,k8⟩,
  ⟨by rw[underlying198];rfl,k8⟩,
  ⟨by rw[underlying111];rfl,k8⟩,
  ⟨by rw[underlying109];rfl,k8⟩,
  ⟨by rw[underlying290];rfl,k8⟩,
  ⟨by rw[underlying224];rfl,k8⟩,
  ⟨by rw[underlying199];rfl,k8⟩,
  ⟨by rw[underlying274];rfl,k8⟩,
  ⟨by rw[underlying126];rfl,k8⟩,
  ⟨by rw[underlying314];rfl,k8⟩,e8⟩
end
section
open Go.RowKit Go.ChangeShapes Go.WideShapes Go.Proofs.Tryz
theorem monoInfo: ∃i:TypeInfo,prog.info? 111=some i/\i.zero=some (.agg #[.int .i64 0,.int .u8 0,.int .u8 0,.int .u8 0,.int .u8 0,.int .u8 0,.int .u8 0])/\i.size=7/\i.bytes=16:=by
 have h:(prog.info? 111).map (λi=>(i.zero,i.size,i.bytes))=some (some (.agg #[.int .i64 0,.int .u8 0,.int .u8 0,.int .u8 0,.int .u8 0,.int .u8 0,.int .u8 0]),7,16):=k8
 cases hi:prog.info? 111 with
 |none=>simp[hi]at h
 |some i=>simp[hi]at h;exact⟨i,rfl,h.1,h.2.1,h.2.2⟩
theorem at_none_mono{β:dC}{n:Nat}{Γ:Env}{H:List bD}{F:List bC}{Q:Exit->Act->World->Prop}{ops:Array Oper}{rest:List Oper}{o:Oper}{d:Nat}(hw:want ops Γ o=some true)(ho:o.op= .buildSlice 43 0 #[])(hd:o.dst=some d)(hn:Nat.blt d n=true)
  (k: ∀b,At β n ((d,.slice (some ⟨b,0,none⟩) 0 0)::Γ) (mM.row (.slice (some ⟨b,0,none⟩) 0 0) 111 []::H) F (wpList prog ops Q rest)):At β n Γ H F (wpList prog ops Q (o::rest)):=by
 obtain⟨i,hi,_⟩:=monoInfo;exact bQi mM hw ho hd hn underlying43 hi k
theorem at_app_mono{β:dC}{n:Nat}{Γ:Env}{H:List bD}{F:List bC}{Q:Exit->Act->World->Prop}{ops:Array Oper}{rest:List Oper}{o:Oper}{d:Nat}{x y:Operand}{c q:Nat}{v:Value}{A:Option Addr}{xs ys:List Mono}{H':List bD}(hH:bW H (mM.row v 111 xs) H')(hr:dL β H F mM A ys)(hg:o.guard=none)
  (ho:o.op= .call {callee:= .builtin .append,args:= #[x,y],argTypes:= #[43,43]}) (hd:o.dst=some d) (hn:Nat.blt d n=true)
  (hx:Γ.ev x=some v) (hy:Γ.ev y=some (.slice A q c)) (hq:q=ys.length) (hl:xs.length+ys.length<=8796093022208)
  (k: ∀A' cap',At β n ((d,.slice A' (xs++ys).length cap')::Γ) (mM.row (.slice A' (xs++ys).length cap') 111 (xs++ys)::H') F (wpList prog ops Q rest)):At β n Γ H F (wpList prog ops Q (o::rest)):=by
 obtain⟨i,hi,hz,hs,hb⟩:=monoInfo;exact jG hH hr hg ho hd hn underlying43 hi hz hs hb rfl hx hy hq k7 m7 k
end
section
open Go.RowKit Go.Proofs.Tryz
theorem sti_isnilS{P:Program}{β:dC}{n:Nat}{Γ:Env}{H:List bD}{F:List bC}{o:Oper}{x:Operand}{t e tt:TypeId}{A:Option Addr}{l c:Nat}(hu:P.underlying t=some (.slice e))(ho:o.op= .binOp .eql t x (.const (.slice none 0 0)) tt)(hx:Γ.ev x=some (.slice A l c)):Sti P β n Γ H F o (.bool A.isNone):=λa w S f s k=>by
 unfold execOp;simp only[ho,f.ev hx];rw[Sem.run_bind,Sem.run_bind]
 have hg:(eqGuard .eql t x (.const (.slice none 0 0)) (.slice A l c) (.slice none 0 0)).run P w= .ok () w:=by
  unfold eqGuard;simp
 have he:(Act.eval a (.const (.slice none 0 0)))= .slice none 0 0:=rfl;rw[he,hg,Result.andThen_ok,Lib.run_eql_slice_nil w t e A l c 0 0 hu];rfl
theorem has_isnilH{α:Type}{E:Flat α}{F:List bC}{A:Option Addr}{l c:Nat}{xs:List α}(h:Has F (E.sl (.slice A l c) xs)):Has F (bC.pure (A.isNone=true->xs=[])):=λS w k hn=>by
 obtain⟨A',c',e,h⟩:=h S w k;injection e with e1
 subst e1
 cases xs with
 |nil=>rfl
 |cons x r=>
  obtain⟨b,o,cs,e,_⟩:=h 0 x rfl;rw[e]at hn;cases hn
theorem cloneM_spec(l:PolV)(hl:l.list.length<=8796093022208):cE prog 41 [.slice l.addr l.list.length l.cap] [] [mM.sl (.slice l.addr l.list.length l.cap) l.list] (λ(x:Option Addr×Nat)=> .slice x.1 l.list.length x.2) (λ_=>[]) (λ(x:Option Addr×Nat)=>[fC ⟨x.1,x.2,l.list⟩]):=by
 have hT:=fuseT_ok;refine j2 func41 ntmps41 ?_;intro β hM;refine g9 ?_;refine ss (sti_isnilS underlying43 rfl rfl) ?_;refine g2 ?_;refine yS (λhc4=>?_) λhc4=>?_
 .refine fT<|bK (bC.pure (l.addr.isNone=true->l.list=[])) (has_isnilH d7) ?_;refine bJ d7 λhnil=>?_;have hl0:=hnil ‹_›;refine bZ (t:=111) mM ?_;refine g6 ?_;obtain⟨la,lc,ll⟩:=l;obtain rfl:ll=[]:=hl0;refine bEx .head λhc=>jA .head ?_;exact rs1 (_,_) ⟨Has.and d7 (e9 (by dsimp only;first|omega|(simp;done))),e8⟩
 refine g4 ?_;refine at_none_mono rfl rfl rfl rfl λb1=>?_;refine one ?_;refine at_app_mono .head (bR d7) rfl rfl rfl rfl rfl rfl rfl o7 λA2 c3=>?_;rw[List.nil_append];refine g4 ?_;refine bEx .head λhc=>jA .head ?_;exact rs1 (_,_) ⟨Has.and d7 (e9 (by dsimp only;first|omega|(simp;done))),e8⟩
section
variable {α : Type} {l : List α}
theorem each_set{g:α->bC}{F:List bC}{k:Nat}{x:α}(h:Has F (bC.each l g))(hx:Has F (g x)):Has F (bC.each (l.set k x) g):=λS w q y hy=>by
 rcases List.mem_or_eq_of_mem_set hy with h1|rfl
 .exact h S w q y h1
 .exact hx S w q
end
theorem bFf{vars:Int}{bufs:List gQ}: ∀{r:List cP} {made:List Bool},jV vars bufs r made=true-> ∀x∈r,∃m,lD vars m x=true
 |[],_,_,x,hx=>by cases hx
 |y::r,made,h,x,hx=>by
  rw[jV,Bool.and_eq_true,Bool.and_eq_true,Bool.and_eq_true]at h;obtain⟨_,h2,h3⟩:=h
  rcases List.mem_cons.1 hx with rfl|hx
  .exact⟨made,h2⟩
  .exact bFf h3 x hx
section
variable {c : gF} {i b n m k : Nat} {x : fW} {ub : jD} {wh w T : Bool} {A B : List (List Mono)} {p q : List Mono}
theorem right_ne(h:cZ c.c=true)(hx:c.steps.list[i]?=some x)(e:x.how=2):x.loops.list.length≠0:=by
 obtain⟨_,_,h3,_⟩:=gJ h;obtain⟨mk,h4⟩:=bFf h3 x.c (f5 (dJ hx));unfold lD at h4;simp only[Bool.and_eq_true]at h4;have h5:=h4.2.2.2.2.1;have h5:(if x.how=1 then x.fn==0 else if x.how=2\/x.how=3 then !x.c.loops.isEmpty&&fX x.fn true else false)=true:=h5;rw[if_neg k7,if_pos (.inl e),Bool.and_eq_true]at h5;intro e0;have:x.loops.list=[]:=List.eq_nil_of_length_eq_zero e0;have h6:(!(polsL x.loops.list).isEmpty)=true:=h5.1;rw[this]at h6;cases h6
theorem polsF_take{F:List bC}{xs:List PolV}(n:Nat)(h:Has F (bCk xs)):Has F (bCk (xs.take n)):=λS w k p hp=>h S w k p (List.mem_of_mem_take hp)
theorem take_snoc'{α:Type}{l:List α}{i:Nat}{x:α}(hx:l[i]?=some x):l.take (i+1)=l.take i++[x]:=by
 rw[List.take_add_one,hx];rfl
theorem polsL_take(l:List PolV)(n:Nat):polsL (l.take n)=(polsL l).take n:=List.map_take
theorem wholeA(e:x.how=2):wholeS x.c ub.c.sides=(decide (x.at_.list.length=0)&&decide (polsL (x.loops.list.take (x.loops.list.length-1))=polsL ub.sides.list)):=by
 unfold wholeS;show(x.at_.list.isEmpty&&decide ((if x.how=2 then (polsL x.loops.list).dropLast else polsL x.loops.list)=polsL ub.sides.list))=_;rw[if_pos e,polsL_take,List.dropLast_eq_take,cC]
 congr 1
 cases x.at_.list<;>rfl
theorem wholeB(e:x.how≠2):wholeS x.c ub.c.sides=(decide (x.at_.list.length=0)&&decide (polsL x.loops.list=polsL ub.sides.list)):=by
 unfold wholeS;show(x.at_.list.isEmpty&&decide ((if x.how=2 then (polsL x.loops.list).dropLast else polsL x.loops.list)=polsL ub.sides.list))=_;rw[if_neg e]
 congr 1
 cases x.at_.list<;>rfl
end
theorem bEu{c:dE}:(mL c).length=c.bufs.length:=List.length_mapIdx
theorem at_makeInts{β:dC}{n:Nat}{Γ:Env}{H:List bD}{F:List bC}{Q:Exit->Act->World->Prop}{ops:Array Oper}{rest:List Oper}{o:Oper}{d:Nat}{m:Nat}{x y:Operand}(hw:want ops Γ o=some true)(ho:o.op= .makeSlice 24 x y)(hd:o.dst=some d)(hn:Nat.blt d n=true)
  (hx:Γ.ev x=some (.int .i64 (m:Nat))) (hy:Γ.ev y=some (.int .i64 (m:Nat))) (hm:m<=1000000)
  (k: ∀b,At β n ((d,.slice (some ⟨b,0,none⟩) m m)::Γ) (cF.row (.slice (some ⟨b,0,none⟩) m m) 3 (List.replicate m (0:Int))::H) F (wpList prog ops Q rest)):At β n Γ H F (wpList prog ops Q (o::rest)):=by
 obtain⟨i,hi,hz,hs,hb⟩:=intInfo;refine yG (E:=cF) hw ho hd hn hx hy underlying24 hi hz hs v7 t7 ?_ m9 k
 have e: ∀m,cF.all (List.replicate m (0:Int))=List.replicate m (.int .i64 0):=λm=>by
  induction m with
  |zero=>rfl
  |succ m ih=>rw[List.replicate_succ,List.replicate_succ,<-ih];rfl
 rw[e];unfold madeCells;apply List.ext_getElem
 .simp[cF]
 .intro i h1 h2;simp[Value.cells,Nat.mod_one]
theorem gI{P:Program}{β:dC}{n:Nat}{Γ:Env}{H Hk:List bD}{F F0:List bC}{Q:Exit->Act->World->Prop}{ops:Array Oper}{r:List (Bool×Nat)}{o:Oper}{l k d:Nat}(hk:ops[k]?=some o)(hw:want ops Γ o=some false)(hd:o.dst=some d)(hn:Nat.blt d n=true)
  (K:At β n ((d,undef)::Γ) H F (lS P ops (StF β Hk F0) Q l r)):At β n Γ H F (lS P ops (StF β Hk F0) Q l ((true,k)::r)):=λa w S f s hF=>by
 refine⟨o,undef,hk,.inr ⟨f.want hw,rfl⟩,?_⟩;rw[hd];exact K _ _ S (f.put l9 undef) s hF
section
variable {c : gF} {i b : Nat} {mn : List Int} {fl : List Bool} {x : fW} {ub : jD} {z : Int} {V : Bool}
def bQg (c:dE)(i:Nat)(mn:List Int)(fl:List Bool):Prop:=mn.length=c.bufs.length/\fl.length=c.bufs.length/\ ∀b u,c.bufs[b]?=some u->mn[b]?=some ((yX (c.steps.take i) b:Nat):Int)/\fl[b]?=some (zP (c.steps.take i) b u)
theorem fullS_start{c:dE}:bQg c 0 (List.replicate c.bufs.length 0) (List.replicate c.bufs.length false):=by
 refine⟨List.length_replicate,List.length_replicate,λb u hb=>?_⟩;have:=(List.getElem?_eq_some_iff.1 hb).1;rw[List.getElem?_replicate,List.getElem?_replicate,if_pos this,if_pos this];exact⟨rfl,rfl⟩
theorem bFu(h:bQg c.c i mn fl)(hu:c.bufs.list[b]?=some ub)(hz:mn[b]?=some z):0<=z/\z<=i:=by
 have h1:=(h.2.2 b ub.c (bT hu)).1;rw[hz]at h1;injection h1 with h1
 have:yX (c.c.steps.take i) b<=i:=by
  unfold yX;exact Nat.le_trans (List.length_filter_le ..) (List.length_take_le ..)
 omega
theorem oT(h:bQg c.c i mn fl)(hx:c.steps.list[i]?=some x)(h0:0<=x.buf)(hu:c.bufs.list[x.buf.toNat]?=some ub)(hz:mn[x.buf.toNat]?=some z)(hV:V=(decide (z+1=1)&&wholeS x.c ub.c.sides)):bQg c.c (i+1) (mn.set x.buf.toNat (z+1)) (fl.set x.buf.toNat V):=by
 obtain⟨h1,h2,h3⟩:=h;refine⟨by rw[List.length_set];exact h1,by rw[List.length_set];exact h2,λb u hb=>?_⟩;obtain⟨k1,k2⟩:=h3 b u hb;have hlt:=(List.getElem?_eq_some_iff.1 hb).1;rw[show c.c.steps.take (i+1)=c.c.steps.take i++[x.c]from take_snoc' (dJ hx),cntMk_snoc]
 by_cases e:x.buf.toNat=b
 .subst e;have hb':x.c.buf=((x.buf.toNat:Nat):Int):=by show x.buf=_;omega
  rw[hz]at k1;injection k1 with k1
  have hu':u=ub.c:=by
   have:=(bT hu).symm.trans hb;injection this with this
   exact this.symm
  rw[List.getElem?_set_self k7,List.getElem?_set_self k7,if_pos hb',fullAt_here hb',hV,k1,hu'];refine⟨by rw[Int.natCast_add];rfl,?_⟩
  have:decide (((yX (c.c.steps.take i) x.buf.toNat:Nat):Int)+1=1)=decide (yX (c.c.steps.take i) x.buf.toNat+1=1):=by
   rw[Bool.eq_iff_iff];simp only[decide_eq_true_eq];omega
  rw[this]
 .have hb':x.c.buf≠(b:Int):=by show x.buf≠_;omega
  rw[List.getElem?_set_ne e,List.getElem?_set_ne e,if_neg hb',fullAt_other hb'];exact⟨k1,k2⟩
theorem fullS_end(h:bQg c.c i mn fl)(hi:c.steps.list.length<=i):fl=mL c.c:=by
 obtain⟨h1,h2,h3⟩:=h;rw[List.take_of_length_le (show c.c.steps.length<=i by rw[show c.c.steps.length=c.steps.list.length from fG _];exact hi)]at h3;apply List.ext_getElem?;intro b;unfold mL;rw[List.getElem?_mapIdx]
 cases hb:c.c.bufs[b]? with
 |none=>rw[List.getElem?_eq_none (by rw[h2];exact List.getElem?_eq_none_iff.1 hb)];rfl
 |some u=>rw[(h3 b u hb).2];rfl
end
theorem fullP_spec(c:gF)(hr:cZ c.c=true):cE prog 38 [.agg #[.int .i64 c.vars,.slice c.bufs.addr c.bufs.list.length c.bufs.cap,.slice c.steps.addr c.steps.list.length c.steps.cap,.slice c.outs.addr c.outs.list.length c.outs.cap]] [] [nM c] (λ(x:Option Addr×Nat)=> .slice x.1 c.bufs.list.length x.2) (λ(x:Option Addr×Nat)=>[iT.row (.slice x.1 c.bufs.list.length x.2) 4 (mL c.c)]) (λ_=>[]):=by
 have hT:=dB;generalize hV:mL c.c=V;obtain⟨hbz,hst,hou⟩:=bBi hr;have hnb:c.c.bufs.length=c.bufs.list.length:=bY _;have hns:c.c.steps.length=c.steps.list.length:=fG _;refine j2 func38 ntmps38 ?_;intro β hM;refine fT<|bK (vE.sl (.slice c.bufs.addr c.bufs.list.length c.bufs.cap) c.bufs.list) (mO (iS d7)) ?_;refine bK (sQ.sl (.slice c.steps.addr c.steps.list.length c.steps.cap) c.steps.list) (sE (kD d8)) ?_;refine one ?_;refine j0 λb1=>?_;refine g8 ?_;refine at_makeInts (m:=c.bufs.list.length) rfl rfl rfl rfl rfl rfl k7 λb2=>?_;refine g8 ?_;refine uW (m:=c.bufs.list.length) rfl rfl rfl rfl rfl rfl k7 λb3=>?_;refine g13 ?_;refine bU (ι:=Nat×List Int×List Bool) [(1,_),(3,_),(4,_),(18,_),(19,_)] ⟨rfl,rfl,rfl,rfl,rfl,e8⟩ (λ⟨i,mn,fl⟩=>[(20,.int .i64 (i:Nat))]) (λ⟨i,mn,fl⟩=>[cF.row (.slice (some ⟨b2,0,none⟩) c.bufs.list.length c.bufs.list.length) 3 mn,iT.row (.slice (some ⟨b3,0,none⟩) c.bufs.list.length c.bufs.list.length) 4 fl]) (λ⟨i,mn,fl⟩=>[bC.pure (i<=c.steps.list.length/\bQg c.c i mn fl)]) (λ⟨i,mn,fl⟩=>c.steps.list.length-i) (0,List.replicate c.bufs.list.length 0,List.replicate c.bufs.list.length false) ⟨rfl,e8⟩ (.c1 (.c0 .nil)) ⟨e9 (⟨k7,by rw[<-hnb];exact fullS_start⟩),e8⟩ ?_;rintro⟨i,mn,fl⟩;dsimp only;refine bJ d7 λhinv4=>?_;have hml:mn.length=c.bufs.list.length:=by rw[hinv4.2.1];exact hnb
 have hfl:fl.length=c.bufs.list.length:=by rw[hinv4.2.2.1];exact hnb
 refine g6 ?_;refine dH (λhc21=>?_) λhc21=>?_
 .refine g6 ?_;obtain⟨x4,hx5⟩:=gx c.steps.list i;refine ss (ixs i) ?_;refine ss (jQ hx5 0) ?_;refine i7 vQ λb6=>?_;refine g4 ?_;refine bK (mG x4) (Has.each (rI (kD e6)) (f5 hx5)) ?_;obtain⟨hb0,hb1,_⟩:=hst x4.c (f5 (dJ hx5))
  replace hb0:0<=x4.buf:=hb0
  replace hb1:x4.buf<(c.c.bufs.length:Nat):=hb1
  obtain⟨ub7,hub8⟩:=gx c.bufs.list x4.buf.toNat;refine bK (bufF ub7) (Has.each (yI (iS e7)) (f5 hub8))<|bK (iD.sl (.slice ub7.sides.addr ub7.sides.list.length ub7.sides.cap) ub7.sides.list) (qR d7)<|bJ (uP d8) λhz9=>bK (bCk ub7.sides.list) (qO d8)<|bK (iD.sl (.slice x4.loops.addr x4.loops.list.length x4.loops.cap) x4.loops.list) (qR (qX e6))<|bJ (uP (qX e7)) λhz10=>?_;have hzl:=hz10.1;have hzm:=hz10.2;refine bK (mM.sl (.slice x4.at_.addr x4.at_.list.length x4.at_.cap) x4.at_.list) (pQ (bHg e7))<|bK (bCk x4.loops.list) (qO (qX (Has.of mT5))) ?_;refine g14 ?_;refine jN (λhc28=>?_) λhc28=>?_
  .refine g5 ?_;refine bN (mF k7 k7) ?_;have hne0:=right_ne hr hx5 ‹_›;refine bN (z':=((x4.loops.list.length-1:Nat):Int)) k7 ?_;have hne:=right_ne hr hx5 ‹_›;refine ss (bDw hT (k:=(x4.loops.list.length-1)) rfl rfl rfl rfl rfl k7 k7) ?_;refine bK (iD.sl (.slice x4.loops.addr (x4.loops.list.length-1) x4.loops.cap) (x4.loops.list.take (x4.loops.list.length-1))) (has_take d9 k7)<|bK (bCk (x4.loops.list.take (x4.loops.list.length-1))) (polsF_take _ d8) ?_;refine g4 ?_;have hTw:=wholeA (ub:=ub7) (x:=x4) ‹_›;refine g4 ?_;obtain⟨x12,hx13⟩:=gx mn x4.buf.toNat k9;refine ss (bG hT (k:=x4.buf.toNat) (cM kT1) rfl rfl rfl rfl rfl hml.symm k7 k9) ?_;have hzb:=bFu hinv4.2 hub8 hx13;refine ss (fJ hx13 0) ?_;refine one ?_;refine bN (mF k7 k7) ?_;refine ss (bG hT (k:=x4.buf.toNat) (cM kT1) rfl rfl rfl rfl rfl hml.symm k7 k9) ?_;refine cN hT (k:=x4.buf.toNat) (fo:=0) (y':=(x12+1:Int)) kT1 rfl rfl rfl rfl rfl rfl rfl rfl rfl hx13 rfl ?_;refine g9 ?_;refine ss (bG hT (k:=x4.buf.toNat) (bR (Has.of mT11)) rfl rfl rfl rfl rfl rfl k7 k7) ?_;refine one ?_;refine ss (fJ hub8 0) ?_;have es:=bFp x4.loops.addr ub7.sides.addr x4.loops.cap ub7.sides.cap (x4.loops.list.take (x4.loops.list.length-1)) ub7.sides.list aa0;rw[show(x4.loops.list.take (x4.loops.list.length-1)).length=(x4.loops.list.length-1) by rw[List.length_take];omega]at es;refine f9 func90 es .nil ⟨d8,d7,(Has.of mT6),(Has.of mT5),e8⟩ λ_=>?_;refine g3 ?_;refine pJ 19 _ _ [(true,0),(true,1),(true,2),(true,3),(true,4),(true,5),(true,6),(true,7),(true,8),(true,9),(true,10),(true,11),(true,12),(true,13),(true,14),(true,15),(true,16),(true,17),(false,18)] dW l8 (.c0 (.c0 (.c1 .nil))) bA.self ?_;refine g6 ?_;refine stL rfl (bG hT (k:=x4.buf.toNat) (cM .head) rfl rfl rfl rfl rfl n4 k7 k9) ?_;refine stL rfl (bO hT (dL.knows (cM .head) (k:=x4.buf.toNat) (x:=(x12+1:Int)) (List.getElem?_set_self k9) 0) rfl rfl rfl rfl rfl) ?_;refine g2 ?_;refine bNt (λhg59=>?_) λhg59=>?_
   .refine g6 ?_;refine bNt (λhg65=>?_) λhg65=>?_
    .refine g3 ?_;obtain⟨x14,hx15⟩:=gx fl x4.buf.toNat k9;refine ss (bG hT (k:=x4.buf.toNat) (cM kT2) rfl rfl rfl rfl rfl hfl.symm k7 k9) ?_;refine g2 ?_;refine cN hT (k:=x4.buf.toNat) (fo:=0) (y':=(decide (polsL (x4.loops.list.take (x4.loops.list.length-1))=polsL ub7.sides.list))) kT2 rfl rfl rfl rfl rfl rfl rfl rfl rfl hx15 rfl ?_;refine g5 ?_;refine inc (i+1) ?_;refine g3 ?_;exact bk2 (i+1,(mn.set x4.buf.toNat (x12+1:Int)),(fl.set x4.buf.toNat (decide (polsL (x4.loops.list.take (x4.loops.list.length-1))=polsL ub7.sides.list)))) ⟨e9 (⟨by dsimp only;omega,oT hinv4.2 hx5 hb0 hub8 hx13 (by rw[hTw,decide_eq_true (show x12+1=1 by omega),decide_eq_true (show x4.at_.list.length=0 by omega)];simp)⟩),e8⟩
    refine gI rfl rfl rfl rfl ?_;refine g2 ?_;obtain⟨x16,hx17⟩:=gx fl x4.buf.toNat k9;refine ss (bG hT (k:=x4.buf.toNat) (cM kT2) rfl rfl rfl rfl rfl hfl.symm k7 k9) ?_;refine g2 ?_;refine cN hT (k:=x4.buf.toNat) (fo:=0) (y':=(false)) kT2 rfl rfl rfl rfl rfl rfl rfl rfl rfl hx17 rfl ?_;refine g5 ?_;refine inc (i+1) ?_;refine g3 ?_;exact bk2 (i+1,(mn.set x4.buf.toNat (x12+1:Int)),(fl.set x4.buf.toNat (false))) ⟨e9 (⟨by dsimp only;omega,oT hinv4.2 hx5 hb0 hub8 hx13 u0⟩),e8⟩
   refine gI rfl rfl rfl rfl ?_;refine gI rfl rfl rfl rfl ?_;refine gI rfl rfl rfl rfl ?_;refine gI rfl rfl rfl rfl ?_;refine g2 ?_;refine gI rfl rfl rfl rfl ?_;refine g2 ?_;obtain⟨x18,hx19⟩:=gx fl x4.buf.toNat k9;refine ss (bG hT (k:=x4.buf.toNat) (cM kT2) rfl rfl rfl rfl rfl hfl.symm k7 k9) ?_;refine g2 ?_;refine cN hT (k:=x4.buf.toNat) (fo:=0) (y':=(false)) kT2 rfl rfl rfl rfl rfl rfl rfl rfl rfl hx19 rfl ?_;refine g5 ?_;refine inc (i+1) ?_;refine g3 ?_;exact bk2 (i+1,(mn.set x4.buf.toNat (x12+1:Int)),(fl.set x4.buf.toNat (false))) ⟨e9 (⟨by dsimp only;omega,oT hinv4.2 hx5 hb0 hub8 hx13 (by rw[decide_eq_false (show ¬x12+1=1 by omega)];rfl)⟩),e8⟩
  refine g3 ?_;have hTw:=wholeB (ub:=ub7) (x:=x4) ‹_›;refine g4 ?_;obtain⟨x20,hx21⟩:=gx mn x4.buf.toNat k9;refine ss (bG hT (k:=x4.buf.toNat) (cM kT1) rfl rfl rfl rfl rfl hml.symm k7 k9) ?_;have hzb:=bFu hinv4.2 hub8 hx21;refine ss (fJ hx21 0) ?_;refine one ?_;refine bN (mF k7 k7) ?_;refine ss (bG hT (k:=x4.buf.toNat) (cM kT1) rfl rfl rfl rfl rfl hml.symm k7 k9) ?_;refine cN hT (k:=x4.buf.toNat) (fo:=0) (y':=(x20+1:Int)) kT1 rfl rfl rfl rfl rfl rfl rfl rfl rfl hx21 rfl ?_;refine g9 ?_;refine ss (bG hT (k:=x4.buf.toNat) (bR (Has.of mT9)) rfl rfl rfl rfl rfl rfl k7 k7) ?_;refine one ?_;refine ss (fJ hub8 0) ?_;have es:=bFp x4.loops.addr ub7.sides.addr x4.loops.cap ub7.sides.cap x4.loops.list ub7.sides.list aa0;refine f9 func90 es .nil ⟨d9,d7,e7,e6,e8⟩ λ_=>?_;refine g3 ?_;refine pJ 19 _ _ [(true,0),(true,1),(true,2),(true,3),(true,4),(true,5),(true,6),(true,7),(true,8),(true,9),(true,10),(true,11),(true,12),(true,13),(true,14),(true,15),(true,16),(true,17),(false,18)] dW l8 (.c0 (.c0 (.c1 .nil))) bA.self ?_;refine g6 ?_;refine stL rfl (bG hT (k:=x4.buf.toNat) (cM .head) rfl rfl rfl rfl rfl n4 k7 k9) ?_;refine stL rfl (bO hT (dL.knows (cM .head) (k:=x4.buf.toNat) (x:=(x20+1:Int)) (List.getElem?_set_self k9) 0) rfl rfl rfl rfl rfl) ?_;refine g2 ?_;refine bNt (λhg59=>?_) λhg59=>?_
  .refine g6 ?_;refine bNt (λhg65=>?_) λhg65=>?_
   .refine g3 ?_;obtain⟨x22,hx23⟩:=gx fl x4.buf.toNat k9;refine ss (bG hT (k:=x4.buf.toNat) (cM kT2) rfl rfl rfl rfl rfl hfl.symm k7 k9) ?_;refine g2 ?_;refine cN hT (k:=x4.buf.toNat) (fo:=0) (y':=(decide (polsL x4.loops.list=polsL ub7.sides.list))) kT2 rfl rfl rfl rfl rfl rfl rfl rfl rfl hx23 rfl ?_;refine g5 ?_;refine inc (i+1) ?_;refine g3 ?_;exact bk2 (i+1,(mn.set x4.buf.toNat (x20+1:Int)),(fl.set x4.buf.toNat (decide (polsL x4.loops.list=polsL ub7.sides.list)))) ⟨e9 (⟨by dsimp only;omega,oT hinv4.2 hx5 hb0 hub8 hx21 (by rw[hTw,decide_eq_true (show x20+1=1 by omega),decide_eq_true (show x4.at_.list.length=0 by omega)];simp)⟩),e8⟩
   refine gI rfl rfl rfl rfl ?_;refine g2 ?_;obtain⟨x24,hx25⟩:=gx fl x4.buf.toNat k9;refine ss (bG hT (k:=x4.buf.toNat) (cM kT2) rfl rfl rfl rfl rfl hfl.symm k7 k9) ?_;refine g2 ?_;refine cN hT (k:=x4.buf.toNat) (fo:=0) (y':=(false)) kT2 rfl rfl rfl rfl rfl rfl rfl rfl rfl hx25 rfl ?_;refine g5 ?_;refine inc (i+1) ?_;refine g3 ?_;exact bk2 (i+1,(mn.set x4.buf.toNat (x20+1:Int)),(fl.set x4.buf.toNat (false))) ⟨e9 (⟨by dsimp only;omega,oT hinv4.2 hx5 hb0 hub8 hx21 u0⟩),e8⟩
  refine gI rfl rfl rfl rfl ?_;refine gI rfl rfl rfl rfl ?_;refine gI rfl rfl rfl rfl ?_;refine gI rfl rfl rfl rfl ?_;refine g2 ?_;refine gI rfl rfl rfl rfl ?_;refine g2 ?_;obtain⟨x26,hx27⟩:=gx fl x4.buf.toNat k9;refine ss (bG hT (k:=x4.buf.toNat) (cM kT2) rfl rfl rfl rfl rfl hfl.symm k7 k9) ?_;refine g2 ?_;refine cN hT (k:=x4.buf.toNat) (fo:=0) (y':=(false)) kT2 rfl rfl rfl rfl rfl rfl rfl rfl rfl hx27 rfl ?_;refine g5 ?_;refine inc (i+1) ?_;refine g3 ?_;exact bk2 (i+1,(mn.set x4.buf.toNat (x20+1:Int)),(fl.set x4.buf.toNat (false))) ⟨e9 (⟨by dsimp only;omega,oT hinv4.2 hx5 hb0 hub8 hx21 (by rw[decide_eq_false (show ¬x20+1=1 by omega)];rfl)⟩),e8⟩
 refine g12 ?_;have hfe:=fullS_end hinv4.2 k7;obtain rfl:fl=V:=hfe.trans hV;exact rs1 (_,_) trivial
section
variable {c : dE} {r : Option (List (List Mono) × List Mono)} {n b i : Nat} {s s' : PlC} {u : gQ} {y : LifeC} {x : cP} {t : Bool}
def endC (o:Option PlC):Option (List (List Mono)×List Mono):=o.map λs=>(s.ats,s.end_)
def bLx (c:dE)(o:Option PlC):Option (List (List Mono)×List Mono):=match o with
 |none=>none
 |some s=>endC (goC c (cW c) (mL c) c.steps 0 s)
theorem plan_begin(c:dE):zD c=bLx c (lQ c.bufs (cW c) c.bufs.length 0 (tE c.bufs.length)):=by
 unfold zD bLx endC
 cases lQ c.bufs (cW c) c.bufs.length 0 (tE c.bufs.length)with
 |none=>rfl
 |some s=>
  simp only;cases goC c (cW c) (mL c) c.steps 0 s<;>rfl
theorem uT{m:Nat}(h:r=bLx c (lQ c.bufs (cW c) m b s))(hm:m=n+1)(hu:c.bufs[b]?=some u)(hy:(cW c)[b]?=some y):
  (¬y.from_<0->r=bLx c (lQ c.bufs (cW c) n (b+1) s))/\(y.from_<0->(∀s',layC u.sides b false s=some s'->r=bLx c (lQ c.bufs (cW c) n (b+1) s'))/\(layC u.sides b false s=none->r=none)):=by
 subst hm;rw[lQ,hu,hy]at h;simp only at h;refine⟨λh1=>by rw[h,if_neg h1],λh1=>⟨λs' hs=>by rw[h,if_pos h1,hs],λhs=>by rw[h,if_pos h1,hs];rfl⟩⟩
theorem begin_end(h:r=bLx c (lQ c.bufs (cW c) 0 b s)):r=endC (goC c (cW c) (mL c) c.steps 0 s):=h
theorem go_step{ls:List cP}(h:r=endC (goC c (cW c) (mL c) (ls.drop i) i s))(hx:ls[i]?=some x)(hu:c.bufs[x.buf.toNat]?=some u)(hy:(cW c)[x.buf.toNat]?=some y)(ht:(mL c)[x.buf.toNat]?=some t):
  (¬y.from_=(i:Int)->r=endC (goC c (cW c) (mL c) (ls.drop (i+1)) (i+1) s))/\(y.from_=(i:Int)->(∀s',layC u.sides x.buf.toNat t (relC i (cW c) s)=some s'->r=endC (goC c (cW c) (mL c) (ls.drop (i+1)) (i+1) s'))/\(layC u.sides x.buf.toNat t (relC i (cW c) s)=none->r=none)):=by
 obtain⟨hlt,e⟩:=List.getElem?_eq_some_iff.1 hx;rw[<-List.getElem_cons_drop hlt,e,goC,hu,hy,ht]at h;simp only at h;refine⟨λh1=>by rw[h,if_neg h1],λh1=>⟨λs' hs=>by rw[h,if_pos h1,hs],λhs=>by rw[h,if_pos h1,hs];rfl⟩⟩
theorem go_end{ls:List cP}(h:r=endC (goC c (cW c) (mL c) (ls.drop i) i s))(hi:ls.length<=i):r=some (s.ats,s.end_):=by
 rw[h,List.drop_of_length_le hi,goC];rfl
end
def zU:PolV:=⟨none,0,[]⟩
theorem madePols(m:Nat):(madeCells (Value.slice none 0 0).cells (m*1)).toList=iD.all (List.replicate m zU):=by
 have e: ∀m,iD.all (List.replicate m zU)=List.replicate m (.slice none 0 0):=λm=>by
  induction m with
  |zero=>rfl
  |succ m ih=>rw[List.replicate_succ,List.replicate_succ,<-ih];rfl
 rw[e];unfold madeCells;apply List.ext_getElem
 .simp
 .intro i h1 h2;simp[Value.cells,Nat.mod_one]
section
variable {β : dC} {n : Nat} {Γ : Env} {H : List bD} {F : List bC} {Q : Exit -> Act -> World -> Prop} {ops : Array Oper} {rest : List Oper} {o : Oper} {d : Nat}
theorem at_makePols{m:Nat}{x y:Operand}(hw:want ops Γ o=some true)(ho:o.op= .makeSlice 42 x y)(hd:o.dst=some d)(hn:Nat.blt d n=true)
  (hx:Γ.ev x=some (.int .i64 (m:Nat))) (hy:Γ.ev y=some (.int .i64 (m:Nat))) (hm:m<=1000000)
  (k: ∀b,At β n ((d,.slice (some ⟨b,0,none⟩) m m)::Γ) (iD.row (.slice (some ⟨b,0,none⟩) m m) 43 (List.replicate m zU)::H) F (wpList prog ops Q rest)):At β n Γ H F (wpList prog ops Q (o::rest)):=by
 obtain⟨i,hi,hz,hs,hb⟩:=polsInfo;exact yG (E:=iD) hw ho hd hn hx hy underlying42 hi hz hs v7 t7 (madePols m) m9 k
end
theorem bCu(d:Nat)(x y:dV)(w:World):(Op.equalIn (d+2) 114 (.agg #[.int .i64 x.from_,.int .i64 x.to_]) (.agg #[.int .i64 y.from_,.int .i64 y.to_])).run prog w= .ok (x.from_==y.from_&&x.to_==y.to_) w:=by
 have hS:prog.underlying 114=some (.struct (prog.fieldsOf 114)):=k8
 have hp:prog.stoodInHeld 114=false:=k8
 have hF:(prog.fieldsOf 114).toList=[⟨ "From",3,0,false, "", "",0⟩,⟨ "To",3,1,false, "", "",8⟩]:=k8
 have p0: ∀z:dV,(part 3 #[.int .i64 z.from_,.int .i64 z.to_] 0).run prog w= .ok (.int .i64 z.from_) w:=λz=>by kernel_rfl
 have p1: ∀z:dV,(part 3 #[.int .i64 z.from_,.int .i64 z.to_] 1).run prog w= .ok (.int .i64 z.to_) w:=λz=>by kernel_rfl
 rw[run_equalIn_agg w (d+1) 114 _ _ hS hp,hF];simp only[Op.eqFields,Sem.run_bind,Sem.run_ite,Sem.run_pure,p0,p1,Result.andThen_ok,run_equalIn_int w d 3 .i64 .i64 _ _ underlying3]
 by_cases h1:x.from_=y.from_<;>by_cases h2:x.to_=y.to_<;>simp[h1,h2]
theorem bNk{β:dC}{n:Nat}{Γ:Env}{H:List bD}{F:List bC}{o:Oper}{a b:Operand}{tt:TypeId}(x y:dV)(ho:o.op= .binOp .neq 114 a b tt)(hx:Γ.ev a=some (.agg #[.int .i64 x.from_,.int .i64 x.to_]))(hy:Γ.ev b=some (.agg #[.int .i64 y.from_,.int .i64 y.to_])):Sti prog β n Γ H F o (.bool (!(x.from_==y.from_&&x.to_==y.to_))):=λc w S f s k=>by
 have hq:prog.eqGuardType prog.depth 114=false:=k8
 have hg:(eqGuard .neq 114 a b (.agg #[.int .i64 x.from_,.int .i64 x.to_]) (.agg #[.int .i64 y.from_,.int .i64 y.to_])).run prog w= .ok () w:=by
  unfold eqGuard;have hp:(program:Sem Program).run prog w= .ok prog w:=rfl;simp[hp,hq]
 have hr:(binOp .neq 114 (.agg #[.int .i64 x.from_,.int .i64 x.to_]) (.agg #[.int .i64 y.from_,.int .i64 y.to_])).run prog w= .ok (.bool (!(x.from_==y.from_&&x.to_==y.to_))) w:=by
  rw[run_neq_struct,bCu 9998 x y w];rfl
 unfold execOp;simp only[ho,f.ev hx,f.ev hy];rw[Sem.run_bind,Sem.run_bind,hg,Result.andThen_ok,hr];rfl
theorem lay_len{sides:List (List Mono)}{b:Nat}{again:Bool}{s s':PlC}(h:layC sides b again s=some s'):s'.laid.length=s.laid.length:=by
 unfold layC at h;split at h
 .cases h
 .split at h
  .cases h;simp
  .split at h
   .cases h;simp
   .cases h
theorem rel_len(i:Int)(l:List LifeC)(s:PlC):(relC i l s).laid.length=s.laid.length:=yJ i l s.laid
theorem lc_lv(l:List LifeC):lc (lv l)=l:=by
 unfold lc lv;rw[List.map_map];exact List.map_id' l
theorem bNs(pb mb:Nat)(st:PSt)(pool fs:List SpotV)(s:PlC)(M:Nat)(h:gH st pool s fs M)(LA:Option Addr)(lcap n:Nat)(ls:List LifeC)(hl:ls.length=n)(hM:M+3*n<=70000000)(hn:n=s.laid.length)(stp:Int):cE prog 42 [.pointer (some ⟨pb,0,none⟩),.slice LA n lcap,.int .i64 stp] (plH pb mb st) [fC st.end_,bC.each pool lK,lE.sl (.slice LA n lcap) (lv ls)] (λ_:PSt×List SpotV×List SpotV=> .tuple #[]) (λx=>plH pb mb x.1)
  (λx=>[fC x.1.end_,bC.each x.2.1 lK,bC.pure (gH x.1 x.2.1 (relC stp ls s) x.2.2 (M+3*n))]):=by
 have hl2:(lv ls).length=n:=by rw[bEo,hl]
 subst hl2;have:=release_spec pb mb st pool fs s M h LA lcap (lv ls) hM hn stp;rw[lc_lv]at this;exact this
theorem xZ(bp bc bo:Nat)(c:gF)(OA:Option Addr)(oc N:Nat)(ats:List PolV)(hN:ats.length=N)(pb mb:Nat)(st:PSt)(pool fs:List SpotV)(s:PlC)(M:Nat)(h:gH st pool s fs M)(hM:M<=60000000)(b:Nat)(z:Int)(hz:z=(b:Nat))(u:jD)(hu:c.bufs.list[b]?=some u)(hb:b<s.laid.length)(hba:b<N)(ha:s.ats=ats.map (·.list))(again:Bool):cE prog 39 [.int .i64 z,.bool again,.pointer (some ⟨bp,0,none⟩),.pointer (some ⟨bc,0,none⟩),.pointer (some ⟨bo,0,none⟩)] (.obj bp (.cells ([.pointer (some ⟨pb,0,none⟩)]:List Value).toArray 101):: .obj bc (.cells ([.int .i64 c.vars,.slice c.bufs.addr c.bufs.list.length c.bufs.cap,.slice c.steps.addr c.steps.list.length c.steps.cap,.slice c.outs.addr c.outs.list.length c.outs.cap]:List Value).toArray 26):: .obj bo (.cells ([.slice OA N oc,.slice none 0 0]:List Value).toArray 45)::iD.row (.slice OA N oc) 43 ats::plH pb mb st) [nM c,fC st.end_,bC.each pool lK] (λ(_:PSt×List SpotV×List SpotV×PolV)=> .int .i64 (if (layC (polsL u.sides.list) b again s).isSome then 0 else 140)) (λ(x:PSt×List SpotV×List SpotV×PolV)=>(.obj bp (.cells ([.pointer (some ⟨pb,0,none⟩)]:List Value).toArray 101):: .obj bc (.cells ([.int .i64 c.vars,.slice c.bufs.addr c.bufs.list.length c.bufs.cap,.slice c.steps.addr c.steps.list.length c.steps.cap,.slice c.outs.addr c.outs.list.length c.outs.cap]:List Value).toArray 26):: .obj bo (.cells ([.slice OA N oc,.slice none 0 0]:List Value).toArray 45)::iD.row (.slice OA N oc) 43 (ats.set b x.2.2.2)::plH pb mb x.1)) (λ(x:PSt×List SpotV×List SpotV×PolV)=>[fC x.1.end_,bC.each x.2.1 lK,fC x.2.2.2,bC.pure (∀s',layC (polsL u.sides.list) b again s=some s'->gH x.1 x.2.1 s' x.2.2.1 (M+2)/\s'.ats=(ats.set b x.2.2.2).map (·.list))]):=by
 have hT:=fK;subst hz;have hbl:=(List.getElem?_eq_some_iff.1 hu).1;obtain⟨y0,hy0⟩:=gx ats b;refine j2 func39 ntmps39 ?_;intro β hM;refine fT<|bK (vE.sl (.slice c.bufs.addr c.bufs.list.length c.bufs.cap) c.bufs.list) (mO (iS d7)) ?_;refine g5 ?_;refine dS _ _ [(true,0),(true,1),(true,2),(true,3),(true,4),(true,5),(true,6),(true,7),(true,8),(false,9),(true,10),(true,11),(true,12),(true,13),(true,14)] dW l8 (.c0 (.c0 (.c0 (.c0 .nil)))) bA.self ?_;refine g5 ?_;refine stM rfl (ixs b) ?_;refine one ?_;refine stM rfl (fJ hu 0) ?_;refine g2 ?_;refine bK (oL u.sides) (Has.each (yI (iS d8)) (f5 hu)) ?_;refine dZ (List.perm_append_comm (l₁:=[_,_,_,_])) ?_;refine bF func40 (lay_spec pb mb st pool fs s M h k7 b hb u.sides again) rfl rfl (Split.front _ _) ⟨e6,e7,d7,e8⟩ λy1=>?_;refine dZ List.perm_append_comm ?_;refine bJ e6 λhla=>?_;refine g9 ?_;refine dS _ _ [(true,0),(true,1),(true,2),(true,3),(false,4),(false,5),(false,6)] dW l8 (.c0 (.c0 (.c0 (.c1 (.c1 (.c1 (Sel.skip Sel.self))))))) bA.self ?_;refine g5 ?_;refine bJ (bJs d9) λhcl=>?_;refine f9 func41 (cloneM_spec y1.2.2.2 hcl) .nil ⟨pQ d9,e8⟩ λy2=>?_;refine zQ (.c0 (.c0 (.c0 (.c1 (.c1 (.c1 (Sel.skip Sel.self))))))) (bA.drop 1) ?_;refine one ?_;refine ss (bG hT (k:=b) (cM kT3) rfl rfl rfl rfl rfl hN.symm rfl k7) ?_;refine zQ (.c0 (.c0 (.c0 (.c1 (.c1 (.c1 (Sel.skip Sel.self))))))) (bA.drop 1) ?_;refine one ?_;refine cN hT (k:=b) (fo:=0) (y':=(⟨y2.1,y2.2,y1.2.2.2.list⟩:PolV)) kT3 rfl rfl rfl rfl rfl rfl rfl rfl rfl hy0 rfl ?_;refine zQ (.c1 (.c1 (.c1 (.c1 (.c1 (.c1 (Sel.skip Sel.self))))))) (bA.drop 1) ?_;refine g9 ?_;exact nU (y1.1,y1.2.1,y1.2.2.1,(⟨y2.1,y2.2,y1.2.2.2.list⟩:PolV)) rfl (rv_tmp rfl) (.c1 (.c1 (.c1 (.c0 (.c0 (.c0 (.cons .head Sel.self))))))) ⟨d8,d9,d7,e9 (λs' hs'=>⟨(hla s' hs').1,by rw[(hla s' hs').2,ha,List.map_set]⟩),e8⟩ (rfl)
def jR (c:dE):(List (List Mono)×List Mono)×Int:=if cZ c=true then match zD c with
 |some r=>(r,0)
 |none=>(([],[]),140)
 else (([],[]),100)
section
variable {c : dE}
theorem planW_no(h:cZ c=false):jR c=(([],[]),100):=by unfold jR;rw[if_neg u4]
theorem bGk(h:cZ c=true)(hp:zD c=none):jR c=(([],[]),140):=by unfold jR;rw[if_pos h,hp]
theorem planW_ok{r:List (List Mono)×List Mono}(h:cZ c=true)(hp:zD c=some r):jR c=(r,0):=by unfold jR;rw[if_pos h,hp]
end
abbrev st0:PSt:=⟨⟨none,0,[]⟩,none,0,[],0,[]⟩
theorem rel_start(n:Nat):gH st0 [] (tE n) [] 0 where
 end_:=rfl
 free:=rfl
 flat:=List.Perm.refl _
 rise:=List.Pairwise.nil
 top:=λ_ h=>by cases h
 apart:=λi _ r _ h=>by simp at h
 ok:=λk r h=>by simp at h
 keys:=List.nodup_nil
 laid:=λb=>by
  show none=((List.replicate n (none:Option SpC))[b]?).bind id;rw[List.getElem?_replicate];split<;>rfl
 poolR:=λ_ h=>by cases h
 poolL:=λ_ h=>by cases h
 low:=Int.le_refl _
 high:=Int.le_refl _
 many:=Nat.le_refl _
 len:=Nat.le_refl _
theorem bMq{l:List LifeC}{k:Nat}{x:dV}(h:(lv l)[k]?=some x):l[k]?=some x.c:=by
 have h1:=lc_at h;rw[lc_lv]at h1;exact h1
theorem life_none0{x:dV}(h:(!(x.from_==0&&x.to_== -1))=false): ¬x.c.from_<0:=by
 show ¬x.from_<0
 simp at h;omega
theorem bNm(mb:Nat):prog.built 105 [(3,.map (some mb))]=some #[.slice none 0 0,.slice none 0 0,.int .i64 0,.map (some mb)]:=k8
theorem zero_pp:(prog.info? 101).bind (·.zero)=some (.pointer none):=k8
theorem each_repl(n:Nat){F:List bC}:Has F (bC.each (List.replicate n zU) fC):=λS w k x hx=>by
 have:=List.eq_of_mem_replicate hx;subst this;exact polF_nil S w k
theorem pols_len{A:Option Addr}{n c:Nat}{l:List PolV}{F:List bC}(h:Has F (iD.sl (.slice A n c) l))(hl:l.length=n):Has F (iD.sl (.slice A l.length c) l):=by rw[hl];exact h
theorem bDn{F:List bC}:Has F (iD.sl (.slice none 0 0) []):=λ_ _ _=>⟨none,0,rfl,λk x h=>by simp at h⟩
theorem nB:(prog.info? 45).bind (·.zero)=some (.agg #[.slice none 0 0,.slice none 0 0]):=k8
theorem iW:prog.built 45 []=some #[.slice none 0 0,.slice none 0 0]:=k8
theorem rN(a0:Option Addr)(l0 c0:Nat):prog.built 45 [(0,.slice a0 l0 c0)]=some #[.slice a0 l0 c0,.slice none 0 0]:=k8
theorem PlanF_spec(c:gF):cE prog 14 [.agg #[.int .i64 c.vars,.slice c.bufs.addr c.bufs.list.length c.bufs.cap,.slice c.steps.addr c.steps.list.length c.steps.cap,.slice c.outs.addr c.outs.list.length c.outs.cap]] [] [nM c,bC.cells 0 0 [.int .i64 0,.int .i64 (-1)]] (λ(x:LayV)=> .tuple #[.agg #[.slice x.at_.addr x.at_.list.length x.at_.cap,.slice x.size.addr x.size.list.length x.size.cap],.int .i64 (jR c.c).2]) (λ_=>[]) (λ(x:LayV)=>[iD.sl (.slice x.at_.addr x.at_.list.length x.at_.cap) x.at_.list,bC.each x.at_.list fC,fC x.size,bC.pure ((polsL x.at_.list,x.size.list)=(jR c.c).1)]):=by
 have hT:=fK;generalize hR:zD c.c=R;refine j2 func14 ntmps14 ?_;intro β hM;refine g2 ?_;refine j0 λb1=>?_;refine i7 nB λb2=>?_;refine g7 ?_;refine f9 func33 (bAo c) .nil ⟨d7,e8⟩ λ_=>?_;refine g3 ?_;refine yQ (λhc16=>?_) λhc16=>?_
 .refine g2 ?_;refine ss (cK rfl rfl (iW)) ?_;refine g6 ?_;have hW:=planW_no (c:=c.c) w7;exact rs2 (⟨⟨none,0,[]⟩,⟨none,0,[]⟩⟩:LayV) ⟨bDn,Has.each_nil,polF_nil,e9 (by rw[hW];rfl),e8⟩ (he:=by rw[hW];rfl)
 refine g3 ?_;have hr:cZ c.c=true:=by simpa using hc16
 obtain⟨hbz,hst,hou⟩:=bBi hr;have hnb:c.c.bufs.length=c.bufs.list.length:=bY _;have hns:c.c.steps.length=c.steps.list.length:=fG _;refine bK (vE.sl (.slice c.bufs.addr c.bufs.list.length c.bufs.cap) c.bufs.list) (mO (iS d7)) ?_;refine dS _ _ [(true,0),(true,2),(false,1),(false,3),(true,4),(true,5)] dW l8 (.c0 (.c0 .nil)) bA.self ?_;refine g3 ?_;refine f9 func37 (lives_spec c hr) .nil ⟨d8,d9,e8⟩ λ⟨LA,lcp⟩=>?_;refine jA (E:=lE) .head ?_;refine g2 ?_;refine f9 func38 (fullP_spec c hr) .nil ⟨d9,e8⟩ λ⟨FA,fcp⟩=>?_;refine jA (E:=iT) .head ?_;refine g7 ?_;refine bMm .i64 rfl rfl rfl rfl λmb=>?_;refine ss (cK rfl rfl (bNm mb)) ?_;refine j0 λb3=>?_;refine bZ (t:=284) pO ?_;refine i7 zero_pp λb4=>?_;refine g8 ?_;refine at_makePols (m:=c.bufs.list.length) rfl rfl rfl rfl rfl rfl k7 λb5=>?_;refine ss (cK rfl rfl (rN _ _ _)) ?_;refine i7 nB λb6=>?_;refine g11 ?_;refine bK (fC st0.end_) (polF_nil)<|bK (bC.each ([]:List SpotV) lK) (Has.each_nil)<|bK (bC.each (List.replicate c.bufs.list.length zU) fC) (each_repl _) ?_;refine g8 ?_;refine oS (.c6 (.c2 (.c5 (.c0 (.c0 (.c1 (.c0 (.cons .head Sel.self)))))))) ?_;refine bMw (ι:=PSt×List SpotV×List SpotV×List PolV×PlC×Nat) [(1,_),(2,_),(4,_),(5,_),(6,_),(7,_),(8,_),(33,_)] ⟨rfl,rfl,rfl,rfl,rfl,rfl,rfl,rfl,e8⟩ (λ⟨st,pool,fs,ats,s,b⟩=>[(34,.int .i64 (b:Nat))]) (λ⟨st,pool,fs,ats,s,b⟩=>(.obj b2 (.cells ([.slice none 0 0,.slice none 0 0]:List Value).toArray 45):: .obj b4 (.cells ([.pointer (some ⟨b3,0,none⟩)]:List Value).toArray 101):: .obj b1 (.cells ([.int .i64 c.vars,.slice c.bufs.addr c.bufs.list.length c.bufs.cap,.slice c.steps.addr c.steps.list.length c.steps.cap,.slice c.outs.addr c.outs.list.length c.outs.cap]:List Value).toArray 26):: .obj b6 (.cells ([.slice (some ⟨b5,0,none⟩) c.bufs.list.length c.bufs.list.length,.slice none 0 0]:List Value).toArray 45)::iD.row (.slice (some ⟨b5,0,none⟩) c.bufs.list.length c.bufs.list.length) 43 ats::plH b3 mb st)) (λ⟨st,pool,fs,ats,s,b⟩=>[bC.pure (b<=c.bufs.list.length/\gH st pool s fs (2*b)/\s.ats=ats.map (·.list)/\ats.length=c.bufs.list.length/\s.laid.length=c.bufs.list.length/\R=bLx c.c (lQ c.c.bufs (cW c.c) (c.bufs.list.length-b) b s)),fC st.end_,bC.each pool lK,bC.each ats fC]) (λ⟨st,pool,fs,ats,s,b⟩=>c.bufs.list.length-b) (st0,[],[],List.replicate c.bufs.list.length zU,tE c.bufs.list.length,0) ⟨rfl,e8⟩ (List.Perm.refl _) ⟨e9 (⟨k7,rel_start _,by simp[tE,zU],List.length_replicate,by simp[tE],by rw[<-hR,plan_begin,hnb];rfl⟩),d9,d8,d7,e8⟩ ?_;rintro⟨st,pool,fs,ats,s,b⟩;dsimp only;refine bJ d7 λhinv8=>?_;have h:=hinv8.2.1;have ha:=hinv8.2.2.1;have hal:=hinv8.2.2.2.1;have hsl:=hinv8.2.2.2.2.1;refine g6 ?_;refine dH (λhc35=>?_) λhc35=>?_
 .refine g11 ?_;have hmn:c.bufs.list.length-b=(c.bufs.list.length-(b+1))+1:=k7
  obtain⟨u,hu⟩:=gx c.bufs.list b;obtain⟨y,hy⟩:=gx (lv (cW c.c)) b (by rw[bEo,nA,hnb];omega);refine dS _ _ [(true,0),(true,1),(true,2),(true,3),(true,4),(true,5),(true,6),(true,7),(true,8),(true,9),(true,10),(true,11),(true,12),(true,13)] dW l8 (.c0 (.c0 (.c0 (.c0 (.c0 (.c0 (.c0 (.cons .head Sel.self)))))))) bA.self ?_;refine g2 ?_;refine stM rfl (bG hT (k:=b) (bR (Has.of mT8)) rfl rfl rfl rfl rfl (by rw[bEo,nA,hnb]) rfl ((List.getElem?_eq_some_iff.1 hy).1)) ?_;refine stM rfl (jQ hy 0) ?_;refine stM rfl (rD hT (bI (off:=0) (Has.of mT11)) rfl rfl rfl rfl rfl) ?_;refine stM rfl (bNk y ⟨0,-1⟩ rfl rfl rfl) ?_;refine one ?_;refine cD (λhg43=>?_) (λhg43=>?_)
  .refine g2 ?_;refine stM rfl (bG hT (k:=b) (bR (Has.of mT8)) rfl rfl rfl rfl rfl (by rw[bEo,nA,hnb]) rfl ((List.getElem?_eq_some_iff.1 hy).1)) ?_;refine one ?_;refine stM rfl (fJ hy 0) ?_;refine g4 ?_;refine dH (λhc50=>?_) λhc50=>?_
   .refine fT ?_
    rcases hly:layC (polsL u.sides.list) b false s with _|s'
    .refine g3 ?_;refine dZ (List.perm_append_comm (l₁:=[_])) ?_;refine lJ (j4 func39) (xZ b4 b1 b6 c (some ⟨b5,0,none⟩) c.bufs.list.length c.bufs.list.length ats hal b3 mb st pool fs s (2*b) h k7 b (b:Nat) rfl u hu k7 k7 ha false) rfl rfl rfl rfl rfl rfl rfl (Split.front _ _) ⟨Has.of mT10,d8,d9,e8⟩ λy7=>?_;refine dZ List.perm_append_comm ?_;refine bJ e6 λhpu=>bN (z':=140) (by rw[hly];rfl) ?_;refine g7 ?_;refine bS (t':=true) m7 ?_;refine g5 ?_;refine ss (cK rfl rfl (iW)) ?_;refine g11 ?_;have hW:=bGk hr (hR.trans (((uT hinv8.2.2.2.2.2 hmn (bT hu) (bMq hy)).2 ‹_›).2 hly));exact rs2 (⟨⟨none,0,[]⟩,⟨none,0,[]⟩⟩:LayV) ⟨bDn,Has.each_nil,polF_nil,e9 (by rw[hW];rfl),e8⟩ (he:=by rw[hW];rfl)
    refine g3 ?_;refine dZ (List.perm_append_comm (l₁:=[_])) ?_;refine lJ (j4 func39) (xZ b4 b1 b6 c (some ⟨b5,0,none⟩) c.bufs.list.length c.bufs.list.length ats hal b3 mb st pool fs s (2*b) h k7 b (b:Nat) rfl u hu k7 k7 ha false) rfl rfl rfl rfl rfl rfl rfl (Split.front _ _) ⟨Has.of mT10,d8,d9,e8⟩ λy8=>?_;refine dZ List.perm_append_comm ?_;refine bJ e6 λhpu=>bN (z':=0) (by rw[hly];rfl)<|bK (bC.each (ats.set b y8.2.2.2) fC) (each_set (Has.of mT7) d9) ?_;refine g7 ?_;refine bS (t':=false) m7 ?_;refine g8 ?_;refine inc (b+1) ?_;refine g3 ?_;exact nR (y8.1,y8.2.1,y8.2.2.1,ats.set b y8.2.2.2,s',b+1) n9 ⟨rfl,e8⟩ ⟨rfl,rfl,rfl,rfl,rfl,rfl,rfl,rfl,e8⟩ (List.Perm.refl _) ⟨e9 (⟨by dsimp only;omega,(hpu s' hly).1.more n9,(hpu s' hly).2,by rw[List.length_set];exact hal,by rw[lay_len hly];exact hsl,((uT hinv8.2.2.2.2.2 hmn (bT hu) (bMq hy)).2 ‹_›).1 s' hly⟩),d8,d9,d7,e8⟩ (bA.drop 9)
   refine g5 ?_;refine inc (b+1) ?_;refine g3 ?_;exact nR (st,pool,fs,ats,s,b+1) n9 ⟨rfl,e8⟩ ⟨rfl,rfl,rfl,rfl,rfl,rfl,rfl,rfl,e8⟩ (List.Perm.refl _) ⟨e9 (⟨by dsimp only;omega,h.more n9,ha,hal,hsl,(uT hinv8.2.2.2.2.2 hmn (bT hu) (bMq hy)).1 (by show ¬dV.from_ _<0;omega)⟩),d8,d9,e6,e8⟩ (bA.drop 4)
  refine g15 ?_;refine inc (b+1) ?_;refine g3 ?_;exact nR (st,pool,fs,ats,s,b+1) n9 ⟨rfl,e8⟩ ⟨rfl,rfl,rfl,rfl,rfl,rfl,rfl,rfl,e8⟩ (List.Perm.refl _) ⟨e9 (⟨by dsimp only;omega,h.more n9,ha,hal,hsl,(uT hinv8.2.2.2.2.2 hmn (bT hu) (bMq hy)).1 (life_none0 hg43)⟩),d8,d9,e6,e8⟩ (bA.drop 4)
 refine g15 ?_;refine bMw (ι:=PSt×List SpotV×List SpotV×List PolV×PlC×Nat) [(2,_),(4,_),(5,_),(6,_),(7,_),(8,_),(60,_),(61,_)] ⟨rfl,rfl,rfl,rfl,rfl,rfl,rfl,rfl,e8⟩ (λ⟨st,pool,fs,ats,s,i⟩=>[(62,.int .i64 (i:Nat))]) (λ⟨st,pool,fs,ats,s,i⟩=>(.obj b2 (.cells ([.slice none 0 0,.slice none 0 0]:List Value).toArray 45):: .obj b4 (.cells ([.pointer (some ⟨b3,0,none⟩)]:List Value).toArray 101):: .obj b1 (.cells ([.int .i64 c.vars,.slice c.bufs.addr c.bufs.list.length c.bufs.cap,.slice c.steps.addr c.steps.list.length c.steps.cap,.slice c.outs.addr c.outs.list.length c.outs.cap]:List Value).toArray 26):: .obj b6 (.cells ([.slice (some ⟨b5,0,none⟩) c.bufs.list.length c.bufs.list.length,.slice none 0 0]:List Value).toArray 45)::iD.row (.slice (some ⟨b5,0,none⟩) c.bufs.list.length c.bufs.list.length) 43 ats::plH b3 mb st)) (λ⟨st,pool,fs,ats,s,i⟩=>[bC.pure (i<=c.steps.list.length/\gH st pool s fs (2048+3100*i)/\s.ats=ats.map (·.list)/\ats.length=c.bufs.list.length/\s.laid.length=c.bufs.list.length/\R=endC (goC c.c (cW c.c) (mL c.c) (c.c.steps.drop i) i s)),fC st.end_,bC.each pool lK,bC.each ats fC]) (λ⟨st,pool,fs,ats,s,i⟩=>c.steps.list.length-i) (st,pool,fs,ats,s,0) ⟨rfl,e8⟩ (List.Perm.refl _) ⟨e9 (⟨k7,h.more k7,ha,hal,hsl,begin_end (b:=b) (by have hb0:=hinv8.2.2.2.2.2;rwa[show c.bufs.list.length-b=0 by omega]at hb0)⟩),d8,d9,e6,e8⟩ ?_;rintro⟨st,pool,fs,ats,s,i⟩;dsimp only;refine bJ d7 λhinv16=>?_;have h:=hinv16.2.1;have ha:=hinv16.2.2.1;have hal:=hinv16.2.2.2.1;have hsl:=hinv16.2.2.2.2.1;refine g6 ?_;refine dH (λhc63=>?_) λhc63=>?_
 .refine g5 ?_;refine bK (sQ.sl (.slice c.steps.addr c.steps.list.length c.steps.cap) c.steps.list) (sE (kD (Has.of mT14))) ?_;obtain⟨x,hx⟩:=gx c.steps.list i;obtain⟨hb0,hb1,_⟩:=hst x.c (f5 (dJ hx))
  replace hb0:0<=x.buf:=hb0
  replace hb1:x.buf<(c.c.bufs.length:Nat):=hb1
  have hbz2:x.buf.toNat<c.bufs.list.length:=k7
  obtain⟨u,hu⟩: ∃u,c.bufs.list[x.buf.toNat]?=some u:=⟨_,List.getElem?_eq_getElem hbz2⟩
  obtain⟨y,hy⟩:=gx (lv (cW c.c)) x.buf.toNat (by rw[bEo,nA,hnb];omega);obtain⟨t,ht⟩:=gx (mL c.c) x.buf.toNat (by rw[bEu,hnb];omega);have hgo:=go_step hinv16.2.2.2.2.2 (dJ hx) (bT hu) (bMq hy) ht;refine g2 ?_;refine ss (ixs i) ?_;refine ss (jQ hx 0) ?_;refine i7 vQ λb9=>?_;refine g10 ?_;refine ss (bG hT (k:=x.buf.toNat) (bR (Has.of mT13)) rfl rfl rfl rfl rfl (by rw[bEo,nA,hnb]) k7 ((List.getElem?_eq_some_iff.1 hy).1)) ?_;refine one ?_;refine ss (fJ hy 0) ?_;refine g4 ?_;refine bNw (λhc74=>?_) λhc74=>?_
  .refine g6 ?_;refine inc (i+1) ?_;refine g3 ?_;refine oS (.c1 (.c1 (.c1 (.c1 (.c1 (.c1 (.c1 (.c1 (Sel.skip Sel.self))))))))) ?_;exact nR (st,pool,fs,ats,s,i+1) n9 ⟨rfl,e8⟩ ⟨rfl,rfl,rfl,rfl,rfl,rfl,rfl,rfl,e8⟩ (List.Perm.refl _) ⟨e9 (⟨by dsimp only;omega,h.more n9,ha,hal,hsl,hgo.1 ‹_›⟩),d9,e6,e7,e8⟩ (bA.drop 5)
  refine g7 ?_;refine dZ (List.perm_append_comm (l₁:=[_,_,_,_,_,_])) ?_;refine bF func42 (bNs b3 mb st pool fs s (2048+3100*i) h LA lcp c.bufs.list.length (cW c.c) (by rw[nA,hnb]) k7 hsl.symm (i:Nat)) rfl rfl (Split.front _ _) ⟨d9,e6,Has.of mT13,e8⟩ λy10=>?_;refine dZ List.perm_append_comm ?_;refine bJ d9 λhrl=>?_;refine g3 ?_
  rcases hly:layC (polsL u.sides.list) x.buf.toNat t (relC (i:Nat) (cW c.c) s)with _|s'
  .refine dS _ _ [(true,0),(true,1),(true,2),(true,3),(true,4),(true,5),(true,6),(true,7),(false,8),(true,9)] dW l8 (.c0 (.c0 (.c0 (.c0 (.c0 .nil))))) bA.self ?_;refine g6 ?_;refine stM rfl (bG hT (k:=x.buf.toNat) (bR (Has.of (u8 mT7))) rfl rfl rfl rfl rfl (by rw[bEu,hnb]) k7 ((List.getElem?_eq_some_iff.1 ht).1)) ?_;refine stM rfl (fJ ht 0) ?_;refine one ?_;refine oS (.c1 (.c0 (.c0 (.c0 (.c0 (.c0 (.c0 (.c0 (.cons .head Sel.self))))))))) ?_;refine dZ (List.perm_append_comm (l₁:=[_,_])) ?_;refine lJ (j4 func39) (xZ b4 b1 b6 c (some ⟨b5,0,none⟩) c.bufs.list.length c.bufs.list.length ats hal b3 mb y10.1 y10.2.1 y10.2.2 (relC (i:Nat) (cW c.c) s) (2048+3100*i+3*c.bufs.list.length) hrl k7 x.buf.toNat x.buf k7 u hu (by rw[rel_len,hsl];exact hbz2) k7 ha t) rfl rfl rfl rfl rfl rfl rfl (Split.front _ _) ⟨Has.of (u8 (u8 mT2)),d7,d8,e8⟩ λy11=>?_;refine dZ List.perm_append_comm ?_;refine bJ e6 λhpu=>bN (z':=140) (by rw[hly];rfl) ?_;refine g8 ?_;refine bS (t':=true) m7 ?_;refine g5 ?_;refine ss (cK rfl rfl (iW)) ?_;refine g11 ?_;have hW:=bGk hr (hR.trans ((hgo.2 ‹_›).2 hly));exact rs2 (⟨⟨none,0,[]⟩,⟨none,0,[]⟩⟩:LayV) ⟨bDn,Has.each_nil,polF_nil,e9 (by rw[hW];rfl),e8⟩ (he:=by rw[hW];rfl)
  refine dS _ _ [(true,0),(true,1),(true,2),(true,3),(true,4),(true,5),(true,6),(true,7),(false,8),(true,9)] dW l8 (.c0 (.c0 (.c0 (.c0 (.c0 .nil))))) bA.self ?_;refine g6 ?_;refine stM rfl (bG hT (k:=x.buf.toNat) (bR (Has.of (u8 mT7))) rfl rfl rfl rfl rfl (by rw[bEu,hnb]) k7 ((List.getElem?_eq_some_iff.1 ht).1)) ?_;refine stM rfl (fJ ht 0) ?_;refine one ?_;refine oS (.c1 (.c0 (.c0 (.c0 (.c0 (.c0 (.c0 (.c0 (.cons .head Sel.self))))))))) ?_;refine dZ (List.perm_append_comm (l₁:=[_,_])) ?_;refine lJ (j4 func39) (xZ b4 b1 b6 c (some ⟨b5,0,none⟩) c.bufs.list.length c.bufs.list.length ats hal b3 mb y10.1 y10.2.1 y10.2.2 (relC (i:Nat) (cW c.c) s) (2048+3100*i+3*c.bufs.list.length) hrl k7 x.buf.toNat x.buf k7 u hu (by rw[rel_len,hsl];exact hbz2) k7 ha t) rfl rfl rfl rfl rfl rfl rfl (Split.front _ _) ⟨Has.of (u8 (u8 mT2)),d7,d8,e8⟩ λy12=>?_;refine dZ List.perm_append_comm ?_;refine bJ e6 λhpu=>bN (z':=0) (by rw[hly];rfl)<|bK (bC.each (ats.set x.buf.toNat y12.2.2.2) fC) (each_set (Has.of mT11) d9) ?_;refine g8 ?_;refine bS (t':=false) m7 ?_;refine g8 ?_;refine inc (i+1) ?_;refine g3 ?_;refine oS (.c0 (.c1 (.c1 (.c1 (.c1 (.c1 (.c1 (.c1 (Sel.skip Sel.self))))))))) ?_;exact nR (y12.1,y12.2.1,y12.2.2.1,ats.set x.buf.toNat y12.2.2.2,s',i+1) n9 ⟨rfl,e8⟩ ⟨rfl,rfl,rfl,rfl,rfl,rfl,rfl,rfl,e8⟩ (List.Perm.refl _) ⟨e9 (⟨by dsimp only;omega,(hpu s' hly).1.more n9,(hpu s' hly).2,by rw[List.length_set];exact hal,by rw[lay_len hly,rel_len];exact hsl,(hgo.2 ‹_›).1 s' hly⟩),d8,d9,d7,e8⟩ (bA.drop 13)
 refine g23 ?_;have hW:=planW_ok hr (hR.trans (go_end hinv16.2.2.2.2.2 (by show c.c.steps.length<=i;rw[hns];omega)));refine jA (E:=iD) kT4 ?_;exact rs2 (⟨⟨(some ⟨b5,0,none⟩),c.bufs.list.length,ats⟩,st.end_⟩:LayV) ⟨pols_len d7 hal,e7,d9,e9 (by rw[hW,ha,<-h.end_];rfl),e8⟩ (he:=by rw[hW];exact congrArg (λk=>Value.tuple #[.agg #[.slice (some ⟨b5,0,none⟩) k c.bufs.list.length,.slice st.end_.addr st.end_.list.length st.end_.cap],.int .i64 0]) hal.symm)
end
end Go.Proofs.YtnfiadlonjediaaGreatDoor
