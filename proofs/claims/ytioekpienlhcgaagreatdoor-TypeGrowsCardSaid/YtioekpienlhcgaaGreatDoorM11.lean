/- A part of one proof. -/
import Derived.Test.YtioekpienlhcgaaGreatDoorM10
import Derived.Test.YtioekpienlhcgaaGreatDoorM9
set_option maxRecDepth 100000
namespace Go.Proofs.YtioekpienlhcgaaGreatDoor
open Go.RowKit Go.Proofs.Tryz
open _root_.List renaming getElem?_eq_some_iff->F3,map_cons->N7,sum_cons->N8,mem_cons->E2,length_append->F4,length_cons->F5,length_nil->O2,length_map->O4,getElem?_eq_getElem->F1,getElem?_map->K1,length->Q8,map_append->L2,perm_append_comm->Z1,mem_of_getElem?->aK,mem_map_of_mem->Y3
open _root_.Int renaming not_lt->aD
open Value renaming string->Q5
open Region renaming ready->G1,noSelect->G4
open _root_.Nat renaming beq->k9,eq_of_beq_eq_true->A0,le_refl->B0,le_trans->B1
open _root_.Bool renaming and_eq_true->J3
structure bMf (l:List fF) (st:List Part) (i:Nat):Prop where
 steps:sV (l.drop i) st=sV l []
 le:i<=l.length
 len:st.length<=i
 sum:(st.map (·.D)).sum<=300*i
 J: ∀p∈st,p.J<=i
 ok: ∀p∈st,p.s.length<=40*p.D
section
variable {l : List fF} {st r : List Part} {i k : Nat} {x : fF} {p q : Part}
theorem bMf.start(l:List fF):bMf l [] 0:=⟨rfl,l7,m9,m9,λp a=>by simp at a,λp a=>by simp at a⟩
theorem bMf.fail(h:bMf l st i)(hx:l[i]?=some x)(hs:stepR st x=none):bJj l k=none:=by have:=h.steps;rw[hO hx,sV,hs]at this;unfold bJj;rw[<-this];split<;>rfl
def finR (k:Nat):List Part->Option Bs
 |[p]=>if 256<p.D+k\/32<p.J then none else some p.s
 |_=>none
theorem bMf.done(h:bMf l st i)(hi:l.length<=i)(hm: ¬256<l.length):bJj l k=finR k st:=by
 have:=h.steps;rw[List.drop_of_length_le hi,sV]at this;unfold bJj;rw[if_neg hm,<-this]
 match st with
 |[]=>rfl
 |[_]=>rfl
 |_::_::_=>rfl
theorem xr_long(h:256<l.length):bJj l k=none:=by rw[bJj,if_pos h]
theorem not_oneR(h:st.length≠1):finR k st=none:=by
 match st,h with
 |[],_=>rfl
 |[_],h=>exact absurd rfl h
 |_::_::_,_=>rfl
theorem finR_one(h: ¬(256<p.D+k\/32<p.J)):finR k [p]=some p.s:=if_neg h
theorem finR_bad(h:256<p.D+k\/32<p.J):finR k [p]=none:=if_pos h
theorem operandR_ok(hz: ∀z∈x.nums,-9223372036854775808<=z/\z<=9223372036854775807):(operandR x).s.length<=40*(operandR x).D/\(operandR x).D<=256/\(operandR x).J=0:=by
 unfold operandR;split
 .exact⟨by simp[oD],by simp[oD],rfl⟩
 .split
  .split
   .exact⟨by simp[oD],by simp[oD],rfl⟩
   .rename_i h
    have hn:dQ x.name=true:=by
     cases hn:dQ x.name with
     |true=>rfl
     |false=>exact absurd (.inr hn) h
    have:=nC hn;exact⟨by simp;omega,m9,rfl⟩
  .split
   .exact⟨by simp[oD],by simp[oD],rfl⟩
   .rename_i h;have h1: ¬256<x.nums.length:=λe=>h (.inr e);have h2:=bIg (x.nums.map fC);have a:=cAn hz;refine⟨?_,by simp;omega,rfl⟩;rw[bBt];simp only;omega
theorem verbR_ok(h:(verbR x).1≠[]):(verbR x).1.length<=6/\1<=(verbR x).2/\(verbR x).2<=2:=by
 unfold verbR at h⊢;rw[qY]at h⊢;have h1:=pN (x.H !=3) x.fn;have b:=bMk x.H;dsimp only at h⊢;split
 .rename_i a;rw[if_pos a]at h;exact absurd rfl h
 .refine⟨by simp;omega,?_,?_⟩
  .simp only;split<;>omega
  .simp only;split<;>omega
theorem brk_ok(h:p.s.length<=40*p.D):(brkR p).s.length<=40*(brkR p).D:=by
 unfold brkR;split
 .exact h
 .simp;omega
theorem bMf.next(h:bMf l st i)(hx:l[i]?=some x)(hz: ∀z∈x.nums,-9223372036854775808<=z/\z<=9223372036854775807)(hs:stepR st x=some r):bMf l r (i+1):=by
 have k:=(F3.1 hx).1
 have d:sV (l.drop (i+1)) r=sV l []:=by have:=h.steps;rw[hO hx,sV,hs]at this;exact this
 obtain⟨_,_,f,e,a,b⟩:=h
 suffices hh:r.length<=st.length+1/\(r.map (·.D)).sum<=(st.map (·.D)).sum+300/\(∀p∈r,p.J<=i+1)/\ ∀p∈r,p.s.length<=40*p.D from
  ⟨d,k,l7,l7,hh.2.2.1,hh.2.2.2⟩
 unfold stepR at hs;split at hs
 .split at hs
  .cases hs;obtain⟨h1,h2,v⟩:=operandR_ok hz;refine⟨m9,by simp only[N7,N8];omega,λp c=>?_,λp c=>?_⟩
   .rcases E2.1 c with rfl|c
    .omega
    .have:=a p c;omega
   .rcases E2.1 c with rfl|c
    .exact h1
    .exact b p c
  .cases hs
 .split at hs
  .cases hs
  .split at hs
   .cases hs
   .rename_i j;obtain⟨t,o,n⟩:=verbR_ok j;split at hs
    .rcases st with _|⟨p,_|⟨q,st⟩⟩
     .cases hs
     .cases hs
     .cases hs;obtain⟨C,B,A⟩:=brk_len q;have w:=brk_ok (b q m9);have m:=b p m9;have g:=a p m9;have u:=a q m9;refine⟨m9,by simp only[N7,N8];omega,λy hy=>?_,λy hy=>?_⟩
      .rcases E2.1 hy with rfl|hy
       .dsimp only;omega
       .have:=a y ae1;omega
      .rcases E2.1 hy with rfl|hy
       .simp only[F4,F5,O2];omega
       .exact b y ae1
    .rcases st with _|⟨p,st⟩
     .cases hs
     .cases hs;have m:=b p m9;have g:=a p m9;refine⟨m9,by simp only[N7,N8];omega,λy hy=>?_,λy hy=>?_⟩
      .rcases E2.1 hy with rfl|hy
       .dsimp only;omega
       .have:=a y ae1;omega
      .rcases E2.1 hy with rfl|hy
       .simp only[F4,F5,O2];omega
       .exact b y ae1
theorem bMf.bound(h:bMf l st i)(hi:i<=256): ∀p∈st,p.s.length<=1000000000/\p.D<=1000000000/\p.J<=1000000000:=λp a=>by
 have key: ∀st:List Part,p∈st->p.D<=(st.map (·.D)).sum:=by
  intro st
  induction st with
  |nil=>intro h;simp at h
  |cons q r ih=>
   intro h;simp only[N7,N8]
   rcases E2.1 h with rfl|h
   .omega
   .have:=ih h;omega
 have h1:=key st a;have h2:=h.sum;have b:=h.ok p a;have h4:=h.J p a;exact⟨l7,l7,l7⟩
theorem oneG{α:Type}{l:List α}(h:l.length=1): ∃p,l=[p]:=by
 match l,h with
 |[p],_=>exact⟨p,rfl⟩
end
def inpT:Option Bs->Bs
 |some t=>[105,110,32]++t
 |none=>[]
theorem bFu: ∀{l:List oI} {t r:Bs},(∀d∈l,-9223372036854775808<=d.n/\d.n<=9223372036854775807)->mD l t=some r->r.length<=t.length+30*l.length
 |[],t,r,_,h=>by cases h;simp
 |d::l,t,r,hd,h=>by
  have h1:=hd d m9;have h2:=mI h1.1 h1.2;rw[mD]at h;split at h
  .have:=bFu (λy hy=>hd y ae1) h;simp at this⊢;omega
  .split at h
   .rename_i hn;have a:=nC hn.2;have:=bFu (λy hy=>hd y ae1) h;simp at this⊢;omega
   .cases h
theorem inp_len{x:InputV}(hd: ∀d∈x.B.A,d.name.length<=140737488355328/\ -9223372036854775808<=d.n/\d.n<=9223372036854775807):(inpT (inputS x.inp)).length<=200:=by
 unfold inpT;split
 .rename_i t h;unfold inputS at h;split at h
  .cases h
  .rename_i b;have h1: ¬4<x.inp.B.length:=λe=>b (.inr e)
   have h2:dQ x.inp.name=true:=by
    cases hn:dQ x.inp.name with
    |true=>rfl
    |false=>exact absurd (.inl hn) b
   have c:=nC h2
   have:=bFu (λd a=>by
    obtain⟨y,hy,rfl⟩:=List.mem_map.1 a
    exact(hd y hy).2) h
   simp;omega
 .simp
theorem bSv{l:List fF}{most:Nat}(hz: ∀x∈l,∀z∈x.nums,-9223372036854775808<=z/\z<=9223372036854775807):((gX l most).getD []).length<=40*most:=by
 cases h:gX l most with
 |none=>simp
 |some t=>exact bMp hz h
theorem bQu(A:Option Addr)(ci:Nat)(items:List ItemV)(k:Nat)(hk:k<=256)(hit: ∀it∈items,it.name.length<=140737488355328/\ ∀z∈it.nums.A,-9223372036854775808<=z/\z<=9223372036854775807):cY prog 66 [.slice A items.length ci,k6 (k:Nat)] [] [mU.sl (.slice A items.length ci) items,nP items] (λ(_:Unit)=> .tuple #[.string (bs ((gX (items.map ItemV.it) (256-k)).getD [])),.bool (gX (items.map ItemV.it) (256-k)).isSome]) (λ_=>[]) (λ_=>[]):=by
 have hT:=jO;rw[<-expr_like _ _ hk];generalize j:bJj (items.map ItemV.it) k=r;refine j5 func66 ntmps66 ?_;intro β hM;refine sr<|sp2 hT ?_;refine nn<|bP<|sr<|sp3 hT ?_;refine nn<|bX rfl (λg=>?_) (λg=>?_)
 .have g:=of_decide_eq_true g;refine sr<|sp2 hT ?_;refine nn<|cW<|cJ ?_;have hr:=j.symm.trans (xr_long aa8);subst hr;exact dF () rfl (bW rfl) (bW rfl) .nil i6 rfl
 have g:=aD.1 (of_decide_eq_false g);refine fH<|dB<|sr<|sp hT ?_;refine nn<|bP<|sr<|sp hT ?_;refine nn<|iJ<|bQ (t:=164) iP ?_;refine cF (ι:=Nat×List Part×Option Addr×Nat) [(0,_),(1,_)] ⟨rfl,rfl,i6⟩ (λ⟨i,st,B,e⟩=>[(6,.slice B st.reverse.length e),(7,.int .i64 (i:Nat))]) (λ⟨i,st,B,e⟩=>[iP.row (.slice B st.reverse.length e) 164 st.reverse]) (λ⟨i,st,B,e⟩=>[Fact.pure (bMf (items.map ItemV.it) st i)]) (λ⟨i,st,B,e⟩=>items.length-i) (0,[],none,0) ⟨rfl,rfl,i6⟩ (.c0 .nil) ⟨i7 (bMf.start _),i6⟩ ?_;rintro⟨i,st,B,e⟩;dsimp only;refine bF d7 λa=>?_;have q:=a.le;simp only[O4]at q;have s:=a.len;have o:=a.bound l7;refine bP<|sr<|sp4 hT ?_;refine nn<|bX rfl (λf=>?_) (λf=>?_)
 .have f:=of_decide_eq_true f;refine fH<|dB<|bP<|iJ<|sr<|sp3 hT ?_
  obtain⟨x1,h⟩: ∃x',items[i]?=some x':=⟨_,F1 l7⟩
  refine ss (cA hT (k:=i) (bG d8) rfl rfl rfl rfl rfl rfl rfl l7) ?_;refine ss (fP hT (dD.knows (bG d8) (k:=i) (x:=x1) h 0) rfl rfl rfl rfl rfl) ?_;have hx0:(items.map ItemV.it)[i]?=some x1.it:=by rw[K1,h];rfl
  have m:=hit x1 (j0 h);refine bB (bOy x1) (Has.each d9 (j0 h)) ?_;refine bD func103 (rstep_spec B e st x1 m.2 l7 o) rfl rfl (.c0 .nil) ⟨d7,i6⟩ λ⟨A3,c4,L5⟩=>?_;refine bF d7 λn=>?_;dsimp only at n;refine sp4 hT ?_;refine sp hT ?_;refine nn<|bP<|sr<|sp2 hT ?_;refine nn<|bX rfl (λd=>?_) (λd=>?_)
  .have d:=yZ d;refine sr<|sp2 hT ?_;refine nn<|cW<|cJ<|iK<|cJ<|cJ<|iK<|cJ ?_;obtain rfl:=j.symm.trans (a.fail hx0 (nT ‹_›));exact dF () rfl (bW rfl) (bW rfl) .nil i6 rfl
  have d:=mT d;refine fH<|dB ?_;obtain⟨r,hr⟩: ∃r,stepR st x1.it=some r:=Option.isSome_iff_exists.1 ‹_›;have v:=n r hr;subst v;refine dH<|sp2 hT ?_;refine sZ<|mE<|dB<|dH<|sp2 hT ?_;refine bJ (z':=(((i+1):Nat):Int)) (kQ l7 l7) ?_;refine sp hT ?_;refine nn ?_;exact dA (i+1,r,_,_) v8 ⟨rfl,rfl,i6⟩ ⟨rfl,rfl,i6⟩ (.c0 .nil) ⟨i7 (a.next hx0 m.2 hr),i6⟩ (bA.drop 3)
 have f:=aD.1 (of_decide_eq_false f);refine tI<|nK<|nK<|tO<|dB<|bP<|sr<|sp2 hT ?_;refine bJ (z':=((st.length:Nat):Int)) (congrArg Nat.cast List.length_reverse) ?_;refine sp2 hT ?_;refine cG (λb=>?_) (λb=>?_)
 .have b:=bne_iff_ne.1 b;refine sk4 ?_;refine sk3 ?_;refine sp2 hT ?_;refine sk4 ?_;refine sk ?_;refine sp hT ?_;refine nn<|cC rfl rfl ?_;refine sr<|sp2 hT ?_;refine nn<|cW<|cJ ?_;have hr:=j.symm.trans ((a.done aa8 aa8).trans (not_oneR l7));subst hr;exact dF () rfl (bW rfl) (bW rfl) .nil i6 rfl
 have b:=bne_eq_false_iff_eq.1 b;obtain⟨p,rfl⟩:=oneG (l:=st) l7;have u:=o p m9;refine sp hT ?_;refine ss (cA hT (k:=0) (cI .head) rfl rfl rfl rfl rfl rfl rfl m9) ?_;refine sp hT ?_;refine ss (j6 hT (dD.knows (cI .head) (k:=0) (x:=p) rfl 2)) ?_;refine sp2 hT ?_;refine bJ (z':=(((p.D+k):Nat):Int)) (kQ l7 l7) ?_;refine sp3 hT ?_;refine cG (λhg43=>?_) (λhg43=>?_)
 .have hg43:=of_decide_eq_true hg43;refine sk4 ?_;refine sk ?_;refine sp hT ?_;refine nn<|cC rfl rfl ?_;refine sr<|sp2 hT ?_;refine nn<|cW<|cJ ?_;have hr:=j.symm.trans ((a.done aa8 aa8).trans (finR_bad l7));subst hr;exact dF () rfl (bW rfl) (bW rfl) .nil i6 rfl
 have hg43:=aD.1 (of_decide_eq_false hg43);refine sp hT ?_;refine ss (cA hT (k:=0) (cI .head) rfl rfl rfl rfl rfl rfl rfl m9) ?_;refine sp hT ?_;refine ss (j6 hT (dD.knows (cI .head) (k:=0) (x:=p) rfl 3)) ?_;refine sp2 hT ?_;refine nn<|bX rfl (λc=>?_) (λc=>?_)
 .have c:=of_decide_eq_true c;refine sr<|sp2 hT ?_;refine nn<|cW<|cJ ?_;have hr:=j.symm.trans ((a.done aa8 aa8).trans (finR_bad l7));subst hr;exact dF () rfl (bW rfl) (bW rfl) .nil i6 rfl
 have c:=aD.1 (of_decide_eq_false c);refine fH<|dB<|sr<|sp hT ?_;refine ss (cA hT (k:=0) (cI .head) rfl rfl rfl rfl rfl rfl rfl m9) ?_;refine sp hT ?_;refine ss (j6 hT (dD.knows (cI .head) (k:=0) (x:=p) rfl 0)) ?_;refine sp2 hT ?_;refine nn<|cW ?_;have hr:=j.symm.trans ((a.done aa8 aa8).trans (finR_one l7));subst hr;exact dF () rfl (bW rfl) (bW rfl) .nil i6 rfl
theorem rinput_spec(y:InputV)(hn:y.name.length<=140737488355328)(hd: ∀d∈y.B.A,d.name.length<=140737488355328/\ -9223372036854775808<=d.n/\d.n<=9223372036854775807):cY prog 65 [.agg #[.string (bs y.name),k6 y.at_,j8 y.B]] [] [nS y] (λ(_:Unit)=> .tuple #[.string (bs (inpT (inputS y.inp))),.bool (inputS y.inp).isSome]) (λ_=>[]) (λ_=>[]):=by
 have hT:=jO;generalize l:inputS y.inp=r;refine j5 func65 ntmps65 ?_;intro β hM;refine sr<|j4 λp=>?_;refine sp2 hT ?_;refine nn<|bP<|sr<|sp hT ?_;refine ss (ldO hT (gG .head)) ?_;refine bD func67 (bAj _) rfl rfl .nil i6 λ_=>?_;refine sp2 hT ?_;refine cG (λhg11=>?_) (λhg11=>?_)
 .have hg11:=yZ hg11;refine sk4 ?_;refine sp hT ?_;refine nn<|cC rfl rfl ?_;refine sr<|sp2 hT ?_;refine nn<|cW<|cJ ?_;have hr:=l.symm.trans (bDv z7);subst hr;exact dF () rfl (bW rfl) (bW rfl) .nil i6 rfl
 have hg11:=mT hg11;refine sp hT ?_;refine ss (ldO hT (uB .head)) ?_;refine sp3 hT ?_;refine nn<|bX rfl (λc=>?_) (λc=>?_)
 .have c:=of_decide_eq_true c;refine sr<|sp2 hT ?_;refine nn<|cW<|cJ ?_;have hr:=l.symm.trans (bDv z7);subst hr;exact dF () rfl (bW rfl) (bW rfl) .nil i6 rfl
 have c:=aD.1 (of_decide_eq_false c);refine fH<|dB<|sr<|sp hT ?_;refine ss (ldO hT (gG .head)) ?_;refine ss (dJ rfl rfl rfl p7) ?_;refine sp hT ?_;refine nn<|bP<|sr<|sp hT ?_;refine nn<|iJ<|cF (ι:=Nat×Bs) [(1,_)] ⟨rfl,i6⟩ (λ⟨j,text⟩=>[(4,.string (bs ([105,110,32]++text))),(5,.int .i64 (j:Nat))]) (λ_=>[]) (λ⟨j,text⟩=>[Fact.pure (j<=y.B.A.length/\mD ((y.B.A.map kP.sd).drop j) text=r/\text.length<=16+30*j)]) (λ⟨j,text⟩=>y.B.A.length-j) (0,y.name) ⟨rfl,rfl,i6⟩ .nil ⟨i7 (⟨l7,l▸(bNz ‹_› l7).symm,by have:=nC ‹dQ y.name=true›;omega⟩),i6⟩ ?_;rintro⟨j,text⟩;dsimp only;refine bF d7 λa=>?_;refine bP<|sr<|sp2 hT ?_;refine ss (ldO hT (uB .head)) ?_;refine sp2 hT ?_;refine nn<|bX rfl (λhc24=>?_) (λhc24=>?_)
 .have hc24:=of_decide_eq_true hc24;refine fH<|dB<|bP<|iJ<|sr<|sp hT ?_;refine ss (ldO hT (uB .head)) ?_;refine sp hT ?_
  obtain⟨g,e⟩: ∃x',y.B.A[j]?=some x':=⟨_,F1 l7⟩
  refine ss (cA hT (k:=j) (bG d8) rfl rfl rfl rfl rfl rfl rfl l7) ?_;refine ss (fP hT (dD.knows (bG d8) (k:=j) (x:=g) e 0) rfl rfl rfl rfl rfl) ?_;refine j1 zE λo=>?_;refine sto hT .head ?_;refine nn<|bP ?_;have f:=hd g (j0 e);refine dH<|sp hT ?_;refine ss (ldO hT (gG .head)) ?_;refine sp hT ?_;refine nn<|bX rfl (λhc34=>?_) (λhc34=>?_)
  .have hc34:g.name=([]:Bs):=eq_of_beq hc34;refine dH<|sp hT ?_;refine ss (dJ rfl rfl rfl p7) ?_;refine sp hT ?_;refine ss (ldO hT (bRd .head)) ?_;have m:=mI f.2.1 f.2.2;refine bD func102 (bHj _ f.2.1 f.2.2) rfl rfl .nil i6 λ_=>?_;refine ss (dJ rfl rfl rfl p7) ?_;refine hZ (v':= .string (bs ([105,110,32]++(text++([32]++fC g.n))))) (congrArg (λs:Bs=>Q5 (bs s)) m9) ?_;refine sp hT ?_;refine sZ<|mE<|dB<|dH<|sp2 hT ?_;refine bJ (z':=(((j+1):Nat):Int)) (kQ l7 l7) ?_;refine sp hT ?_;refine nn ?_;exact dA (j+1,_) v8 ⟨rfl,rfl,i6⟩ ⟨rfl,i6⟩ (.c1 .nil) ⟨i7 (⟨by dsimp only;omega,a.2.1▸(side_num e ‹_›).symm,by simp;omega⟩),i6⟩ (bA.drop 1)
  have hc34:g.name≠([]:Bs):=λh=>absurd (beq_iff_eq.2 h) (by rw[show(g.name==([]:Bs))=false from hc34];simp);refine sr<|sp hT ?_;refine ss (ldO hT (bRd .head)) ?_;refine sp2 hT ?_;refine cG (λb=>?_) (λb=>?_)
  .have b:=eq_of_beq b;refine sp hT ?_;refine ss (ldO hT (gG .head)) ?_;refine bD func67 (bAj _) rfl rfl .nil i6 λ_=>?_;refine sp hT ?_;refine nn<|bX rfl (λi=>?_) (λi=>?_)
   .refine dH<|sp hT ?_;refine ss (dJ rfl rfl rfl p7) ?_;refine sp hT ?_;refine ss (ldO hT (gG .head)) ?_;refine ss (dJ rfl rfl rfl p7) ?_;refine hZ (v':= .string (bs ([105,110,32]++(text++([32]++g.name))))) (congrArg (λs:Bs=>Q5 (bs s)) m9) ?_;refine sp hT ?_;refine sZ<|mE<|dB<|dH<|sp2 hT ?_;refine bJ (z':=(((j+1):Nat):Int)) (kQ l7 l7) ?_;refine sp hT ?_;refine nn ?_;exact dA (j+1,_) v8 ⟨rfl,rfl,i6⟩ ⟨rfl,i6⟩ (.c1 .nil) ⟨i7 (⟨by dsimp only;omega,a.2.1▸(bYh e ‹_› ‹_› ‹_›).symm,by have:=nC ‹dQ g.name=true›;simp;omega⟩),i6⟩ (bA.drop 1)
   refine sr<|sp2 hT ?_;refine nn<|cW<|iK<|cJ<|cJ<|iK<|cJ ?_;have hr:=a.2.1.symm.trans (bHs e ‹_› n7);subst hr;exact dF () rfl (bW rfl) (bW rfl) .nil i6 rfl
  have b:=beq_eq_false_iff_ne.1 b;refine sk3 ?_;refine sp hT ?_;refine nn<|jT rfl rfl ?_;refine sr<|sp2 hT ?_;refine nn<|cW<|iK<|cJ<|cJ<|iK<|cJ ?_;have hr:=a.2.1.symm.trans (bHs e ‹_› n7);subst hr;exact dF () rfl (bW rfl) (bW rfl) .nil i6 rfl
 have hc24:=aD.1 (of_decide_eq_false hc24);refine tI<|nK<|nK<|tO<|dB<|sr<|sp3 hT ?_;refine nn<|cW ?_;have hr:=a.2.1.symm.trans (bTs l7);subst hr;exact dF () rfl (bW rfl) (bW rfl) .nil i6 rfl
theorem rText_spec(P:ProgV)(hP:rW P)(hl1:P.C.A.length<=140737488355328)(hl2:P.G.A.length<=140737488355328):cY prog 40 [.agg #[j8 P.C,j8 P.G]] [] [jP.sl (j8 P.C) P.C.A,iW P.C.A,nM.sl (j8 P.G) P.G.A,mA P.G.A] (λ(x:Bs)=> .tuple #[.string (bs x),.bool (dU P.pr).2]) (λ_=>[]) (λ(x:Bs)=>[Fact.pure ((dU P.pr).2=true->x=(dU P.pr).1)]):=by
 have hT:=jO;have hpl:P.pr.G.length=P.G.A.length:=O4 _;have K:P.pr.C.length=P.C.A.length:=O4 _;refine j5 func40 ntmps40 ?_;intro β hM;refine sr<|j4 λO=>?_;refine sp2 hT ?_;refine nn<|bP<|sr<|sp hT ?_;refine ss (ldO hT (gG .head)) ?_;refine sp3 hT ?_;refine cG (λg=>?_) (λg=>?_)
 .have g:=of_decide_eq_true g;refine sk4 ?_;refine sp2 hT ?_;refine sk4 ?_;refine sk4 ?_;refine sp2 hT ?_;refine sk4 ?_;refine sp hT ?_;refine nn<|cC rfl rfl ?_;refine sr<|sp2 hT ?_;refine nn<|cW<|cJ ?_;have hr:=rA (p:=P.pr) w8;exact dF ([]:Bs) rfl (bW rfl) (bW rfl) .nil ⟨i7 (λh=>by rw[hr]at h;cases h),i6⟩ ak7
 have g:=aD.1 (of_decide_eq_false g);refine sp hT ?_;refine ss (ldO hT (bRd .head)) ?_;refine sp4 hT ?_;refine cG (λf=>?_) (λf=>?_)
 .have f:=of_decide_eq_true f;refine sk4 ?_;refine sk4 ?_;refine sp2 hT ?_;refine sk4 ?_;refine sp hT ?_;refine nn<|cC rfl rfl ?_;refine sr<|sp2 hT ?_;refine nn<|cW<|cJ ?_;have hr:=rA (p:=P.pr) w8;exact dF ([]:Bs) rfl (bW rfl) (bW rfl) .nil ⟨i7 (λh=>by rw[hr]at h;cases h),i6⟩ ak7
 have f:=aD.1 (of_decide_eq_false f);refine sp hT ?_;refine ss (ldO hT (gG .head)) ?_;refine sp2 hT ?_;refine ss (ldO hT (bRd .head)) ?_;refine sp2 hT ?_;refine bJ (z':=(((P.C.A.length+P.G.A.length):Nat):Int)) (kQ l7 l7) ?_;refine sp3 hT ?_;refine cG (λe=>?_) (λe=>?_)
 .have e:=of_decide_eq_true e;refine sk4 ?_;refine sp hT ?_;refine nn<|cC rfl rfl ?_;refine sr<|sp2 hT ?_;refine nn<|cW<|cJ ?_;have hr:=rA (p:=P.pr) w8;exact dF ([]:Bs) rfl (bW rfl) (bW rfl) .nil ⟨i7 (λh=>by rw[hr]at h;cases h),i6⟩ ak7
 have e:=aD.1 (of_decide_eq_false e);refine sp hT ?_;refine ss (ldO hT (bRd .head)) ?_;refine sp3 hT ?_;refine nn<|bX rfl (λq=>?_) (λq=>?_)
 .have q:=eq_of_beq q;refine sr<|sp2 hT ?_;refine nn<|cW<|cJ ?_;have hr:=rA (p:=P.pr) w8;exact dF ([]:Bs) rfl (bW rfl) (bW rfl) .nil ⟨i7 (λh=>by rw[hr]at h;cases h),i6⟩ ak7
 have q:=beq_eq_false_iff_ne.1 q;refine fH<|dB<|sr<|sp hT ?_;refine nn<|bP<|sr<|sp hT ?_;refine nn<|iJ<|cF (ι:=Nat×Bs) [(1,_)] ⟨rfl,i6⟩ (λ⟨i,out⟩=>[(4,.string (bs out)),(5,.int .i64 (i:Nat))]) (λ_=>[]) (λ⟨i,out⟩=>[Fact.pure (i<=P.C.A.length/\dU P.pr=qL P.pr i out/\out.length<=1000*i)]) (λ⟨i,out⟩=>P.C.A.length-i) (0,[]) ⟨rfl,rfl,i6⟩ .nil ⟨i7 (⟨l7,bRu ag6,m9⟩),i6⟩ ?_;rintro⟨i,out⟩;dsimp only;refine bF d7 λr=>?_;refine bP<|sr<|sp2 hT ?_;refine ss (ldO hT (gG .head)) ?_;refine sp2 hT ?_;refine nn<|bX rfl (λo=>?_) (λo=>?_)
 .have o:=of_decide_eq_true o;refine fH<|dB<|bP<|iJ<|sr<|sp hT ?_;refine ss (ldO hT (gG .head)) ?_;refine sp hT ?_
  obtain⟨w,v⟩: ∃x',P.C.A[i]?=some x':=⟨_,F1 l7⟩
  refine ss (cA hT (k:=i) (bG d8) rfl rfl rfl rfl rfl rfl rfl l7) ?_;refine ss (fP hT (dD.knows (bG d8) (k:=i) (x:=w) v 0) rfl rfl rfl rfl rfl) ?_;have A:=hP.input w (j0 v);have hx0:P.pr.C[i]?=some w.inp:=mP v;refine bB (nS w) (Has.each d9 (j0 v)) ?_;refine j2 func65 (rinput_spec w A.1 A.2) ⟨d7,i6⟩ λ_=>?_;have M:=inp_len A.2;refine sp4 hT ?_;refine sp hT ?_;refine nn<|bP<|sr<|sp2 hT ?_;refine nn<|bX rfl (λn=>?_) (λn=>?_)
  .have n:=yZ n;refine sr<|sp2 hT ?_;refine nn<|cW<|cJ<|iK<|cJ<|cJ<|iK<|cJ ?_;have hr:=r.2.1.trans (yY hx0 (nT ‹_›));exact dF ([]:Bs) rfl (bW rfl) (bW rfl) .nil ⟨i7 (λh=>by rw[hr]at h;cases h),i6⟩ ak7
  have n:=mT n;refine fH<|dB ?_;obtain⟨t,hin⟩: ∃t,inputS w.inp=some t:=Option.isSome_iff_exists.1 ‹_›;have D:inpT (inputS w.inp)=[105,110,32]++t:=by rw[hin];rfl
  have C:=congrArg Q8 D;rw[F4,show Q8 ([105,110,32]:Bs)=3 from rfl]at C;refine dH<|sp2 hT ?_;refine ss (dJ rfl rfl rfl p7) ?_;refine ss (dJ rfl rfl rfl p7) ?_;refine hZ (v':= .string (bs (out++(([105,110,32]++t)++[10])))) (congrArg (λs:Bs=>Q5 (bs s)) (by rw[D];simp)) ?_;refine sp hT ?_;refine sZ<|mE<|dB<|dH<|sp2 hT ?_;refine bJ (z':=(((i+1):Nat):Int)) (kQ l7 l7) ?_;refine sp hT ?_;refine nn ?_;exact dA (i+1,_) v8 ⟨rfl,rfl,i6⟩ ⟨rfl,i6⟩ (.c0 .nil) ⟨i7 (⟨by dsimp only;omega,r.2.1.trans (bYi hx0 hin),by simp;omega⟩),i6⟩ (bA.drop 2)
 have o:=aD.1 (of_decide_eq_false o);refine tI<|nK<|nK<|tO<|dB<|bP<|sr<|sp hT ?_;refine nn<|iJ<|cF (ι:=Nat×Bs) [(1,_)] ⟨rfl,i6⟩ (λ⟨i,out⟩=>[(4,.string (bs out)),(8,.int .i64 (i:Nat))]) (λ_=>[]) (λ⟨i,out⟩=>[Fact.pure (i<P.G.A.length/\dU P.pr=gS (P.pr.G.drop i) out/\out.length<=1000*64+20000*i)]) (λ⟨i,out⟩=>P.G.A.length-i) (0,out) ⟨rfl,rfl,i6⟩ .nil ⟨i7 (⟨l7,r.2.1.trans (bVh l7),l7⟩),i6⟩ ?_;rintro⟨i,out⟩;dsimp only;refine bF d7 λa=>?_;refine bP<|sr<|sp2 hT ?_;refine ss (ldO hT (bRd .head)) ?_;refine sp2 hT ?_;refine nn<|bX rfl (λm=>?_) (λm=>?_)
 .have m:=of_decide_eq_true m;refine fH<|dB<|bP<|iJ<|sr<|sp hT ?_;refine ss (ldO hT (bRd .head)) ?_;refine sp hT ?_
  obtain⟨x4,u⟩: ∃x',P.G.A[i]?=some x':=⟨_,F1 l7⟩
  refine ss (cA hT (k:=i) (bG e7) rfl rfl rfl rfl rfl rfl rfl l7) ?_;refine ss (fP hT (dD.knows (bG e7) (k:=i) (x:=x4) u 0) rfl rfl rfl rfl rfl) ?_;refine j1 uK λN=>?_;refine sto hT .head ?_;refine nn<|bP<|bP ?_;have B:=hP.line x4 (j0 u);have hx0:P.pr.G[i]?=some x4.ln:=mP u;refine bB (bJc x4) (Has.each e8 (j0 u))<|bB (mU.sl (.slice x4.K.I x4.K.A.length x4.K.cap) x4.K.A) (Has.left d7)<|bB (nP x4.K.A) (Has.right d8) ?_;have J: ∀y∈(x4.K.A.map ItemV.it),∀z∈y.nums,-9223372036854775808<=z/\z<=9223372036854775807:=λy hy z I=>by obtain⟨it,h1,rfl⟩:=List.mem_map.1 hy;exact(B.2 it h1).2 z I
  refine dH<|sp2 hT ?_;refine ss (ldO hT (bRd kT1)) ?_;refine sp2 hT ?_;refine bJ (z':=(((P.G.A.length:Nat):Int)-1)) (yW l7 l7) ?_;refine sp hT ?_;refine nn<|bX rfl (λj=>?_) (λj=>?_)
  .have j:=eq_of_beq j;refine sr<|sp hT ?_;refine ss (ldO hT (uB .head)) ?_;refine bD func66 (bQu _ _ x4.K.A 1 l7 B.2) rfl rfl .nil ⟨d8,d7,i6⟩ λ_=>?_;have G:=bSv (l:=(x4.K.A.map ItemV.it)) (most:=255) J;refine sp4 hT ?_;refine sp hT ?_;refine nn<|bP<|cL _ _ [j9,u0,u5,u9,A00,u6,A02,A01,A03,A04,A08,A07,A09] cN o0 (.c0 (.c0 .nil)) bA.self ?_;refine puM hT ?_;refine stM rfl (dJ rfl rfl rfl p7) ?_;refine puM hT ?_;refine stM rfl (dJ rfl rfl rfl p7) ?_;refine stM rfl (dJ rfl rfl rfl p7) ?_;refine puM hT ?_;refine puM hT ?_;refine cG (λE=>?_) (λE=>?_)
   .have hex:=bDn (by assumption:(gX (x4.K.A.map ItemV.it) 255).isSome=true);refine puM hT ?_;refine stM rfl (ldO hT (gG .head)) ?_;refine puM hT ?_;refine cG (λd=>?_) (λd=>?_)
    .have d:x4.name=([]:Bs):=eq_of_beq d;refine puM hT ?_;refine puM hT ?_;refine puM hT ?_;refine uU<|dB<|cW<|cJ<|iK<|cJ<|cJ<|iK<|cJ ?_;have hr:=(a.2.1.trans (bZh hx0 l7 ‹_› hex)).trans (bMb l7);exact dF ((((out++([111,117,116,32]:Bs))++((gX (x4.K.A.map ItemV.it) 255).getD []))++([10]:Bs)):Bs) rfl (bW rfl) (bW rfl) .nil ⟨i7 (λ_=>by rw[hr];simp),i6⟩ al8
    have d:x4.name≠([]:Bs):=λh=>absurd (beq_iff_eq.2 h) (by rw[show(x4.name==([]:Bs))=false from d];simp);refine puM hT ?_;refine puM hT ?_;refine puM hT ?_;refine uU<|dB<|cW<|cJ<|iK<|cJ<|cJ<|iK<|cJ ?_;have hr:=a.2.1.trans (rL hx0 l7 ‹_› hex);exact dF ((((out++([111,117,116,32]:Bs))++((gX (x4.K.A.map ItemV.it) 255).getD []))++([10]:Bs)):Bs) rfl (bW rfl) (bW rfl) .nil ⟨i7 (λh=>by rw[hr]at h;cases h),i6⟩ al8
   refine wW rfl rfl rfl rfl ?_;refine wW rfl rfl rfl rfl ?_;refine wW rfl rfl rfl rfl ?_;refine puM hT ?_;refine puM hT ?_;refine puM hT ?_;refine uU<|dB<|cW<|cJ<|iK<|cJ<|cJ<|iK<|cJ ?_;have hr:=a.2.1.trans (oU hx0 aj8);exact dF ((((out++([111,117,116,32]:Bs))++((gX (x4.K.A.map ItemV.it) 255).getD []))++([10]:Bs)):Bs) rfl (bW rfl) (bW rfl) .nil ⟨i7 (λh=>by rw[hr]at h;cases h),i6⟩ al8
  have j:=beq_eq_false_iff_ne.1 j;refine fH<|dB<|sr<|sp hT ?_;refine ss (ldO hT (uB .head)) ?_;refine bD func66 (bQu _ _ x4.K.A 2 l7 B.2) rfl rfl .nil ⟨d8,d7,i6⟩ λ_=>?_;have G:=bSv (l:=(x4.K.A.map ItemV.it)) (most:=254) J;refine sp4 hT ?_;refine sp hT ?_;refine nn<|bP<|sr<|sp3 hT ?_;refine cG (λb=>?_) (λb=>?_)
  .have b:=yZ b;refine sk4 ?_;refine sp hT ?_;refine nn<|cC rfl rfl ?_;refine sr<|sp2 hT ?_;refine nn<|cW<|cJ<|iK<|cJ<|cJ<|iK<|cJ ?_;have hr:=a.2.1.trans ag1;exact dF ([]:Bs) rfl (bW rfl) (bW rfl) .nil ⟨i7 (λh=>by rw[hr]at h;cases h),i6⟩ ak7
  have b:=mT b;have hex:=bDn (by assumption:(gX (x4.K.A.map ItemV.it) 254).isSome=true);refine sp hT ?_;refine ss (ldO hT (gG .head)) ?_;refine bD func67 (bAj _) rfl rfl .nil i6 λ_=>?_;refine sp2 hT ?_;refine nn<|bX rfl (λc=>?_) (λc=>?_)
  .have c:=yZ c;refine sr<|sp2 hT ?_;refine nn<|cW<|cJ<|iK<|cJ<|cJ<|iK<|cJ ?_;have hr:=a.2.1.trans ag1;exact dF ([]:Bs) rfl (bW rfl) (bW rfl) .nil ⟨i7 (λh=>by rw[hr]at h;cases h),i6⟩ ak7
  have c:=mT c;refine fH<|dB ?_;have L:=nC (by assumption:dQ x4.name=true);refine dH<|sp2 hT ?_;refine ss (ldO hT (gG .head)) ?_;refine ss (dJ rfl rfl rfl p7) ?_;refine ss (dJ rfl rfl rfl p7) ?_;refine sp hT ?_;refine ss (dJ rfl rfl rfl p7) ?_;refine ss (dJ rfl rfl rfl p7) ?_;refine hZ (v':= .string (bs (out++(((x4.name++[58,32])++(gX (x4.K.A.map ItemV.it) 254).getD [])++[10])))) (congrArg (λs:Bs=>Q5 (bs s)) m9) ?_;refine sp hT ?_;refine sZ<|mE<|dB<|dH<|sp2 hT ?_;refine bJ (z':=(((i+1):Nat):Int)) (kQ l7 l7) ?_;refine sp hT ?_;refine nn ?_;exact dA (i+1,_) v8 ⟨rfl,rfl,i6⟩ ⟨rfl,i6⟩ (.c1 .nil) ⟨i7 (⟨by dsimp only;omega,a.2.1.trans (bTm hx0 l7 ‹_› hex),by simp;omega⟩),i6⟩ (bA.drop 4)
 have m:=aD.1 (of_decide_eq_false m);refine tI<|nK<|nK<|tO<|dB<|sr<|sp2 hT ?_;refine nn<|cW ?_;omega
theorem rRight_spec(P:ProgV)(hP:rW P)(hl1:P.C.A.length<=140737488355328)(hl2:P.G.A.length<=140737488355328):cY prog 18 [.agg #[j8 P.C,j8 P.G]] [] [jP.sl (j8 P.C) P.C.A,iW P.C.A,nM.sl (j8 P.G) P.G.A,mA P.G.A] (λ(_:Unit)=> .bool (dU P.pr).2) (λ_=>[]) (λ_=>[]):=by have hT:=jO;refine j5 func18 ntmps18 ?_;intro β hM;refine sr<|j4 λc=>?_;refine sp hT ?_;refine nn<|sr<|ss (ldN hT (gG .head)) ?_;refine j2 func40 (rText_spec P hP hl1 hl2) ⟨d7,d8,d9,e6,i6⟩ λb=>?_;refine bF d7 λa=>?_;refine sp4 hT ?_;refine sp hT ?_;refine nn<|sr<|sp2 hT ?_;refine nn<|cW ?_;exact iX () rfl (bW rfl) .nil i6 (rfl)
inductive Tr3 where
 |nil
 |fl (k:Nat) (r:Tr3)
 |op (k:Nat) (r:Tr3)
 |two (k l:Nat) (r s:Tr3)
 |three (k l m:Nat) (r s t:Tr3)
def Tr3.len:Tr3->Nat
 |.nil=>0
 |.fl _ r=>r.len+1
 |.op _ r=>r.len+1
 |.two _ _ r _=>r.len+1
 |.three _ _ _ r _ _=>r.len+1
section
variable {P : Program} {ops : Array Oper} {md : Region.Mode} {C : World -> Prop} {Q : Exit -> Act -> World -> Prop}
def lW (P:Program)(ops:Array Oper)(C:World->Prop)(Q:Exit->Act->World->Prop):Tr3->Act->World->Prop
 |.nil,a,w=>Q .normal a w
 |.fl k r,a,w=> ∃o v,ops[k]?=some o/\Fl P ops C o v a/\lW P ops C Q r (a.put o.dst v) w
 |.op k r,a,w=>fOp P ops k (λa w=>C w/\lW P ops C Q r a w) a w
 |.two k l r s,a,w=>fOp P ops k (λa w=>C w/\lW P ops C Q r a w) a w/\fOp P ops l (λa w=>C w/\lW P ops C Q s a w) a w
 |.three k l m r s t,a,w=>fOp P ops k (λa w=>C w/\lW P ops C Q r a w) a w/\fOp P ops l (λa w=>C w/\lW P ops C Q s a w) a w/\fOp P ops m (λa w=>C w/\lW P ops C Q t a w) a w
def wU (md:Region.Mode)(ops:Array Oper):Tr3->Array Bool->Bool
 |.nil,listed=>(G1 md ops listed).isEmpty
 |.fl k r,listed=>(G1 md ops listed).contains k&&Region.free md ops listed k&&wU md ops r (listed.setIfInBounds k true)
 |.op k r,listed=>(G1 md ops listed==[k])&&wU md ops r (listed.setIfInBounds k true)
 |.two k l r s,listed=>(G1 md ops listed==[k,l])&&k9 r.len s.len&&wU md ops r (listed.setIfInBounds k true)&&wU md ops s (listed.setIfInBounds l true)
 |.three k l m r s t,listed=>(G1 md ops listed==[k,l,m])&&k9 r.len s.len&&k9 r.len t.len&&wU md ops r (listed.setIfInBounds k true)&&wU md ops s (listed.setIfInBounds l true)&&wU md ops t (listed.setIfInBounds m true)
theorem nI(hs:G4 ops=true): ∀(l:Tr3) (listed:Array Bool) (a:Act) (w:World),wU md ops l listed=true->C w->lW P ops C Q l a w->bGw P md ops C Q l.len listed a w
 |.nil,listed,a,w,hB,hC,h=>⟨hC,by simpa[wU]using hB,h⟩
 |.fl k r,listed,a,w,hB,hC,h=>by
  simp only[wU,J3]at hB;obtain⟨o,v,ho,hy,g⟩:=h;exact bAq ho (Region.noSelect_spec hs) r.len listed a w (Region.free_spec ho hB.1.2) (by simpa using hB.1.1) hy (nI hs r _ _ _ hB.2 hC g)
 |.op k r,listed,a,w,hB,hC,h=>by
  simp only[wU,J3,beq_iff_eq]at hB;refine⟨hC,λh0=>ak2,λi hi=>?_⟩;rw[hB.1]at hi;have:i=k:=by simpa using hi
  subst this;exact mY (λd c b=>nI hs r _ _ _ hB.2 b.1 b.2) h
 |.two k l r s,listed,a,w,hB,hC,h=>by
  simp only[wU,J3,beq_iff_eq]at hB;obtain⟨⟨⟨h1,h2⟩,f⟩,h4⟩:=hB;refine⟨hC,λh0=>am5,λi hi=>?_⟩;rw[h1]at hi;have hi:i=k\/i=l:=by simpa using hi
  rcases hi with rfl|rfl
  .exact mY (λd c b=>nI hs r _ _ _ f b.1 b.2) h.1
  .have e:Tr3.len (.two k i r s)=s.len+1:=by simp only[Tr3.len,A0 h2]
   have u:r.len=s.len:=A0 h2;rw[u];exact mY (λd c b=>nI hs s _ _ _ h4 b.1 b.2) h.2
 |.three k l m r s t,listed,a,w,hB,hC,h=>by
  simp only[wU,J3,beq_iff_eq]at hB;obtain⟨⟨⟨⟨⟨h1,h2⟩,f⟩,h4⟩,n⟩,j⟩:=hB;have q:r.len=s.len:=A0 h2;have p:r.len=t.len:=A0 f;refine⟨hC,λh0=>am5,λi hi=>?_⟩;rw[h1]at hi;have hi:i=k\/i=l\/i=m:=by simpa using hi
  rcases hi with rfl|rfl|rfl
  .exact mY (λd c b=>nI hs r _ _ _ h4 b.1 b.2) h.1
  .rw[q];exact mY (λd c b=>nI hs s _ _ _ n b.1 b.2) h.2.1
  .rw[p];exact mY (λd c b=>nI hs t _ _ _ j b.1 b.2) h.2.2
def mixUOk(l:Tr3)(ops:Array Oper):Bool:=G4 ops&&k9 l.len ops.size&&wU .any ops l (Array.replicate ops.size false)
end
section
variable {P : Program} {β : fS} {n : Nat} {Γ : Env} {H : List bK} {F : List Fact} {Q : Exit -> Act -> World -> Prop} {Hk : List bK} {F0 : List Fact} {ops : Array Oper}
theorem at_mixU{id:Nat}{l:List Oper}(Hk:List bK)(F0:List Fact)(od:Tr3)(hm:P.follows .mixedOrders=true)(hB:mixUOk od l.toArray=true)(hH:Sel H Hk)(hF:bA F F0)
  (h:At β n Γ H F (lW P l.toArray (StF β Hk F0) Q od)):At β n Γ H F ((Code.region id l.toArray true).wp P Q):=λa w S f s k=>by
 simp only[mixUOk,J3]at hB;have e:=StF.drew ⟨S,s,k⟩;obtain⟨d,b,c⟩:=e;refine wp_region_any hm (tH (C:=StF β Hk F0) _ _ _ _ ?_);have:=nI (P:=P) (md:= .any) (C:=StF β Hk F0) (Q:=Q) hB.1.1 od (Array.replicate l.toArray.size false) a _ hB.2 (StF.sel hH hF ⟨d,b,c⟩) (h a _ d f b c)
 rwa[A0 hB.1.2]at this
theorem wN{C:World->Prop}(h:At β n Γ H F (Q .normal)):At β n Γ H F (lW P ops C Q .nil):=h
theorem oK{r:Tr3}{o:Oper}{k d:Nat}{v:Value}(hk:ops[k]?=some o)(hw:want ops Γ o=some true)(hd:o.dst=some d)(hn:Nat.blt d n=true)(h:Sti P β n Γ Hk F0 o v)
  (K:At β n ((d,v)::Γ) H F (lW P ops (StF β Hk F0) Q r)):At β n Γ H F (lW P ops (StF β Hk F0) Q (.fl k r)):=λa w S f s g=>by refine⟨o,v,hk,.inl ⟨f.want hw,λb ⟨i,c,e⟩=>h a b i f c e⟩,?_⟩;rw[hd];exact K _ _ S (f.put w6 v) s g
theorem nD{r:Tr3}{o:Oper}{k:Nat}{C:World->Prop}(hk:ops[k]?=some o)(h:At β n Γ H F (wpList P ops (Nm λa w=>C w/\lW P ops C Q r a w) [o])):At β n Γ H F (lW P ops C Q (.op k r)):=zS hk h
theorem bHy{r s:Tr3}{o o':Oper}{k l:Nat}{C:World->Prop}(hk:ops[k]?=some o)(hl:ops[l]?=some o')(h:At β n Γ H F (wpList P ops (Nm λa w=>C w/\lW P ops C Q r a w) [o]))(h':At β n Γ H F (wpList P ops (Nm λa w=>C w/\lW P ops C Q s a w) [o'])):
  At β n Γ H F (lW P ops C Q (.two k l r s)):=λa w S f st b=>⟨zS hk h a w S f st b,zS hl h' a w S f st b⟩
theorem atu_three{r s t:Tr3}{o o' o2:Oper}{k l m:Nat}{C:World->Prop}(hk:ops[k]?=some o)(hl:ops[l]?=some o')(hm:ops[m]?=some o2)(h:At β n Γ H F (wpList P ops (Nm λa w=>C w/\lW P ops C Q r a w) [o]))(h':At β n Γ H F (wpList P ops (Nm λa w=>C w/\lW P ops C Q s a w) [o']))(h2:At β n Γ H F (wpList P ops (Nm λa w=>C w/\lW P ops C Q t a w) [o2])):
  At β n Γ H F (lW P ops C Q (.three k l m r s t)):=λa w S f st b=>⟨zS hk h a w S f st b,zS hl h' a w S f st b,zS hm h2 a w S f st b⟩
theorem jF{r:Tr3}(hH:Sel H Hk)(hF:bA F F0)(h:At β n Γ H F (lW P ops (StF β Hk F0) Q r)):At β n Γ H F (wpList P ops (Nm λa w=>StF β Hk F0 w/\lW P ops (StF β Hk F0) Q r a w) []):=λa w S f s k=>
 ⟨rfl,StF.sel hH hF ⟨S,s,k⟩,h a w S f s k⟩
end
theorem env_built(a1 a2 a3:Option Addr)(l1 c1 l2 c2 l3 c3:Nat):prog.built 72 [(0,.agg #[.slice a1 l1 c1,.slice a2 l2 c2]),(1,.slice a3 l3 c3)]=some #[.slice a1 l1 c1,.slice a2 l2 c2,.slice a3 l3 c3,.slice none 0 0]:=m0
section
variable {V : List Bs} {ls : List hU} {z : Int}
theorem fz_pos(h:FewZ V ls z)(hz:0<=z): ∃(k:Nat) (x:hU),z=(k:Int)/\ls[k]?=some x/\ls.find? (tS V)=some x:=h.resolve_left λh=>by have:=h.1;omega
theorem fz_neg(h:FewZ V ls z)(hz: ¬0<=z):ls.find? (tS V)=none:=by
 rcases h with h|⟨k,x,a,_⟩
 .exact h.2
 .omega
end
def yF (p:iL)(i:Nat)(L:List TyV)(xs:List (Sl TyV))(r:List (List TyP)×Flt):Prop:=pX (jC p (L.map TyV.t))/\r=oH (jC p (L.map TyV.t)) (p.G.drop i) (xs.map tB)/\xs.length=i/\L.length=i
section
variable {p : iL} {i : Nat} {L : List TyV} {xs : List (Sl TyV)} {r : List (List TyP) × Flt} {l : nF} {a : TyV} {s : Sl TyV} {f : Flt}
theorem bQl:jC p []=sA p:=bVr _ _
theorem lsR_start(h:r=dX p)(hr:(dU p).2=true)(hf:p.C.find? (tS (dG p))=none):yF p 0 [] [] r:=by
 refine⟨?_,?_,rfl,rfl⟩
 .rw[List.map_nil,bQl];exact bRn hr
 .rw[List.map_nil,bQl,h,ty_go hr hf];rfl
theorem lsR_err(h:yF p i L xs r)(hx:p.G[i]?=some l)(hl:rY (jC p (L.map TyV.t)) l.K [] []= .error f):r=([],f):=by rw[h.2.1,lE hx,oH,hl]
theorem bUo(h:yF p i L xs r)(hx:p.G[i]?=some l)(hl:rY (jC p (L.map TyV.t)) l.K [] []= .ok ([a.t],s.A.map TyV.t))(ha:WfT a.t):yF p (i+1) (L++[a]) (xs++[s]) r:=by
 have e:jC p ((L++[a]).map TyV.t)=(lV++l.name,a.t)::jC p (L.map TyV.t):=by rw[L2];exact lnsN_add (by rw[O4,h.2.2.2];exact hx)
 refine⟨λq hq=>?_,?_,by rw[F4,h.2.2.1];rfl,by rw[F4,h.2.2.2];rfl⟩
 .rw[e]at hq
  rcases E2.1 hq with rfl|hq
  .exact ha
  .exact h.1 q hq
 .rw[e,h.2.1,lE hx,oH,hl,L2];rfl
theorem lsR_end(h:yF p i L xs r)(hi:p.G.length<=i):r=(xs.map tB,(0,0)):=by rw[h.2.1,qK hi];rfl
end
theorem types9_spec(P:ProgV)(hP:rW P)(hl1:P.C.A.length<=140737488355328)(hl2:P.G.A.length<=140737488355328)(hcp:P.C.A.length<=P.C.cap):cY prog 7 [.agg #[j8 P.C,j8 P.G]] [] [jP.sl (j8 P.C) P.C.A,iW P.C.A,nM.sl (j8 P.G) P.G.A,mA P.G.A] (λ(x:Option Addr×Nat×List (Sl TyV))=> .tuple #[.slice x.1 x.2.2.length x.2.1,.agg #[k6 (dX P.pr).2.1,k6 (dX P.pr).2.2]]) (λ_=>[]) (λ(x:Option Addr×Nat×List (Sl TyV))=>[sR.sl (.slice x.1 x.2.2.length x.2.1) x.2.2,Fact.each x.2.2 bEz,Fact.pure (x.2.2.map tB=(dX P.pr).1/\x.2.2.length<=x.2.1)]):=by
 have hT:=dK;generalize hR:dX P.pr=r;refine j5 func7 ntmps7 ?_;intro β hM;refine g2 ?_;refine j4 λb1=>?_;refine one ?_;refine j1 bGy λb2=>?_;refine g6 ?_;refine j2 func18 (rRight_spec P hP hl1 hl2) ⟨d7,d8,d9,e6,i6⟩ λ_=>?_;refine g3 ?_;refine iQ (λY=>?_) λY=>?_
 .refine g2 ?_;refine ss (j3 (bBg _)) ?_;refine g6 ?_;obtain rfl:=hR.symm.trans (ty_no ‹_›);exact rs2 (none,0,[]) ⟨sG,Has.each_nil,i7 ⟨rfl,B0 0⟩,i6⟩
 refine g3 ?_;have n:(dU P.pr).2=true:=by assumption
 have g:=wS n;have hs: ∀x∈P.C.A,x.B.A.length<=4:=λx hx=>by have h1:=(g.input x.inp (bEq hx)).2.1;have h2:x.inp.B.length=x.B.A.length:=O4 _;omega
 have hTT:=bAt n;have J:=right_names n;refine g2 ?_;refine j2 func19 (few8_spec P hl1 (λx hx=>B1 (hs x hx) m6) l7 hcp) ⟨d7,d8,i6⟩ λz=>?_;refine bF d7 λM=>?_;refine g10 ?_;refine bLv (λW=>?_) λW=>?_
 .refine bP ?_;obtain⟨k,X,hzk,hX,hfx⟩:=fz_pos M l7;subst hzk;obtain⟨x,hx,hxX⟩: ∃x,P.C.A[k]?=some x/\x.inp=X:=by have h:(P.C.A.map InputV.inp)[k]?=some X:=hX;rw[K1]at h;simpa using h
  subst hxX;have hkl:k<P.C.A.length:=(F3.1 hx).1;refine cL _ _ [j9,u0,u5,u9,A00,u6,A02,A01,A68] cN o0 (.c1 .nil) bA.self ?_;refine g3 ?_;refine stM rfl (ixs k) ?_;refine one ?_;refine stM rfl (fG hx 1) ?_;refine stM rfl (j3 (zF _ _)) ?_;refine g8 ?_;obtain rfl:=hR.symm.trans (bTp n hfx);exact rs2 (none,0,[]) ⟨sG,Has.each_nil,i7 ⟨rfl,B0 0⟩,i6⟩
 refine g3 ?_;have hfn:=fz_neg M l7;refine cL _ _ [j9,u0,A05,u9,A42,u6] cN o0 (.c0 (.c0 .nil)) bA.self ?_;refine g3 ?_;refine j2 func20 (bRl P hl1 (λx hx=>B1 (hs x hx) m6) l7) ⟨d8,d9,i6⟩ λ⟨V,cv⟩=>?_;have hvl:(dG P.pr).length<=256:=B1 (vars_le P.pr) hTT;refine one ?_;refine stM rfl (j3 (env_built _ _ _ _ _ _ _ _ _)) ?_;refine one ?_;refine j4 λb3=>?_;refine g5 ?_;have hbg:=lsR_start (r:=r) hR.symm n hfn;have N:=bCj n;have K:P.pr.G.length=P.G.A.length:=O4 _;refine bQ (t:=35) sR<|bB (Fact.each ([]:List (Sl TyV)) bEz) (Has.each_nil)<|bQ (t:=38) tyE<|bB (Fact.each ([]:List TyV) tyF) (Has.each_nil) ?_;refine g11 ?_;refine cF (ι:=Nat×List TyV×Option Addr×Nat×List (Sl TyV)×Option Addr×Nat) [(1,_),(3,_),(5,_)] ⟨rfl,rfl,rfl,i6⟩ (λ⟨i,L,A5,c5,xs,A1,c1⟩=>[(6,.slice A1 xs.length c1),(7,.int .i64 (i:Nat))]) (λ⟨i,L,A5,c5,xs,A1,c1⟩=>[envO b3 ⟨P,⟨V,cv,dG P.pr⟩,⟨A5,c5,L⟩⟩,tyE.row (.slice A5 L.length c5) 38 L,sR.row (.slice A1 xs.length c1) 35 xs]) (λ⟨i,L,A5,c5,xs,A1,c1⟩=>[Fact.pure (i<=P.G.A.length/\yF P.pr i L xs r),Fact.each L tyF,Fact.each xs bEz]) (λ⟨i,L,A5,c5,xs,A1,c1⟩=>P.G.A.length-i) (0,[],none,0,[],none,0) ⟨rfl,rfl,i6⟩ (.c2 (.c0 (.c0 .nil))) ⟨i7 (⟨l7,hbg⟩),d7,d8,i6⟩ ?_;rintro⟨i,L,A5,c5,xs,A1,c1⟩;dsimp only;refine bF d7 λd=>?_;have hLi:=d.2.2.2.2;have hXi:=d.2.2.2.1;refine g10 ?_;refine dP (λU=>?_) λU=>?_
 .refine g5 ?_;obtain⟨l,p⟩:=gx P.G.A i;have hx0:P.pr.G[i]?=some l.ln:=mP p;have hdp:=N l.ln (j0 hx0);have hfl:=g.line l.ln (j0 hx0);have hil:=hfl.2.1;have hie:l.ln.K.length=l.K.A.length:=O4 _;refine bB (mU.sl (.slice l.K.I l.K.A.length l.K.cap) l.K.A) (Has.left (Has.each f7 (j0 p)))<|bB (nP l.K.A) (Has.right (Has.each f8 (j0 p)))<|bQ (t:=38) tyE<|bB (Fact.each ([]:List TyV) tyF) (Has.each_nil)<|bQ (t:=38) tyE<|bB (Fact.each ([]:List TyV) tyF) (Has.each_nil) ?_;refine g16 ?_;refine cF (ι:=Nat×List TyV×Option Addr×Nat×List TyV×Option Addr×Nat) [(1,_),(3,_),(5,_),(6,_),(7,_)] ⟨rfl,rfl,rfl,rfl,rfl,i6⟩ (λ⟨j,hv,A2,c2,ow,A4,c4⟩=>[(8,.slice A4 ow.length c4),(9,.slice A2 hv.length c2),(10,.int .i64 (j:Nat))]) (λ⟨j,hv,A2,c2,ow,A4,c4⟩=>[envO b3 ⟨P,⟨V,cv,dG P.pr⟩,⟨A5,c5,L⟩⟩,tyE.row (.slice A5 L.length c5) 38 L,tyE.row (.slice A2 hv.length c2) 38 hv,tyE.row (.slice A4 ow.length c4) 38 ow]) (λ⟨j,hv,A2,c2,ow,A4,c4⟩=>[Fact.pure (j<=l.K.A.length/\sO (jC P.pr (L.map TyV.t)) l.ln.K j hv ow),Fact.each hv tyF,Fact.each ow tyF]) (λ⟨j,hv,A2,c2,ow,A4,c4⟩=>l.K.A.length-j) (0,[],none,0,[],none,0) ⟨rfl,rfl,rfl,i6⟩ (.c2 (.c2 (.c1 (.c0 .nil)))) ⟨i7 (⟨l7,bYp hdp⟩),d8,d7,i6⟩ ?_;rintro⟨j,hv,A2,c2,ow,A4,c4⟩;dsimp only;refine bF d7 λb=>?_;have hvj:=b.2.2.2.2.1;have hwj:=b.2.2.2.2.2;refine g7 ?_;refine ss (ixs i) ?_;refine one ?_;refine ss (fG p 2) ?_;refine g4 ?_;refine dP (λR=>?_) λR=>?_
  .refine g5 ?_;obtain⟨w,Z⟩:=gx l.K.A j;have e:l.ln.K[j]?=some w.it:=mP Z;have q:=(bPu b.2 e).1;have htk0:=q.1;refine bB (bOy w) (Has.each e8 (j0 Z)) ?_;refine g5 ?_;refine ss (ixs i) ?_;refine one ?_;refine ss (fG p 2) ?_;refine one ?_;refine ss (ixs j) ?_;refine ss (pF Z 0) ?_;refine one ?_;refine bD func21 (item9_spec b3 ⟨P,⟨V,cv,dG P.pr⟩,⟨A5,c5,L⟩⟩ (by show L.length<=P.G.A.length;omega) rfl (by show(dG P.pr).length<=_;omega) hl1 hl2 hs J.2 w A2 c2 hv b.2.2.2.1 l7 q.1 ⟨q.2.1,q.2.2.1⟩ (λh=>(q.2.2.2 h).2) (J.1 l.ln (j0 hx0) w.it (j0 e))) rfl rfl (.c0 (.c0 (.c0 .nil))) ⟨g0,(Has.of (u8 mT7)),(Has.of (u8 (u8 mT0))),(Has.of (u8 (u8 mT1))),(Has.of (u8 (u8 mT2))),f6,d7,d9,i6⟩ λc=>?_;refine hZ (v':= .tuple #[tyC c,.int .i64 (iO (jC P.pr (L.map TyV.t)) w.it (stT hv)).2,.int .i64 (fL w.it:Nat)]) rfl<|bF d8 λy=>?_;have y:(iO (jC P.pr (L.map TyV.t)) w.it (stT hv)).2=0->c.t=(iO (jC P.pr (L.map TyV.t)) w.it (stT hv)).1:=y;refine g4 ?_;refine j1 sQ λb5=>?_;refine g12 ?_;refine uD (λQ=>?_) λQ=>?_
   .refine bP<|cL _ _ [j9,u0,u5,u9,A00,u6,A02,A01,A03,A04,A08,A07,A09,(false,13)] cN o0 (.c0 (.c0 (.c0 (.c0 (.c0 (.c0 (.c1 .nil))))))) bA.self ?_;refine g3 ?_;refine stM rfl (ixs i) ?_;refine one ?_;refine stM rfl (fG p 2) ?_;refine one ?_;refine stM rfl (ixs j) ?_;refine one ?_;refine stM rfl (fG Z 1) ?_;refine one ?_;refine stM rfl (j3 (zF _ _)) ?_;refine g18 ?_;obtain rfl:=lsR_err d.2 hx0 (tsT_err b.2 e ‹_›);exact rs2 (none,0,[]) ⟨sG,Has.each_nil,i7 ⟨rfl,B0 0⟩,i6⟩
   refine g3 ?_;have hy:=y l7;have f:=tsT_wf d.2.1 b.2 e l7 hy;refine g3 ?_;refine lD (m:=c) rfl rfl rfl rfl rfl λb6=>?_;refine gV kT5 (bU .head rfl) rfl rfl rfl rfl rfl rfl rfl o6 λv u=>?_;refine bB (Fact.each (ow++[c]) tyF) (Has.each_snoc e8 d7) ?_;refine g3 ?_;refine at_mixU _ _ (.fl 1 (.fl 2 (.fl 3 (.fl 4 (.fl 5 (.fl 8 (.three 0 6 9 (.two 6 9 (.two 7 9 (.op 9 (.op 10 (.fl 11 .nil))) (.op 7 (.op 10 (.fl 11 .nil)))) (.op 6 (.op 7 (.op 10 (.fl 11 .nil))))) (.two 0 9 (.two 7 9 (.op 9 (.op 10 (.fl 11 .nil))) (.op 7 (.op 10 (.fl 11 .nil)))) (.op 0 (.op 7 (.op 10 (.fl 11 .nil))))) (.two 0 6 (.op 6 (.op 7 (.op 10 (.fl 11 .nil)))) (.op 0 (.op 7 (.op 10 (.fl 11 .nil)))))))))))) cN o0 (.c0 (.c0 (.c0 (.c0 (.c0 (.c1 (.c1 (.c1 .nil)))))))) bA.self ?_;refine oK rfl rfl rfl rfl (jY hT rfl) ?_;refine oK rfl rfl rfl rfl (jY hT rfl) ?_;refine oK rfl rfl rfl rfl (jY hT rfl) ?_;refine oK rfl rfl rfl rfl (jY hT rfl) ?_;refine oK rfl rfl rfl rfl (jY hT rfl) ?_;refine inc (hv.length-(fL w.it)) ?_;refine oK rfl rfl rfl rfl (ldN hT (gG kT2)) ?_;refine atu_three (o:=_) (o':=_) (o2:=_) rfl rfl rfl ?_ ?_ ?_
   .refine wD rfl rfl rfl rfl λb9=>?_;refine jF (.c1 (.c1 (.c1 (.c1 (.c1 (.c2 (.c2 (.c2 .nil)))))))) (bA.drop 0) ?_;refine bHy (o:=_) (o':=_) rfl rfl ?_ ?_
    .refine jH hT (k:=(hv.length-fL w.it)) kT6 rfl rfl rfl rfl rfl rfl rfl rfl rfl l7 ?_;refine jF (.c2 (.c2 (.c2 (.c2 (.c2 (.c2 (.c2 (.c2 .nil)))))))) (bA.drop 0) ?_;refine bHy (o:=_) (o':=_) rfl rfl ?_ ?_
     .refine gV kT1 (cI .head) rfl rfl rfl rfl rfl rfl r7 o6 λA10 c11=>?_;refine jF (.c2 (.c2 (.c2 (.c2 (.c2 (.c2 (.c2 (.c2 .nil)))))))) (bA.drop 0) ?_;refine nD (o:=_) rfl ?_;refine lD (m:=c) rfl rfl rfl rfl rfl λb12=>?_;refine jF (.c3 (.c3 (.c3 (.c3 (.c3 (.c3 (.c3 (.c3 .nil)))))))) (bA.drop 0) ?_;refine nD (o:=_) rfl ?_;refine gV kT1 (bU .head rfl) rfl rfl rfl rfl rfl rfl rfl o6 λA13 c14=>?_;refine bB (Fact.each (hv.take (hv.length-fL w.it)++[c]) tyF) (Has.each_snoc (nB e8 _) d8) ?_;refine jF (.c3 (.c3 (.c3 (.c3 (.c3 (.c3 (.c3 (.c3 .nil)))))))) (bA.drop 1) ?_;refine oK rfl rfl rfl rfl (jY hT rfl) ?_;refine wN ?_;refine g5 ?_;refine inc (j+1) ?_;refine g3 ?_;exact bk2 (j+1,hv.take (hv.length-fL w.it)++[c],A13,c14,ow++[c],v,u) ⟨i7 (⟨by dsimp only;omega,qA b.2 e l7 hy f rfl⟩),d7,d8,i6⟩
     refine lD (m:=c) rfl rfl rfl rfl rfl λb15=>?_;refine jF (.c3 (.c3 (.c3 (.c3 (.c3 (.c3 (.c3 (.c3 .nil)))))))) (bA.drop 0) ?_;refine nD (o:=_) rfl ?_;refine gV kT2 (cI kT1) rfl rfl rfl rfl rfl rfl r7 o6 λA16 c17=>?_;refine jF (.c3 (.c3 (.c3 (.c3 (.c3 (.c3 (.c3 (.c3 .nil)))))))) (bA.drop 0) ?_;refine nD (o:=_) rfl ?_;refine gV .head (bU kT1 rfl) rfl rfl rfl rfl rfl rfl rfl o6 λA18 c19=>?_;refine bB (Fact.each (hv.take (hv.length-fL w.it)++[c]) tyF) (Has.each_snoc (nB e8 _) d8) ?_;refine jF (.c3 (.c3 (.c3 (.c3 (.c3 (.c3 (.c3 (.c3 .nil)))))))) (bA.drop 1) ?_;refine oK rfl rfl rfl rfl (jY hT rfl) ?_;refine wN ?_;refine g5 ?_;refine inc (j+1) ?_;refine g3 ?_;exact bk2 (j+1,hv.take (hv.length-fL w.it)++[c],A18,c19,ow++[c],v,u) ⟨i7 (⟨by dsimp only;omega,qA b.2 e l7 hy f rfl⟩),d7,d8,i6⟩
    refine lD (m:=c) rfl rfl rfl rfl rfl λb20=>?_;refine jF (.c2 (.c2 (.c2 (.c2 (.c2 (.c3 (.c3 (.c3 .nil)))))))) (bA.drop 0) ?_;refine nD (o:=_) rfl ?_;refine jH hT (k:=(hv.length-fL w.it)) kT7 rfl rfl rfl rfl rfl rfl rfl rfl rfl l7 ?_;refine jF (.c3 (.c3 (.c3 (.c3 (.c3 (.c3 (.c3 (.c3 .nil)))))))) (bA.drop 0) ?_;refine nD (o:=_) rfl ?_;refine gV kT2 (cI .head) rfl rfl rfl rfl rfl rfl r7 o6 λA21 c22=>?_;refine jF (.c3 (.c3 (.c3 (.c3 (.c3 (.c3 (.c3 (.c3 .nil)))))))) (bA.drop 0) ?_;refine nD (o:=_) rfl ?_;refine gV .head (bU kT2 rfl) rfl rfl rfl rfl rfl rfl rfl o6 λA23 c24=>?_;refine bB (Fact.each (hv.take (hv.length-fL w.it)++[c]) tyF) (Has.each_snoc (nB e8 _) d8) ?_;refine jF (.c3 (.c3 (.c3 (.c3 (.c3 (.c3 (.c3 (.c3 .nil)))))))) (bA.drop 1) ?_;refine oK rfl rfl rfl rfl (jY hT rfl) ?_;refine wN ?_;refine g5 ?_;refine inc (j+1) ?_;refine g3 ?_;exact bk2 (j+1,hv.take (hv.length-fL w.it)++[c],A23,c24,ow++[c],v,u) ⟨i7 (⟨by dsimp only;omega,qA b.2 e l7 hy f rfl⟩),d7,d8,i6⟩
   .refine jH hT (k:=(hv.length-fL w.it)) kT5 rfl rfl rfl rfl rfl rfl rfl rfl rfl l7 ?_;refine jF (.c1 (.c1 (.c1 (.c1 (.c1 (.c1 (.c1 (.c1 .nil)))))))) (bA.drop 0) ?_;refine bHy (o:=_) (o':=_) rfl rfl ?_ ?_
    .refine wD rfl rfl rfl rfl λb25=>?_;refine jF (.c2 (.c2 (.c2 (.c2 (.c2 (.c2 (.c2 (.c2 .nil)))))))) (bA.drop 0) ?_;refine bHy (o:=_) (o':=_) rfl rfl ?_ ?_
     .refine gV .head (cI kT1) rfl rfl rfl rfl rfl rfl r7 o6 λA26 c27=>?_;refine jF (.c2 (.c2 (.c2 (.c2 (.c2 (.c2 (.c2 (.c2 .nil)))))))) (bA.drop 0) ?_;refine nD (o:=_) rfl ?_;refine lD (m:=c) rfl rfl rfl rfl rfl λb28=>?_;refine jF (.c3 (.c3 (.c3 (.c3 (.c3 (.c3 (.c3 (.c3 .nil)))))))) (bA.drop 0) ?_;refine nD (o:=_) rfl ?_;refine gV kT1 (bU .head rfl) rfl rfl rfl rfl rfl rfl rfl o6 λA29 c30=>?_;refine bB (Fact.each (hv.take (hv.length-fL w.it)++[c]) tyF) (Has.each_snoc (nB e8 _) d8) ?_;refine jF (.c3 (.c3 (.c3 (.c3 (.c3 (.c3 (.c3 (.c3 .nil)))))))) (bA.drop 1) ?_;refine oK rfl rfl rfl rfl (jY hT rfl) ?_;refine wN ?_;refine g5 ?_;refine inc (j+1) ?_;refine g3 ?_;exact bk2 (j+1,hv.take (hv.length-fL w.it)++[c],A29,c30,ow++[c],v,u) ⟨i7 (⟨by dsimp only;omega,qA b.2 e l7 hy f rfl⟩),d7,d8,i6⟩
     refine lD (m:=c) rfl rfl rfl rfl rfl λb31=>?_;refine jF (.c3 (.c3 (.c3 (.c3 (.c3 (.c3 (.c3 (.c3 .nil)))))))) (bA.drop 0) ?_;refine nD (o:=_) rfl ?_;refine gV kT1 (cI kT2) rfl rfl rfl rfl rfl rfl r7 o6 λA32 c33=>?_;refine jF (.c3 (.c3 (.c3 (.c3 (.c3 (.c3 (.c3 (.c3 .nil)))))))) (bA.drop 0) ?_;refine nD (o:=_) rfl ?_;refine gV .head (bU kT1 rfl) rfl rfl rfl rfl rfl rfl rfl o6 λA34 c35=>?_;refine bB (Fact.each (hv.take (hv.length-fL w.it)++[c]) tyF) (Has.each_snoc (nB e8 _) d8) ?_;refine jF (.c3 (.c3 (.c3 (.c3 (.c3 (.c3 (.c3 (.c3 .nil)))))))) (bA.drop 1) ?_;refine oK rfl rfl rfl rfl (jY hT rfl) ?_;refine wN ?_;refine g5 ?_;refine inc (j+1) ?_;refine g3 ?_;exact bk2 (j+1,hv.take (hv.length-fL w.it)++[c],A34,c35,ow++[c],v,u) ⟨i7 (⟨by dsimp only;omega,qA b.2 e l7 hy f rfl⟩),d7,d8,i6⟩
    refine lD (m:=c) rfl rfl rfl rfl rfl λb36=>?_;refine jF (.c2 (.c2 (.c2 (.c2 (.c2 (.c2 (.c2 (.c2 .nil)))))))) (bA.drop 0) ?_;refine nD (o:=_) rfl ?_;refine wD rfl rfl rfl rfl λb37=>?_;refine jF (.c3 (.c3 (.c3 (.c3 (.c3 (.c3 (.c3 (.c3 .nil)))))))) (bA.drop 0) ?_;refine nD (o:=_) rfl ?_;refine gV .head (cI kT2) rfl rfl rfl rfl rfl rfl r7 o6 λA38 c39=>?_;refine jF (.c3 (.c3 (.c3 (.c3 (.c3 (.c3 (.c3 (.c3 .nil)))))))) (bA.drop 0) ?_;refine nD (o:=_) rfl ?_;refine gV .head (bU kT1 rfl) rfl rfl rfl rfl rfl rfl rfl o6 λA40 c41=>?_;refine bB (Fact.each (hv.take (hv.length-fL w.it)++[c]) tyF) (Has.each_snoc (nB e8 _) d8) ?_;refine jF (.c3 (.c3 (.c3 (.c3 (.c3 (.c3 (.c3 (.c3 .nil)))))))) (bA.drop 1) ?_;refine oK rfl rfl rfl rfl (jY hT rfl) ?_;refine wN ?_;refine g5 ?_;refine inc (j+1) ?_;refine g3 ?_;exact bk2 (j+1,hv.take (hv.length-fL w.it)++[c],A40,c41,ow++[c],v,u) ⟨i7 (⟨by dsimp only;omega,qA b.2 e l7 hy f rfl⟩),d7,d8,i6⟩
   refine lD (m:=c) rfl rfl rfl rfl rfl λb42=>?_;refine jF (.c1 (.c1 (.c1 (.c1 (.c1 (.c2 (.c2 (.c2 .nil)))))))) (bA.drop 0) ?_;refine bHy (o:=_) (o':=_) rfl rfl ?_ ?_
   .refine wD rfl rfl rfl rfl λb43=>?_;refine jF (.c2 (.c2 (.c2 (.c2 (.c2 (.c3 (.c3 (.c3 .nil)))))))) (bA.drop 0) ?_;refine nD (o:=_) rfl ?_;refine jH hT (k:=(hv.length-fL w.it)) kT7 rfl rfl rfl rfl rfl rfl rfl rfl rfl l7 ?_;refine jF (.c3 (.c3 (.c3 (.c3 (.c3 (.c3 (.c3 (.c3 .nil)))))))) (bA.drop 0) ?_;refine nD (o:=_) rfl ?_;refine gV kT1 (cI .head) rfl rfl rfl rfl rfl rfl r7 o6 λA44 c45=>?_;refine jF (.c3 (.c3 (.c3 (.c3 (.c3 (.c3 (.c3 (.c3 .nil)))))))) (bA.drop 0) ?_;refine nD (o:=_) rfl ?_;refine gV .head (bU kT2 rfl) rfl rfl rfl rfl rfl rfl rfl o6 λA46 c47=>?_;refine bB (Fact.each (hv.take (hv.length-fL w.it)++[c]) tyF) (Has.each_snoc (nB e8 _) d8) ?_;refine jF (.c3 (.c3 (.c3 (.c3 (.c3 (.c3 (.c3 (.c3 .nil)))))))) (bA.drop 1) ?_;refine oK rfl rfl rfl rfl (jY hT rfl) ?_;refine wN ?_;refine g5 ?_;refine inc (j+1) ?_;refine g3 ?_;exact bk2 (j+1,hv.take (hv.length-fL w.it)++[c],A46,c47,ow++[c],v,u) ⟨i7 (⟨by dsimp only;omega,qA b.2 e l7 hy f rfl⟩),d7,d8,i6⟩
   refine jH hT (k:=(hv.length-fL w.it)) kT6 rfl rfl rfl rfl rfl rfl rfl rfl rfl l7 ?_;refine jF (.c2 (.c2 (.c2 (.c2 (.c2 (.c2 (.c2 (.c2 .nil)))))))) (bA.drop 0) ?_;refine nD (o:=_) rfl ?_;refine wD rfl rfl rfl rfl λb48=>?_;refine jF (.c3 (.c3 (.c3 (.c3 (.c3 (.c3 (.c3 (.c3 .nil)))))))) (bA.drop 0) ?_;refine nD (o:=_) rfl ?_;refine gV .head (cI kT1) rfl rfl rfl rfl rfl rfl r7 o6 λA49 c50=>?_;refine jF (.c3 (.c3 (.c3 (.c3 (.c3 (.c3 (.c3 (.c3 .nil)))))))) (bA.drop 0) ?_;refine nD (o:=_) rfl ?_;refine gV .head (bU kT2 rfl) rfl rfl rfl rfl rfl rfl rfl o6 λA51 c52=>?_;refine bB (Fact.each (hv.take (hv.length-fL w.it)++[c]) tyF) (Has.each_snoc (nB e8 _) d8) ?_;refine jF (.c3 (.c3 (.c3 (.c3 (.c3 (.c3 (.c3 (.c3 .nil)))))))) (bA.drop 1) ?_;refine oK rfl rfl rfl rfl (jY hT rfl) ?_;refine wN ?_;refine g5 ?_;refine inc (j+1) ?_;refine g3 ?_;exact bk2 (j+1,hv.take (hv.length-fL w.it)++[c],A51,c52,ow++[c],v,u) ⟨i7 (⟨by dsimp only;omega,qA b.2 e l7 hy f rfl⟩),d7,d8,i6⟩
  refine g6 ?_;obtain⟨a,G,B,A⟩:=tsT_end b.2 l7;have I:hv[0]?=some a:=by rw[G];rfl
  have hvl1:hv.length=1:=by rw[G];rfl
  have hfln:=g.lns;refine bB (tyF a) (Has.each d8 (j0 I))<|fW kT3 λC=>bR kT3<|bB (bEz (⟨A4,c4,ow⟩:Sl TyV)) ((Has.and (Has.and d7 e7) (i7 C))) ?_;refine g3 ?_;refine bOo (m:=(⟨A4,c4,ow⟩:Sl TyV)) rfl rfl rfl rfl rfl λb53=>?_;refine bNm kT4 (bU .head rfl) rfl rfl rfl rfl rfl rfl rfl o6 λE D=>?_;refine bB (Fact.each (xs++[(⟨A4,c4,ow⟩:Sl TyV)]) bEz) (Has.each_snoc f9 d7) ?_;refine g3 ?_;refine kZ _ _ (.fl 0 (.fl 1 (.fl 2 (.fl 5 (.fl 6 (.fl 7 (.two 3 8 (.two 4 8 (.op 8 (.op 9 (.fl 10 (.fl 11 (.op 12 .nil))))) (.op 4 (.op 9 (.fl 10 (.fl 11 (.op 12 .nil)))))) (.op 3 (.op 4 (.op 9 (.fl 10 (.fl 11 (.op 12 .nil))))))))))))) cN o0 (.c0 (.c0 (.c2 (.c2 (.c2 .nil))))) bA.self ?_;refine g4 ?_;refine sqT rfl (ixs 0) ?_;refine sqT rfl (pF I 0) ?_;refine gT (o:=_) (o':=_) rfl rfl ?_ ?_
  .refine g2 ?_;refine gT (o:=_) (o':=_) rfl rfl ?_ ?_
   .refine g3 ?_;refine lD (m:=a) rfl rfl rfl rfl rfl λb56=>?_;refine g2 ?_;refine gV kT4 (bU .head rfl) rfl rfl rfl rfl rfl rfl rfl o6 λA57 c58=>?_;refine bB (Fact.each (L++[a]) tyF) (Has.each_snoc f9 e6) ?_;refine g12 ?_;refine inc (i+1) ?_;refine g3 ?_;exact bk2 (i+1,L++[a],A57,c58,xs++[(⟨A4,c4,ow⟩:Sl TyV)],E,D) ⟨i7 (⟨by dsimp only;omega,bUo (s:=(⟨A4,c4,ow⟩:Sl TyV)) d.2 hx0 B A⟩),d7,d8,i6⟩
   refine lD (m:=a) rfl rfl rfl rfl rfl λb59=>?_;refine g5 ?_;refine gV kT4 (bU .head rfl) rfl rfl rfl rfl rfl rfl rfl o6 λA60 c61=>?_;refine bB (Fact.each (L++[a]) tyF) (Has.each_snoc f9 e6) ?_;refine g12 ?_;refine inc (i+1) ?_;refine g3 ?_;exact bk2 (i+1,L++[a],A60,c61,xs++[(⟨A4,c4,ow⟩:Sl TyV)],E,D) ⟨i7 (⟨by dsimp only;omega,bUo (s:=(⟨A4,c4,ow⟩:Sl TyV)) d.2 hx0 B A⟩),d7,d8,i6⟩
  refine lD (m:=a) rfl rfl rfl rfl rfl λb62=>?_;refine g8 ?_;refine gV kT4 (bU .head rfl) rfl rfl rfl rfl rfl rfl rfl o6 λA63 c64=>?_;refine bB (Fact.each (L++[a]) tyF) (Has.each_snoc f9 e6) ?_;refine g12 ?_;refine inc (i+1) ?_;refine g3 ?_;exact bk2 (i+1,L++[a],A63,c64,xs++[(⟨A4,c4,ow⟩:Sl TyV)],E,D) ⟨i7 (⟨by dsimp only;omega,bUo (s:=(⟨A4,c4,ow⟩:Sl TyV)) d.2 hx0 B A⟩),d7,d8,i6⟩
 refine g8 ?_;refine ss (j3 (bDk)) ?_;refine g5 ?_;have hr:=lsR_end d.2 (by rw[K];omega);subst hr;refine fW kT3 λO=>bR kT3 ?_;exact rs2 (A1,c1,xs) ⟨d7,e6,i7 ⟨rfl,O⟩,i6⟩
set_option maxHeartbeats 4000000 in
theorem law_spec(P:ProgV)(hP:rW P)(hl1:P.C.A.length<=140737488355328)(hl2:P.G.A.length<=140737488355328)(hcp:P.C.A.length<=P.C.cap):cY prog 4 [.agg #[j8 P.C,j8 P.G]] [] [kG,jP.sl (j8 P.C) P.C.A,iW P.C.A,nM.sl (j8 P.G) P.G.A,mA P.G.A] (λ(_:Unit)=> .bool true) (λ_=>[]) (λ_=>[]):=by
 have hT:=dK;refine j5 func4 ntmps4 ?_;intro β hM;refine g2 ?_;refine j4 λb1=>?_;refine g5 ?_;refine j2 func5 (shown9_spec) ⟨d7,i6⟩ λ_=>?_;refine g6 ?_;refine j2 func6 (bOs P hP hl1 hl2) ⟨d7,d8,d9,e6,e7,i6⟩ λ⟨xA,xc,xs⟩=>?_;refine gR (H':=_::jM (lL xs)) Z1 ?_;refine hZ (v':= .tuple #[.slice xA xs.length xc,.agg #[.int .i64 (dX P.pr).2.1,.int .i64 (dX P.pr).2.2]]) rfl<|bF d9 λhxp=>bB (sR.sl (.slice xA xs.length xc) xs) (d7)<|bB (Fact.each xs rowH) (d9) ?_;have C:xs.map tB=(dX P.pr).1:=hxp.1;refine g3 ?_;refine j1 bGy λb2=>?_;refine g6 ?_
 by_cases hf:(dX P.pr).2=(0,0)
 .refine g2 ?_;refine ss (j3 (bDk)) ?_;refine ss (fY ⟨(dX P.pr).2.1,(dX P.pr).2.2⟩ ⟨0,0⟩ rfl rfl rfl) ?_;refine bC (t':=false) (by simp[nO,hf]) ?_;refine g7 ?_;have g:=rows_ok C hf;have hxl:=g.few;refine g7 ?_;refine cF (ι:=Nat) [(1,_),(3,_),(4,_),(39,_)] ⟨rfl,rfl,rfl,rfl,i6⟩ (λi=>[(40,.int .i64 (i:Nat))]) (λ_=>[]) (λi=>[Fact.pure (i<=xs.length)]) (λi=>xs.length-i) 0 ⟨rfl,i6⟩ .nil ⟨i7 l7,i6⟩ ?_;rintro i;refine bF d7 λhinv6=>?_;refine g6 ?_;refine dP (λhc41=>?_) λhc41=>?_
  .refine g11 ?_;obtain⟨r,hr⟩:=gx xs i;have a:=aK hr;have hrl:=g.row r a;refine bB (tyE.sl (.slice r.I r.A.length r.cap) r.A) (Has.left (Has.left (Has.each d8 a)))<|bB (Fact.each r.A tyG) (Has.right (Has.left (Has.each d9 a))) ?_;refine g3 ?_;refine ss (ixs i) ?_;refine ss (fG hr 0) ?_;refine g5 ?_;refine cF (ι:=Nat) [(1,_),(3,_),(4,_),(6,_),(39,_),(40,_),(47,_)] ⟨rfl,rfl,rfl,rfl,rfl,rfl,rfl,i6⟩ (λk=>[(48,.int .i64 (k:Nat))]) (λ_=>[]) (λk=>[Fact.pure (k<=r.A.length)]) (λk=>r.A.length-k) 0 ⟨rfl,i6⟩ .nil ⟨i7 l7,i6⟩ ?_;rintro k;refine bF d7 λhinv9=>?_;refine g6 ?_;refine dP (λhc49=>?_) λhc49=>?_
   .refine g11 ?_;obtain⟨t,ht⟩:=gx r.A k;have e:=aK ht;have B:=g.wf r a t e;have Z:=oF B;have X:=wA B;refine bB (tyG t) (Has.each d8 e)<|bB (bT.sl (.slice t.B.I t.B.A.length t.B.cap) t.B.A) (Has.left (Has.left d7))<|bB (cM t.values) (Has.right d8)<|cE t.values mT0 λhc_tv=>?_;have hkv:t.known=true->t.values.A.length<=4/\t.B.A.length<=1:=known_few B;have Y:t.known=false->t.values.A.length=0:=unknown_no B;refine g3 ?_;refine ss (ixs i) ?_;refine ss (fG hr 0) ?_;refine one ?_;refine ss (ixs k) ?_;refine ss (pF ht 0) ?_;refine j1 sQ λb3=>?_;refine g10 ?_;refine bC (t':=false) (decide_eq_false l7) ?_;refine g4 ?_;refine cG (λhg65=>?_) (λhg65=>?_)
    .refine g4 ?_;refine bC (t':=false) (decide_eq_false (by have:=hkv ‹_›;omega)) ?_;refine g5 ?_;refine bC (t':=false) (decide_eq_false (by have:=hkv ‹_›;omega)) ?_;refine g8 ?_;refine bTi (λE=>?_) λE=>?_
     .refine g4 ?_;refine bC (t':=false) (decide_eq_false (by have:=Y ‹_›;omega)) ?_;refine g17 ?_;refine cF (ι:=Nat) [(1,_),(3,_),(4,_),(6,_),(8,_),(39,_),(40,_),(47,_),(48,_),(63,_),(64,_),(65,_),(66,_),(67,_),(68,_),(69,_),(70,_),(71,_),(72,_),(73,_),(74,_),(75,_),(76,_),(79,_),(80,_),(81,_),(82,_),(83,_),(84,_),(85,_),(86,_),(87,_),(91,_)] ⟨rfl,rfl,rfl,rfl,rfl,rfl,rfl,rfl,rfl,rfl,rfl,rfl,rfl,rfl,rfl,rfl,rfl,rfl,rfl,rfl,rfl,rfl,rfl,rfl,rfl,rfl,rfl,rfl,rfl,rfl,rfl,rfl,rfl,i6⟩ (λs=>[(92,.int .i64 (s:Nat))]) (λ_=>[]) (λs=>[Fact.pure (s<=t.B.A.length)]) (λs=>t.B.A.length-s) 0 ⟨rfl,i6⟩ .nil ⟨i7 l7,i6⟩ ?_;rintro s;refine bF d7 λw=>?_;refine g6 ?_;refine dP (λq=>?_) λq=>?_
      .refine g11 ?_;obtain⟨p,o⟩:=gx t.B.A s;have c:=g.gr r a t e p (j0 o);have j:=pD c;have hpl:=iC j;have b:=bEt hr ht o;refine g4 ?_;refine ss (ixs s) ?_;refine ss (fG o 0) ?_;refine gR (H':=polRow p::_::_::_::jM _) (nZ b [_,_,_]) ?_;refine hQ (bY func9 rfl rfl) (sY (p:=p) l7) rfl rfl rfl rfl rfl .nil (.c0 .nil) (pH lG) ⟨Has.and d7 (i7 l7),i6⟩ (λ_=>True) (λ_ _ _ _=>trivial) λ_ _=>?_;refine gR (H':=_::_::_::jM _) (nZ b [_,_,_]).symm ?_;refine bC (t':=true) c ?_;refine g9 ?_;refine inc (s+1) ?_;refine g3 ?_;exact dA (s+1) l7 ⟨rfl,i6⟩ ⟨rfl,rfl,rfl,rfl,rfl,rfl,rfl,rfl,rfl,rfl,rfl,rfl,rfl,rfl,rfl,rfl,rfl,rfl,rfl,rfl,rfl,rfl,rfl,rfl,rfl,rfl,rfl,rfl,rfl,rfl,rfl,rfl,rfl,i6⟩ (.c0 (.c0 (.cons .head Sel.self))) ⟨i7 l7,i6⟩ (bA.drop 1)
      refine g14 ?_;refine cF (ι:=Nat) [(1,_),(3,_),(4,_),(6,_),(8,_),(39,_),(40,_),(47,_),(48,_),(63,_),(64,_),(65,_),(66,_),(67,_),(68,_),(69,_),(70,_),(71,_),(72,_),(73,_),(74,_),(75,_),(76,_),(79,_),(80,_),(81,_),(82,_),(83,_),(84,_),(85,_),(86,_),(87,_),(105,_)] ⟨rfl,rfl,rfl,rfl,rfl,rfl,rfl,rfl,rfl,rfl,rfl,rfl,rfl,rfl,rfl,rfl,rfl,rfl,rfl,rfl,rfl,rfl,rfl,rfl,rfl,rfl,rfl,rfl,rfl,rfl,rfl,rfl,rfl,i6⟩ (λv=>[(106,.int .i64 (v:Nat))]) (λ_=>[]) (λv=>[Fact.pure (v<=t.values.A.length)]) (λv=>t.values.A.length-v) 0 ⟨rfl,i6⟩ .nil ⟨i7 l7,i6⟩ ?_;rintro v;refine bF d7 λu=>?_;refine g6 ?_;refine dP (λd=>?_) λd=>?_
      .refine g15 ?_;obtain⟨x4,J⟩:=gx t.values.A v;refine ss (ixs v) ?_;refine ss (fG J 0) ?_;refine bF (dC (Has.each d9 (j0 J))) λz=>?_;refine j2 func10 (bDo (p:=x4) z) ⟨Has.each d9 (j0 J),i6⟩ λ_=>?_;refine bC (t':=true) (B.vr _ (Y3 (j0 J))) ?_;refine g9 ?_;refine inc (v+1) ?_;refine g3 ?_;exact dA (v+1) l7 ⟨rfl,i6⟩ ⟨rfl,rfl,rfl,rfl,rfl,rfl,rfl,rfl,rfl,rfl,rfl,rfl,rfl,rfl,rfl,rfl,rfl,rfl,rfl,rfl,rfl,rfl,rfl,rfl,rfl,rfl,rfl,rfl,rfl,rfl,rfl,rfl,rfl,i6⟩ (.c0 (.c0 (.cons .head Sel.self))) ⟨i7 l7,i6⟩ (bA.drop 1)
      refine g8 ?_;refine inc (k+1) ?_;refine g3 ?_;exact dA (k+1) l7 ⟨rfl,i6⟩ ⟨rfl,rfl,rfl,rfl,rfl,rfl,rfl,i6⟩ (.c1 (.c1 (Sel.skip Sel.self))) ⟨i7 l7,i6⟩ (bA.drop 8)
     refine g21 ?_;refine cF (ι:=Nat) [(1,_),(3,_),(4,_),(6,_),(8,_),(39,_),(40,_),(47,_),(48,_),(63,_),(64,_),(65,_),(66,_),(67,_),(68,_),(69,_),(70,_),(71,_),(72,_),(73,_),(74,_),(75,_),(76,_),(79,_),(80,_),(81,_),(82,_),(83,_),(84,_),(85,_),(86,_),(87,_),(91,_)] ⟨rfl,rfl,rfl,rfl,rfl,rfl,rfl,rfl,rfl,rfl,rfl,rfl,rfl,rfl,rfl,rfl,rfl,rfl,rfl,rfl,rfl,rfl,rfl,rfl,rfl,rfl,rfl,rfl,rfl,rfl,rfl,rfl,rfl,i6⟩ (λs=>[(92,.int .i64 (s:Nat))]) (λ_=>[]) (λs=>[Fact.pure (s<=t.B.A.length)]) (λs=>t.B.A.length-s) 0 ⟨rfl,i6⟩ .nil ⟨i7 l7,i6⟩ ?_;rintro s;refine bF d7 λw=>?_;refine g6 ?_;refine dP (λq=>?_) λq=>?_
     .refine g11 ?_;obtain⟨p,o⟩:=gx t.B.A s;have c:=g.gr r a t e p (j0 o);have j:=pD c;have hpl:=iC j;have b:=bEt hr ht o;refine g4 ?_;refine ss (ixs s) ?_;refine ss (fG o 0) ?_;refine gR (H':=polRow p::_::_::_::jM _) (nZ b [_,_,_]) ?_;refine hQ (bY func9 rfl rfl) (sY (p:=p) l7) rfl rfl rfl rfl rfl .nil (.c0 .nil) (pH lG) ⟨Has.and d7 (i7 l7),i6⟩ (λ_=>True) (λ_ _ _ _=>trivial) λ_ _=>?_;refine gR (H':=_::_::_::jM _) (nZ b [_,_,_]).symm ?_;refine bC (t':=true) c ?_;refine g9 ?_;refine inc (s+1) ?_;refine g3 ?_;exact dA (s+1) l7 ⟨rfl,i6⟩ ⟨rfl,rfl,rfl,rfl,rfl,rfl,rfl,rfl,rfl,rfl,rfl,rfl,rfl,rfl,rfl,rfl,rfl,rfl,rfl,rfl,rfl,rfl,rfl,rfl,rfl,rfl,rfl,rfl,rfl,rfl,rfl,rfl,rfl,i6⟩ (.c0 (.c0 (.cons .head Sel.self))) ⟨i7 l7,i6⟩ (bA.drop 1)
     refine g14 ?_;refine cF (ι:=Nat) [(1,_),(3,_),(4,_),(6,_),(8,_),(39,_),(40,_),(47,_),(48,_),(63,_),(64,_),(65,_),(66,_),(67,_),(68,_),(69,_),(70,_),(71,_),(72,_),(73,_),(74,_),(75,_),(76,_),(79,_),(80,_),(81,_),(82,_),(83,_),(84,_),(85,_),(86,_),(87,_),(105,_)] ⟨rfl,rfl,rfl,rfl,rfl,rfl,rfl,rfl,rfl,rfl,rfl,rfl,rfl,rfl,rfl,rfl,rfl,rfl,rfl,rfl,rfl,rfl,rfl,rfl,rfl,rfl,rfl,rfl,rfl,rfl,rfl,rfl,rfl,i6⟩ (λv=>[(106,.int .i64 (v:Nat))]) (λ_=>[]) (λv=>[Fact.pure (v<=t.values.A.length)]) (λv=>t.values.A.length-v) 0 ⟨rfl,i6⟩ .nil ⟨i7 l7,i6⟩ ?_;rintro v;refine bF d7 λu=>?_;refine g6 ?_;refine dP (λd=>?_) λd=>?_
     .refine g15 ?_;obtain⟨x6,I⟩:=gx t.values.A v;refine ss (ixs v) ?_;refine ss (fG I 0) ?_;refine bF (dC (Has.each d9 (j0 I))) λz=>?_;refine j2 func10 (bDo (p:=x6) z) ⟨Has.each d9 (j0 I),i6⟩ λ_=>?_;refine bC (t':=true) (B.vr _ (Y3 (j0 I))) ?_;refine g9 ?_;refine inc (v+1) ?_;refine g3 ?_;exact dA (v+1) l7 ⟨rfl,i6⟩ ⟨rfl,rfl,rfl,rfl,rfl,rfl,rfl,rfl,rfl,rfl,rfl,rfl,rfl,rfl,rfl,rfl,rfl,rfl,rfl,rfl,rfl,rfl,rfl,rfl,rfl,rfl,rfl,rfl,rfl,rfl,rfl,rfl,rfl,i6⟩ (.c0 (.c0 (.cons .head Sel.self))) ⟨i7 l7,i6⟩ (bA.drop 1)
     refine g8 ?_;refine inc (k+1) ?_;refine g3 ?_;exact dA (k+1) l7 ⟨rfl,i6⟩ ⟨rfl,rfl,rfl,rfl,rfl,rfl,rfl,i6⟩ (.c1 (.c1 (Sel.skip Sel.self))) ⟨i7 l7,i6⟩ (bA.drop 8)
    refine g17 ?_;refine bTi (λE=>?_) λE=>?_
    .refine g4 ?_;refine bC (t':=false) (decide_eq_false (by have:=Y ‹_›;omega)) ?_;refine g17 ?_;refine cF (ι:=Nat) [(1,_),(3,_),(4,_),(6,_),(8,_),(39,_),(40,_),(47,_),(48,_),(63,_),(64,_),(65,_),(66,_),(67,_),(68,_),(69,_),(70,_),(71,_),(72,_),(73,_),(74,_),(75,_),(76,_),(79,_),(80,_),(81,_),(82,_),(83,_),(84,_),(85,_),(86,_),(87,_),(91,_)] ⟨rfl,rfl,rfl,rfl,rfl,rfl,rfl,rfl,rfl,rfl,rfl,rfl,rfl,rfl,rfl,rfl,rfl,rfl,rfl,rfl,rfl,rfl,rfl,rfl,rfl,rfl,rfl,rfl,rfl,rfl,rfl,rfl,rfl,i6⟩ (λs=>[(92,.int .i64 (s:Nat))]) (λ_=>[]) (λs=>[Fact.pure (s<=t.B.A.length)]) (λs=>t.B.A.length-s) 0 ⟨rfl,i6⟩ .nil ⟨i7 l7,i6⟩ ?_;rintro s;refine bF d7 λw=>?_;refine g6 ?_;refine dP (λq=>?_) λq=>?_
     .refine g11 ?_;obtain⟨p,o⟩:=gx t.B.A s;have c:=g.gr r a t e p (j0 o);have j:=pD c;have hpl:=iC j;have b:=bEt hr ht o;refine g4 ?_;refine ss (ixs s) ?_;refine ss (fG o 0) ?_;refine gR (H':=polRow p::_::_::_::jM _) (nZ b [_,_,_]) ?_;refine hQ (bY func9 rfl rfl) (sY (p:=p) l7) rfl rfl rfl rfl rfl .nil (.c0 .nil) (pH lG) ⟨Has.and d7 (i7 l7),i6⟩ (λ_=>True) (λ_ _ _ _=>trivial) λ_ _=>?_;refine gR (H':=_::_::_::jM _) (nZ b [_,_,_]).symm ?_;refine bC (t':=true) c ?_;refine g9 ?_;refine inc (s+1) ?_;refine g3 ?_;exact dA (s+1) l7 ⟨rfl,i6⟩ ⟨rfl,rfl,rfl,rfl,rfl,rfl,rfl,rfl,rfl,rfl,rfl,rfl,rfl,rfl,rfl,rfl,rfl,rfl,rfl,rfl,rfl,rfl,rfl,rfl,rfl,rfl,rfl,rfl,rfl,rfl,rfl,rfl,rfl,i6⟩ (.c0 (.c0 (.cons .head Sel.self))) ⟨i7 l7,i6⟩ (bA.drop 1)
     refine g14 ?_;refine cF (ι:=Nat) [(1,_),(3,_),(4,_),(6,_),(8,_),(39,_),(40,_),(47,_),(48,_),(63,_),(64,_),(65,_),(66,_),(67,_),(68,_),(69,_),(70,_),(71,_),(72,_),(73,_),(74,_),(75,_),(76,_),(79,_),(80,_),(81,_),(82,_),(83,_),(84,_),(85,_),(86,_),(87,_),(105,_)] ⟨rfl,rfl,rfl,rfl,rfl,rfl,rfl,rfl,rfl,rfl,rfl,rfl,rfl,rfl,rfl,rfl,rfl,rfl,rfl,rfl,rfl,rfl,rfl,rfl,rfl,rfl,rfl,rfl,rfl,rfl,rfl,rfl,rfl,i6⟩ (λv=>[(106,.int .i64 (v:Nat))]) (λ_=>[]) (λv=>[Fact.pure (v<=t.values.A.length)]) (λv=>t.values.A.length-v) 0 ⟨rfl,i6⟩ .nil ⟨i7 l7,i6⟩ ?_;rintro v;refine bF d7 λu=>?_;refine g6 ?_;refine dP (λd=>?_) λd=>?_
     .refine g15 ?_;obtain⟨x8,G⟩:=gx t.values.A v;refine ss (ixs v) ?_;refine ss (fG G 0) ?_;refine bF (dC (Has.each d9 (j0 G))) λz=>?_;refine j2 func10 (bDo (p:=x8) z) ⟨Has.each d9 (j0 G),i6⟩ λ_=>?_;refine bC (t':=true) (B.vr _ (Y3 (j0 G))) ?_;refine g9 ?_;refine inc (v+1) ?_;refine g3 ?_;exact dA (v+1) l7 ⟨rfl,i6⟩ ⟨rfl,rfl,rfl,rfl,rfl,rfl,rfl,rfl,rfl,rfl,rfl,rfl,rfl,rfl,rfl,rfl,rfl,rfl,rfl,rfl,rfl,rfl,rfl,rfl,rfl,rfl,rfl,rfl,rfl,rfl,rfl,rfl,rfl,i6⟩ (.c0 (.c0 (.cons .head Sel.self))) ⟨i7 l7,i6⟩ (bA.drop 1)
     refine g8 ?_;refine inc (k+1) ?_;refine g3 ?_;exact dA (k+1) l7 ⟨rfl,i6⟩ ⟨rfl,rfl,rfl,rfl,rfl,rfl,rfl,i6⟩ (.c1 (.c1 (Sel.skip Sel.self))) ⟨i7 l7,i6⟩ (bA.drop 8)
    refine g21 ?_;refine cF (ι:=Nat) [(1,_),(3,_),(4,_),(6,_),(8,_),(39,_),(40,_),(47,_),(48,_),(63,_),(64,_),(65,_),(66,_),(67,_),(68,_),(69,_),(70,_),(71,_),(72,_),(73,_),(74,_),(75,_),(76,_),(79,_),(80,_),(81,_),(82,_),(83,_),(84,_),(85,_),(86,_),(87,_),(91,_)] ⟨rfl,rfl,rfl,rfl,rfl,rfl,rfl,rfl,rfl,rfl,rfl,rfl,rfl,rfl,rfl,rfl,rfl,rfl,rfl,rfl,rfl,rfl,rfl,rfl,rfl,rfl,rfl,rfl,rfl,rfl,rfl,rfl,rfl,i6⟩ (λs=>[(92,.int .i64 (s:Nat))]) (λ_=>[]) (λs=>[Fact.pure (s<=t.B.A.length)]) (λs=>t.B.A.length-s) 0 ⟨rfl,i6⟩ .nil ⟨i7 l7,i6⟩ ?_;rintro s;refine bF d7 λw=>?_;refine g6 ?_;refine dP (λq=>?_) λq=>?_
    .refine g11 ?_;obtain⟨p,o⟩:=gx t.B.A s;have c:=g.gr r a t e p (j0 o);have j:=pD c;have hpl:=iC j;have b:=bEt hr ht o;refine g4 ?_;refine ss (ixs s) ?_;refine ss (fG o 0) ?_;refine gR (H':=polRow p::_::_::_::jM _) (nZ b [_,_,_]) ?_;refine hQ (bY func9 rfl rfl) (sY (p:=p) l7) rfl rfl rfl rfl rfl .nil (.c0 .nil) (pH lG) ⟨Has.and d7 (i7 l7),i6⟩ (λ_=>True) (λ_ _ _ _=>trivial) λ_ _=>?_;refine gR (H':=_::_::_::jM _) (nZ b [_,_,_]).symm ?_;refine bC (t':=true) c ?_;refine g9 ?_;refine inc (s+1) ?_;refine g3 ?_;exact dA (s+1) l7 ⟨rfl,i6⟩ ⟨rfl,rfl,rfl,rfl,rfl,rfl,rfl,rfl,rfl,rfl,rfl,rfl,rfl,rfl,rfl,rfl,rfl,rfl,rfl,rfl,rfl,rfl,rfl,rfl,rfl,rfl,rfl,rfl,rfl,rfl,rfl,rfl,rfl,i6⟩ (.c0 (.c0 (.cons .head Sel.self))) ⟨i7 l7,i6⟩ (bA.drop 1)
    refine g14 ?_;refine cF (ι:=Nat) [(1,_),(3,_),(4,_),(6,_),(8,_),(39,_),(40,_),(47,_),(48,_),(63,_),(64,_),(65,_),(66,_),(67,_),(68,_),(69,_),(70,_),(71,_),(72,_),(73,_),(74,_),(75,_),(76,_),(79,_),(80,_),(81,_),(82,_),(83,_),(84,_),(85,_),(86,_),(87,_),(105,_)] ⟨rfl,rfl,rfl,rfl,rfl,rfl,rfl,rfl,rfl,rfl,rfl,rfl,rfl,rfl,rfl,rfl,rfl,rfl,rfl,rfl,rfl,rfl,rfl,rfl,rfl,rfl,rfl,rfl,rfl,rfl,rfl,rfl,rfl,i6⟩ (λv=>[(106,.int .i64 (v:Nat))]) (λ_=>[]) (λv=>[Fact.pure (v<=t.values.A.length)]) (λv=>t.values.A.length-v) 0 ⟨rfl,i6⟩ .nil ⟨i7 l7,i6⟩ ?_;rintro v;refine bF d7 λu=>?_;refine g6 ?_;refine dP (λd=>?_) λd=>?_
    .refine g15 ?_;obtain⟨x10,A⟩:=gx t.values.A v;refine ss (ixs v) ?_;refine ss (fG A 0) ?_;refine bF (dC (Has.each d9 (j0 A))) λz=>?_;refine j2 func10 (bDo (p:=x10) z) ⟨Has.each d9 (j0 A),i6⟩ λ_=>?_;refine bC (t':=true) (B.vr _ (Y3 (j0 A))) ?_;refine g9 ?_;refine inc (v+1) ?_;refine g3 ?_;exact dA (v+1) l7 ⟨rfl,i6⟩ ⟨rfl,rfl,rfl,rfl,rfl,rfl,rfl,rfl,rfl,rfl,rfl,rfl,rfl,rfl,rfl,rfl,rfl,rfl,rfl,rfl,rfl,rfl,rfl,rfl,rfl,rfl,rfl,rfl,rfl,rfl,rfl,rfl,rfl,i6⟩ (.c0 (.c0 (.cons .head Sel.self))) ⟨i7 l7,i6⟩ (bA.drop 1)
    refine g8 ?_;refine inc (k+1) ?_;refine g3 ?_;exact dA (k+1) l7 ⟨rfl,i6⟩ ⟨rfl,rfl,rfl,rfl,rfl,rfl,rfl,i6⟩ (.c1 (.c1 (Sel.skip Sel.self))) ⟨i7 l7,i6⟩ (bA.drop 8)
   refine g8 ?_;refine inc (i+1) ?_;refine g3 ?_;exact dA (i+1) l7 ⟨rfl,i6⟩ ⟨rfl,rfl,rfl,rfl,i6⟩ (.c0 (.cons .head Sel.self)) ⟨i7 l7,i6⟩ (bA.drop 4)
  refine g7 ?_;refine gR (H':=_::_::jM (uC (-1000) 0 (lL xs) (bCu xs 0))) (xR fam_start.symm [_,_]) ?_;refine g7 ?_;refine pI (ι:=Nat) [(1,_),(3,_),(4,_),(120,_)] ⟨rfl,rfl,rfl,rfl,i6⟩ (λi=>[(121,.int .i64 (i:Nat))]) (λ_=>[]) [_,_] (λi=>uC (-1000) (0) (lL xs) (bCu xs i)) (λi=>[Fact.pure (i<=xs.length)]) (λi=>xs.length-i) 0 ⟨rfl,i6⟩ .nil ⟨i7 l7,i6⟩ ?_;rintro i;refine bF d7 λhinv29=>?_;refine g6 ?_;refine dP (λW=>?_) λW=>?_
  .refine g11 ?_;obtain⟨r,hr⟩:=gx xs i;have a:=aK hr;have hrl:=g.row r a;refine bB (tyE.sl (.slice r.I r.A.length r.cap) r.A) (Has.left (Has.left (Has.each d9 a)))<|bB (Fact.each r.A tyG) (Has.right (Has.left (Has.each e6 a))) ?_;refine g3 ?_;refine ss (ixs i) ?_;refine ss (fG hr 0) ?_;refine g5 ?_;refine pI (ι:=Nat) [(1,_),(3,_),(4,_),(11,_),(120,_),(121,_),(128,_)] ⟨rfl,rfl,rfl,rfl,rfl,rfl,rfl,i6⟩ (λk=>[(129,.int .i64 (k:Nat))]) (λ_=>[]) [_,_] (λk=>uC (-1000) (0) (lL xs) (bCu xs i+bQg r.A k)) (λk=>[Fact.pure (k<=r.A.length)]) (λk=>r.A.length-k) 0 ⟨rfl,i6⟩ .nil ⟨i7 l7,i6⟩ ?_;rintro k;refine bF d7 λhinv32=>?_;refine g6 ?_;refine dP (λV=>?_) λV=>?_
   .refine g11 ?_;obtain⟨t,ht⟩:=gx r.A k;have e:=aK ht;have B:=g.wf r a t e;have Z:=oF B;have X:=wA B;refine bB (tyG t) (Has.each d8 e)<|bB (bT.sl (.slice t.B.I t.B.A.length t.B.cap) t.B.A) (Has.left (Has.left d7)) ?_;refine g3 ?_;refine ss (ixs i) ?_;refine ss (fG hr 0) ?_;refine one ?_;refine ss (ixs k) ?_;refine one ?_;refine ss (fG ht 0) ?_;refine g5 ?_;refine pI (ι:=Nat) [(1,_),(3,_),(4,_),(11,_),(12,_),(120,_),(121,_),(128,_),(129,_),(140,_)] ⟨rfl,rfl,rfl,rfl,rfl,rfl,rfl,rfl,rfl,rfl,i6⟩ (λs=>[(141,.int .i64 (s:Nat))]) (λ_=>[]) [_,_] (λs=>uC (-1000) (0) (lL xs) (bCu xs i+bQg r.A k+s)) (λs=>[Fact.pure (s<=t.B.A.length)]) (λs=>t.B.A.length-s) 0 ⟨rfl,i6⟩ .nil ⟨i7 l7,i6⟩ ?_;rintro s;refine bF d7 λhinv35=>?_;refine g6 ?_;refine dP (λU=>?_) λU=>?_
    .refine g11 ?_;obtain⟨p,o⟩:=gx t.B.A s;have c:=g.gr r a t e p (j0 o);have j:=pD c;have hpl:=iC j;have b:=bEt hr ht o;refine g3 ?_;refine ss (ixs i) ?_;refine ss (fG hr 0) ?_;refine one ?_;refine ss (ixs k) ?_;refine one ?_;refine ss (fG ht 0) ?_;refine one ?_;refine ss (ixs s) ?_;refine ss (fG o 0) ?_;refine gR (H':=_::_::_::jM _) (sh_open b [_,_]) ?_;refine g5 ?_;refine cF (ι:=Nat) [(1,_),(3,_),(4,_),(11,_),(12,_),(13,_),(120,_),(121,_),(128,_),(129,_),(140,_),(141,_),(155,_)] ⟨rfl,rfl,rfl,rfl,rfl,rfl,rfl,rfl,rfl,rfl,rfl,rfl,rfl,i6⟩ (λm=>[(156,.int .i64 (m:Nat))]) (λm=>[fE.row (.slice p.I p.A.length p.cap) 43 (two (shM (-1000)) (shM (0)) p.A m)]) (λm=>[Fact.pure (m<=p.A.length)]) (λm=>p.A.length-m) 0 ⟨rfl,i6⟩ (.c0 .nil) ⟨i7 l7,i6⟩ ?_;rintro m;refine bF d7 λhinv38=>?_;refine g6 ?_;refine dP (λQ=>?_) λQ=>?_
     .refine g10 ?_;obtain⟨y,hy⟩:=gx p.A m;have hyn:=bPm j hy;have e1:(shM (0) y).n=y.n+(0):=rfl;have e2:(shM (-1000) y).n=y.n+(-1000):=rfl;refine g3 ?_;refine ss (ixs i) ?_;refine ss (fG hr 0) ?_;refine one ?_;refine ss (ixs k) ?_;refine one ?_;refine ss (fG ht 0) ?_;refine one ?_;refine ss (ixs s) ?_;refine ss (fG o 0) ?_;refine one ?_;refine ss (cA hT (k:=m) (cI .head) rfl rfl rfl rfl rfl uQ.symm rfl (by rw[uQ];omega)) ?_;refine one ?_;refine ss (j6 hT (dD.knows (cI .head) (k:=m) (x:=(shM (0) y)) (bSk hy) 0)) ?_;refine one ?_;refine bJ (z':=(shM (-1000) y).n) (vT l7 l7 l7) ?_;refine ss (cA hT (k:=m) (cI .head) rfl rfl rfl rfl rfl uQ.symm rfl (by rw[uQ];omega)) ?_;refine one ?_;refine fN hT (k:=m) (fo:=0) (y':=(shM (-1000) y)) .head rfl rfl rfl rfl rfl rfl rfl rfl rfl (bSk hy) rfl ?_;refine g5 ?_;refine inc (m+1) ?_;refine g3 ?_;rw[two_set hy];exact dA (m+1) l7 ⟨rfl,i6⟩ ⟨rfl,rfl,rfl,rfl,rfl,rfl,rfl,rfl,rfl,rfl,rfl,rfl,rfl,i6⟩ (.c0 (.c0 (.cons .head Sel.self))) ⟨i7 l7,i6⟩ (bA.drop 1)
     refine g8 ?_;refine inc (s+1) ?_;refine g3 ?_;refine at_sel (R:=_::_::_::jM _) (.c0 (.c0 (.cons .head Sel.self))) ?_;refine gR (H':=_::_::jM _) (sh_close b (n:=m) l7 [_,_]) ?_;exact oA (s+1) l7 ⟨rfl,i6⟩ ⟨rfl,rfl,rfl,rfl,rfl,rfl,rfl,rfl,rfl,rfl,i6⟩ (.c0 (.cons .head Sel.self)) ⟨i7 l7,i6⟩ (bA.drop 2)
    refine g8 ?_;refine inc (k+1) ?_;refine g3 ?_;refine gR (H':=_::_::jM (uC (-1000) (0) (lL xs) (bCu xs i+bQg r.A (k+1)))) (xR (congrArg (uC (-1000) (0) (lL xs)) ae2) [_,_]) ?_;exact oA (k+1) l7 ⟨rfl,i6⟩ ⟨rfl,rfl,rfl,rfl,rfl,rfl,rfl,i6⟩ (.c0 (.cons .head Sel.self)) ⟨i7 l7,i6⟩ (bA.drop 4)
   refine g8 ?_;refine inc (i+1) ?_;refine g3 ?_;have h9:bCu xs (i+1)=bCu xs i+(bFr r.A).length:=bIr hr;refine gR (H':=_::_::jM (uC (-1000) (0) (lL xs) (bCu xs (i+1)))) (xR (congrArg (uC (-1000) (0) (lL xs)) af7) [_,_]) ?_;exact oA (i+1) l7 ⟨rfl,i6⟩ ⟨rfl,rfl,rfl,rfl,i6⟩ (.c0 (.cons .head Sel.self)) ⟨i7 l7,i6⟩ (bA.drop 4)
  refine g8 ?_;refine j2 func6 (bGo P hP hl1 hl2) ⟨f3,f5,f6,f7,f8,i6⟩ λ⟨A12,c13,xs14⟩=>?_;refine hZ (v':= .tuple #[.slice A12 xs14.length c13,.agg #[.int .i64 (dX P.pr).2.1,.int .i64 (dX P.pr).2.2]]) rfl<|bF d9 λhta=>bB (sR.sl (.slice A12 xs14.length c13) xs14) (d7)<|bB (Fact.each xs14 bEz) (d9) ?_;have D:xs14.map tB=(dX P.pr).1:=hta.1;refine g3 ?_;refine j1 bGy λb15=>?_;refine g7 ?_;refine j2 func7 (types9_spec P hP hl1 hl2 hcp) ⟨g0,(Has.of wH),(Has.of (u8 mT7)),(Has.of (u8 (u8 mT0))),i6⟩ λ⟨A16,c17,xs18⟩=>?_;refine hZ (v':= .tuple #[.slice A16 xs18.length c17,.agg #[.int .i64 (dX P.pr).2.1,.int .i64 (dX P.pr).2.2]]) rfl<|bF d9 λhtr=>bB (sR.sl (.slice A16 xs18.length c17) xs18) (d7)<|bB (Fact.each xs18 bEz) (d9) ?_;have K:xs18.map tB=(dX P.pr).1:=htr.1;refine g3 ?_;refine j1 bGy λb19=>?_;refine g6 ?_;refine gR (H':=_::_::_::_::jM (uC 0 (-1000) (lL xs) (bCu xs 0))) (xR (fam_turn (Nat.le_of_eq (bPz (f:=λs:Sl TyV=>bFr s.A) (l:=xs) (i:=i) l7).symm)) [_,_,_,_]) ?_;refine g7 ?_;refine pI (ι:=Nat) [(3,_),(4,_),(15,_),(16,_),(17,_),(18,_),(192,_)] ⟨rfl,rfl,rfl,rfl,rfl,rfl,rfl,i6⟩ (λi=>[(193,.int .i64 (i:Nat))]) (λ_=>[]) [_,_,_,_] (λi=>uC (0) (-1000) (lL xs) (bCu xs i)) (λi=>[Fact.pure (i<=xs.length)]) (λi=>xs.length-i) 0 ⟨rfl,i6⟩ .nil ⟨i7 l7,i6⟩ ?_;rintro i;refine bF d7 λhinv48=>?_;refine g6 ?_;refine dP (λO=>?_) λO=>?_
  .refine g11 ?_;obtain⟨r,hr⟩:=gx xs i;have a:=aK hr;have hrl:=g.row r a;refine bB (tyE.sl (.slice r.I r.A.length r.cap) r.A) (Has.left (Has.left (Has.each g0 a)))<|bB (Fact.each r.A tyG) (Has.right (Has.left (Has.each (Has.of wH) a))) ?_;refine g3 ?_;refine ss (ixs i) ?_;refine ss (fG hr 0) ?_;refine g5 ?_;refine pI (ι:=Nat) [(3,_),(4,_),(15,_),(16,_),(17,_),(18,_),(19,_),(192,_),(193,_),(200,_)] ⟨rfl,rfl,rfl,rfl,rfl,rfl,rfl,rfl,rfl,rfl,i6⟩ (λk=>[(201,.int .i64 (k:Nat))]) (λ_=>[]) [_,_,_,_] (λk=>uC (0) (-1000) (lL xs) (bCu xs i+bQg r.A k)) (λk=>[Fact.pure (k<=r.A.length)]) (λk=>r.A.length-k) 0 ⟨rfl,i6⟩ .nil ⟨i7 l7,i6⟩ ?_;rintro k;refine bF d7 λhinv51=>?_;refine g6 ?_;refine dP (λN=>?_) λN=>?_
   .refine g11 ?_;obtain⟨t,ht⟩:=gx r.A k;have e:=aK ht;have B:=g.wf r a t e;have Z:=oF B;have X:=wA B;refine bB (tyG t) (Has.each d8 e)<|bB (bT.sl (.slice t.B.I t.B.A.length t.B.cap) t.B.A) (Has.left (Has.left d7)) ?_;refine g3 ?_;refine ss (ixs i) ?_;refine ss (fG hr 0) ?_;refine one ?_;refine ss (ixs k) ?_;refine one ?_;refine ss (fG ht 0) ?_;refine g5 ?_;refine pI (ι:=Nat) [(3,_),(4,_),(15,_),(16,_),(17,_),(18,_),(19,_),(20,_),(192,_),(193,_),(200,_),(201,_),(212,_)] ⟨rfl,rfl,rfl,rfl,rfl,rfl,rfl,rfl,rfl,rfl,rfl,rfl,rfl,i6⟩ (λs=>[(213,.int .i64 (s:Nat))]) (λ_=>[]) [_,_,_,_] (λs=>uC (0) (-1000) (lL xs) (bCu xs i+bQg r.A k+s)) (λs=>[Fact.pure (s<=t.B.A.length)]) (λs=>t.B.A.length-s) 0 ⟨rfl,i6⟩ .nil ⟨i7 l7,i6⟩ ?_;rintro s;refine bF d7 λhinv54=>?_;refine g6 ?_;refine dP (λM=>?_) λM=>?_
    .refine g11 ?_;obtain⟨p,o⟩:=gx t.B.A s;have c:=g.gr r a t e p (j0 o);have j:=pD c;have hpl:=iC j;have b:=bEt hr ht o;refine g3 ?_;refine ss (ixs i) ?_;refine ss (fG hr 0) ?_;refine one ?_;refine ss (ixs k) ?_;refine one ?_;refine ss (fG ht 0) ?_;refine one ?_;refine ss (ixs s) ?_;refine ss (fG o 0) ?_;refine gR (H':=_::_::_::_::_::jM _) (sh_open b [_,_,_,_]) ?_;refine g5 ?_;refine cF (ι:=Nat) [(3,_),(4,_),(15,_),(16,_),(17,_),(18,_),(19,_),(20,_),(21,_),(192,_),(193,_),(200,_),(201,_),(212,_),(213,_),(227,_)] ⟨rfl,rfl,rfl,rfl,rfl,rfl,rfl,rfl,rfl,rfl,rfl,rfl,rfl,rfl,rfl,rfl,i6⟩ (λm=>[(228,.int .i64 (m:Nat))]) (λm=>[fE.row (.slice p.I p.A.length p.cap) 43 (two (shM (0)) (shM (-1000)) p.A m)]) (λm=>[Fact.pure (m<=p.A.length)]) (λm=>p.A.length-m) 0 ⟨rfl,i6⟩ (.c0 .nil) ⟨i7 l7,i6⟩ ?_;rintro m;refine bF d7 λhinv57=>?_;refine g6 ?_;refine dP (λL=>?_) λL=>?_
     .refine g10 ?_;obtain⟨y,hy⟩:=gx p.A m;have hyn:=bPm j hy;have e1:(shM (-1000) y).n=y.n+(-1000):=rfl;have e2:(shM (0) y).n=y.n+(0):=rfl;refine g3 ?_;refine ss (ixs i) ?_;refine ss (fG hr 0) ?_;refine one ?_;refine ss (ixs k) ?_;refine one ?_;refine ss (fG ht 0) ?_;refine one ?_;refine ss (ixs s) ?_;refine ss (fG o 0) ?_;refine one ?_;refine ss (cA hT (k:=m) (cI .head) rfl rfl rfl rfl rfl uQ.symm rfl (by rw[uQ];omega)) ?_;refine one ?_;refine ss (j6 hT (dD.knows (cI .head) (k:=m) (x:=(shM (-1000) y)) (bSk hy) 0)) ?_;refine one ?_;refine bJ (z':=(shM (0) y).n) (vT l7 l7 l7) ?_;refine ss (cA hT (k:=m) (cI .head) rfl rfl rfl rfl rfl uQ.symm rfl (by rw[uQ];omega)) ?_;refine one ?_;refine fN hT (k:=m) (fo:=0) (y':=(shM (0) y)) .head rfl rfl rfl rfl rfl rfl rfl rfl rfl (bSk hy) rfl ?_;refine g5 ?_;refine inc (m+1) ?_;refine g3 ?_;rw[two_set hy];exact dA (m+1) l7 ⟨rfl,i6⟩ ⟨rfl,rfl,rfl,rfl,rfl,rfl,rfl,rfl,rfl,rfl,rfl,rfl,rfl,rfl,rfl,rfl,i6⟩ (.c0 (.c0 (.c0 (.c0 (.cons .head Sel.self))))) ⟨i7 l7,i6⟩ (bA.drop 1)
     refine g8 ?_;refine inc (s+1) ?_;refine g3 ?_;refine at_sel (R:=_::_::_::_::_::jM _) (.c0 (.c0 (.c0 (.c0 (.cons .head Sel.self))))) ?_;refine gR (H':=_::_::_::_::jM _) (sh_close b (n:=m) l7 [_,_,_,_]) ?_;exact oA (s+1) l7 ⟨rfl,i6⟩ ⟨rfl,rfl,rfl,rfl,rfl,rfl,rfl,rfl,rfl,rfl,rfl,rfl,rfl,i6⟩ (.c0 (.c0 (.c0 (.cons .head Sel.self)))) ⟨i7 l7,i6⟩ (bA.drop 2)
    refine g8 ?_;refine inc (k+1) ?_;refine g3 ?_;refine gR (H':=_::_::_::_::jM (uC (0) (-1000) (lL xs) (bCu xs i+bQg r.A (k+1)))) (xR (congrArg (uC (0) (-1000) (lL xs)) ae2) [_,_,_,_]) ?_;exact oA (k+1) l7 ⟨rfl,i6⟩ ⟨rfl,rfl,rfl,rfl,rfl,rfl,rfl,rfl,rfl,rfl,i6⟩ (.c0 (.c0 (.c0 (.cons .head Sel.self)))) ⟨i7 l7,i6⟩ (bA.drop 4)
   refine g8 ?_;refine inc (i+1) ?_;refine g3 ?_;have h9:bCu xs (i+1)=bCu xs i+(bFr r.A).length:=bIr hr;refine gR (H':=_::_::_::_::jM (uC (0) (-1000) (lL xs) (bCu xs (i+1)))) (xR (congrArg (uC (0) (-1000) (lL xs)) af7) [_,_,_,_]) ?_;exact oA (i+1) l7 ⟨rfl,i6⟩ ⟨rfl,rfl,rfl,rfl,rfl,rfl,rfl,i6⟩ (.c0 (.c0 (.c0 (.cons .head Sel.self)))) ⟨i7 l7,i6⟩ (bA.drop 4)
  refine g6 ?_;refine gR (H':=_::_::_::_::jM (lL xs)) (xR (fam_stop (Nat.le_of_eq (bPz (f:=λs:Sl TyV=>bFr s.A) (l:=xs) (i:=i) l7).symm)) [_,_,_,_]) ?_;refine g4 ?_;refine ss (j3 (bDk)) ?_;refine ss (tZ ⟨(dX P.pr).2.1,(dX P.pr).2.2⟩ ⟨0,0⟩ rfl rfl rfl) ?_;refine bC (t':=true) (by simp[nO,hf]) ?_;refine g3 ?_;refine ss (j3 (bDk)) ?_;refine ss (tZ ⟨(dX P.pr).2.1,(dX P.pr).2.2⟩ ⟨0,0⟩ rfl rfl rfl) ?_;refine bC (t':=true) (by simp[nO,hf]) ?_;refine g4 ?_;refine j2 func8 (bOg A12 A16 c13 c17 xs14 xs18 (rows_few D) (rows_big D)) ⟨f3,e9,d9,d8,i6⟩ λ_=>?_;refine bC (t':=true) (decide_eq_true (D.trans K.symm)) ?_;refine g4 ?_;refine gR (H':=jM (lL xs)++[_,_,_,_]) (Z1 (l₁:=[_,_,_,_])) ?_;refine hQ (bY func8 rfl rfl) (bOg xA A16 xc c17 xs xs18 (rows_few C) (rows_big C)) rfl rfl rfl rfl rfl .nil (pR.frontP _ _) (bSu _ (rows_le g)) ⟨(Has.of (u8 mT7)),bXh (Has.of wH) d7,e6,d9,i6⟩ (λ_=>True) (λ_ _ _ _=>trivial) λ_ _=>?_;refine bC (t':=true) (decide_eq_true (C.trans K.symm)) ?_;refine g5 ?_;exact rs1 () trivial
 refine g2 ?_;refine ss (j3 (bDk)) ?_;refine ss (fY ⟨(dX P.pr).2.1,(dX P.pr).2.2⟩ ⟨0,0⟩ rfl rfl rfl) ?_;refine bC (t':=true) (flt_no hf) ?_;refine g4 ?_;have hnil:xs.length=0:=by have h:=congrArg Q8 (C.trans (types_no hf));rwa[O4]at h
 refine g6 ?_;refine bC (t':=true) (decide_eq_true l7) ?_;refine g6 ?_;exact rs1 () trivial
