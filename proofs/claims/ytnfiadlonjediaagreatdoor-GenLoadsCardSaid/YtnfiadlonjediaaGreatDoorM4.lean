/- Texts of one proof, one behind the other: RunM, Open, Held, Str, Fun, RunC, RunD. -/
import Derived.Test.YtnfiadlonjediaaGreatDoorM2
import Derived.Test.YtnfiadlonjediaaGreatDoorM1
import Derived.ProofKit
import Derived.OpenShut
import Derived.Carry
import Derived.SizedLaws
import Derived.Deep.Slices
import Derived.Scope
import Derived.Test.YtnfiadlonjediaaGreatDoorM3
namespace Go.Proofs.YtnfiadlonjediaaGreatDoor
section
namespace X
open Go.RowKit
section
variable {P : Program} {ops : Array Oper} {md : Region.Mode} {C : World -> Prop} {R : Array Bool -> Act -> World -> Prop}
def bPp (P:Program)(w:World)(v:Value):Result Next->Prop
 |.ok (.value u) w'=>w'=w/\u=v
 |.ok (.enter f args) w'=>w'=w/\Calls P f args w λe w''=>e= .returned v/\Below w.heap.size w w''
 |_=>False
def looksAt(P:Program)(o:Oper)(a:Act)(C:World->Prop)(v:Value):Prop:= ∀w,C w->bPp P w v ((execOp a.eval o).run P w)
def Fq (P:Program)(ops:Array Oper)(C:World->Prop)(o:Oper)(v:Value)(a:Act):Prop:=
 (Region.wanted o (yielded ops a.tmps)=true/\looksAt P o a C v)\/(Region.wanted o (yielded ops a.tmps)=false/\v=undef)
theorem Fq.of_same{o:Oper}{v:Value}{a a':Act}(hy:Fq P ops C o v a)(he:execOp a'.eval o=execOp a.eval o)
  (hw:Region.wanted o (yielded ops a'.tmps)=Region.wanted o (yielded ops a.tmps)):Fq P ops C o v a':=by
 unfold Fq looksAt at*;rw[he,hw];exact hy
theorem Fq.fOp{i:Nat}{o:Oper}{v:Value}{a:Act}{w:World}(hi:ops[i]?=some o)(hy:Fq P ops C o v a)(hC:C w){K:Act->World->Prop}(h: ∀w',Below w.heap.size w w'->K (a.put o.dst v) w'):fOp P ops i K a w:=λo' ho'=>by
 have:o'=o:=Option.some.inj (ho'.symm.trans hi);subst this;apply kJ
 rcases hy with ⟨hw,hv⟩|⟨hw,rfl⟩
 .simp only[hw,if_true];have h1:=hv w hC;unfold Oper.wp;generalize (execOp a.eval o').run P w=r at*
  cases r with
  |ok n w'=>
   cases n<;>simp only[bPp]at h1<;>simp only[Oper.upon]
   case value u=>
    obtain⟨rfl,rfl⟩:=h1;exact h _ (Below.refl _ _)
   case enter f args=>
    obtain⟨rfl,h2⟩:=h1
    exact h2.mono λe w'' ⟨he,hb⟩=>by
     subst he;exact h _ hb
  |halt x w'=>exact h1.elim
 .simp only[hw,Bool.false_eq_true,if_false];exact h _ (Below.refl _ _)
theorem fOp_putq{j:Nat}{oi oj:Oper}{v:Value}(hj:ops[j]?=some oj)(hap:oi.apart ops oj=true)
  (hsi: ∀cs b,oi.op≠ .select cs b) (hsj: ∀cs b,oj.op≠ .select cs b) {K:Act->World->Prop} {a:Act} {w:World}
  (hy:Fq P ops C oi v a) (h:fOp P ops j K (a.put oi.dst v) w):fOp P ops j (λa' w'=>Fq P ops C oi v a'/\K (a'.put oi.dst v) w') a w:=λo ho=>by
 have:o=oj:=Option.some.inj (ho.symm.trans hj);subst this;obtain⟨h1,h2,h3⟩:=Oper.apart_spec hap
 have keep: ∀(a:Act),Fq P ops C oi v a-> ∀u,Fq P ops C oi v (a.put o.dst u):=λa hy u=>
  hy.of_same (execOp_put oi hsi a o.dst u h3) (wanted_put oi a o.dst u h3)
 have h:=wpNm (h o ho);rw[wanted_put o a oi.dst v h1]at h;apply kJ;split
 .rename_i hw;simp only[hw,if_true]at h;refine nQ (execOp_put o hsj a oi.dst v h1).symm (λu w' h'=>⟨keep a hy u,by rw[<-Act.put_comm a v u h2];exact h'⟩) (λd w' h'=>?_) h;refine⟨keep {a with defers:=d::a.defers} hy undef,?_⟩;rw[<-Act.put_comm {a with defers:=d::a.defers} v undef h2]
  have:({a.put oi.dst v with defers:=d::(a.put oi.dst v).defers}:Act)=({a with defers:=d::a.defers}:Act).put oi.dst v:=by
   cases oi.dst<;>rfl
  rw[<-this];exact h'
 .rename_i hw;simp only[hw]at h;exact⟨keep a hy _,by rw[<-Act.put_comm a v undef h2];exact h⟩
def tH (P:Program)(md:Region.Mode)(ops:Array Oper)(C:World->Prop)(R:Array Bool->Act->World->Prop):Nat->Array Bool->Act->World->Prop
 |0,listed,a,w=> ∀w',Below w.heap.size w w'->C w'/\R listed a w'
 |fuel+1,listed,a,w=> ∀w',Below w.heap.size w w'->C w'/\Region.ready md ops listed≠[]/\ ∀i∈Region.ready md ops listed,fOp P ops i (tH P md ops C R fuel (listed.setIfInBounds i true)) a w'
theorem nC{a b c:World}(h:Below a.heap.size a b)(k:Below b.heap.size b c):Below a.heap.size a c:=h.trans (k.mono h.size)
theorem tH.grow: ∀{fuel:Nat} {listed:Array Bool} {a:Act} {w w':World},tH P md ops C R fuel listed a w->Below w.heap.size w w'->tH P md ops C R fuel listed a w'
 |0,_,_,_,_,h,hb=>λw'' hb'=>h w'' (nC hb hb')
 |_+1,_,_,_,_,h,hb=>λw'' hb'=>h w'' (nC hb hb')
theorem vS{Q:Exit->Act->World->Prop}(m:Nat)(hR: ∀listed a w,R listed a w->wpAny P md ops Q m listed a w): ∀(fuel:Nat) (listed:Array Bool) (a:Act) (w:World),tH P md ops C R fuel listed a w->wpAny P md ops Q (fuel+m) listed a w
 |0,listed,a,w,h=>by
  rw[Nat.zero_add];exact hR _ _ _ (h w (Below.refl _ _)).2
 |fuel+1,listed,a,w,h=>by
  rw[Nat.succ_add];obtain⟨_,h1,h2⟩:=h w (Below.refl _ _);refine⟨λe=>absurd e h1,λi hi=>?_⟩;have hf:=h2 i hi;unfold wpOp;split
  .rename_i ho;obtain⟨_,oi,hoi,_⟩:=mem_ready.1 hi;rw[ho]at hoi;cases hoi
  .rename_i o ho;have h1:=wpNm (hf o ho);split
   .rename_i hw;simp only[hw,if_true]at h1;exact .inl (nQ rfl (λu w' h'=>vS m hR fuel _ _ _ h') (λd w' h'=>vS m hR fuel _ _ _ h') h1)
   .rename_i hw;simp only[hw]at h1;exact vS m hR fuel _ _ _ h1
theorem wpAnyG_first{i:Nat}{oi:Oper}{v:Value}(hi:ops[i]?=some oi)(hsel: ∀(j:Nat) (o:Oper) cs b,ops[j]?=some o->o.op≠ .select cs b)(hR: ∀listed a w,R listed a w-> ∀j∈Region.ready md ops listed,waits md ops j i=true):
  ∀(fuel:Nat) (listed:Array Bool) (a:Act) (w:World),mV md ops listed->
   (∀j oj,ops[j]?=some oj->j≠i->listed.getD j true=false->(∀e∈oj.after,Region.binds md e=true->e.on≠i)->oi.apart ops oj=true)->
   i∈Region.ready md ops listed->Fq P ops C oi v a->
   tH P md ops C R fuel (listed.setIfInBounds i true) (a.put oi.dst v) w->tH P md ops C R (fuel+1) listed a w:=by
 have hun: ∀{listed:Array Bool},i∈Region.ready md ops listed->listed.getD i false≠true:=λ{listed} hr e=>by
  have h0:=(mem_ready.1 hr).1
  rcases Nat.lt_or_ge i listed.size with h'|h'
  .simp[h']at h0 e;rw[h0]at e;cases e
  .simp[Array.getElem?_eq_none h']at e
 intro fuel
 induction fuel with
 |zero=>
  intro listed a w hc _ hr hy H w' hb;obtain⟨hC,hend⟩:=H w' hb;refine⟨hC,λh=>r9,λj hj=>?_⟩
  by_cases hji:j=i
  .subst hji;exact hy.fOp hi hC λw'' hb'=>H.grow (nC hb hb')
  .exact absurd hj (bQn hc (hR _ _ _ hend j (ready_mono hj hji)) (hun hr))
 |succ fuel ih=>
  intro listed a w hc hfree hr hy H w' hb;obtain⟨hC,_,hall⟩:=H w' hb;refine⟨hC,λh=>r9,λj hj=>?_⟩
  by_cases hji:j=i
  .subst hji;exact hy.fOp hi hC λw'' hb'=>H.grow (nC hb hb')
  .have h1:=hall j (ready_mono hj hji);obtain⟨hjun,oj,hoj,hafter⟩:=mem_ready.1 hj
   have hnot: ∀e∈oj.after,Region.binds md e=true->e.on≠i:=λe he hb heq=>by
    have h1:=hafter e he hb;rw[heq]at h1;exact hun hr h1
   have h2:=fOp_putq hoj (hfree j oj hoj hji hjun hnot) (λcs b=>hsel i oi cs b hi) (λcs b=>hsel j oj cs b hoj) hy h1;have hfree': ∀k ok,ops[k]?=some ok->k≠i->(listed.setIfInBounds j true).getD k true=false->
     (∀e∈ok.after,Region.binds md e=true->e.on≠i)->oi.apart ops ok=true:=λk ok hk hki hun hno=>by
    refine hfree k ok hk hki ?_ hno
    by_cases hjk:j=k
    .subst hjk;exact hjun
    .rw[getD_set_ne true hjk]at hun;exact hun
   refine fR (λa' w' h3=>ih (listed.setIfInBounds j true) a' w' (hc.set hj) hfree' (ready_mono hr (Ne.symm hji)) h3.1 ?_) h2;rw[Array.setIfInBounds_comm _ _ hji];exact h3.2
def mD (P:Program)(ops:Array Oper)(C:World->Prop)(K:Act->World->Prop):List (Bool×Nat)->Option Nat->Act->World->Prop
 |[],_,a,w=> ∀w',Below w.heap.size w w'->C w'/\K a w'
 |(true,k)::r,p,a,w=> ∃o v,ops[k]?=some o/\Fq P ops C o v a/\mD P ops C K r p (a.put o.dst v) w
 |(false,k)::r,p,a,w=>if p=some k then mD P ops C K r none a w else ∀w',Below w.heap.size w w'->C w'/\(if k<4096 then fOp P ops k (λa w=>mD P ops C K r p a w) a w'
   else if wE<=k then fOp P ops (oZ k) (λa w=>mD P ops C K r none a w) a w'/\
    fOp P ops (sC k) (λa w=> ∀w',Below w.heap.size w w'->C w'/\fOp P ops (oZ k) (λa w=>mD P ops C K r (some (sC k)) a w) a w') a w'
   else fOp P ops (k%4096) (λa w=> ∀w',Below w.heap.size w w'->C w'/\fOp P ops (k/4096-1) (λa w=>mD P ops C K r p a w) a w') a w'/\
    fOp P ops (k/4096-1) (λa w=> ∀w',Below w.heap.size w w'->C w'/\fOp P ops (k%4096) (λa w=>mD P ops C K r p a w) a w') a w')
def bLt (P:Program)(ops:Array Oper)(K:Act->World->Prop):List Nat->Act->World->Prop
 |[],a,w=>K a w
 |l::r,a,w=>fOp P ops l (bLt P ops K r) a w
def EndT (P:Program)(md:Region.Mode)(ops:Array Oper)(Q:Exit->Act->World->Prop)(ls:List Nat)(listed:Array Bool)(a:Act)(w:World):Prop:=bPf md ops ls listed=true/\bLt P ops (Q .normal) ls a w
theorem bAz{Q:Exit->Act->World->Prop}: ∀(ls:List Nat) (listed:Array Bool) (a:Act) (w:World),EndT P md ops Q ls listed a w->wpAny P md ops Q ls.length listed a w
 |[],listed,a,w,h=>⟨by simpa[bPf]using h.1,h.2⟩
 |l::r,listed,a,w,h=>by
  obtain⟨h1,h2⟩:=h;simp only[bPf,Bool.and_eq_true,beq_iff_eq]at h1;refine⟨λe=>(by rw[h1.1]at e;cases e),λi hi=>?_⟩;rw[h1.1]at hi;have:i=l:=by simpa using hi
  subst this;unfold wpOp;split
  .rename_i ho;have hl:i∈Region.ready md ops listed:=by rw[h1.1];simp
   obtain⟨_,oi,hoi,_⟩:=mem_ready.1 hl;rw[ho]at hoi;cases hoi
  .rename_i o ho;have h3:=wpNm (h2 o ho);split
   .rename_i hw;simp only[hw,if_true]at h3;exact .inl (nQ rfl (λu w' h'=>bAz r _ _ _ ⟨h1.2,h'⟩) (λd w' h'=>bAz r _ _ _ ⟨h1.2,h'⟩) h3)
   .rename_i hw;simp only[hw]at h3;exact bAz r _ _ _ ⟨h1.2,h3⟩
theorem bDo{j l:Nat}(h:bCv ops j l=true): ∃oj ol,ops[j]?=some oj/\ops[l]?=some ol/\lateO ol=true/\ol.apart ops oj=true/\j≠l:=by
 unfold bCv at h;rw[qK]at h
 cases hj:ops[j]? with
 |none=>rw[hj]at h;cases h
 |some oj=>
  rw[hj]at h;simp only at h;rw[qK]at h
  cases hl:ops[l]? with
  |none=>rw[hl]at h;cases h
  |some ol=>
   rw[hl]at h;simp only[Bool.and_eq_true,Bool.not_eq_true']at h;refine⟨oj,ol,rfl,rfl,h.1,h.2.1,λe=>?_⟩;rw[e,Nat.beq_refl]at h;cases h.2.2.2
theorem zZ{j l:Nat}{listed:Array Bool}(h:pairB md ops j l listed=true):bCv ops j l=true/\Region.ready md ops listed≠[]/\(∀i∈Region.ready md ops listed,i=j\/i=l)/\j∈Region.ready md ops listed/\l∈Region.ready md ops listed/\Region.ready md ops (listed.setIfInBounds j true)=[l]/\Region.ready md ops (listed.setIfInBounds l true)=[j]:=by
 unfold pairB at h;simp only[Bool.and_eq_true,Bool.or_eq_true,beq_iff_eq]at h;obtain⟨h1,h2,h3,h4⟩:=h
 rcases h2 with h2|h2
 .refine⟨h1,by rw[h2];simp,λi hi=>?_,by rw[h2];simp,by rw[h2];simp,h3,h4⟩;rw[h2]at hi
  simpa using hi
 .refine⟨h1,by rw[h2];simp,λi hi=>?_,by rw[h2];simp,by rw[h2];simp,h3,h4⟩;rw[h2]at hi;simp at hi;exact hi.symm
theorem wpAnyG_pair{j l n:Nat}{R:Array Bool->Act->World->Prop}{K:Act->World->Prop}{listed:Array Bool}{a:Act}{w':World}(hp:pairB md ops j l listed=true)
  (hk: ∀a w,K a w->tH P md ops C R n ((listed.setIfInBounds j true).setIfInBounds l true) a w)
  (h:C w'/\fOp P ops j (λa w=> ∀w',Below w.heap.size w w'->C w'/\fOp P ops l K a w') a w'/\fOp P ops l (λa w=> ∀w',Below w.heap.size w w'->C w'/\fOp P ops j K a w') a w'):
  C w'/\Region.ready md ops listed≠[]/\ ∀i∈Region.ready md ops listed,fOp P ops i (tH P md ops C R (n+1) (listed.setIfInBounds i true)) a w':=by
 obtain⟨hlate,hne,hall,_,_,r1,r2⟩:=zZ hp;obtain⟨_,_,_,_,_,_,hjl⟩:=bDo hlate;obtain⟨hC,h1,h2⟩:=h;refine⟨hC,hne,λi hi=>?_⟩
 rcases hall i hi with rfl|rfl
 .refine fR (λa1 w1 k1=>?_) h1;intro w2 hb2;obtain⟨c2,f2⟩:=k1 w2 hb2;refine⟨c2,by rw[r1];simp,λm hm=>?_⟩;rw[r1]at hm;obtain rfl:m=l:=by simpa using hm
  exact fR hk f2
 .refine fR (λa1 w1 k1=>?_) h2;intro w2 hb2;obtain⟨c2,f2⟩:=k1 w2 hb2;refine⟨c2,by rw[r2];simp,λm hm=>?_⟩;rw[r2]at hm;obtain rfl:m=j:=by simpa using hm
  rw[Array.setIfInBounds_comm _ _ (Ne.symm hjl)];exact fR hk f2
theorem pair_closed{j l:Nat}{listed:Array Bool}(hc:mV md ops listed)(hp:pairB md ops j l listed=true):mV md ops ((listed.setIfInBounds j true).setIfInBounds l true):=by
 obtain⟨_,_,_,hj,_,r1,_⟩:=zZ hp;exact(hc.set hj).set (by rw[r1];simp)
theorem bOu{l:Nat}(hl:l<4096): ∀{r:List (Bool×Nat)},xA ops l r=true->wB r none=wB r (some l)+1
 |[],h=>by cases h
 |(true,k)::r,h=>by
  simp only[xA,Bool.and_eq_true]at h;simp only[wB,bOu hl h.2]
 |(false,k)::r,h=>by
  obtain rfl:k=l:=Nat.eq_of_beq_eq_true h;simp[wB,hl]
theorem late_of{j l:Nat}(h:bPi ops j l=true):bCv ops j l=true/\l<4096/\ ∃ol,ops[l]?=some ol/\isAl ol.op=true:=by
 unfold bPi at h;simp only[Bool.and_eq_true,Nat.blt_eq]at h;refine⟨h.1,h.2.1,?_⟩;have h2:=h.2.2;rw[qK]at h2
 cases hl:ops[l]? with
 |none=>rw[hl]at h2;cases h2
 |some ol=>rw[hl]at h2;exact⟨ol,rfl,h2⟩
theorem bFx{j l:Nat}{listed:Array Bool}(h:earlyB md ops j l listed=true):bPi ops j l=true/\Region.ready md ops listed≠[]/\(∀i∈Region.ready md ops listed,i=j\/i=l)/\j∈Region.ready md ops listed/\l∈Region.ready md ops listed/\Region.ready md ops (listed.setIfInBounds l true)=[j]:=by
 unfold earlyB at h;simp only[Bool.and_eq_true,Bool.or_eq_true,beq_iff_eq]at h;obtain⟨h1,h2,h4⟩:=h
 rcases h2 with h2|h2
 .refine⟨h1,by rw[h2];simp,λi hi=>?_,by rw[h2];simp,by rw[h2];simp,h4⟩;rw[h2]at hi
  simpa using hi
 .refine⟨h1,by rw[h2];simp,λi hi=>?_,by rw[h2];simp,by rw[h2];simp,h4⟩;rw[h2]at hi;simp at hi;exact hi.symm
theorem lN{Q:Exit->Act->World->Prop}{ls:List Nat}(hs:Region.noSelect ops=true): ∀(od:List (Bool×Nat)) (p:Option Nat) (listed:Array Bool) (a:Act) (w:World),mV md ops listed->iJ md ops ls od p listed=true->mD P ops C (bLt P ops (Q .normal) ls) od p a w->tH P md ops C (EndT P md ops Q ls) (wB od p) listed a w
 |[],p,listed,a,w,_,hB,h=>λw' hb=>⟨(h w' hb).1,by simp only[iJ,Bool.and_eq_true]at hB;exact hB.2,(h w' hb).2⟩
 |(true,k)::r,p,listed,a,w,hc,hB,h=>by
  simp only[iJ,Bool.and_eq_true]at hB;obtain⟨o,v,ho,hy,hK⟩:=h
  exact wpAnyG_first ho (Region.noSelect_spec hs) (λlisted' _ _ h j hj=>by
   have h1:=h.1;have h2:=hB.2.2.1
   revert h1 h2
   cases ls with
   |nil=>
    intro h1 _;have h1:(Region.ready md ops listed').isEmpty=true:=h1;rw[List.isEmpty_iff.1 h1]at hj;cases hj
   |cons l ls=>
    intro h1 h2;simp only[bPf,Bool.and_eq_true,beq_iff_eq]at h1;rw[h1.1]at hj;obtain rfl:j=l:=by simpa using hj
    exact h2) (wB r p) listed a w hc (Region.free_spec ho hB.2.1) (by simpa using hB.1) hy (lN hs r p _ _ _ (hc.set (by simpa using hB.1)) hB.2.2.2 hK)
 |(false,k)::r,p,listed,a,w,hc,hB,h=>by
  by_cases hp:p=some k
  .simp only[iJ,hp,if_true]at hB;simp only[wB,hp,if_true];simp only[mD,hp,if_true]at h;exact lN hs r none listed a w hc hB h
  .simp only[mD,hp,if_false]at h
   by_cases hk:k<4096
   .simp only[iJ,hp,hk,if_false,if_true,Bool.and_eq_true,beq_iff_eq]at hB;simp only[wB,hp,hk,if_false,if_true];intro w' hb;obtain⟨hC,hf⟩:=h w' hb;rw[if_pos hk]at hf;refine⟨hC,λh0=>t6,λi hi=>?_⟩;rw[hB.1]at hi;have:i=k:=by simpa using hi
    subst this;exact fR (λa' w' h'=>lN hs r p _ _ _ (hc.set (by rw[hB.1];simp)) hB.2 h') hf
   .by_cases hq:wE<=k
    .simp only[iJ,hp,hk,hq,if_false,if_true,Bool.and_eq_true]at hB;obtain⟨hE,hF,hN,hB1,hB2⟩:=hB;obtain rfl:p=none:=by simpa using hN
     simp only[wB,hp,hk,hq,if_false,if_true];obtain⟨hla,hne,hall,hj,hl,r2⟩:=bFx hE;intro w' hb;obtain⟨hC,hf⟩:=h w' hb;rw[if_neg hk,if_pos hq]at hf;refine⟨hC,hne,λi hi=>?_⟩
     rcases hall i hi with e|e
     .rw[e];exact fR (λa1 w1 h1=>lN hs r none _ a1 w1 (hc.set hj) hB1 h1) hf.1
     .rw[e];rw[bOu (late_of hla).2.1 hF];refine fR (λa1 w1 k1=>?_) hf.2;intro w2 hb2;obtain⟨c2,f2⟩:=k1 w2 hb2;refine⟨c2,by rw[r2];simp,λm hm=>?_⟩;rw[r2]at hm;have e:m=oZ k:=List.mem_singleton.1 hm;rw[e];exact fR (λa2 w2 h2=>lN hs r _ _ a2 w2 ((hc.set hl).set (by rw[r2];simp)) hB2 h2) f2
    .simp only[iJ,hp,hk,hq,if_false,Bool.and_eq_true]at hB;simp only[wB,hp,hk,hq,if_false];intro w' hb;have hf:=h w' hb;rw[if_neg hk,if_neg hq]at hf;exact wpAnyG_pair hB.1 (λa1 w1 h1=>lN hs r p _ _ _ (pair_closed hc hB.1) hB.2 h1) hf
theorem region_tail{Q:Exit->Act->World->Prop}{id:Nat}{ls:List Nat}{od:List (Bool×Nat)}{a:Act}{w:World}(hm:P.follows .mixedOrders=true)(hB:xG ls od ops=true)(h:mD P ops C (bLt P ops (Q .normal) ls) od none a w.drew):(Code.region id ops true).wp P Q a w:=by
 simp only[xG,Bool.and_eq_true]at hB;refine wp_region_any hm ?_;have:=vS (P:=P) (md:= .any) (C:=C) (R:=EndT P .any ops Q ls) (Q:=Q) ls.length (bAz ls) (wB od none) (Array.replicate ops.size false) a _ (lN hB.1 od none _ a _ mV.none hB.2.2 h);rw[Nat.eq_of_beq_eq_true hB.2.1]at this;exact this
theorem bPh{j:Nat}{oi oj:Oper}{v:Value}(hj:ops[j]?=some oj)(hap:oi.apart ops oj=true)(hsj: ∀cs b,oj.op≠ .select cs b){K:Act->World->Prop}{a:Act}{w:World}
  (h:fOp P ops j (λa' w'=>K (a'.put oi.dst v) w') a w):fOp P ops j K (a.put oi.dst v) w:=λo ho=>by
 have:o=oj:=Option.some.inj (ho.symm.trans hj);subst this;obtain⟨h1,h2,h3⟩:=Oper.apart_spec hap;have h:=wpNm (h o ho);apply kJ;rw[wanted_put o a oi.dst v h1];split
 .rename_i hw;simp only[hw,if_true]at h;refine nQ (execOp_put o hsj a oi.dst v h1) (λu w' h'=>by rw[Act.put_comm a v u h2];exact h') (λd w' h'=>?_) h;have h':K (({a with defers:=d::a.defers}.put o.dst undef).put oi.dst v) w':=h';rw[<-Act.put_comm {a with defers:=d::a.defers} v undef h2]at h'
  have:({a.put oi.dst v with defers:=d::(a.put oi.dst v).defers}:Act)=({a with defers:=d::a.defers}:Act).put oi.dst v:=by
   cases oi.dst<;>rfl
  rw[this];exact h'
 .rename_i hw;simp only[hw]at h;rw[Act.put_comm a v undef h2];exact h
end
end X
end
section
open Go.RowKit Go.ChangeShapes Go.WideShapes
structure Sl (α:Type) where
 addr:Option Addr
 cap:Nat
 list:List α
instance {α : Type} : Inhabited (Sl α) := ⟨none, 0, []⟩
def Sl.v {α:Type}(s:Sl α):Value:= .slice s.addr s.list.length s.cap
def bC.and(f g:bC):bC:=⟨λS w=>f.p S w/\g.p S w,λhs ha h=>⟨f.mono hs ha h.1,g.mono hs ha h.2⟩⟩
def bC.each{α:Type}(xs:List α)(g:α->bC):bC:=⟨λS w=> ∀x∈xs,(g x).p S w,λhs ha h x hx=>(g x).mono hs ha (h x hx)⟩
def bC.true:bC:=⟨λ_ _=>True,λ_ _ h=>h⟩
section
variable {F : List bC} {f g : bC} {α : Type}
theorem Has.left(h:Has F (f.and g)):Has F f:=λS w k=>(h S w k).1
theorem Has.right(h:Has F (f.and g)):Has F g:=λS w k=>(h S w k).2
theorem Has.and(h:Has F f)(k:Has F g):Has F (f.and g):=λS w q=>⟨h S w q,k S w q⟩
theorem Has.each{xs:List α}{g:α->bC}(h:Has F (bC.each xs g)){x:α}(hx:x∈xs):Has F (g x):=λS w k=>h S w k x hx
theorem Has.true:Has F bC.true:=λ_ _ _=>trivial
end
structure Ty (α:Type) where
 E:Flat α
 deep:α->bC
def Ty.sl {α:Type}(T:Ty α)(s:Sl α):bC:=(T.E.sl s.v s.list).and (bC.each s.list T.deep)
section
variable {F : List bC} {α : Type} {T : Ty α}
theorem Has.cells{s:Sl α}(h:Has F (T.sl s)):Has F (T.E.sl (.slice s.addr s.list.length s.cap) s.list):=h.left
theorem Has.at{s:Sl α}(h:Has F (T.sl s)){k:Nat}{x:α}(hx:s.list[k]?=some x):Has F (T.deep x):=h.right.each (f5 hx)
end
def nK {α H:Type}(enc:TypeId×Value->H)(P:Program)(w:World)(t:TypeId)(cells:α->List Value)(deep:α->bC):Prop:=
 ∀fuel cs x,DataW.trod enc P w 0 (λ_=>true) true fuel t cs=some x->(∀n∈x.1.weights P t,n<=reachBytes)-> ∃a,cs=cells a/\(deep a).p (λb=>b<w.heap.size) w
section
variable {H : Type} {enc : TypeId × Value -> H} {P : Program} {w : World} {t e : TypeId}
theorem spotOf{a:Addr}{v:Value}(h:w.cell? a=some v):a.spot=none:=by
 unfold World.cell? at h;split at h
 .cases hs:a.spot with
  |none=>rfl
  |some x=>rw[hs]at h;simp at h
 .cases h
theorem fP{k:IntKind}(hu:P.underlying t=some (.int k)):nK enc P w t (λz:Int=>[.int k z]) (λz=>bC.pure ((Lit.int k z).wf=true)):=λfuel cs x h _=>by
 obtain⟨n,e,_,hw⟩:=DataW.trod_int hu h;exact⟨n,e,hw⟩
theorem bFl{d:DataW H}: ∀{ds:List (DataW H)},d∈ds-> ∀n∈d.weights P e,n∈DataW.weightsAll P e ds
 |[],h,_,_=>by simp at h
 |d0::ds,h,n,hn=>by
  rw[DataW.weightsAll,List.mem_append]
  rcases List.mem_cons.1 h with rfl|h
  .exact .inl hn
  .exact .inr (bFl h n hn)
theorem opens_slice{α:Type} [Inhabited α]{T:Ty α}(hu:P.underlying t=some (.slice e))(hc:P.cellsOf e=T.E.size)(he:nK enc P w e T.E.cells T.deep):
  nK enc P w t (λs:Sl α=>[s.v]) (λs=>(T.sl s).and (bC.pure (s.list.length*P.bytesOf e<=140737488355328))):=λfuel cs x h hw=>by
 rcases Deep.open_slice hu h with ⟨rfl,_⟩|⟨a,len,cap,m,n,D,Pl,rfl,_,hl,_,hm,rfl,hi⟩
 .exact⟨⟨none,0,[]⟩,rfl,⟨⟨none,0,rfl,λk x hk=>by simp at hk⟩,λx hx=>by simp at hx⟩,by show 0*_<=_;omega⟩
 .have hlm:len<=m:=by rw[hm];simp;exact hl
  have hwl:len*P.bytesOf e<=140737488355328:=by
   have:=hw ((((List.range len).map D).length+((List.range (m-len)).map λj=>D (len+j)).length)*P.bytesOf e) (by simp[DataW.weights,hu]);have h2:len*P.bytesOf e<=(len+(m-len))*P.bytesOf e:=Nat.mul_le_mul_right _ k7;simp only[List.length_map,List.length_range]at this;unfold reachBytes at this;omega
  have hel: ∀i,i<len-> ∃q:α,(∀j,j<T.E.size->w.cell? ((a.add (i*T.E.size)).add j)=(T.E.cells q)[j]?)/\(T.deep q).p (λb=>b<w.heap.size) w:=λi hil=>by
   obtain⟨cs',hc',ht⟩:=hi i k7;rw[hc]at hc';obtain⟨_,hcl,hat⟩:=World.cells?_some hc'
   obtain⟨q,hq,hd⟩:=he _ _ _ ht (λn hn=>hw n (by
    simp only[DataW.weights,hu,List.mem_cons,List.mem_append]
    exact .inr (.inl (bFl (List.mem_map.2 ⟨i,by simpa using hil,rfl⟩) n hn))))
   exact⟨q,λj hj=>by rw[hat j hj,hq],hd⟩
  obtain⟨f,hf⟩: ∃f:Nat->α,∀i,i<len->(∀j,j<T.E.size->w.cell? ((a.add (i*T.E.size)).add j)=(T.E.cells (f i))[j]?)/\(T.deep (f i)).p (λb=>b<w.heap.size) w:=
   ⟨λi=>if h:i<len then (hel i h).choose else default,λi hil=>by simp only[dif_pos hil];exact(hel i hil).choose_spec⟩
  refine⟨⟨some a,cap,(List.range len).map f⟩,by simp[Sl.v],⟨⟨some a,cap,rfl,λk q hk=>?_⟩,λq hq=>?_⟩,by show((List.range len).map f).length*_<=_;simpa using hwl⟩
  .have hkl:k<len:=by simpa using (List.getElem?_eq_some_iff.1 hk).1
   have hq:q=f k:=by
    have:=(List.getElem?_eq_some_iff.1 hk).2
    simpa using this.symm
   subst hq;have hc:=(hf k hkl).1;obtain⟨ab,ao,asp⟩:=a
   have hsp:asp=none:=by
    have h0:=(hf 0 k7).1 0 T.E.pos;have hlt:0<(T.E.cells (f 0)).length:=by rw[T.E.len];exact T.E.pos
    rw[List.getElem?_eq_getElem hlt,Nat.zero_mul]at h0;have h1:w.cell? ⟨ab,ao,asp⟩=some ((T.E.cells (f 0))[0]):=by simpa[Addr.add]using h0
    exact spotOf h1
   subst hsp
   have ea: ∀o i,(⟨ab,o,none⟩:Addr).add i=⟨ab,o+i,none⟩:=λo i=>by
    unfold Addr.add;split<;>simp_all
   refine⟨ab,ao,T.E.cells (f k),rfl,?_,λj u hj=>?_,rfl⟩
   .have hlt:0<(T.E.cells (f k)).length:=by rw[T.E.len];exact T.E.pos
    have h0:=hc 0 T.E.pos;rw[List.getElem?_eq_getElem hlt,ea,ea]at h0
    rcases Nat.lt_or_ge ab w.heap.size with hlt|hge
    .exact hlt
    .simp[World.cell?,Array.getElem?_eq_none hge]at h0
   .have hjl:j<T.E.size:=by
     have:=(List.getElem?_eq_some_iff.1 hj).1
     rwa[T.E.len]at this
    have:=hc j hjl;rw[ea,ea]at this;exact this.trans hj
  .obtain⟨i,hil,rfl⟩:=List.mem_map.1 hq;exact(hf i (by simpa using hil)).2
def slE (α:Type):Flat (Sl α) where
 size:=1
 cells:=λs=>[.slice s.addr s.list.length s.cap]
 len:=λ_=>rfl
 one:=λx u hu=>by simp at hu;subst hu;rfl
 pos:=m7
def Ty.slice{α:Type}(T:Ty α)(b:Nat):Ty (Sl α):=⟨slE α,λs=>(T.sl s).and (bC.pure (s.list.length*b<=140737488355328))⟩
theorem fD{α:Type} [Inhabited α]{T:Ty α}{b:Nat}(hu:P.underlying t=some (.slice e))(hc:P.cellsOf e=T.E.size)(hb:P.bytesOf e=b)(he:nK enc P w e T.E.cells T.deep):nK enc P w t (T.slice b).E.cells (T.slice b).deep:=by
 subst hb;exact opens_slice hu hc he
theorem cA{fs:Array Field}{ds:List (DataW H)}{R:Nat}(hu:P.underlying t=some (.struct fs))(hw: ∀n∈(DataW.agg ds).weights P t,n<=R){j:Nat}{f:Field}(hf:fs[j]?=some f){d:DataW H}(hd:ds[j]?=some d): ∀n∈d.weights P f.type,n<=R:=λn hn=>by
 refine hw n ?_;simp only[DataW.weights,hu];refine DataW.weights_mem_each (j:=j) (t:=f.type) (d:=d) ?_ hd n hn;have:fs.toList[j]?=some f:=by simpa using hf
 simp[this]
theorem nK.arg{α:Type}{cells:α->List Value}{deep:α->bC}(h:nK enc P w t cells deep){v:Value}{d:DataW H}{p:List MemPlace}(ht:DataW.Trod enc P w 0 (λ_=>true) true t v d p){ts:List TypeId}{ds:List (DataW H)}{j:Nat}
  (hsz:(DataW.weightsEach P ts ds).all (· <=reachBytes)=true) (hj:ts[j]?=some t) (hd:ds[j]?=some d): ∃a,v.cells.toList=cells a/\(deep a).p (λb=>b<w.heap.size) w:=by
 obtain⟨fuel,hf⟩:=ht
 exact h fuel _ _ hf λn hn=>by
  have:=List.all_eq_true.1 hsz _ (DataW.weights_mem_each hj hd n hn)
  simpa using this
end
def bCy:Ty Int:=⟨cF,λz=>bC.pure ((Lit.int .i64 z).wf=true)⟩
end
section
open Go.RowKit
def bDq:Array Value->Nat->List Value->Array Value
 |cs,_,[]=>cs
 |cs,o,v::r=>bDq (cs.setIfInBounds o v) (o+1) r
theorem bGv: ∀(vs:List Value) (cs:Array Value) (o:Nat),(bDq cs o vs).toList=kK cs.toList o vs
 |[],_,_=>rfl
 |v::r,cs,o=>by rw[bDq,kK,bGv r];simp
theorem bFg: ∀(vs xs:List Value) (j:Nat),(kK xs j vs).length=xs.length
 |[],_,_=>rfl
 |v::r,xs,j=>by rw[kK,bFg r];simp
theorem zI{g:Nat}{t:TypeId}{fz:Nat×Nat}: ∀(vs:List Value) (o:Nat) (w:World) (cs:Array Value),w.heap[g]?=some (.cells cs t fz)->(w.setCells g o vs).heap[g]?=some (.cells (bDq cs o vs) t fz)
 |[],_,_,_,h=>h
 |v::r,o,w,cs,h=>by
  rw[World.setCells,bDq];refine zI r (o+1) _ _ ?_;simp[World.setCell,Array.getElem?_modify,h]
theorem bQd{off:Nat}: ∀(vs bs cs:List Value) (p:Nat),(∀j u,bs[j]?=some u->cs[off+j]?=some u)-> ∀j u,(kK bs p vs)[j]?=some u->(kK cs (off+p) vs)[off+j]?=some u
 |[],_,_,_,h=>h
 |v::r,bs,cs,p,h=>by
  rw[kK,kK];refine bQd r (bs.set p v) (cs.set (off+p) v) (p+1) λj u hj=>?_
  by_cases e:p=j
  .subst e;have hlt:=(List.getElem?_eq_some_iff.1 hj).1;rw[List.length_set]at hlt;rw[List.getElem?_set_self hlt]at hj;have:=h p _ (List.getElem?_eq_getElem hlt);rw[List.getElem?_set_self (List.getElem?_eq_some_iff.1 this).1];exact hj
  .rw[List.getElem?_set_ne e]at hj;rw[List.getElem?_set_ne k7];exact h j u hj
section
variable {P : Program} {β : dC} {n : Nat} {Γ : Env} {H : List bD} {F : List bC} {Q : Exit -> Act -> World -> Prop} {K : Act -> World -> Prop} {T : Tab} {α : Type} {E : Flat α}
def uI (v:Value):List α->Option Nat
 |[]=>none
 |_::_=>v.ownBlock
def Flat.held(E:Flat α)(v:Value)(xs:List α):bD:= .gen (uI v xs) λo=> ∃A cap,v= .slice A xs.length cap/\(xs=[]\/ ∃g off cs t fz,A=some ⟨g,off,none⟩/\o=some (.cells cs t fz)/\ ∀j u,(E.all xs)[j]?=some u->cs.toList[off+j]?=some u/\(fz.1<=off+j&&off+j<fz.2)=false)
theorem rE{w:World}{v:Value}{xs:List α}(h:(E.held v xs).ok w){k:Nat}(hk:k<xs.length): ∃g off cap cs t fz,v= .slice (some ⟨g,off,none⟩) xs.length cap/\(E.held v xs).blk=some g/\w.heap[g]?=some (.cells cs t fz)/\
  ∀j u,(E.all xs)[j]?=some u->cs.toList[off+j]?=some u/\(fz.1<=off+j&&off+j<fz.2)=false:=by
 obtain⟨A,cap,e,h⟩:=h
 rcases h with h|⟨g,off,cs,t,fz,e1,e2,h⟩
 .subst h;simp at hk
 .subst e;subst e1
  cases xs with
  |nil=>simp at hk
  |cons x r=>exact⟨g,off,cap,cs,t,fz,rfl,rfl,e2,h⟩
theorem zM{w:World}{v:Value}{xs:List α}(h:(E.held v xs).ok w){S:jF}(hS: ∀b,(E.held v xs).blk=some b->S b):(E.sl v xs).p S w:=by
 have h0:=h;obtain⟨A,cap,e,_⟩:=h;refine⟨A,cap,e,λk x hk=>?_⟩;obtain⟨g,off,cap',cs,t,fz,e1,hb,hh,hc⟩:=rE h0 (List.getElem?_eq_some_iff.1 hk).1;rw[e]at e1;injection e1 with e1
 subst e1;refine⟨g,off,E.cells x,rfl,hS g hb,λj u hj=>?_,rfl⟩;have:=(hc _ _ (E.all_get hk hj)).1;show w.cell? ⟨g,off+k*E.size+j,none⟩=some u;unfold World.cell?;rw[hh];rw[Nat.add_assoc]
 simpa using this
theorem dA{A:Option Addr}{m cap:Nat}{xs:List α}{H':List bD}(hH:bW H (E.held (.slice A m cap) xs) H'):dL β H F E A xs:=λw S s _ i x hi=>by
 have h:=zM (S:=λ_=>True) (s.ok _ hH.mem) (λ_ _=>trivial);obtain⟨A',c',e,h⟩:=h;obtain⟨b,o,cs,e1,e2,e3,e4⟩:=h i x hi;injection e with e
 subst e;subst e1;have e4:cs=E.cells x:=e4;subst e4;exact⟨⟨b,o,rfl⟩,e3⟩
theorem lends_held{v:Value}{xs:List α}{L:List bD}{G:List bC}(h:vZ L G):vZ (E.held v xs::L) (E.sl v xs::G):=λS w hok hS=>
 All.cons (zM (hok _ (List.mem_cons_self ..)) λb hb=>hS _ (List.mem_cons_self ..) b hb) (h S w (λc hc=>hok c (List.mem_cons_of_mem _ hc)) λc hc=>hS c (List.mem_cons_of_mem _ hc))
theorem dX{ops:Array Oper}{rest:List Oper}{o:Oper}(hT:dY P T){t k fo m cap:Nat}{p x:Operand}{v:Value}{vs:List Value}{i:TI}{A:Option Addr}{xs:List α}{y y':α}{H':List bD}(hH:bW H (E.held (.slice A m cap) xs) H')(hw:want ops Γ o=some true)(ho:o.op= .store t p x)(hd:o.dst=none)
  (hp:Γ.ev p=some (.pointer (some ⟨bNo A,bNu A+k*E.size+fo,none⟩))) (hx:Γ.ev x=some v) (ht:T.get t=some i) (hc:v.cells=vs.toArray) (hs:Nat.beq vs.length i.size=true)
  (h1:vs.all (·.oneCell')=true) (hk:xs[k]?=some y) (hput:rQ (E.cells y) fo vs=some (E.cells y')) (K:At β n Γ (E.held (.slice A m cap) (xs.set k y')::H') F (wpList P ops Q rest)):At β n Γ H F (wpList P ops Q (o::rest)):=
 fY hw λa w S f s hF=>by
  have hlt:k<xs.length:=(List.getElem?_eq_some_iff.1 hk).1;have hok:=s.ok _ hH.mem;obtain⟨g,off,cap',cs,t',fz,e,hblk,hh,hcs⟩:=rE hok hlt;injection e with e1 e2 e3
  subst e1 e2 e3;have hb:=(oX hput).1;rw[E.len]at hb;have hmul:(k+1)*E.size<=xs.length*E.size:=Nat.mul_le_mul_right _ hlt;rw[Nat.add_mul,Nat.one_mul]at hmul
  have hal: ∀j,j<vs.length-> ∃u,(E.all xs)[k*E.size+fo+j]?=some u:=λj hj=>⟨_,List.getElem?_eq_getElem (by rw[E.all_length];omega)⟩
  have hth:w.there g (off+k*E.size+fo) vs.length:=λj hj=>by
   obtain⟨u,hu⟩:=hal j hj;obtain⟨q1,q2⟩:=hcs _ _ hu;have e:off+k*E.size+fo+j=off+(k*E.size+fo+j):=k7
   refine⟨?_,?_⟩
   .rw[e];unfold World.cell?;rw[hh];have:cs[off+(k*E.size+fo+j)]?=some u:=by simpa using q1
    simp[this]
   .rw[e];unfold World.frozen?;rw[hh];exact q2
  have hst:=run_storeCells_cells (P:=P) g (off+k*E.size+fo) vs 0 w (λj hj=>by simpa using (hth j hj).1) (λj hj=>by simpa using (hth j hj).2) (λu hu=>by simpa using (List.all_eq_true.1 h1) u hu);rw[Nat.add_zero]at hst;have hsz:v.cells.size=i.size:=by rw[hc];simpa using Nat.eq_of_beq_eq_true hs
  have hr:(execOp a.eval o).run P w= .ok .skip (w.setCells g (off+k*E.size+fo) vs):=by
   unfold execOp;simp only[ho,f.ev hp,f.ev hx,Instr.storeAt,Instr.sureAddr,storeVar,Sem.run_bind,Sem.run_pure,Result.andThen_ok,hT.size ht,hsz,bNo,bNu];simp[hc,hst]
  unfold Oper.wp;rw[hr,Oper.upon_skip,hd];have s2:=s.perm hH.perm
  have hblk':(E.held (.slice (some ⟨g,off,none⟩) xs.length cap) (xs.set k y')).blk=some g:=by
   cases xs with
   |nil=>simp at hlt
   |cons x0 r=>cases k<;>rfl
  refine K _ _ S (f.put_none _) (s2.swap (jK g vs _ w) hblk hblk' ?_) (All.mono (λ_ h=>h) (s.agree (jK g vs _ w) (λc hc e=>by subst e;exact(s2.own _ (List.mem_cons_self ..) _ hblk).2.2 hc)) hF);refine⟨_,cap,by rw[List.length_set],.inr ⟨g,off,bDq cs (off+k*E.size+fo) vs,t',fz,rfl,?_,λj u hj=>?_⟩⟩
  .have:uI (Value.slice (some ⟨g,off,none⟩) xs.length cap) (xs.set k y')=some g:=hblk';rw[this];exact zI vs _ w cs hh
  .rw[<-E.all_set hk hput]at hj;rw[bGv];have e:off+k*E.size+fo=off+(k*E.size+fo):=k7
   rw[e];refine⟨bQd vs (E.all xs) cs.toList _ (λj u hj=>(hcs j u hj).1) j u hj,?_⟩
   have hjl:j<(E.all xs).length:=by
    have:=(List.getElem?_eq_some_iff.1 hj).1;rw[bFg]at this;exact this
   exact(hcs _ _ (List.getElem?_eq_getElem hjl)).2
theorem jG{ops:Array Oper}{rest:List Oper}{o:Oper}{d:Nat}{x y:Operand}{t e:TypeId}{i:TypeInfo}{z:Value}{by_ c q:Nat}{v:Value}{A:Option Addr}{xs ys:List α}{H':List bD}(hH:bW H (E.row v e xs) H')(hr:dL β H F E A ys)(hg:o.guard=none)
  (ho:o.op= .call {callee:= .builtin .append,args:= #[x,y],argTypes:= #[t,t]}) (hd:o.dst=some d) (hn:Nat.blt d n=true) (hu:P.underlying t=some (.slice e)) (hi:P.info? e=some i) (hz:i.zero=some z) (hsize:i.size=E.size) (hby:i.bytes=by_) (hzs:z.cells.size=E.size)
  (hx:Γ.ev x=some v) (hy:Γ.ev y=some (.slice A q c)) (hq:q=ys.length) (hbytes:(xs.length+ys.length)*by_<=140737488355328) (hpos:0<by_)
  (k: ∀A' cap',At β n ((d,.slice A' (xs++ys).length cap')::Γ) (E.row (.slice A' (xs++ys).length cap') e (xs++ys)::H') F (wpList P ops Q rest)):At β n Γ H F (wpList P ops Q (o::rest)):=by
 by_cases hne:0<ys.length
 .exact bGz hH hr hg ho hd hn hu hi hz hsize hby hzs hx hy hq hne hbytes hpos k
 .have h0:ys=[]:=List.eq_nil_of_length_eq_zero k7;subst h0;subst hq;simp only[List.append_nil]at k;refine at_rowv hH λA' cap' e=>?_;subst e
  cases A with
  |none=>
   have hw:want ops Γ o=some true:=by unfold want;rw[hg]
   refine fY hw λa w S f s hF=>?_;have hown:w.ownsRow 0 e E.size (.slice A' xs.length cap') xs.length (E.all xs):=s.ok _ hH.mem
   have hr':(Builtin.append_ #[t,t] o.type #[.slice A' xs.length cap',.slice none 0 c]).run P w= .ok (.slice A' xs.length cap') w:=by
    rcases hown.2 with ⟨e,e0⟩|⟨g,cap,cur,e,_,_,hnc,_⟩
    .injection e with e1 e2 e3
     subst e1 e3;rw[e2];simp[Builtin.append_,run_underlying hu,sizeOf,typeInfo,hi,Builtin.lenOf,Builtin.firstCells]
    .injection e with e1 e2 e3
     subst e1 e3;simp[Builtin.append_,run_underlying hu,sizeOf,typeInfo,hi,Builtin.lenOf,Builtin.firstCells,hnc,storeCells]
   have hx2:(execOp a.eval o).run P w= .ok (.value (.slice A' xs.length cap')) w:=by
    unfold execOp;simp only[ho,resolve,invoke,builtin,Sem.run_bind,Sem.run_pure,Result.andThen_ok,List.map_toArray,List.map_cons,List.map_nil,f.ev hx,f.ev hy,List.length_nil,hr']
   unfold Oper.wp;rw[hx2,Oper.upon_value,hd];exact k A' cap' _ _ S (f.put l9 _) (s.perm hH.perm) hF
  |some ad=>
   intro a w S f s hF;have hown:w.ownsRow 0 e E.size (.slice A' xs.length cap') xs.length (E.all xs):=s.ok _ hH.mem;have hb':xs.length*by_<=140737488355328:=by simpa using hbytes
   have h63:xs.length<=maxLen:=by
    have:xs.length<=xs.length*by_:=Nat.le_mul_of_pos_right _ hpos;simp[maxLen];omega
   refine wpList_append_own_at w hg x y t ho 0 e i z E.size by_ hu hi hz hsize hby hzs E.pos _ xs.length (E.all xs) (f.ev hx) hown ad 0 c [] (f.ev hy) m9 (λj u hj=>by simp at hj) m9 h63 hb' (Nat.zero_le _) ?_;intro v' w' hown' hgrow _ hat;rw[List.append_nil]at hown';have s2:=s.perm hH.perm;rw[hd];have s3:=s2.swap_row (rY hgrow) hat hown';refine at_row (β:=β) (n:=n) (Γ:=(d,v')::Γ) (H:= .row v' e E.size (xs.length+0) (E.all xs)::H') (F:=F) (K:=wpList P ops Q rest) .head (λ_ ⟨A2,cap2,e2,_⟩=>?_) _ _ S (f.put l9 _) s3 (All.mono (λ_ h=>h) (s.agree (rY hgrow) (λb hb e=>(s2.own _ (List.mem_cons_self ..) b e.symm).2.2 hb)) hF);subst e2;exact k A2 cap2
theorem bQi{ops:Array Oper}{rest:List Oper}{o:Oper}{d:Nat}{t e:TypeId}{ie:TypeInfo}(E:Flat α)(hw:want ops Γ o=some true)(ho:o.op= .buildSlice t 0 #[])(hd:o.dst=some d)(hn:Nat.blt d n=true)
  (hu:P.underlying t=some (.slice e)) (hie:P.info? e=some ie)
  (k: ∀b,At β n ((d,.slice (some ⟨b,0,none⟩) 0 0)::Γ) (E.row (.slice (some ⟨b,0,none⟩) 0 0) e []::H) F (wpList P ops Q rest)):At β n Γ H F (wpList P ops Q (o::rest)):=by
 refine at_build (m:=0) (parts:= #[]) (e:=e) (cs:=[]) hw ho hd hn (λa w f=>?_) λb=>?_
 .simp[Instr.buildSlice,run_underlying hu,sizeOf,typeInfo,hie,newRow,Instr.fill,Array.range_zero']
 .intro a w S f s hF;have hok:w.heap[b]?=some (.cells #[] e (0,0)):=s.ok _ (List.mem_cons_self ..);refine k b a w S f ⟨s.kept,λc hc=>?_,λc hc b' hb=>?_,?_,s.zone⟩ hF
  .rcases List.mem_cons.1 hc with rfl|hc
   .exact⟨by simp[Flat.all],.inr ⟨b,0,#[],rfl,Nat.zero_le _,hok,Nat.le_refl _,by simp[maxLen],m9,by simp[Flat.all]⟩⟩
   .exact s.ok c (List.mem_cons_of_mem _ hc)
  .rcases List.mem_cons.1 hc with rfl|hc
   .exact s.own (.obj b (.cells #[] e)) (List.mem_cons_self ..) b' hb
   .exact s.own c (List.mem_cons_of_mem _ hc) b' hb
  .have hp:=List.pairwise_cons.1 s.sep;exact List.pairwise_cons.2 ⟨λd hd b hb=>hp.1 d hd b hb,hp.2⟩
end
end
section
open Go.RowKit
abbrev Bs:=List UInt8
def bs (l:Bs):ByteArray:=⟨l.toArray⟩
theorem bs_size(l:Bs):(bs l).size=l.length:=rfl
section
variable {P : Program} {β : dC} {n : Nat} {Γ : Env} {H : List bD} {F : List bC} {Q : Exit -> Act -> World -> Prop} {K : Act -> World -> Prop} {T : Tab} {α : Type} {E : Flat α}
theorem dY.str(hT:dY P T){t sz:Nat}(ht:T.get t=some ⟨.string,sz⟩):P.underlying t=some .string:=by
 obtain⟨d,hu,hd⟩:=hT.any ht;cases d<;>simp[TD.of]at hd
 exact hu
def cutA (A:Option Addr)(l size c:Nat):Option Addr:=if c=l then A else A.map (·.add (l*size))
end
end
section
open Go.RowKit
section
variable {P : Program} {β : dC} {n : Nat} {Γ : Env} {H : List bD} {F : List bC} {Q : Exit -> Act -> World -> Prop} {K : Act -> World -> Prop} {T : Tab} {α : Type} {E : Flat α}
theorem at_scope{c:Code}(h:At β n Γ H F (c.wp P (Exit.noGoto Q))):At β n Γ H F ((Code.scope c).wp P Q):=λa w S f s k=>wp_scope_straight (h a w S f s k)
theorem at_label{l:Nat}(h:At β n Γ H F (Q .normal)):At β n Γ H F ((Code.label l).wp P Q):=λa w S f s k=>wp_label (h a w S f s k)
theorem n_scope(h:At β n Γ H F (Q .normal)):At β n Γ H F (Exit.noGoto Q .normal):=h
theorem r_scope(h:At β n Γ H F (Q .ret)):At β n Γ H F (Exit.noGoto Q .ret):=h
theorem x_scope{i:Nat}(h:At β n Γ H F (Q (.exit i))):At β n Γ H F (Exit.noGoto Q (.exit i)):=h
theorem bRn{o:Oper}{f:FuncId}{x:Operand}{first cap:Array Value}{ars:Array Operand}{ts:Array TypeId}{vs:List Value}{a:Act}(hcf: ∀(args:Array Value) (w:World),(callFunc f args).run P w= .ok (.enter f args) w)(ho:o.op= .call ⟨.value x,ars,ts⟩)(fi:Fits n Γ a)
  (hx:Γ.ev x=some (.func (.func f) first cap)) (hv:Γ.evs ars.toList=some vs) (w:World):(execOp a.eval o).run P w= .ok (.enter f (first++vs.toArray++cap)) w:=by
 have hm:ars.map a.eval=vs.toArray:=by
  apply Array.ext'
  simpa using fi.evs hv
 unfold execOp;simp only[ho,resolve,fi.ev hx,Deferred.ofValue,Sem.run_bind,Sem.run_pure,Result.andThen_ok,invoke];simp[hm,hcf]
theorem lJ{ι:Type}{ops:Array Oper}{rest:List Oper}{o:Oper}{d:Nat}{f:FuncId}{x:Operand}{first cap:Array Value}{ars:Array Operand}{ts:Array TypeId}{vs all:List Value}{Hin H2:List bD}{Pre:List bC}{val:ι->Value}{Hout:ι->List bD}{post:ι->List bC}
  (hcf: ∀(args:Array Value) (w:World),(callFunc f args).run P w= .ok (.enter f args) w) (hs:cE P f all Hin Pre val Hout post) (hw:want ops Γ o=some true) (ho:o.op= .call ⟨.value x,ars,ts⟩) (hx:Γ.ev x=some (.func (.func f) first cap)) (hd:o.dst=some d) (hn:Nat.blt d n=true)
  (hv:Γ.evs ars.toList=some vs) (hall:first.toList++vs++cap.toList=all) (hH:Split H Hin H2) (hF:bA F Pre) (k: ∀x,At β n ((d,val x)::Γ) (Hout x++H2) (post x++F) (wpList P ops Q rest)):At β n Γ H F (wpList P ops Q (o::rest)):=
 fY hw λa w S f s hk=>by
  unfold Oper.wp;rw[bRn hcf ho f hx hv w,Oper.upon_enter]
  have e:first++vs.toArray++cap=all.toArray:=by
   rw[<-hall];apply Array.ext';simp
  rw[e];have s1:=s.perm hH.perm;refine(hs S w s1.enter (hF.all S w hk)).mono ?_;rintro e w' ⟨x,S',rfl,s',k'⟩;show wpList P ops Q rest (a.put o.dst (val x)) w';rw[hd];exact k x _ _ _ (f.put l9 _) (s1.leave s') ((All.mono (λ_ h=> .inr h) (λ_ _=>rfl) k').append (All.leave s1 s' hk))
def resVal(a:Act):ResultVar->Sem Value
 |.tmp t=>pure (a.tmps.getD t undef)
 |.cell ad t=>do loadVar t (<-asAddr (a.tmps.getD ad undef))
def RV (P:Program)(β:dC)(n:Nat)(Γ:Env)(H:List bD)(F:List bC)(r:ResultVar)(v:Value):Prop:= ∀a w S,Fits n Γ a->St β H S w->All F S w->(resVal a r).run P w= .ok v w
theorem rv_tmp{t:Nat}{v:Value}(h:Γ.get t=some v):RV P β n Γ H F (.tmp t) v:=λa w S f _ _=>by
 have:=f.get t v h;simp[resVal,Array.getD_eq_getD_getElem?,this]
theorem rv_cell(hT:dY P T){t ty b q:Nat}{i:TI}{cs l:List Value}(hk:nE β H F b q cs)(h:Γ.get t=some (.pointer (some ⟨b,q,none⟩)))(ht:T.get ty=some i)(ha:aggD i.desc=true)(hv:cut cs 0 i.size=some l):RV P β n Γ H F (.cell t ty) (.agg l.toArray):=λa w S f s k=>by
 have:=f.get t _ h;obtain⟨h1,h2,h3⟩:=xB hv;have hl:=run_loadCells_list (P:=P) w ⟨b,q,none⟩ l (λj u hj=>by rw[Addr.add_mid];exact hk w S s k j u (by simpa using h3 j u hj));rw[h2]at hl;unfold resVal;simp only[Array.getD_eq_getD_getElem?,this,Option.getD_some,asAddr,Sem.run_bind,Sem.run_pure,Result.andThen_ok,loadVar,hT.agg ht,ha,if_true,hT.size ht,hl]
theorem rv_cell1(hT:dY P T){t ty b q:Nat}{i:TI}{cs:List Value}{v:Value}(hk:nE β H F b q cs)(h:Γ.get t=some (.pointer (some ⟨b,q,none⟩)))(ht:T.get ty=some i)(ha:aggD i.desc=false)(hv:cs[0]?=some v):RV P β n Γ H F (.cell t ty) v:=λa w S f s k=>by
 have:=f.get t _ h;have hc:=hk w S s k 0 v hv;rw[Nat.add_zero]at hc;unfold resVal;simp only[Array.getD_eq_getD_getElem?,this,Option.getD_some,asAddr,Sem.run_bind,Sem.run_pure,Result.andThen_ok,loadVar,hT.agg ht,ha,Bool.false_eq_true,if_false,run_load,hc]
theorem mY(fn:Func)(a:Act):results fn a.tmps=(do let vs<-fn.results.mapM (resVal a);pure (if h:vs.size=1 then vs[0]else .tuple vs)):=by
 have e:(λx:ResultVar=>(match x with|.tmp t=>pure (a.tmps.getD t undef)|.cell ad t=>do loadVar t (<-asAddr (a.tmps.getD ad undef)):Sem Value))=resVal a:=by
  funext x
  cases x<;>rfl
 unfold results;rw[<-e];rfl
section
variable {ι : Type} {fn : Func} {val : ι -> Value} {Hout : ι -> List bD} {post : ι -> List bC} {r1 r2 r3 : ResultVar} {v1 v2 v3 : Value}
theorem cR(x:ι)(hr:fn.results= #[])(hH:Sel H (Hout x))(hF:bA F (post x))(he: .tuple #[]=val x):At β n Γ H F (bodyPost P fn (bNl β val Hout post) .normal):=λa w S f s k=>by
 refine⟨f.defers,.tuple #[],?_,x,S,by rw[he],s.sel hH,hF.all S w k⟩;rw[mY,hr];simp
theorem nU(x:ι)(hr:fn.results= #[r1])(h1:RV P β n Γ H F r1 v1)(hH:Sel H (Hout x))(hF:bA F (post x))(he:v1=val x):At β n Γ H F (bodyPost P fn (bNl β val Hout post) .ret):=λa w S f s k=>by
 refine⟨f.defers,v1,?_,x,S,by rw[he],s.sel hH,hF.all S w k⟩;rw[mY,hr];simp[h1 a w S f s k]
theorem qW(x:ι)(hr:fn.results= #[r1,r2])(h1:RV P β n Γ H F r1 v1)(h2:RV P β n Γ H F r2 v2)(hH:Sel H (Hout x))(hF:bA F (post x))(he: .tuple #[v1,v2]=val x):At β n Γ H F (bodyPost P fn (bNl β val Hout post) .ret):=λa w S f s k=>by
 refine⟨f.defers,.tuple #[v1,v2],?_,x,S,by rw[he],s.sel hH,hF.all S w k⟩;rw[mY,hr];simp[h1 a w S f s k,h2 a w S f s k]
theorem at_res3(x:ι)(hr:fn.results= #[r1,r2,r3])(h1:RV P β n Γ H F r1 v1)(h2:RV P β n Γ H F r2 v2)(h3:RV P β n Γ H F r3 v3)(hH:Sel H (Hout x))(hF:bA F (post x))(he: .tuple #[v1,v2,v3]=val x):At β n Γ H F (bodyPost P fn (bNl β val Hout post) .ret):=λa w S f s k=>by
 refine⟨f.defers,.tuple #[v1,v2,v3],?_,x,S,by rw[he],s.sel hH,hF.all S w k⟩;rw[mY,hr];simp[h1 a w S f s k,h2 a w S f s k,h3 a w S f s k]
end
end
end
section
namespace X
open Go.RowKit
def CallR (P:Program)(f:FuncId)(args:Array Value)(w:World)(R:Value->World->Prop):Prop:=
 (∃v w',(callFunc f args).run P w= .ok (.value v) w'/\R v w')\/((callFunc f args).run P w= .ok (.enter f args) w/\Calls P f args w λe w'=> ∃v,e= .returned v/\R v w')
def exitOf:Ex->Exit
 |.nm=> .normal
 |.ex id=> .exit id
 |.rt=> .ret
section
variable [Ctx]
def sJ (f:FuncId)(h:Orc):Prop:= ∀args s v s',h args s=some (v,s')-> ∀α w,Sim α s w->(∀x∈args,x.Sc s.n s.c)->CallR Ctx.P f (args.map (V.inst α)).toArray w λu w'=> ∃α',u=v.inst α'/\Stp α s w α' s' w'
class Good:Prop extends Meths where
 mixed:Ctx.P.follows .mixedOrders=true
 gl: ∀g k,Ctx.gl g=some k->k<Ctx.n0
 valid: ∀f,Ctx.known f=true-> ∀fn c,Ctx.P.funcs[f]?=some fn->fn.body=some c->lL f c=true
 orc: ∀f h,Ctx.orc f=some h->sJ f h
def Post (α:As)(s:St)(w:World)(N:Nat)(x:Ex)(e':E)(s':St)(ex:Exit)(a':Act)(w':World):Prop:=ex=exitOf x/\ ∃α',Stp α s w α' s' w'/\EOk α' s' N e' a'
def rW (rec:Rec):Prop:= ∀f N c e s x e' s',lL f c=true->rec f N c e s=some (x,e',s')-> ∀α w a,Sim α s w->EOk α s N e a->c.wp Ctx.P (Post α s w N x e' s') a w
section
variable {α α' : As} {s s' : St} {w w' : World} {N : Nat} {e e' : E} {a a' : Act} {rec : Rec}
theorem EOk.step(he:EOk α s N e a)(h:Stp α s w α' s' w'):EOk α' s' N e a:=⟨he.defers,he.size,λi v hi=>by
 obtain⟨h1,h2⟩:=he.get i v hi
 exact⟨h1.mono h.n h.c,by rw[<-h1.ext h.same];exact h2⟩⟩
omit [Ctx]in
theorem rU(he:EOk α s N e a){d:Option Tmp}{v:V}(h:putX N d v s e=some (e',s')):s'=s/\EOk α s N e' (a.put d (v.inst α)):=by
 cases d with
 |none=>
  have h:some (e,s)=some (e',s'):=h;cases h;exact⟨rfl,he⟩
 |some d=>
  obtain⟨h1,h2⟩:=bL (show gd _ _=some (e',s')from h);cases h2;rw[Bool.and_eq_true]at h1;have hd:d<N:=by simpa[Nat.blt_eq]using h1.1
  refine⟨rfl,he.defers,by simpa[Act.put]using he.size,λi u hi=>?_⟩;have hlt:d<a.tmps.size:=Nat.lt_of_lt_of_le hd he.size
  rcases T.get_set_fuel _ _ _ _ _ _ hi with ⟨rfl,e0⟩|⟨hne,hi⟩
  .cases e0;exact⟨V.Sc.of h1.2,by simp[Act.put,hlt]⟩
  .obtain⟨h3,h4⟩:=he.get i u hi;exact⟨h3,by simp[Act.put,Ne.symm hne,h4]⟩
omit [Ctx]in
theorem bCs(he:EOk α s N e a){ops:Array Oper}{o:Oper}{t:Bool}(h:zC ops o e=some t):Region.wanted o (yielded ops a.tmps)=t:=by
 unfold zC at h;unfold Region.wanted
 cases hg:o.guard with
 |none=>
  rw[hg]at h;cases h;rfl
 |some q=>
  rw[hg]at h;obtain⟨j,c⟩:=q;obtain⟨p,hp,h1⟩:=bB (show wantG ops j c e=some t from h);obtain⟨d,hd,h2⟩:=bB h1;obtain⟨v,hv,h3⟩:=bB h2;rw[iF]at hp;have hp:ops[j]?=some p:=by simpa using hp
  have hr:=(he.get d v hv).2
  cases v with
  |b x=>
   cases h3;simp[yielded,hp,hd,hr,V.inst]
  |t vs=>
   cases h3;simp[yielded,hp,hd,hr,V.inst]
  |_=>cases h3
omit [Ctx]in
theorem args_ok{l:List V}(hl: ∀v∈l,v.Sc s.n s.c): ∀(n:Nat) (e:E) (L:List Value),(∀i v,e.get i=some v->v.Sc s.n s.c/\i<n/\L[i]?=some (v.inst α))->(∀i,n<=i->i<n+l.length->L[i]?=(l[i-n]?).map (V.inst α))->
  ∀i v,(argsE n l e).get i=some v->v.Sc s.n s.c/\i<n+l.length/\L[i]?=some (v.inst α):=by
 induction l with
 |nil=>
  intro n e L he _ i v h;have:=he i v h
  simpa using this
 |cons u l ih=>
  intro n e L he hL i v h;have h:(argsE (n+1) l (e.set (some u) fuelT n)).get i=some v:=h
  have:=ih (λx hx=>hl x (List.mem_cons_of_mem _ hx)) (n+1) (e.set (some u) fuelT n) L (λj x hj=>by
   rcases T.get_set_fuel _ _ _ _ _ _ hj with ⟨rfl,e0⟩|⟨_,hj⟩
   .cases e0;refine⟨hl _ (List.mem_cons_self ..),Nat.lt_succ_self _,?_⟩;have:=hL j (Nat.le_refl _) m9
    simpa using this
   .obtain⟨h1,h2,h3⟩:=he j x hj
    exact⟨h1,k7,h3⟩) (λj h1 h2=>by
   have:=hL j k7 o7;rw[this];rw[show j-n=(j-(n+1))+1 from by omega]
   rfl) i v h
  refine⟨this.1,by simp;omega,this.2.2⟩
omit [Ctx]in
theorem enter_ok{l:List V}(hl: ∀v∈l,v.Sc s.n s.c)(hN:l.length<=N):EOk α s N (argsE 0 l .lf) {tmps:=(l.map (V.inst α)).toArray++Array.replicate (N-(l.map (V.inst α)).toArray.size) undef,defers:=[]}:=by
 refine⟨rfl,by simp;omega,λi v hi=>?_⟩;obtain⟨h1,h2,h3⟩:=args_ok (α:=α) hl 0 .lf (l.map (V.inst α)) (λi v h=>by cases h) (λi _ _=>by simp) i v hi;refine⟨h1,?_⟩;rw[Nat.zero_add]at h2;rw[Array.getElem?_append,if_pos (by simpa using h2)]
 simpa using h3
theorem res_run(hs:Sim α s w)(he:EOk α s N e a){fn:Func}{l:List V}(h:bHd (resV e s) fn.results.toList=some l):(results fn a.tmps).run Ctx.P w= .ok ((oneRes l).inst α) w:=by
 have one: ∀(r:ResultVar) (v:V),resV e s r=some v->(resVal a r).run Ctx.P w= .ok (v.inst α) w:=λr v hr=>by
  cases r with
  |tmp t=>
   have:=(he.get t v hr).2;simp[resVal,Array.getD_eq_getD_getElem?,this]
  |cell t q=>
   obtain⟨u,hu,h1⟩:=bB (show ob (e.get t) _=some v from hr);obtain⟨k,o,rfl,h2⟩:=nW h1;have:=(he.get t _ hu).2;simp[resVal,Array.getD_eq_getD_getElem?,this,V.inst,asAddr,bJj hs h2]
 have all: ∀(rs:List ResultVar) (l:List V),bHd (resV e s) rs=some l->(rs.mapM (resVal a)).run Ctx.P w= .ok (l.map (V.inst α)) w:=by
  intro rs
  induction rs with
  |nil=>intro l h;cases h;rfl
  |cons r rs ih=>
   intro l h;obtain⟨v,hv,h1⟩:=bB h;obtain⟨l',hl,h2⟩:=bB h1;cases h2;simp[List.mapM_cons,one r v hv,ih l' hl]
 rw[mY,Sem.run_bind,Array.mapM_eq_mapM_toList,Sem.run_map,all _ _ h];simp only[Result.andThen_ok,Sem.run_pure]
 match l with
 |[]=>simp[oneRes,inst_t]
 |[v]=>simp[oneRes]
 |v::u::l=>simp[oneRes,inst_t]
variable [Good]
theorem bMy(hrec:rW rec)(hs:Sim α s w){f:FuncId}{args:List V}{v:V}(h:callF f rec args s=some (v,s'))(hargs: ∀x∈args,x.Sc s.n s.c):
  (callFunc f (args.map (V.inst α)).toArray).run Ctx.P w= .ok (.enter f (args.map (V.inst α)).toArray) w/\Calls Ctx.P f (args.map (V.inst α)).toArray w λe w'=> ∃u,e= .returned u/\ ∃α',u=v.inst α'/\Stp α s w α' s' w':=by
 obtain⟨hk,h1⟩:=bL h;obtain⟨fn,hf,h2⟩:=bB h1;obtain⟨c,hb,h3⟩:=bB h2;obtain⟨h4,h5⟩:=bL h3;obtain⟨⟨x,e1,s1⟩,hr,h6⟩:=bB h5;obtain⟨h7,h8⟩:=bL h6;obtain⟨l,hl,h9⟩:=bB h8;cases h9;simp only[Bool.and_eq_true,Bool.not_eq_true']at h4;refine⟨bE hf h4.2.2 (by rw[hb];rfl) _ _,?_⟩;refine calls_of_wp hf hb (Code.wp_mono (λex a' w' hp=>?_) (hrec f fn.ntmps c _ s x e1 s1 (Good.valid f hk fn c hf hb) hr α w _ hs (enter_ok hargs (fI h4.1))));obtain⟨rfl,α',hst,he'⟩:=hp;have hres:=res_run hst.sim he' hl
 cases x with
 |nm=>exact⟨he'.defers,_,hres,_,rfl,α',rfl,hst⟩
 |ex id=>cases h7
 |rt=>exact⟨he'.defers,_,hres,_,rfl,α',rfl,hst⟩
theorem call_ok(hrec:rW rec)(hs:Sim α s w){f:FuncId}{args:List V}{v:V}(h:callX f rec args s=some (v,s'))(hargs: ∀x∈args,x.Sc s.n s.c):
  CallR Ctx.P f (args.map (V.inst α)).toArray w λu w'=> ∃α',u=v.inst α'/\Stp α s w α' s' w':=by
 unfold callX at h;rw[qK]at h
 cases ho:Ctx.orc f with
 |some g=>
  rw[ho]at h;exact Good.orc f g ho args s v s' h α w hs hargs
 |none=>
  rw[ho]at h;exact .inr (bMy hrec hs h hargs)
theorem wR(hrec:rW rec)(hs:Sim α s w)(he:EOk α s N e a){ops:Array Oper}{o:Oper}(h:yT rec N ops o e s=some (e',s')){K:Act->World->Prop}{Q:Exit->Act->World->Prop}
  (k: ∀α' a' w',Stp α s w α' s' w'->EOk α' s' N e' a'->K a' w'):if Region.wanted o (yielded ops a.tmps)then o.wp Ctx.P a w K Q else K (a.put o.dst undef) w:=by
 obtain⟨t,ht,h1⟩:=bB h;rw[bCs he ht];rw[cJ]at h1
 cases t with
 |false=>
  simp only[Bool.false_eq_true,if_false]at h1⊢;obtain⟨rfl,h2⟩:=rU he h1;rw[uX]at h2;exact k α _ w (Stp.refl hs) h2
 |true=>
  simp only[if_true]at h1⊢;obtain⟨r,hr,h2⟩:=bB h1;have hrun:=op_run hs he hr;unfold Oper.wp
  cases r with
  |v v s1=>
   obtain⟨α',w',h3,h4⟩:=hrun;rw[h3,Oper.upon_value];obtain⟨rfl,h5⟩:=rU (he.step h4) (show putX N o.dst v s1 e=some (e',s')from h2);exact k α' _ w' h4 h5
  |sk s1=>
   obtain⟨α',w',h3,h4⟩:=hrun;rw[h3,Oper.upon_skip];obtain⟨rfl,h5⟩:=rU (he.step h4) (show putX N o.dst undefV s1 e=some (e',s')from h2);rw[uX]at h5;exact k α' _ w' h4 h5
  |call f args s1=>
   obtain⟨rfl,h3,hsc⟩:=hrun;obtain⟨⟨v,s2⟩,hc,h4⟩:=bB (show ob (callX f rec args s1) _=some (e',s')from h2)
   rcases call_ok hrec hs hc hsc with ⟨u,w',h5,α',rfl,h6⟩|⟨h5,h6⟩
   .rw[h3,h5,Oper.upon_value];obtain⟨rfl,h7⟩:=rU (he.step h6) (show putX N o.dst v s2 e=some (e',s')from h4);exact k α' _ w' h6 h7
   .rw[h3,h5,Oper.upon_enter];refine h6.mono ?_;rintro ex w' ⟨u,rfl,α',rfl,h7⟩;obtain⟨rfl,h8⟩:=rU (he.step h7) (show putX N o.dst v s2 e=some (e',s')from h4);exact k α' _ w' h7 h8
theorem ops_wp(hrec:rW rec){ops:Array Oper}{Q:Exit->Act->World->Prop}: ∀(l:List Oper) (e:E) (s:St) (α:As) (w:World) (a:Act),Sim α s w->EOk α s N e a->opsX rec N ops l e s=some (e',s')->
  (∀α' a' w',Stp α s w α' s' w'->EOk α' s' N e' a'->Q .normal a' w')->wpList Ctx.P ops Q l a w
 |[],e,s,α,w,a,hs,he,h,k=>by
  have h:some (e,s)=some (e',s'):=h;cases h;exact k α a w (Stp.refl hs) he
 |o::l,e,s,α,w,a,hs,he,h,k=>by
  obtain⟨⟨e1,s1⟩,h1,h2⟩:=bB (show ob (yT rec N ops o e s) _=some (e',s')from h);have:=wR hrec hs he h1 (K:=wpList Ctx.P ops Q l) (Q:=Q) (λα' a' w' h3 h4=>ops_wp hrec l e1 s1 α' w' a' h3.sim h4 h2 λα'' a'' w'' h5 h6=>k α'' a'' w'' (h3.trans h5) h6);unfold wpList;split
  .rename_i hw;rw[hw]at this;exact .inl this
  .rename_i hw;simp only[hw]at this;exact this
end
end
end X
end
section
namespace X
open Go.RowKit
theorem pI{α:Type}{p:α->α->Bool}(hp: ∀x y,p x y=true->x=y): ∀{l m:List α},uC p l m=true->l=m
 |[],[],_=>rfl
 |[],_::_,h=>by cases h
 |_::_,[],h=>by cases h
 |x::l,y::m,h=>by
  simp only[uC,Bool.and_eq_true]at h;rw[hp x y h.1,pI hp h.2]
theorem jI{a b:Nat}(h:Nat.beq a b=true):a=b:=Nat.eq_of_beq_eq_true h
theorem cap_eq{a b:Cap}(h:capEq a b=true):a=b:=by
 cases a<;>cases b<;>simp only[capEq,Bool.and_eq_true,Nat.beq_eq]at h<;>first|cases h|skip
 .rfl
 .rename_i h1 h2;rw[h1,h2]
theorem pH: ∀(d:Nat) (u v:V),beqD d u v=true->u=v:=by
 intro d
 induction d with
 |zero=>intro u v h;cases h
 |succ d ih=>
  intro u v h;cases u<;>cases v<;>try (cases h;done)
  case b.b x y=>
   have h:(x==y)=true:=h;rw[beq_iff_eq.1 h]
  case i.i k x k' y=>
   have h:(sameKind k k'&&ieq x y)=true:=h;rw[Bool.and_eq_true,bEn]at h;rw[jZ h.1,beq_iff_eq.1 h.2]
  case s.s x y=>rw[pI (λ_ _=>jI) (show uC Nat.beq x y=true from h)]
  case p0.p0=>rfl
  case p.p k o k' o'=>
   have h:(Nat.beq k k'&&Nat.beq o o')=true:=h;rw[Bool.and_eq_true]at h;rw[jI h.1,jI h.2]
  case l0.l0=>rfl
  case l.l k o n c k' o' n' c'=>
   have h:(Nat.beq k k'&&(Nat.beq o o'&&(Nat.beq n n'&&capEq c c')))=true:=h;simp only[Bool.and_eq_true]at h;rw[jI h.1,jI h.2.1,jI h.2.2.1,cap_eq h.2.2.2]
  case z.z k o n c k' o' n' c'=>
   have h:(Nat.beq k k'&&(Nat.beq o o'&&(Nat.beq n n'&&Nat.beq c c')))=true:=h;simp only[Bool.and_eq_true]at h;rw[jI h.1,jI h.2.1,jI h.2.2.1,jI h.2.2.2]
  case y.y c c'=>rw[jI (show Nat.beq c c'=true from h)]
  case m0.m0=>rfl
  case m.m k k'=>rw[jI (show Nat.beq k k'=true from h)]
  case f.f fn x y fn' x' y'=>
   cases fn with
   |func f=>
    cases fn' with
    |func f'=>
     have h:(Nat.beq f f'&&(uC (beqD d) x x'&&uC (beqD d) y y'))=true:=h;simp only[Bool.and_eq_true]at h;rw[jI h.1,pI ih h.2.1,pI ih h.2.2]
    |_=>cases h
   |_=>cases fn'<;>cases h
  case f0.f0=>rfl
  case e0.e0=>rfl
  case e.e t u t' u'=>
   have h:(Nat.beq t t'&&beqD d u u')=true:=h;rw[Bool.and_eq_true]at h;rw[jI h.1,ih _ _ h.2]
  case g.g x y=>rw[pI ih (show uC (beqD d) x y=true from h)]
  case t.t x y=>rw[pI ih (show uC (beqD d) x y=true from h)]
  all_goals (cases ‹Fn›<;>cases h)
theorem oeq_eq{a b:Option Nat}(h:oeq a b=true):a=b:=by
 cases a<;>cases b<;>first|rfl|cases h|rw[jI (show Nat.beq _ _=true from h)]
theorem blk_eq{x y:Blk}(h:x.beq y=true):x=y:=by
 cases x<;>cases y<;>try cases h
 case cells.cells cs t x ro cs' t' x' ro'=>
  have h:(Nat.beq t t'&&(oeq x x'&&((ro==ro')&&uC (beqD 4) cs cs')))=true:=h;simp only[Bool.and_eq_true]at h;rw[jI h.1,oeq_eq h.2.1,beq_iff_eq.1 h.2.2.1,pI (pH 4) h.2.2.2]
 case map.map es c es' c'=>
  have h:(Nat.beq c c'&&uC entEq es es')=true:=h;rw[Bool.and_eq_true]at h
  rw[jI h.1,pI (λx y h=>by
   simp only[entEq,Bool.and_eq_true]at h;obtain⟨x1,x2,x3⟩:=x;obtain⟨y1,y2,y3⟩:=y;simp only at h
   rw[pH 4 _ _ h.1,pH 4 _ _ h.2.1,jI h.2.2]) h.2]
 case win.win cs cs'=>rw[pI (pH 4) (show uC (beqD 4) cs cs'=true from h)]
 case know.know n n'=>rw[jI (show Nat.beq n n'=true from h)]
section
variable [Ctx] {α α' α0 : As} {s s' : St} {w w' : World} {N : Nat} {e e' : E} {a a' : Act} {rec : Rec} {h0 : T Blk} {D : List Nat}
theorem Stp.of_grow(hs:Sim α s w)(hb:Below w.heap.size w w'):Stp α s w α s w':=
 ⟨lT.refl _ _ _,Nat.le_refl _,Nat.le_refl _,hs.grow hb,⟨hb.os,hb.tape,hb.output,hb.size,λb hlt _=>hb.block b hlt⟩,λk x hk=> .inl ⟨k,x,hk,id,rfl⟩⟩
omit [Ctx]in
theorem rP(s:St): ∀(D:List Nat) (k:Nat) (x:Blk),(restX s D).get k=some x->k∈D/\s.h.get k=some x
 |[],_,_,h=>by cases h
 |d::D,k,x,h=>by
  have h:((restX s D).set (s.h.get d) fuelT d).get k=some x:=h
  rcases T.get_set_fuel _ _ _ _ _ _ h with ⟨rfl,e0⟩|⟨_,h⟩
  .exact⟨List.mem_cons_self ..,e0⟩
  .obtain⟨h1,h2⟩:=rP s D k x h;exact⟨List.mem_cons_of_mem _ h1,h2⟩
def Cls (α0:As)(h0:T Blk)(n0 c0:Nat)(w:World):Prop:=Sim α0 {h:=h0,n:=n0,c:=c0} w
theorem Cls.up{n0 c0:Nat}(h:Cls α0 h0 n0 c0 w)(hs:lT n0 c0 α0 α)(hn:n0<=s.n)(hc:c0<=s.c):Sim α {s with h:=h0} w where
 gl:=λg k hk=>by
  obtain⟨h1,h2⟩:=h.gl g k hk;exact⟨Nat.lt_of_lt_of_le h1 hn,by rw[<-hs.blk k h1];exact h2⟩
 lt:=λk x hk=>Nat.lt_of_lt_of_le (h.lt k x hk) hn
 sc:=λk x hk=>(h.sc k x hk).mono hn hc
 is:=λk x hk=>by
  rw[<-hs.blk k (h.lt k x hk)];exact(h.is k x hk).ext (h.sc k x hk) hs rfl
 ne:=λk k' x x' hk hk' e=>h.ne k k' x x' hk hk' (by rw[hs.blk k (h.lt k x hk),hs.blk k' (h.lt k' x' hk')];exact e)
theorem Cls.keep{n0 c0:Nat}(h:Cls α0 h0 n0 c0 w)(hD: ∀k x,h0.get k=some x->k∈D)(hs:lT n0 c0 α0 α)(hsim:Sim α s w')(hk:vW h0 D s=true):Cls α0 h0 n0 c0 w' where
 gl:=h.gl
 lt:=h.lt
 sc:=h.sc
 is:=λk x hx=>by
  unfold vW at hk;rw[oF,List.all_eq_true]at hk;have h1:=hk k (hD k x hx);rw[hx]at h1;have h1:oc (s.h.get k) false (λb=>x.beq b)=true:=h1;rw[qK]at h1
  cases hy:s.h.get k with
  |none=>rw[hy]at h1;cases h1
  |some y=>
   rw[hy]at h1;have:=blk_eq h1;subst this;have h2:=hsim.is k x hy;rw[<-hs.blk k (h.lt k x hx)]at h2;exact h2.ext (h.sc k x hx) ⟨λi hi=>(hs.blk i hi).symm,λi hi=>(hs.room i hi).symm,λi hi=>(hs.place i hi).symm⟩ rfl
 ne:=h.ne
theorem Sim.rest(hs:Sim α s w)(D:List Nat):Cls α (restX s D) s.n s.c w where
 gl:=hs.gl
 lt:=λk x hk=>hs.lt k x (rP s D k x hk).2
 sc:=λk x hk=>hs.sc k x (rP s D k x hk).2
 is:=λk x hk=>hs.is k x (rP s D k x hk).2
 ne:=λk k' x x' hk hk'=>hs.ne k k' x x' (rP s D k x hk).2 (rP s D k' x' hk').2
omit [Ctx]in
theorem EOk.at_(he:EOk α s N e a):EOk α {s with h:=h0} N e a:=⟨he.defers,he.size,he.get⟩
theorem quiet_some{o:Op}{f:FuncId}{args:List Operand}(h:bHx o=some (f,args)): ∃xs ts,o= .call ⟨.value (.func f),xs,ts⟩/\args=xs.toList:=by
 unfold bHx at h;split at h
 .rename_i g xs ts;obtain⟨_,h1⟩:=bL h;cases h1;exact⟨xs,ts,rfl,rfl⟩
 .cases h
variable [Good]
theorem look_ok(hrec:rW rec){C:World->Prop}(hC: ∀w,C w->Sim α {s with h:=h0} w)(he:EOk α s N e a){o:Oper}{v:V}(h:lookX rec o.op {s with h:=h0} e=some v):looksAt Ctx.P o a C (v.inst α):=λw hw=>by
 have hs:=hC w hw;have he':EOk α {s with h:=h0} N e a:=he.at_;unfold lookX at h;rw[qK]at h
 cases hq:bHx o.op with
 |none=>
  rw[hq]at h;rw[pure_run hs he' h];exact⟨rfl,rfl⟩
 |some q=>
  rw[hq]at h;obtain⟨f,args⟩:=q;obtain⟨xs,ts,ho,rfl⟩:=quiet_some hq;obtain⟨vs,hvs,h1⟩:=bB (show ob (evsX xs.toList e) _=some v from h);obtain⟨h2,h3⟩:=bL h1;obtain⟨⟨u,s1⟩,h4,h5⟩:=bB h3;obtain⟨h6,h7⟩:=bL h5;cases h7;rw[oF,List.all_eq_true]at h2
  have hcall:oCallV (.func f) xs.toList {s with h:=h0} e=some (.call f ([]++(vs++[])) {s with h:=h0}):=by
   show ob (evsX xs.toList e) _=_;rw[hvs];rfl
  obtain⟨g,vs',h8,h9,_⟩:=bRl (ts:=ts) (ty:=o.type) hs he' hcall;cases h8;simp only[List.nil_append,List.append_nil]at h9
  have hrun:(execOp a.eval o).run Ctx.P w=(callFunc f (vs.map (V.inst α)).toArray).run Ctx.P w:=by
   unfold execOp;simp only[ho];exact h9
  have h0':Sim α emptyS w:=⟨λg k hk=>⟨Good.gl g k hk,(hs.gl g k hk).2⟩,λk x hk=>(by cases hk),λk x hk=>(by cases hk),λk x hk=>(by cases hk),λk k' x x' hk=>(by cases hk)⟩
  obtain⟨h10,h11⟩:=bMy hrec h0' h4 (λx hx=>(V.Sc.of (h2 x hx)).mono (Nat.zero_le _) (Nat.zero_le _));rw[hrun,h10];refine⟨rfl,h11.mono ?_⟩;rintro ex w' ⟨y,rfl,α',rfl,hst⟩;refine⟨?_,hst.fr.os,hst.fr.tape,hst.fr.output,hst.fr.size,λb hb=>hst.fr.block b hb λk x hk=>(by cases hk)⟩;rw[(V.Sc.of h6).ext (⟨λk hk=>absurd hk (Nat.not_lt_zero _),λk hk=>absurd hk (Nat.not_lt_zero _),λk hk=>absurd hk (Nat.not_lt_zero _)⟩:lT 0 0 α α')]
omit [Ctx]in
theorem oR{md:Region.Mode}{ops:Array Oper}{ls:List Nat}: ∀{od:List (Bool×Nat)} {p:Option Nat} {listed:Array Bool},iJ md ops ls od p listed=true->(∀k,p=some k->k<4096)->gT ops od=true
 |[],_,_,_,_=>rfl
 |(true,k)::r,p,_,h,hp=>by
  simp only[iJ,Bool.and_eq_true]at h;exact oR (od:=r) h.2.2.2 hp
 |(false,k)::r,p,listed,h,hp=>by
  by_cases hpk:p=some k
  .have hk:=hp k hpk;simp only[iJ,hpk,if_true]at h;simp only[gT,hk,if_true];exact oR h λk e=>by cases e
  .by_cases hk:k<4096
   .simp only[iJ,hpk,hk,if_false,if_true,Bool.and_eq_true]at h;simp only[gT,hk,if_true];exact oR h.2 hp
   .by_cases hq:wE<=k
    .simp only[iJ,hpk,hk,hq,if_false,if_true,Bool.and_eq_true]at h;simp only[gT,hk,hq,if_false,if_true,Bool.and_eq_true];exact⟨⟨(bFx h.1).1,h.2.1⟩,oR h.2.2.2.1 λk e=>by cases e⟩
    .simp only[iJ,hpk,hk,hq,if_false,Bool.and_eq_true]at h;simp only[gT,hk,hq,if_false,Bool.and_eq_true];exact⟨(zZ h.1).1,oR h.2 hp⟩
omit [Good]in
theorem Stp.adopt{α1:As}{s1:St}{w2:World}{el:TypeId}{cs:List V}(hs:Sim α s w)(hc: ∀v∈cs,v.Sc s.n s.c/\v.one=true)(h:Stp α s (w.alloc (.cells (cs.map (V.inst α)).toArray el)) α1 s1 w2):
  Stp α s w (α1.new s1.n w.heap.size s1.c 0) (s1.new (.cells cs el none false)) w2:=by
 have hsz:(w.alloc (.cells (cs.map (V.inst α)).toArray el)).heap.size=w.heap.size+1:=by
  show(w.heap.push _).size=_;exact Array.size_push ..
 have hb0:(α1.new s1.n w.heap.size s1.c 0).blk s1.n=w.heap.size:=by simp[As.new]
 have hbk: ∀k,k<s1.n->(α1.new s1.n w.heap.size s1.c 0).blk k=α1.blk k:=λk hk=>by simp[As.new];omega
 have hsame:lT s.n s.c α (α1.new s1.n w.heap.size s1.c 0):=h.same.trans (mE _ _ _ _ _) h.n h.c
 have hne: ∀k x,s1.h.get k=some x->α1.blk k≠w.heap.size:=λk x hk e=>by
  rcases h.new k x hk with ⟨k0,x0,h1,_,h3⟩|h1
  .have:=(hs.is k0 x0 h1).lt;omega
  .omega
 refine⟨hsame,Nat.le_trans h.n (Nat.le_succ _),h.c,⟨λg k hk=>?_,λk x hk=>?_,λk x hk=>?_,λk x hk=>?_,λk k' x x' hk hk' e=>?_⟩,⟨h.fr.os,h.fr.tape,h.fr.output,by have:=h.fr.size;omega,λb hb hn=>?_⟩,λk x hk=>?_⟩
 .obtain⟨h1,h2⟩:=h.sim.gl g k hk;exact⟨Nat.lt_succ_of_lt h1,by rw[hbk k h1];exact h2⟩
 .rcases gC hk with ⟨rfl,_⟩|⟨_,hk⟩
  .exact Nat.lt_succ_self _
  .exact Nat.lt_succ_of_lt (h.sim.lt k x hk)
 .rcases gC hk with ⟨rfl,e⟩|⟨_,hk⟩
  .injection e with e
   subst e;exact⟨λv hv=>⟨(hc v hv).1.mono (Nat.le_trans h.n (Nat.le_succ _)) h.c,(hc v hv).2⟩,λk hk=>by cases hk⟩
  .exact(h.sim.sc k x hk).mono (Nat.le_succ _) (Nat.le_refl _)
 .rcases gC hk with ⟨rfl,e⟩|⟨_,hk⟩
  .injection e with e
   subst e;rw[hb0];have hm:cs.map (V.inst α)=cs.map (V.inst (α1.new s1.n w.heap.size s1.c 0)):=List.map_congr_left λv hv=>(hc v hv).1.ext hsame;show w2.heap[w.heap.size]?=_;rw[h.fr.block _ k7 (λk x hk _ e=>by have:=(hs.is k x hk).lt;omega),heap_alloc_new,hm]
  .have hlt:=h.sim.lt k x hk;rw[hbk k hlt];exact(h.sim.is k x hk).ext (h.sim.sc k x hk) (mE _ _ _ _ _) rfl
 .rcases gC hk with ⟨rfl,_⟩|⟨_,h1⟩<;>rcases gC hk' with ⟨rfl,_⟩|⟨_,h1'⟩
  .rfl
  .rw[hb0,hbk _ (h.sim.lt _ _ h1')]at e;exact absurd e.symm (hne _ _ h1')
  .rw[hb0,hbk _ (h.sim.lt _ _ h1)]at e;exact absurd e (hne _ _ h1)
  .rw[hbk _ (h.sim.lt _ _ h1),hbk _ (h.sim.lt _ _ h1')]at e;exact h.sim.ne _ _ _ _ h1 h1' e
 .exact(h.fr.block b k7 hn).trans (heap_alloc_old w _ hb)
 .rcases gC hk with ⟨rfl,_⟩|⟨_,hk⟩
  .exact .inr (by rw[hb0];exact Nat.le_refl _)
  .rcases h.new k x hk with ⟨k0,x0,h1,h2,h3⟩|h1
   .exact .inl ⟨k0,x0,h1,h2,by rw[hbk k (h.sim.lt k x hk)];exact h3⟩
   .exact .inr (by rw[hbk k (h.sim.lt k x hk)];omega)
omit [Ctx] [Good]in
theorem same_bs{b b':TypeId×Option Nat×List V}(h:sameBs b b'=true):b=b':=by
 unfold sameBs at h;simp only[Bool.and_eq_true]at h;obtain⟨b1,b2,b3⟩:=b;obtain⟨c1,c2,c3⟩:=b';have h1:b1=c1:=jI h.1;have h2:b2=c2:=oeq_eq h.2.1;have h3:b3=c3:=pI (pH 4) h.2.2;rw[h1,h2,h3]
theorem pair_wp(hrec:rW rec){ops:Array Oper}{n0 c0 j l:Nat}(hD: ∀k x,h0.get k=some x->k∈D)(hlate:bCv ops j l=true)(hsel:Region.noSelect ops=true)(hs:Sim α s w)(he:EOk α s N e a)(hsame:lT n0 c0 α0 α)(hn:n0<=s.n)(hc:c0<=s.c)(hC:Cls α0 h0 n0 c0 w)
  (h:pairX rec N ops D h0 j l e s=some (e',s')) {K:Act->World->Prop} (k: ∀α' a' w',Stp α s w α' s' w'->EOk α' s' N e' a'->Cls α0 h0 n0 c0 w'->K a' w'):
  fOp Ctx.P ops j (λa w=> ∀w',Below w.heap.size w w'->Cls α0 h0 n0 c0 w'/\fOp Ctx.P ops l K a w') a w/\fOp Ctx.P ops l (λa w=> ∀w',Below w.heap.size w w'->Cls α0 h0 n0 c0 w'/\fOp Ctx.P ops j K a w') a w:=by
 obtain⟨oj,ol,hj,hl,hlo,hap,hjl⟩:=bDo hlate;obtain⟨oj',hj',h1⟩:=bB h;obtain⟨ol',hl',h2⟩:=bB h1;have hj':ops[j]?=some oj':=by rw[iF]at hj';simpa using hj'
 have hl':ops[l]?=some ol':=by rw[iF]at hl';simpa using hl'
 obtain rfl:oj'=oj:=Option.some.inj (hj'.symm.trans hj);obtain rfl:ol'=ol:=Option.some.inj (hl'.symm.trans hl);obtain⟨b,hb,h3⟩:=bB h2;obtain⟨⟨e1,s1⟩,hA,h4⟩:=bB h3;obtain⟨hk1,h5⟩:=bL h4;obtain⟨b',hb',h6⟩:=bB h5;obtain⟨hbb,h7⟩:=bL h6;obtain⟨⟨e2,s2⟩,hB,h8⟩:=bB h7;obtain⟨hk2,h9⟩:=bL h8;cases h9;obtain rfl:=same_bs hbb;refine⟨λo ho=>?_,?_⟩
 .
  obtain rfl:o=oj':=Option.some.inj (ho.symm.trans hj);refine kJ (wR hrec hs he hA λα1 a1 w1 g1 g2=>?_);have hsame1:=hsame.trans g1.same hn hc;have hC1:=Cls.keep hC hD hsame1 g1.sim hk1;intro w2 hb2;have hC2:Cls α0 h0 n0 c0 w2:=Sim.grow hC1 hb2;refine⟨hC2,λo' ho'=>?_⟩;obtain rfl:o'=ol':=Option.some.inj (ho'.symm.trans hl);have hst:=Stp.of_grow g1.sim hb2;refine kJ (wR hrec hst.sim g2 hB λα2 a2 w3 g3 g4=>?_);exact k α2 a2 w3 ((g1.trans hst).trans g3) g4 (Cls.keep hC2 hD (hsame1.trans g3.same (Nat.le_trans hn g1.n) (Nat.le_trans hc g1.c)) g3.sim hk2)
 .
  have hgd:ol'.guard=none/\ ∃d,ol'.dst=some d:=by
   unfold lateO at hlo;split at hlo
   all_goals first
    |cases hlo
    |(simp only[Bool.and_eq_true,Option.isNone_iff_eq_none,Option.isSome_iff_exists]at hlo;exact hlo)
  obtain⟨hg,d,hd⟩:=hgd;obtain⟨hrun,hbsc⟩:=bMt hs he hb;intro o ho;obtain rfl:o=ol':=Option.some.inj (ho.symm.trans hl);apply kJ
  have hw:Region.wanted o (yielded ops a.tmps)=true:=by
   unfold Region.wanted;rw[hg]
  rw[hw,if_pos rfl];unfold Oper.wp;rw[hrun];intro w2 hb2;have hal:Below w.heap.size w (w.alloc (.cells (b.2.2.map (V.inst α)).toArray b.1)):=(Below.refl _ _).alloc (Nat.le_refl _) _;have hbl:=nC hal hb2;refine⟨Sim.grow hC hbl,bPh hj hap (λcs q=>Region.noSelect_spec hsel j oj' cs q hj) ?_⟩;intro o2 ho2;obtain rfl:o2=oj':=Option.some.inj (ho2.symm.trans hj);refine kJ (wR hrec (hs.grow hbl) he hA λα1 a1 w3 g1 g2=>?_);have hfr:Stp α s (w.alloc (.cells (b.2.2.map (V.inst α)).toArray b.1)) α1 s1 w3:=(Stp.of_grow (hs.grow hal) hb2).trans g1;have had:=Stp.adopt hs hbsc hfr;have hB':=hB;obtain⟨tt,hwt,hB1⟩:=bB hB';have hwt:zC ops o e1=some tt:=hwt;unfold zC at hwt;rw[hg]at hwt;have hwt:some true=some tt:=hwt;cases hwt;obtain⟨rr,hop2,hB2⟩:=bB (show ob (opX o.op s1 e1) (doneX rec N o.dst e1)=some (e',s')from hB1);rw[late_op (s:=s1) hb']at hop2;cases hop2;have hB3:putX N o.dst (bGg s1.n b.2.1) (s1.new (.cells b.2.2 b.1 none false)) e1=some (e',s'):=hB2
  have he1:EOk (α1.new s1.n w.heap.size s1.c 0) (s1.new (.cells b.2.2 b.1 none false)) N e1 a1:=⟨g2.defers,g2.size,λi v hi=>by
   obtain⟨q1,q2⟩:=g2.get i v hi
   exact⟨q1.mono (Nat.le_succ _) (Nat.le_refl _),by rw[q2,q1.ext (mE _ _ _ _ _)]⟩⟩
  obtain⟨rfl,he2⟩:=rU he1 hB3
  have hv:(bGg s1.n b.2.1).inst (α1.new s1.n w.heap.size s1.c 0)=qZ w.heap.size b.2.1:=by
   obtain⟨b1,b2,b3⟩:=b;cases b2<;>simp[bGg,oc,qZ,V.inst,Cap.inst,As.new]
  rw[hv]at he2;exact k _ _ w3 had he2 (Cls.keep hC hD (hsame.trans had.same hn hc) had.sim hk2)
omit [Ctx] [Good]in
theorem bs_al{o:Op}(h:isAl o=true): ∃t,o= .alloc t:=by
 cases o<;>first|exact⟨_,rfl⟩|cases h
omit [Good]in
theorem late_done{ol:Oper}{αs:As}{ss:St}{ws:World}{b:TypeId×Option Nat×List V}{e1:E}{s1:St}(hss:Sim αs ss ws)(hbsc: ∀v∈b.2.2,v.Sc ss.n ss.c/\v.one=true)(hg:ol.guard=none)(hb:bsX ol.op e=some b){ops:Array Oper}
  (hst:Stp αs ss (ws.alloc (.cells (b.2.2.map (V.inst αs)).toArray b.1)) α s w) (he:EOk α s N e a) (h:yT rec N ops ol e s=some (e1,s1)):
  ∃α',Stp αs ss ws α' s1 w/\EOk α' s1 N e1 (a.put ol.dst (qZ ws.heap.size b.2.1)):=by
 have had:=Stp.adopt hss hbsc hst;obtain⟨tt,hwt,hB1⟩:=bB h;have hwt:zC ops ol e=some tt:=hwt;unfold zC at hwt;rw[hg]at hwt;have hwt:some true=some tt:=hwt;cases hwt;obtain⟨rr,hop2,hB2⟩:=bB (show ob (opX ol.op s e) (doneX rec N ol.dst e)=some (e1,s1)from hB1);rw[late_op (s:=s) hb]at hop2;cases hop2;have hB3:putX N ol.dst (bGg s.n b.2.1) (s.new (.cells b.2.2 b.1 none false)) e=some (e1,s1):=hB2
 have he1:EOk (α.new s.n ws.heap.size s.c 0) (s.new (.cells b.2.2 b.1 none false)) N e a:=⟨he.defers,he.size,λi v hi=>by
  obtain⟨q1,q2⟩:=he.get i v hi
  exact⟨q1.mono (Nat.le_succ _) (Nat.le_refl _),by rw[q2,q1.ext (mE _ _ _ _ _)]⟩⟩
 obtain⟨rfl,he2⟩:=rU he1 hB3
 have hv:(bGg s.n b.2.1).inst (α.new s.n ws.heap.size s.c 0)=qZ ws.heap.size b.2.1:=by
  obtain⟨b1,b2,b3⟩:=b;cases b2<;>simp[bGg,oc,qZ,V.inst,Cap.inst,As.new]
 rw[hv]at he2;exact⟨_,had,he2⟩
omit [Good]in
theorem mix_al{ops:Array Oper}{lx:Nat}{ol:Oper}: ∀{l:List (Bool×Nat)} {e:E} {s:St},gT ops l=true->xA ops lx l=true->ops[lx]?=some ol->isAl ol.op=true->ol.guard=none->lx<4096->wV rec N ops D h0 l e s=some (e',s')-> ∃b,∀e,bsX ol.op e=some b
 |[],_,_,_,hF,_,_,_,_,_=>by cases hF
 |(true,j)::l,e,s,hP,hF,hol,hal,hg,hlx,h=>by
  obtain⟨o,_,h1⟩:=bB (show ob (nthL ops.toList j) (λo=>ob (lookL rec N ops o h0 e s) λq=>wV rec N ops D h0 l q.1 q.2)=some (e',s')from h);obtain⟨⟨e1,s1⟩,_,h3⟩:=bB h1;have hF:((oc ops[lx]? false λol=>oc ops[j]? false λo=>ol.apart ops o)&&xA ops lx l)=true:=hF;rw[Bool.and_eq_true]at hF;exact mix_al (l:=l) hP hF.2 hol hal hg hlx h3
 |(false,j)::l,e,s,hP,hF,hol,hal,hg,hlx,h=>by
  obtain rfl:j=lx:=Nat.eq_of_beq_eq_true hF
  have h:sel (Nat.blt j 4096) (ob (nthL ops.toList j) λo=>ob (yT rec N ops o e s) λq=>gd (vW h0 D q.2) (wV rec N ops D h0 l q.1 q.2)) (sel (Nat.ble wE j) (ob (nthL ops.toList (oZ j)) λo=>ob (yT rec N ops o e s) λq=>gd (vW h0 D q.2) (wV rec N ops D h0 l q.1 q.2))
   (ob (pairX rec N ops D h0 (Nat.mod j 4096) (Nat.pred (Nat.div j 4096)) e s) λq=>wV rec N ops D h0 l q.1 q.2))=some (e',s'):=h
  rw[cJ,if_pos (by simpa[Nat.blt_eq]using hlx)]at h;obtain⟨o,ho,h1⟩:=bB h;obtain⟨⟨e1,s1⟩,h2,_⟩:=bB h1;have ho:ops[j]?=some o:=by rw[iF]at ho;simpa using ho
  obtain rfl:o=ol:=Option.some.inj (ho.symm.trans hol);obtain⟨t,ht⟩:=bs_al hal;obtain⟨tt,hwt,hB1⟩:=bB h2;have hwt:zC ops o e=some tt:=hwt;unfold zC at hwt;rw[hg]at hwt;have hwt:some true=some tt:=hwt;cases hwt;obtain⟨rr,hop2,_⟩:=bB (show ob (opX o.op s e) (doneX rec N o.dst e)=some (e1,s1)from hB1);rw[ht]at hop2⊢;obtain⟨z,hz,h5⟩:=bB (show ob (zeroX t) (λz=>gd (allL V.one z.cells) (some (.v (.p s.n 0) (s.new (.cells z.cells t none false)))))=some rr from hop2);obtain⟨h6,_⟩:=bL h5;refine⟨(t,none,z.cells),λe=>?_⟩;show ob (zeroX t) (λz=>gd (allL V.one z.cells) (some (t,none,z.cells)))=_;rw[hz];show gd (allL V.one z.cells) _=_;rw[h6];rfl
theorem bMv(hrec:rW rec){ops:Array Oper}{n0 c0:Nat}(hsel:Region.noSelect ops=true)(hD: ∀k x,h0.get k=some x->k∈D){K:Act->World->Prop}: ∀(l:List (Bool×Nat)),
  (∀(e:E) (s:St) (α:As) (w:World) (a:Act),Sim α s w->EOk α s N e a->lT n0 c0 α0 α->n0<=s.n->c0<=s.c->Cls α0 h0 n0 c0 w->gT ops l=true->
   wV rec N ops D h0 l e s=some (e',s')->(∀α' a' w',Stp α s w α' s' w'->EOk α' s' N e' a'->K a' w')->mD Ctx.P ops (Cls α0 h0 n0 c0) K l none a w)/\
  (∀(lx:Nat) (ol:Oper) (b:TypeId×Option Nat×List V) (e:E) (s:St) (α:As) (w:World) (a:Act) (αs:As) (ss:St) (ws:World),lx<4096->ops[lx]?=some ol->isAl ol.op=true->ol.guard=none->(∀e,bsX ol.op e=some b)->xA ops lx l=true->
   Sim αs ss ws->(∀v∈b.2.2,v.Sc ss.n ss.c/\v.one=true)->Stp αs ss (ws.alloc (.cells (b.2.2.map (V.inst αs)).toArray b.1)) α s w->EOk α s N e a->lT n0 c0 α0 αs->n0<=ss.n->c0<=ss.c->Cls α0 h0 n0 c0 w->gT ops l=true->
   wV rec N ops D h0 l e s=some (e',s')->(∀α' a' w',Stp αs ss ws α' s' w'->EOk α' s' N e' a'->K a' w')->mD Ctx.P ops (Cls α0 h0 n0 c0) K l (some lx) (a.put ol.dst (qZ ws.heap.size b.2.1)) w)
 |[]=>⟨λe s α w a hs he hsame hn hc hC hP h k w' hb=>by
   have h:some (e,s)=some (e',s'):=h;cases h
   exact⟨Sim.grow hC hb,k α a w' (Stp.of_grow hs hb) he⟩,λ_ _ _ _ _ _ _ _ _ _ _ _ _ _ _ _ h=>by cases h⟩
 |(true,j)::l=>by
  obtain⟨ihM,ihL⟩:=bMv hrec hsel hD l;refine⟨λe s α w a hs he hsame hn hc hC hP h k=>?_,λlx ol b e s α w a αs ss ws hlx hol hal hg hb hF hss hbsc hst he hsame hn hc hC hP h k=>?_⟩
  .obtain⟨o,ho,h1⟩:=bB (show ob (nthL ops.toList j) (λo=>ob (lookL rec N ops o h0 e s) λq=>wV rec N ops D h0 l q.1 q.2)=some (e',s')from h);obtain⟨⟨e1,s1⟩,h2,h3⟩:=bB h1;obtain⟨t,ht,h4⟩:=bB h2;have ho:ops[j]?=some o:=by rw[iF]at ho;simpa using ho
   rw[cJ]at h4
   cases t with
   |false=>
    simp only[Bool.false_eq_true,if_false]at h4;obtain⟨rfl,h5⟩:=rU he h4;rw[uX]at h5;exact⟨o,undef,ho,.inr ⟨bCs he ht,rfl⟩,ihM e1 s1 α w _ hs h5 hsame hn hc hC hP h3 k⟩
   |true=>
    simp only[if_true]at h4;obtain⟨v,hv,h5⟩:=bB h4;obtain⟨rfl,h6⟩:=rU he h5;exact⟨o,v.inst α,ho,.inl ⟨bCs he ht,look_ok hrec (λw' hw'=>Cls.up hw' hsame hn hc) he hv⟩,ihM e1 s1 α w _ hs h6 hsame hn hc hC hP h3 k⟩
  .obtain⟨o,ho,h1⟩:=bB (show ob (nthL ops.toList j) (λo=>ob (lookL rec N ops o h0 e s) λq=>wV rec N ops D h0 l q.1 q.2)=some (e',s')from h);obtain⟨⟨e1,s1⟩,h2,h3⟩:=bB h1;obtain⟨t,ht,h4⟩:=bB h2;have ho:ops[j]?=some o:=by rw[iF]at ho;simpa using ho
   have hF':ol.apart ops o=true/\xA ops lx l=true:=by
    have hF0:((oc ops[lx]? false λol=>oc ops[j]? false λo=>ol.apart ops o)&&xA ops lx l)=true:=hF;rw[hol,ho,Bool.and_eq_true]at hF0;exact hF0
   obtain⟨a1,a2,a3⟩:=Oper.apart_spec hF'.1;have hso: ∀cs q,o.op≠ .select cs q:=λcs q=>Region.noSelect_spec hsel j o cs q ho;have up: ∀v,Fq Ctx.P ops (Cls α0 h0 n0 c0) o v a->Fq Ctx.P ops (Cls α0 h0 n0 c0) o v (a.put ol.dst (qZ ws.heap.size b.2.1)):=λv hy=>hy.of_same (execOp_put o hso a ol.dst _ a1) (wanted_put o a ol.dst _ a1);have hsam:lT n0 c0 α0 α:=hsame.trans hst.same hn hc;have hn':=Nat.le_trans hn hst.n;have hc':=Nat.le_trans hc hst.c;rw[cJ]at h4
   cases t with
   |false=>
    simp only[Bool.false_eq_true,if_false]at h4;obtain⟨rfl,h5⟩:=rU he h4;rw[uX]at h5;refine⟨o,undef,ho,up _ (.inr ⟨bCs he ht,rfl⟩),?_⟩;rw[Act.put_comm a _ _ a2];exact ihL lx ol b e1 s1 α w _ αs ss ws hlx hol hal hg hb hF'.2 hss hbsc hst h5 hsame hn hc hC hP h3 k
   |true=>
    simp only[if_true]at h4;obtain⟨v,hv,h5⟩:=bB h4;obtain⟨rfl,h6⟩:=rU he h5;refine⟨o,v.inst α,ho,up _ (.inl ⟨bCs he ht,look_ok hrec (λw' hw'=>Cls.up hw' hsam hn' hc') he hv⟩),?_⟩;rw[Act.put_comm a _ _ a2];exact ihL lx ol b e1 s1 α w _ αs ss ws hlx hol hal hg hb hF'.2 hss hbsc hst h6 hsame hn hc hC hP h3 k
 |(false,j)::l=>by
  obtain⟨ihM,ihL⟩:=bMv hrec hsel hD l;refine⟨λe s α w a hs he hsame hn hc hC hP h k=>?_,λlx ol b e s α w a αs ss ws hlx hol hal hg hb hF hss hbsc hst he hsame hn hc hC hP h k=>?_⟩
  .simp only[mD,reduceCtorEq,if_false];intro w' hb
   have h:sel (Nat.blt j 4096) (ob (nthL ops.toList j) λo=>ob (yT rec N ops o e s) λq=>gd (vW h0 D q.2) (wV rec N ops D h0 l q.1 q.2)) (sel (Nat.ble wE j) (ob (nthL ops.toList (oZ j)) λo=>ob (yT rec N ops o e s) λq=>gd (vW h0 D q.2) (wV rec N ops D h0 l q.1 q.2))
    (ob (pairX rec N ops D h0 (Nat.mod j 4096) (Nat.pred (Nat.div j 4096)) e s) λq=>wV rec N ops D h0 l q.1 q.2))=some (e',s'):=h
   have hC':Cls α0 h0 n0 c0 w':=Sim.grow hC hb;have hst:=Stp.of_grow hs hb;rw[cJ,cJ]at h
   by_cases hj:j<4096
   .rw[if_pos (by simpa[Nat.blt_eq]using hj)]at h;rw[if_pos hj];have hP:gT ops l=true:=by simpa only[gT,hj,if_true]using hP
    obtain⟨o,ho,h1⟩:=bB h;obtain⟨⟨e1,s1⟩,h2,h3⟩:=bB h1;obtain⟨h4,h5⟩:=bL h3;have ho:ops[j]?=some o:=by rw[iF]at ho;simpa using ho
    refine⟨hC',λo' ho'=>?_⟩;have:o'=o:=Option.some.inj (ho'.symm.trans ho);subst this;refine kJ (wR hrec hst.sim he h2 λα1 a1 w1 h6 h7=>?_);have hsame1:lT n0 c0 α0 α1:=hsame.trans h6.same hn hc;exact ihM e1 s1 α1 w1 a1 h6.sim h7 hsame1 (Nat.le_trans hn h6.n) (Nat.le_trans hc h6.c) (Cls.keep hC' hD hsame1 h6.sim h4) hP h5 λα2 a2 w2 h8 h9=>k α2 a2 w2 ((hst.trans h6).trans h8) h9
   .rw[if_neg (by simpa[Nat.blt_eq]using hj)]at h;rw[if_neg hj]
    by_cases hq:wE<=j
    .rw[if_pos (Nat.ble_eq_true_of_le hq)]at h;rw[if_pos hq];have hP:(bPi ops (oZ j) (sC j)=true/\xA ops (sC j) l=true)/\gT ops l=true:=by simpa only[gT,hj,hq,if_false,if_true,Bool.and_eq_true]using hP
     obtain⟨o,ho,h1⟩:=bB h;obtain⟨⟨e1,s1⟩,h2,h3⟩:=bB h1;obtain⟨h4,h5⟩:=bL h3;have ho:ops[oZ j]?=some o:=by rw[iF]at ho;simpa using ho
     obtain⟨hlB,hlx,ol,hol,hal⟩:=late_of hP.1.1;obtain⟨oj,ol',hj',hl',hlo,hap,hjl⟩:=bDo hlB;obtain rfl:ol'=ol:=Option.some.inj (hl'.symm.trans hol);obtain rfl:oj=o:=Option.some.inj (hj'.symm.trans ho);refine⟨hC',λo' ho'=>?_,λo' ho'=>?_⟩
     .have:o'=oj:=Option.some.inj (ho'.symm.trans ho);subst this;refine kJ (wR hrec hst.sim he h2 λα1 a1 w1 h6 h7=>?_);have hsame1:lT n0 c0 α0 α1:=hsame.trans h6.same hn hc;exact ihM e1 s1 α1 w1 a1 h6.sim h7 hsame1 (Nat.le_trans hn h6.n) (Nat.le_trans hc h6.c) (Cls.keep hC' hD hsame1 h6.sim h4) hP.2 h5 λα2 a2 w2 h8 h9=>k α2 a2 w2 ((hst.trans h6).trans h8) h9
     .obtain rfl:o'=ol':=Option.some.inj (ho'.symm.trans hol);obtain⟨t,ht⟩:=bs_al hal
      have hgd:o'.guard=none:=by
       unfold lateO at hlo;rw[ht]at hlo;simp only[Bool.and_eq_true,Option.isNone_iff_eq_none]at hlo;exact hlo.1
      obtain⟨b,hb0⟩:=mix_al hP.2 hP.1.2 hol hal hgd hlx h5;obtain⟨hrun,hbsc⟩:=bMt hst.sim he (hb0 e);apply kJ
      have hw:Region.wanted o' (yielded ops a.tmps)=true:=by
       unfold Region.wanted;rw[hgd]
      rw[hw,if_pos rfl];unfold Oper.wp;rw[hrun];intro w2 hb2;have hall:Below w'.heap.size w' (w'.alloc (.cells (b.2.2.map (V.inst α)).toArray b.1)):=(Below.refl _ _).alloc (Nat.le_refl _) _;have hbl:=nC hall hb2;have hC2:Cls α0 h0 n0 c0 w2:=Sim.grow hC' hbl;refine⟨hC2,bPh hj' hap (λcs q=>Region.noSelect_spec hsel _ oj cs q hj') ?_⟩;intro o2 ho2;obtain rfl:o2=oj:=Option.some.inj (ho2.symm.trans hj');refine kJ (wR hrec (hst.sim.grow hbl) he h2 λα1 a1 w3 g1 g2=>?_);have hfr:Stp α s (w'.alloc (.cells (b.2.2.map (V.inst α)).toArray b.1)) α1 s1 w3:=(Stp.of_grow (hst.sim.grow hall) hb2).trans g1;have hsame1:lT n0 c0 α0 α1:=hsame.trans g1.same hn hc;exact ihL (sC j) o' b e1 s1 α1 w3 a1 α s w' hlx hol hal hgd hb0 hP.1.2 hst.sim hbsc hfr g2 hsame hn hc (Cls.keep hC2 hD hsame1 g1.sim h4) hP.2 h5 λα2 a2 w4 h8 h9=>k α2 a2 w4 (hst.trans h8) h9
    .rw[if_neg (λe=>hq (Nat.le_of_ble_eq_true e))]at h;rw[if_neg hq];have hP:bCv ops (j%4096) (j/4096-1)=true/\gT ops l=true:=by simpa only[gT,hj,hq,if_false,Bool.and_eq_true]using hP
     obtain⟨⟨e1,s1⟩,h2,h3⟩:=bB h
     exact⟨hC',pair_wp hrec hD hP.1 hsel hst.sim he hsame hn hc hC' h2 λα1 a1 w1 h6 h7 h8=>
      ihM e1 s1 α1 w1 a1 h6.sim h7 (hsame.trans h6.same hn hc) (Nat.le_trans hn h6.n) (Nat.le_trans hc h6.c) h8 hP.2 h3 λα2 a2 w2 h9 h10=>k α2 a2 w2 ((hst.trans h6).trans h9) h10⟩
  .obtain rfl:j=lx:=Nat.eq_of_beq_eq_true hF;simp only[mD,if_true]
   have h:sel (Nat.blt j 4096) (ob (nthL ops.toList j) λo=>ob (yT rec N ops o e s) λq=>gd (vW h0 D q.2) (wV rec N ops D h0 l q.1 q.2)) (sel (Nat.ble wE j) (ob (nthL ops.toList (oZ j)) λo=>ob (yT rec N ops o e s) λq=>gd (vW h0 D q.2) (wV rec N ops D h0 l q.1 q.2))
    (ob (pairX rec N ops D h0 (Nat.mod j 4096) (Nat.pred (Nat.div j 4096)) e s) λq=>wV rec N ops D h0 l q.1 q.2))=some (e',s'):=h
   rw[cJ,if_pos (by simpa[Nat.blt_eq]using hlx)]at h;have hP:gT ops l=true:=by simpa only[gT,hlx,if_true]using hP
   obtain⟨o,ho,h1⟩:=bB h;obtain⟨⟨e1,s1⟩,h2,h3⟩:=bB h1;obtain⟨h4,h5⟩:=bL h3;have ho:ops[j]?=some o:=by rw[iF]at ho;simpa using ho
   obtain rfl:o=ol:=Option.some.inj (ho.symm.trans hol);obtain⟨α',g1,g2⟩:=late_done hss hbsc hg (hb e) hst he h2;have hsame1:lT n0 c0 α0 α':=hsame.trans g1.same hn hc;exact ihM e1 s1 α' w _ g1.sim g2 hsame1 (Nat.le_trans hn g1.n) (Nat.le_trans hc g1.c) (Cls.keep hC hD hsame1 g1.sim h4) hP h5 λα2 a2 w2 h8 h9=>k α2 a2 w2 (g1.trans h8) h9
theorem mix_wp(hrec:rW rec){ops:Array Oper}{n0 c0:Nat}(hsel:Region.noSelect ops=true)(hD: ∀k x,h0.get k=some x->k∈D){K:Act->World->Prop}(l:List (Bool×Nat))(e:E)(s:St)(α:As)(w:World)(a:Act)(hs:Sim α s w)(he:EOk α s N e a)(hsame:lT n0 c0 α0 α)(hn:n0<=s.n)(hc:c0<=s.c)(hC:Cls α0 h0 n0 c0 w)(hP:gT ops l=true)
  (h:wV rec N ops D h0 l e s=some (e',s')) (k: ∀α' a' w',Stp α s w α' s' w'->EOk α' s' N e' a'->K a' w'):mD Ctx.P ops (Cls α0 h0 n0 c0) K l none a w:=(bMv hrec hsel hD l).1 e s α w a hs he hsame hn hc hC hP h k
theorem tail_wp(hrec:rW rec){ops:Array Oper}{K:Act->World->Prop}: ∀(ls:List Nat) (e:E) (s:St) (α:As) (w:World) (a:Act),Sim α s w->EOk α s N e a->lastR rec N ops ls e s=some (e',s')->(∀α' a' w',Stp α s w α' s' w'->EOk α' s' N e' a'->K a' w')->bLt Ctx.P ops K ls a w
 |[],e,s,α,w,a,hs,he,h,k=>by
  have h:some (e,s)=some (e',s'):=h;cases h;exact k α a w (Stp.of_grow hs (Below.refl _ _)) he
 |l::ls,e,s,α,w,a,hs,he,h,k=>λo' ho'=>by
  obtain⟨o,ho,h1⟩:=bB (show ob (nthL ops.toList l) (λo=>ob (yT rec N ops o e s) λq=>lastR rec N ops ls q.1 q.2)=some (e',s')from h);obtain⟨⟨e1,s1⟩,h2,h3⟩:=bB h1;have ho:ops[l]?=some o:=by rw[iF]at ho;simpa using ho
  have:o'=o:=Option.some.inj (ho'.symm.trans ho);subst this;exact kJ (wR hrec hs he h2 λα1 a1 w1 h6 h7=>tail_wp hrec ls e1 s1 α1 w1 a1 h6.sim h7 h3 λα2 a2 w2 h8 h9=>k α2 a2 w2 (h6.trans h8) h9)
theorem reg_wp(hrec:rW rec){f id:Nat}{ops:Array Oper}{draw:Bool}(hv:lL f (.region id ops draw)=true)(hs:Sim α s w)(he:EOk α s N e a)(h:regX rec f N id ops draw e s=some (e',s')){Q:Exit->Act->World->Prop}
  (k: ∀α' a' w',Stp α s w α' s' w'->EOk α' s' N e' a'->Q .normal a' w'):(Code.region id ops draw).wp Ctx.P Q a w:=by
 cases draw with
 |false=>exact wp_region_list (ops_wp hrec ops.toList e s α w a hs he h k)
 |true=>
  obtain⟨⟨od,ls⟩,hp,h1⟩:=bB (show ob (Ctx.plan f id) (λq=>drawX rec N ops q.1 q.2 (bPq N s ops q.1 e) e s)=some (e',s')from h);obtain⟨⟨e1,s1⟩,h2,h3⟩:=bB h1;have hv:oc (Ctx.plan f id) true (planOk ops)=true:=hv;rw[hp]at hv;have hb:Below w.heap.size w w.drew:=(Below.refl _ _).drew;have hst:=Stp.of_grow hs hb;have hD: ∀k x,(restX s (bPq N s ops od e)).get k=some x->k∈bPq N s ops od e:=λk x hk=>(rP s _ k x hk).1;have hv0:Region.noSelect ops=true/\Nat.beq (wB od none+ls.length) ops.size=true/\iJ .any ops ls od none (Array.replicate ops.size false)=true:=by simpa only[planOk,oc,xG,Bool.and_eq_true]using hv
  exact region_tail Good.mixed (show xG ls od ops=true from hv) (mix_wp hrec hv0.1 hD od e s α w.drew a hst.sim he (lT.refl _ _ _) (Nat.le_refl _) (Nat.le_refl _) (hst.sim.rest _) (oR hv0.2.2 λk e=>by cases e) h2 λα1 a1 w1 h4 h5=>
   tail_wp hrec ls e1 s1 α1 w1 a1 h4.sim h5 h3 λα2 a2 w2 h7 h8=>k α2 a2 w2 ((hst.trans h4).trans h7) h8)
omit [Good]in
theorem Post.behind{α1:As}{s1 s2:St}{w1:World}{x:Ex}(h:Stp α s w α1 s1 w1){ex:Exit}{a':Act}{w':World}(hp:Post α1 s1 w1 N x e' s2 ex a' w'):Post α s w N x e' s2 ex a' w':=by
 obtain⟨h1,α2,h2,h3⟩:=hp;exact⟨h1,α2,h.trans h2,h3⟩
omit [Good]in
theorem xR(hs:Sim α s w)(he:EOk α s N e a)(x:Ex):Post α s w N x e s (exitOf x) a w:=⟨rfl,α,Stp.refl hs,he⟩
def LoopOk(n:Nat):Prop:= ∀f N c e s x e' s',lL f c=true->zV n f N (.loop c) e s=some (x,e',s')-> ∀α w a,Sim α s w->EOk α s N e a->Code.rounds Ctx.P c (Post α s w N x e' s') n a w
omit [Ctx] [Good]in
theorem rounds_mono{P:Program}{c:Code}{Q Q':Exit->Act->World->Prop}(hq: ∀e a w,Q e a w->Q' e a w): ∀(n:Nat) (a:Act) (w:World),Code.rounds P c Q n a w->Code.rounds P c Q' n a w
 |0,_,_,h=>h
 |n+1,a,w,h=>by
  refine Code.wp_mono (λe a w h=>?_) h
  cases e with
  |normal=>exact rounds_mono hq n a w h
  |_=>exact hq _ _ _ h
omit [Good]in
theorem loop_ok{n:Nat}(hrec:rW (zV n))(hl:LoopOk n):LoopOk (n+1):=λf N c e s x e' s' hv h α w a hs he=>by
 obtain⟨⟨y,e1,s1⟩,h1,h2⟩:=bB (show ob (zV n f N c e s) (seqX (zV n) f N (.loop c))=some (x,e',s')from h);rw[rounds_succ];refine Code.wp_mono (λex a' w' hp=>?_) (hrec f N c e s y e1 s1 hv h1 α w a hs he);obtain⟨rfl,α1,h3,h4⟩:=hp
 cases y with
 |nm=>exact rounds_mono (λ_ _ _ hp=>hp.behind h3) n _ _ (hl f N c e1 s1 x e' s' hv h2 α1 w' a' h3.sim h4)
 |ex id=>
  have h2:some (Ex.ex id,e1,s1)=some (x,e',s'):=h2;cases h2;exact⟨rfl,α1,h3,h4⟩
 |rt=>
  have h2:some (Ex.rt,e1,s1)=some (x,e',s'):=h2;cases h2;exact⟨rfl,α1,h3,h4⟩
theorem step_ok{n:Nat}(hrec:rW (zV n))(hl:LoopOk (n+1)):rW (zV (n+1)):=λf N c e s x e' s' hv h α w a hs he=>by
 have h:stepX (zV n) f N c e s=some (x,e',s'):=h
 cases c with
 |skip=>cases h;exact wp_skip (xR hs he .nm)
 |label l=>cases h;exact wp_label (xR hs he .nm)
 |exit id=>cases h;exact wp_exit (xR hs he (.ex id))
 |ret=>cases h;exact wp_ret (xR hs he .rt)
 |region id ops draw=>
  obtain⟨⟨e1,s1⟩,h1,h2⟩:=bB (show ob (regX (zV n) f N id ops draw e s) nmX=some (x,e',s')from h);cases h2
  exact reg_wp hrec hv hs he h1 λα1 a1 w1 h3 h4=>⟨rfl,α1,h3,h4⟩
 |seq c1 c2=>
  obtain⟨⟨y,e1,s1⟩,h1,h2⟩:=bB (show ob (zV n f N c1 e s) (seqX (zV n) f N c2)=some (x,e',s')from h);have hv:(lL f c1&&lL f c2)=true:=hv;rw[Bool.and_eq_true]at hv;refine wp_seq (Code.wp_mono (λex a' w' hp=>?_) (hrec f N c1 e s y e1 s1 hv.1 h1 α w a hs he));obtain⟨rfl,α1,h3,h4⟩:=hp
  cases y with
  |nm=>exact Code.wp_mono (λ_ _ _ hp=>hp.behind h3) (hrec f N c2 e1 s1 x e' s' hv.2 h2 α1 w' a' h3.sim h4)
  |ex id=>
   have h2:some (Ex.ex id,e1,s1)=some (x,e',s'):=h2;cases h2;exact⟨rfl,α1,h3,h4⟩
  |rt=>
   have h2:some (Ex.rt,e1,s1)=some (x,e',s'):=h2;cases h2;exact⟨rfl,α1,h3,h4⟩
 |cond c0 c1 c2=>
  obtain⟨v,h1,h2⟩:=bB (show ob (evX c0 e) _=some (x,e',s')from h);obtain⟨t,rfl,h3⟩:=bKp h2;have hc:=(bV hs he h1).1;have hv:(lL f c1&&lL f c2)=true:=hv;rw[Bool.and_eq_true]at hv
  cases t with
  |true=>exact wp_cond_true hc (hrec f N c1 e s x e' s' hv.1 h3 α w a hs he)
  |false=>exact wp_cond_false hc (hrec f N c2 e s x e' s' hv.2 h3 α w a hs he)
 |block id c=>
  obtain⟨⟨y,e1,s1⟩,h1,h2⟩:=bB (show ob (zV n f N c e s) (blockX id)=some (x,e',s')from h);refine wp_block (Code.wp_mono (λex a' w' hp=>?_) (hrec f N c e s y e1 s1 hv h1 α w a hs he));obtain⟨rfl,α1,h3,h4⟩:=hp
  cases y with
  |nm=>
   have h2:some (Ex.nm,e1,s1)=some (x,e',s'):=h2;cases h2;exact⟨rfl,α1,h3,h4⟩
  |ex i=>
   have h2:some (sel (Nat.beq i id) (Ex.nm,e1,s1) (Ex.ex i,e1,s1))=some (x,e',s'):=h2;show if i=id then _ else _
   rw[cJ]at h2;split
   .rename_i hi;subst hi;rw[if_pos (Nat.beq_refl i)]at h2;cases h2;exact⟨rfl,α1,h3,h4⟩
   .rename_i hi;rw[if_neg (λhb=>hi (Nat.eq_of_beq_eq_true hb))]at h2;cases h2;exact⟨rfl,α1,h3,h4⟩
  |rt=>
   have h2:some (Ex.rt,e1,s1)=some (x,e',s'):=h2;cases h2;exact⟨rfl,α1,h3,h4⟩
 |loop c=>exact wp_loop_rounds (n+1) (hl f N c e s x e' s' hv h α w a hs he)
 |scope c=>
  refine wp_scope_straight (Code.wp_mono (λex a' w' hp=>?_) (hrec f N c e s x e' s' hv h α w a hs he));have h1:=hp.1;cases x<;>subst h1<;>exact hp
 |_=>cases h
theorem run_both: ∀n,rW (zV n)/\LoopOk n
 |0=>⟨λ_ _ _ _ _ _ _ _ _ h=>(by cases h),λ_ _ _ _ _ _ _ _ _ h=>(by cases h)⟩
 |n+1=>by
  obtain⟨h1,h2⟩:=run_both n;have h3:=loop_ok h1 h2;exact⟨step_ok h1 h3,h3⟩
theorem run_ok(n:Nat):rW (zV n):=(run_both n).1
end
end X
end
end Go.Proofs.YtnfiadlonjediaaGreatDoor
