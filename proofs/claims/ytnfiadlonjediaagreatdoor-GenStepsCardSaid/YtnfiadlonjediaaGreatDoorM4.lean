/- Texts of one proof, one behind the other: RunM, Open, Held, Str, Fun, RunC, RunD. -/
import Derived.Test.YtnfiadlonjediaaGreatDoorM2
import Derived.Test.YtnfiadlonjediaaGreatDoorM1
import Derived.ProofKit
import Derived.OpenShut
import Derived.Carry
import Derived.SizedLaws
import Derived.Deep.Slices
import Derived.Scope
import Derived.Test.YtnfiadlonjediaaGreatDoorM3
namespace Go.Proofs.YtnfiadlonjediaaGreatDoor
open Region renaming wanted->E2,ready->E3,binds->E4,noSelect->E5,noSelect_spec->O7
open Oper renaming wp->F4,apart_spec->O8,upon_skip->F6,upon_value->F5,upon_enter->F7
open _root_.Bool renaming false_eq_true->G0,and_eq_true->G1,not_eq_true'->L3,or_eq_true->G6
open _root_.Array renaming getElem?_eq_none->j9,setIfInBounds_comm->O9,replicate->A8,getD_eq_getD_getElem?->P1
open _root_.Nat renaming eq_of_beq_eq_true->B7,blt_eq->H9,mul_le_mul_right->C8,beq->B5,blt->C0,zero_le->P2,le_refl->B8,lt_of_lt_of_le->B6,lt_succ_self->J9,not_lt_zero->P3,le_trans->B9,le_succ->J8,lt_succ_of_lt->P4
open World renaming cell?->j7
open _root_.List renaming mem_append->D0,mem_cons->C9,range->P5,getElem?_eq_some_iff->D9,getElem?_eq_getElem->D7,all_eq_true->D6,length_set->P6,getElem?_set_self->P7,getElem?_set_ne->P8,mem_cons_self->D5,mem_cons_of_mem->D1,append_nil->P9,pairwise_cons->D2
open Sem renaming run_bind->E6,run_pure->E7
open Result renaming andThen_ok->E8
open Builtin renaming append_->N1,lenOf->M8,firstCells->M9
open _root_.Option renaming getD_some->L4,isNone_iff_eq_none->Q4
open Code renaming wp_mono->Q5,rounds->B4
section
namespace X
open Go.RowKit
section
variable {P : Program} {ops : Array Oper} {md : Region.Mode} {C : World -> Prop} {R : Array Bool -> Act -> World -> Prop}
def bTi (P:Program)(w:World)(v:Value):Result Next->Prop
 |.ok (.value u) w'=>w'=w/\u=v
 |.ok (.enter f args) w'=>w'=w/\Calls P f args w λe w''=>e= .returned v/\Below w.heap.size w w''
 |_=>False
def looksAt(P:Program)(o:Oper)(a:Act)(C:World->Prop)(v:Value):Prop:= ∀w,C w->bTi P w v ((execOp a.eval o).run P w)
def Fq (P:Program)(ops:Array Oper)(C:World->Prop)(o:Oper)(v:Value)(a:Act):Prop:=
 (E2 o (yielded ops a.tmps)=true/\looksAt P o a C v)\/(E2 o (yielded ops a.tmps)=false/\v=undef)
theorem Fq.of_same{o:Oper}{v:Value}{a a':Act}(hy:Fq P ops C o v a)(he:execOp a'.eval o=execOp a.eval o)
  (hw:E2 o (yielded ops a'.tmps)=E2 o (yielded ops a.tmps)):Fq P ops C o v a':=by
 unfold Fq looksAt at*;rw[he,hw];exact hy
theorem Fq.fOp{i:Nat}{o:Oper}{v:Value}{a:Act}{w:World}(hi:ops[i]?=some o)(hy:Fq P ops C o v a)(hC:C w){K:Act->World->Prop}(h: ∀w',Below w.heap.size w w'->K (a.put o.dst v) w'):fOp P ops i K a w:=λd c=>by
 have:d=o:=Option.some.inj (c.symm.trans hi);subst this;apply kQ
 rcases hy with ⟨b,j⟩|⟨b,rfl⟩
 .simp only[b,if_true];have h1:=j w hC;unfold F4;generalize (execOp a.eval d).run P w=r at*
  cases r with
  |ok n w'=>
   cases n<;>simp only[bTi]at h1<;>simp only[Oper.upon]
   case value u=>
    obtain⟨rfl,rfl⟩:=h1;exact h _ (Below.refl _ _)
   case enter f args=>
    obtain⟨rfl,l⟩:=h1
    exact l.mono λe g ⟨k,hb⟩=>by
     subst k;exact h _ hb
  |halt x w'=>exact h1.elim
 .simp only[b,G0,if_false];exact h _ (Below.refl _ _)
theorem fOp_putq{j:Nat}{oi oj:Oper}{v:Value}(hj:ops[j]?=some oj)(hap:oi.apart ops oj=true)
  (hsi: ∀cs b,oi.op≠ .select cs b) (hsj: ∀cs b,oj.op≠ .select cs b) {K:Act->World->Prop} {a:Act} {w:World}
  (hy:Fq P ops C oi v a) (h:fOp P ops j K (a.put oi.dst v) w):fOp P ops j (λa' w'=>Fq P ops C oi v a'/\K (a'.put oi.dst v) w') a w:=λo ho=>by
 have:o=oj:=Option.some.inj (ho.symm.trans hj);subst this;obtain⟨h1,e,g⟩:=O8 hap
 have keep: ∀(a:Act),Fq P ops C oi v a-> ∀u,Fq P ops C oi v (a.put o.dst u):=λa hy u=>
  hy.of_same (execOp_put oi hsi a o.dst u g) (wanted_put oi a o.dst u g)
 have h:=wpNm (h o ho);rw[wanted_put o a oi.dst v h1]at h;apply kQ;split
 .rename_i c;simp only[c,if_true]at h;refine pJ (execOp_put o hsj a oi.dst v h1).symm (λu w' f=>⟨keep a hy u,by rw[<-Act.put_comm a v u e];exact f⟩) (λd w' f=>?_) h;refine⟨keep {a with defers:=d::a.defers} hy undef,?_⟩;rw[<-Act.put_comm {a with defers:=d::a.defers} v undef e]
  have:({a.put oi.dst v with defers:=d::(a.put oi.dst v).defers}:Act)=({a with defers:=d::a.defers}:Act).put oi.dst v:=by
   cases oi.dst<;>rfl
  rw[<-this];exact f
 .rename_i c;simp only[c]at h;exact⟨keep a hy _,by rw[<-Act.put_comm a v undef e];exact h⟩
def uI (P:Program)(md:Region.Mode)(ops:Array Oper)(C:World->Prop)(R:Array Bool->Act->World->Prop):Nat->Array Bool->Act->World->Prop
 |0,listed,a,w=> ∀w',Below w.heap.size w w'->C w'/\R listed a w'
 |fuel+1,listed,a,w=> ∀w',Below w.heap.size w w'->C w'/\E3 md ops listed≠[]/\ ∀i∈E3 md ops listed,fOp P ops i (uI P md ops C R fuel (listed.setIfInBounds i true)) a w'
theorem oK{a b c:World}(h:Below a.heap.size a b)(k:Below b.heap.size b c):Below a.heap.size a c:=h.trans (k.mono h.size)
theorem uI.grow: ∀{fuel:Nat} {listed:Array Bool} {a:Act} {w w':World},uI P md ops C R fuel listed a w->Below w.heap.size w w'->uI P md ops C R fuel listed a w'
 |0,_,_,_,_,h,hb=>λb c=>h b (oK hb c)
 |_+1,_,_,_,_,h,hb=>λb c=>h b (oK hb c)
theorem wP{Q:Exit->Act->World->Prop}(m:Nat)(hR: ∀listed a w,R listed a w->wpAny P md ops Q m listed a w): ∀(fuel:Nat) (listed:Array Bool) (a:Act) (w:World),uI P md ops C R fuel listed a w->wpAny P md ops Q (fuel+m) listed a w
 |0,listed,a,w,h=>by
  rw[Nat.zero_add];exact hR _ _ _ (h w (Below.refl _ _)).2
 |fuel+1,listed,a,w,h=>by
  rw[Nat.succ_add];obtain⟨_,h1,k⟩:=h w (Below.refl _ _);refine⟨λe=>absurd e h1,λi g=>?_⟩;have j:=k i g;unfold wpOp;split
  .rename_i ho;obtain⟨_,l,b,_⟩:=mem_ready.1 g;rw[ho]at b;cases b
  .rename_i o ho;have h1:=wpNm (j o ho);split
   .rename_i c;simp only[c,if_true]at h1;exact .inl (pJ rfl (λu w' f=>wP m hR fuel _ _ _ f) (λd w' f=>wP m hR fuel _ _ _ f) h1)
   .rename_i c;simp only[c]at h1;exact wP m hR fuel _ _ _ h1
theorem wpAnyG_first{i:Nat}{oi:Oper}{v:Value}(hi:ops[i]?=some oi)(hsel: ∀(j:Nat) (o:Oper) cs b,ops[j]?=some o->o.op≠ .select cs b)(hR: ∀listed a w,R listed a w-> ∀j∈E3 md ops listed,waits md ops j i=true):
  ∀(fuel:Nat) (listed:Array Bool) (a:Act) (w:World),nX md ops listed->
   (∀j oj,ops[j]?=some oj->j≠i->listed.getD j true=false->(∀e∈oj.after,E4 md e=true->e.on≠i)->oi.apart ops oj=true)->
   i∈E3 md ops listed->Fq P ops C oi v a->
   uI P md ops C R fuel (listed.setIfInBounds i true) (a.put oi.dst v) w->uI P md ops C R (fuel+1) listed a w:=by
 have d: ∀{listed:Array Bool},i∈E3 md ops listed->listed.getD i false≠true:=λ{listed} hr e=>by
  have h0:=(mem_ready.1 hr).1
  rcases Nat.lt_or_ge i listed.size with G|G
  .simp[G]at h0 e;rw[h0]at e;cases e
  .simp[j9 G]at e
 intro fuel
 induction fuel with
 |zero=>
  intro listed a w E _ hr y H w' hb;obtain⟨x,t⟩:=H w' hb;refine⟨x,λh=>s7,λj q=>?_⟩
  by_cases c:j=i
  .subst c;exact y.fOp hi x λz p=>H.grow (oK hb p)
  .exact absurd q (bSl E (hR _ _ _ t j (ready_mono q c)) (d hr))
 |succ fuel ih=>
  intro listed a w E f hr y H w' hb;obtain⟨x,_,u⟩:=H w' hb;refine⟨x,λh=>s7,λj q=>?_⟩
  by_cases c:j=i
  .subst c;exact y.fOp hi x λz p=>H.grow (oK hb p)
  .have h1:=u j (ready_mono q c);obtain⟨m,oj,n,l⟩:=mem_ready.1 q
   have r: ∀e∈oj.after,E4 md e=true->e.on≠i:=λe K hb D=>by
    have h1:=l e K hb;rw[D]at h1;exact d hr h1
   have L:=fOp_putq n (f j oj n c m r) (λcs b=>hsel i oi cs b hi) (λcs b=>hsel j oj cs b n) y h1;have g: ∀k ok,ops[k]?=some ok->k≠i->(listed.setIfInBounds j true).getD k true=false->
     (∀e∈ok.after,E4 md e=true->e.on≠i)->oi.apart ops ok=true:=λk ok J B d A=>by
    refine f k ok J B ?_ A
    by_cases s:j=k
    .subst s;exact m
    .rw[getD_set_ne true s]at d;exact d
   refine fQ (λa' w' I=>ih (listed.setIfInBounds j true) a' w' (E.set q) g (ready_mono hr (Ne.symm c)) I.1 ?_) L;rw[O9 _ _ c];exact I.2
def nF (P:Program)(ops:Array Oper)(C:World->Prop)(K:Act->World->Prop):List (Bool×Nat)->Option Nat->Act->World->Prop
 |[],_,a,w=> ∀w',Below w.heap.size w w'->C w'/\K a w'
 |(true,k)::r,p,a,w=> ∃o v,ops[k]?=some o/\Fq P ops C o v a/\nF P ops C K r p (a.put o.dst v) w
 |(false,k)::r,p,a,w=>if p=some k then nF P ops C K r none a w else ∀w',Below w.heap.size w w'->C w'/\(if k<4096 then fOp P ops k (λa w=>nF P ops C K r p a w) a w'
   else if yX<=k then fOp P ops (pW k) (λa w=>nF P ops C K r none a w) a w'/\
    fOp P ops (sN k) (λa w=> ∀w',Below w.heap.size w w'->C w'/\fOp P ops (pW k) (λa w=>nF P ops C K r (some (sN k)) a w) a w') a w'
   else fOp P ops (k%4096) (λa w=> ∀w',Below w.heap.size w w'->C w'/\fOp P ops (k/4096-1) (λa w=>nF P ops C K r p a w) a w') a w'/\
    fOp P ops (k/4096-1) (λa w=> ∀w',Below w.heap.size w w'->C w'/\fOp P ops (k%4096) (λa w=>nF P ops C K r p a w) a w') a w')
def bQv (P:Program)(ops:Array Oper)(K:Act->World->Prop):List Nat->Act->World->Prop
 |[],a,w=>K a w
 |l::r,a,w=>fOp P ops l (bQv P ops K r) a w
def EndT (P:Program)(md:Region.Mode)(ops:Array Oper)(Q:Exit->Act->World->Prop)(ls:List Nat)(listed:Array Bool)(a:Act)(w:World):Prop:=bTu md ops ls listed=true/\bQv P ops (Q .normal) ls a w
theorem bGb{Q:Exit->Act->World->Prop}: ∀(ls:List Nat) (listed:Array Bool) (a:Act) (w:World),EndT P md ops Q ls listed a w->wpAny P md ops Q ls.length listed a w
 |[],listed,a,w,h=>⟨by simpa[bTu]using h.1,h.2⟩
 |l::r,listed,a,w,h=>by
  obtain⟨h1,k⟩:=h;simp only[bTu,G1,beq_iff_eq]at h1;refine⟨λe=>(by rw[h1.1]at e;cases e),λi j=>?_⟩;rw[h1.1]at j;have:i=l:=by simpa using j
  subst this;unfold wpOp;split
  .rename_i ho;have hl:i∈E3 md ops listed:=by rw[h1.1];simp
   obtain⟨_,m,b,_⟩:=mem_ready.1 hl;rw[ho]at b;cases b
  .rename_i o ho;have c:=wpNm (k o ho);split
   .rename_i f;simp only[f,if_true]at c;exact .inl (pJ rfl (λu w' g=>bGb r _ _ _ ⟨h1.2,g⟩) (λd w' g=>bGb r _ _ _ ⟨h1.2,g⟩) c)
   .rename_i f;simp only[f]at c;exact bGb r _ _ _ ⟨h1.2,c⟩
theorem bGo{j l:Nat}(h:bEn ops j l=true): ∃oj ol,ops[j]?=some oj/\ops[l]?=some ol/\lateO ol=true/\ol.apart ops oj=true/\j≠l:=by
 unfold bEn at h;rw[rN]at h
 cases a:ops[j]? with
 |none=>rw[a]at h;cases h
 |some oj=>
  rw[a]at h;simp only at h;rw[rN]at h
  cases hl:ops[l]? with
  |none=>rw[hl]at h;cases h
  |some ol=>
   rw[hl]at h;simp only[G1,L3]at h;refine⟨oj,ol,rfl,rfl,h.1,h.2.1,λe=>?_⟩;rw[e,Nat.beq_refl]at h;cases h.2.2.2
theorem bDf{j l:Nat}{listed:Array Bool}(h:pairB md ops j l listed=true):bEn ops j l=true/\E3 md ops listed≠[]/\(∀i∈E3 md ops listed,i=j\/i=l)/\j∈E3 md ops listed/\l∈E3 md ops listed/\E3 md ops (listed.setIfInBounds j true)=[l]/\E3 md ops (listed.setIfInBounds l true)=[j]:=by
 unfold pairB at h;simp only[G1,G6,beq_iff_eq]at h;obtain⟨h1,a,c,h4⟩:=h
 rcases a with a|a
 .refine⟨h1,by rw[a];simp,λi b=>?_,by rw[a];simp,by rw[a];simp,c,h4⟩;rw[a]at b
  simpa using b
 .refine⟨h1,by rw[a];simp,λi b=>?_,by rw[a];simp,by rw[a];simp,c,h4⟩;rw[a]at b;simp at b;exact b.symm
theorem wpAnyG_pair{j l n:Nat}{R:Array Bool->Act->World->Prop}{K:Act->World->Prop}{listed:Array Bool}{a:Act}{w':World}(hp:pairB md ops j l listed=true)
  (hk: ∀a w,K a w->uI P md ops C R n ((listed.setIfInBounds j true).setIfInBounds l true) a w)
  (h:C w'/\fOp P ops j (λa w=> ∀w',Below w.heap.size w w'->C w'/\fOp P ops l K a w') a w'/\fOp P ops l (λa w=> ∀w',Below w.heap.size w w'->C w'/\fOp P ops j K a w') a w'):
  C w'/\E3 md ops listed≠[]/\ ∀i∈E3 md ops listed,fOp P ops i (uI P md ops C R (n+1) (listed.setIfInBounds i true)) a w':=by
 obtain⟨b,k,e,_,_,r1,r2⟩:=bDf hp;obtain⟨_,_,_,_,_,_,o⟩:=bGo b;obtain⟨s,h1,t⟩:=h;refine⟨s,k,λi r=>?_⟩
 rcases e i r with rfl|rfl
 .refine fQ (λu q g=>?_) h1;intro f c;obtain⟨c2,p⟩:=g f c;refine⟨c2,by rw[r1];simp,λm d=>?_⟩;rw[r1]at d;obtain rfl:m=l:=by simpa using d
  exact fQ hk p
 .refine fQ (λu q g=>?_) t;intro f c;obtain⟨c2,p⟩:=g f c;refine⟨c2,by rw[r2];simp,λm d=>?_⟩;rw[r2]at d;obtain rfl:m=j:=by simpa using d
  rw[O9 _ _ (Ne.symm o)];exact fQ hk p
theorem pair_closed{j l:Nat}{listed:Array Bool}(hc:nX md ops listed)(hp:pairB md ops j l listed=true):nX md ops ((listed.setIfInBounds j true).setIfInBounds l true):=by
 obtain⟨_,_,_,a,_,r1,_⟩:=bDf hp;exact(hc.set a).set (by rw[r1];simp)
theorem bUj{l:Nat}(hl:l<4096): ∀{r:List (Bool×Nat)},yK ops l r=true->xX r none=xX r (some l)+1
 |[],h=>by cases h
 |(true,k)::r,h=>by
  simp only[yK,G1]at h;simp only[xX,bUj hl h.2]
 |(false,k)::r,h=>by
  obtain rfl:k=l:=B7 h;simp[xX,hl]
theorem late_of{j l:Nat}(h:bUx ops j l=true):bEn ops j l=true/\l<4096/\ ∃ol,ops[l]?=some ol/\isAl ol.op=true:=by
 unfold bUx at h;simp only[G1,H9]at h;refine⟨h.1,h.2.1,?_⟩;have a:=h.2.2;rw[rN]at a
 cases hl:ops[l]? with
 |none=>rw[hl]at a;cases a
 |some ol=>rw[hl]at a;exact⟨ol,rfl,a⟩
theorem bJo{j l:Nat}{listed:Array Bool}(h:earlyB md ops j l listed=true):bUx ops j l=true/\E3 md ops listed≠[]/\(∀i∈E3 md ops listed,i=j\/i=l)/\j∈E3 md ops listed/\l∈E3 md ops listed/\E3 md ops (listed.setIfInBounds l true)=[j]:=by
 unfold earlyB at h;simp only[G1,G6,beq_iff_eq]at h;obtain⟨h1,a,h4⟩:=h
 rcases a with a|a
 .refine⟨h1,by rw[a];simp,λi b=>?_,by rw[a];simp,by rw[a];simp,h4⟩;rw[a]at b
  simpa using b
 .refine⟨h1,by rw[a];simp,λi b=>?_,by rw[a];simp,by rw[a];simp,h4⟩;rw[a]at b;simp at b;exact b.symm
theorem mH{Q:Exit->Act->World->Prop}{ls:List Nat}(hs:E5 ops=true): ∀(od:List (Bool×Nat)) (p:Option Nat) (listed:Array Bool) (a:Act) (w:World),nX md ops listed->iM md ops ls od p listed=true->nF P ops C (bQv P ops (Q .normal) ls) od p a w->uI P md ops C (EndT P md ops Q ls) (xX od p) listed a w
 |[],p,listed,a,w,_,hB,h=>λw' hb=>⟨(h w' hb).1,by simp only[iM,G1]at hB;exact hB.2,(h w' hb).2⟩
 |(true,k)::r,p,listed,a,w,hc,hB,h=>by
  simp only[iM,G1]at hB;obtain⟨o,v,ho,J,L⟩:=h
  exact wpAnyG_first ho (O7 hs) (λb _ _ h j g=>by
   have h1:=h.1;have q:=hB.2.2.1
   revert h1 q
   cases ls with
   |nil=>
    intro h1 _;have h1:(E3 md ops b).isEmpty=true:=h1;rw[List.isEmpty_iff.1 h1]at g;cases g
   |cons l ls=>
    intro h1 q;simp only[bTu,G1,beq_iff_eq]at h1;rw[h1.1]at g;obtain rfl:j=l:=by simpa using g
    exact q) (xX r p) listed a w hc (Region.free_spec ho hB.2.1) (by simpa using hB.1) J (mH hs r p _ _ _ (hc.set (by simpa using hB.1)) hB.2.2.2 L)
 |(false,k)::r,p,listed,a,w,hc,hB,h=>by
  by_cases c:p=some k
  .simp only[iM,c,if_true]at hB;simp only[xX,c,if_true];simp only[nF,c,if_true]at h;exact mH hs r none listed a w hc hB h
  .simp only[nF,c,if_false]at h
   by_cases d:k<4096
   .simp only[iM,c,d,if_false,if_true,G1,beq_iff_eq]at hB;simp only[xX,c,d,if_false,if_true];intro w' hb;obtain⟨A,f⟩:=h w' hb;rw[if_pos d]at f;refine⟨A,λh0=>t8,λi s=>?_⟩;rw[hB.1]at s;have:i=k:=by simpa using s
    subst this;exact fQ (λa' w' O=>mH hs r p _ _ _ (hc.set (by rw[hB.1];simp)) hB.2 O) f
   .by_cases hq:yX<=k
    .simp only[iM,c,d,hq,if_false,if_true,G1]at hB;obtain⟨N,M,K,D,B⟩:=hB;obtain rfl:p=none:=by simpa using K
     simp only[xX,c,d,hq,if_false,if_true];obtain⟨y,x,n,g,hl,r2⟩:=bJo N;intro w' hb;obtain⟨A,f⟩:=h w' hb;rw[if_neg d,if_pos hq]at f;refine⟨A,x,λi s=>?_⟩
     rcases n i s with e|e
     .rw[e];exact fQ (λE u h1=>mH hs r none _ E u (hc.set g) D h1) f.1
     .rw[e];rw[bUj (late_of y).2.1 M];refine fQ (λE u I=>?_) f.2;intro t z;obtain⟨c2,R⟩:=I t z;refine⟨c2,by rw[r2];simp,λm G=>?_⟩;rw[r2]at G;have e:m=pW k:=List.mem_singleton.1 G;rw[e];exact fQ (λU t q=>mH hs r _ _ U t ((hc.set hl).set (by rw[r2];simp)) B q) R
    .simp only[iM,c,d,hq,if_false,G1]at hB;simp only[xX,c,d,hq,if_false];intro w' hb;have f:=h w' hb;rw[if_neg d,if_neg hq]at f;exact wpAnyG_pair hB.1 (λE u h1=>mH hs r p _ _ _ (pair_closed hc hB.1) hB.2 h1) f
theorem region_tail{Q:Exit->Act->World->Prop}{id:Nat}{ls:List Nat}{od:List (Bool×Nat)}{a:Act}{w:World}(hm:P.follows .mixedOrders=true)(hB:yG ls od ops=true)(h:nF P ops C (bQv P ops (Q .normal) ls) od none a w.drew):(Code.region id ops true).wp P Q a w:=by
 simp only[yG,G1]at hB;refine wp_region_any hm ?_;have:=wP (P:=P) (md:= .any) (C:=C) (R:=EndT P .any ops Q ls) (Q:=Q) ls.length (bGb ls) (xX od none) (A8 ops.size false) a _ (mH hB.1 od none _ a _ nX.none hB.2.2 h);rw[B7 hB.2.1]at this;exact this
theorem bSi{j:Nat}{oi oj:Oper}{v:Value}(hj:ops[j]?=some oj)(hap:oi.apart ops oj=true)(hsj: ∀cs b,oj.op≠ .select cs b){K:Act->World->Prop}{a:Act}{w:World}
  (h:fOp P ops j (λa' w'=>K (a'.put oi.dst v) w') a w):fOp P ops j K (a.put oi.dst v) w:=λo ho=>by
 have:o=oj:=Option.some.inj (ho.symm.trans hj);subst this;obtain⟨h1,f,g⟩:=O8 hap;have h:=wpNm (h o ho);apply kQ;rw[wanted_put o a oi.dst v h1];split
 .rename_i e;simp only[e,if_true]at h;refine pJ (execOp_put o hsj a oi.dst v h1) (λu w' c=>by rw[Act.put_comm a v u f];exact c) (λd w' c=>?_) h;have c:K (({a with defers:=d::a.defers}.put o.dst undef).put oi.dst v) w':=c;rw[<-Act.put_comm {a with defers:=d::a.defers} v undef f]at c
  have:({a.put oi.dst v with defers:=d::(a.put oi.dst v).defers}:Act)=({a with defers:=d::a.defers}:Act).put oi.dst v:=by
   cases oi.dst<;>rfl
  rw[this];exact c
 .rename_i e;simp only[e]at h;rw[Act.put_comm a v undef f];exact h
end
end X
end
section
open Go.RowKit Go.ChangeShapes Go.WideShapes
structure Sl (α:Type) where
 addr:Option Addr
 cap:Nat
 list:List α
abbrev j0{α:Type}(l:Sl α):Value:= .slice l.addr l.list.length l.cap
abbrev j5(z:Int):Value:= .int .i64 z
abbrev j6(z:Int):Value:= .int .u8 z
instance {α : Type} : Inhabited (Sl α) := ⟨none, 0, []⟩
def Sl.v {α:Type}(s:Sl α):Value:= .slice s.addr s.list.length s.cap
def bE.and(f g:bE):bE:=⟨λS w=>f.p S w/\g.p S w,λhs ha h=>⟨f.mono hs ha h.1,g.mono hs ha h.2⟩⟩
def bE.each{α:Type}(xs:List α)(g:α->bE):bE:=⟨λS w=> ∀x∈xs,(g x).p S w,λhs ha h x hx=>(g x).mono hs ha (h x hx)⟩
def bE.true:bE:=⟨λ_ _=>True,λ_ _ h=>h⟩
section
variable {F : List bE} {f g : bE} {α : Type}
theorem Has.left(h:Has F (f.and g)):Has F f:=λS w k=>(h S w k).1
theorem Has.right(h:Has F (f.and g)):Has F g:=λS w k=>(h S w k).2
theorem Has.and(h:Has F f)(k:Has F g):Has F (f.and g):=λS w q=>⟨h S w q,k S w q⟩
theorem Has.each{xs:List α}{g:α->bE}(h:Has F (bE.each xs g)){x:α}(hx:x∈xs):Has F (g x):=λS w k=>h S w k x hx
theorem Has.true:Has F bE.true:=λ_ _ _=>trivial
end
structure Ty (α:Type) where
 E:Flat α
 deep:α->bE
def Ty.sl {α:Type}(T:Ty α)(s:Sl α):bE:=(T.E.sl s.v s.list).and (bE.each s.list T.deep)
section
variable {F : List bE} {α : Type} {T : Ty α}
theorem Has.cells{s:Sl α}(h:Has F (T.sl s)):Has F (T.E.sl (j0 s) s.list):=h.left
theorem Has.at{s:Sl α}(h:Has F (T.sl s)){k:Nat}{x:α}(hx:s.list[k]?=some x):Has F (T.deep x):=h.right.each (f4 hx)
end
def qW {α H:Type}(enc:TypeId×Value->H)(P:Program)(w:World)(t:TypeId)(cells:α->List Value)(deep:α->bE):Prop:=
 ∀fuel cs x,DataW.trod enc P w 0 (λ_=>true) true fuel t cs=some x->(∀n∈x.1.weights P t,n<=reachBytes)-> ∃a,cs=cells a/\(deep a).p (λb=>b<w.heap.size) w
section
variable {H : Type} {enc : TypeId × Value -> H} {P : Program} {w : World} {t e : TypeId}
theorem spotOf{a:Addr}{v:Value}(h:w.cell? a=some v):a.spot=none:=by
 unfold j7 at h;split at h
 .cases b:a.spot with
  |none=>rfl
  |some x=>rw[b]at h;simp at h
 .cases h
theorem iP{k:IntKind}(hu:P.underlying t=some (.int k)):qW enc P w t (λz:Int=>[.int k z]) (λz=>bE.pure ((Lit.int k z).wf=true)):=λa c x h _=>by
 obtain⟨n,e,_,b⟩:=DataW.trod_int hu h;exact⟨n,e,b⟩
theorem bIt{d:DataW H}: ∀{ds:List (DataW H)},d∈ds-> ∀n∈d.weights P e,n∈DataW.weightsAll P e ds
 |[],h,_,_=>by simp at h
 |d0::ds,h,n,hn=>by
  rw[DataW.weightsAll,D0]
  rcases C9.1 h with rfl|h
  .exact .inl hn
  .exact .inr (bIt h n hn)
theorem opens_slice{α:Type} [Inhabited α]{T:Ty α}(hu:P.underlying t=some (.slice e))(hc:P.cellsOf e=T.E.size)(he:qW enc P w e T.E.cells T.deep):
  qW enc P w t (λs:Sl α=>[s.v]) (λs=>(T.sl s).and (bE.pure (s.list.length*P.bytesOf e<=140737488355328))):=λN Z x h M=>by
 rcases Deep.open_slice hu h with ⟨rfl,_⟩|⟨a,len,g,m,n,D,Pl,rfl,_,hl,_,R,rfl,V⟩
 .exact⟨⟨none,0,[]⟩,rfl,⟨⟨none,0,rfl,λk x y=>by simp at y⟩,λx hx=>by simp at hx⟩,by show 0*_<=_;omega⟩
 .have U:len<=m:=by rw[R];simp;exact hl
  have B:len*P.bytesOf e<=140737488355328:=by
   have:=M ((((P5 len).map D).length+((P5 (m-len)).map λj=>D (len+j)).length)*P.bytesOf e) (by simp[DataW.weights,hu]);have Y:len*P.bytesOf e<=(len+(m-len))*P.bytesOf e:=C8 _ k9;simp only[List.length_map,List.length_range]at this;unfold reachBytes at this;omega
  have hel: ∀i,i<len-> ∃q:α,(∀j,j<T.E.size->w.cell? ((a.add (i*T.E.size)).add j)=(T.E.cells q)[j]?)/\(T.deep q).p (λb=>b<w.heap.size) w:=λi c=>by
   obtain⟨X,d,Q⟩:=V i k9;rw[hc]at d;obtain⟨_,W,L⟩:=World.cells?_some d
   obtain⟨q,hq,hd⟩:=he _ _ _ Q (λn hn=>M n (by
    simp only[DataW.weights,hu,C9,D0]
    exact .inr (.inl (bIt (List.mem_map.2 ⟨i,by simpa using c,rfl⟩) n hn))))
   exact⟨q,λj z=>by rw[L j z,hq],hd⟩
  obtain⟨f,K⟩: ∃f:Nat->α,∀i,i<len->(∀j,j<T.E.size->w.cell? ((a.add (i*T.E.size)).add j)=(T.E.cells (f i))[j]?)/\(T.deep (f i)).p (λb=>b<w.heap.size) w:=
   ⟨λi=>if h:i<len then (hel i h).choose else default,λi c=>by simp only[dif_pos c];exact(hel i c).choose_spec⟩
  refine⟨⟨some a,g,(P5 len).map f⟩,by simp[Sl.v],⟨⟨some a,g,rfl,λk q y=>?_⟩,λq hq=>?_⟩,by show((P5 len).map f).length*_<=_;simpa using B⟩
  .have G:k<len:=by simpa using (D9.1 y).1
   have hq:q=f k:=by
    have:=(D9.1 y).2
    simpa using this.symm
   subst hq;have hc:=(K k G).1;obtain⟨r,O,l⟩:=a
   have C:l=none:=by
    have h0:=(K 0 k9).1 0 T.E.pos;have hlt:0<(T.E.cells (f 0)).length:=by rw[T.E.len];exact T.E.pos
    rw[D7 hlt,Nat.zero_mul]at h0;have h1:w.cell? ⟨r,O,l⟩=some ((T.E.cells (f 0))[0]):=by simpa[Addr.add]using h0
    exact spotOf h1
   subst C
   have A: ∀o i,(⟨r,o,none⟩:Addr).add i=⟨r,o+i,none⟩:=λo i=>by
    unfold Addr.add;split<;>simp_all
   refine⟨r,O,T.E.cells (f k),rfl,?_,λj u z=>?_,rfl⟩
   .have hlt:0<(T.E.cells (f k)).length:=by rw[T.E.len];exact T.E.pos
    have h0:=hc 0 T.E.pos;rw[D7 hlt,A,A]at h0
    rcases Nat.lt_or_ge r w.heap.size with hlt|J
    .exact hlt
    .simp[j7,j9 J]at h0
   .have I:j<T.E.size:=by
     have:=(D9.1 z).1
     rwa[T.E.len]at this
    have:=hc j I;rw[A,A]at this;exact this.trans z
  .obtain⟨i,c,rfl⟩:=List.mem_map.1 hq;exact(K i (by simpa using c)).2
def slE (α:Type):Flat (Sl α) where
 size:=1
 cells:=λs=>[.slice s.addr s.list.length s.cap]
 len:=λ_=>rfl
 one:=λx u hu=>by simp at hu;subst hu;rfl
 pos:=l5
def Ty.slice{α:Type}(T:Ty α)(b:Nat):Ty (Sl α):=⟨slE α,λs=>(T.sl s).and (bE.pure (s.list.length*b<=140737488355328))⟩
theorem fE{α:Type} [Inhabited α]{T:Ty α}{b:Nat}(hu:P.underlying t=some (.slice e))(hc:P.cellsOf e=T.E.size)(hb:P.bytesOf e=b)(he:qW enc P w e T.E.cells T.deep):qW enc P w t (T.slice b).E.cells (T.slice b).deep:=by
 subst hb;exact opens_slice hu hc he
theorem cE{fs:Array Field}{ds:List (DataW H)}{R:Nat}(hu:P.underlying t=some (.struct fs))(hw: ∀n∈(DataW.agg ds).weights P t,n<=R){j:Nat}{f:Field}(hf:fs[j]?=some f){d:DataW H}(hd:ds[j]?=some d): ∀n∈d.weights P f.type,n<=R:=λn hn=>by
 refine hw n ?_;simp only[DataW.weights,hu];refine DataW.weights_mem_each (j:=j) (t:=f.type) (d:=d) ?_ hd n hn;have:fs.toList[j]?=some f:=by simpa using hf
 simp[this]
theorem qW.arg{α:Type}{cells:α->List Value}{deep:α->bE}(h:qW enc P w t cells deep){v:Value}{d:DataW H}{p:List MemPlace}(ht:DataW.Trod enc P w 0 (λ_=>true) true t v d p){ts:List TypeId}{ds:List (DataW H)}{j:Nat}
  (hsz:(DataW.weightsEach P ts ds).all (· <=reachBytes)=true) (hj:ts[j]?=some t) (hd:ds[j]?=some d): ∃a,v.cells.toList=cells a/\(deep a).p (λb=>b<w.heap.size) w:=by
 obtain⟨c,e⟩:=ht
 exact h c _ _ e λn hn=>by
  have:=D6.1 hsz _ (DataW.weights_mem_each hj hd n hn)
  simpa using this
end
def bDz:Ty Int:=⟨cK,λz=>bE.pure ((Lit.int .i64 z).wf=true)⟩
end
section
open Go.RowKit
def bGt:Array Value->Nat->List Value->Array Value
 |cs,_,[]=>cs
 |cs,o,v::r=>bGt (cs.setIfInBounds o v) (o+1) r
theorem bIu: ∀(vs:List Value) (cs:Array Value) (o:Nat),(bGt cs o vs).toList=kS cs.toList o vs
 |[],_,_=>rfl
 |v::r,cs,o=>by rw[bGt,kS,bIu r];simp
theorem bIw: ∀(vs xs:List Value) (j:Nat),(kS xs j vs).length=xs.length
 |[],_,_=>rfl
 |v::r,xs,j=>by rw[kS,bIw r];simp
theorem bBi{g:Nat}{t:TypeId}{fz:Nat×Nat}: ∀(vs:List Value) (o:Nat) (w:World) (cs:Array Value),w.heap[g]?=some (.cells cs t fz)->(w.setCells g o vs).heap[g]?=some (.cells (bGt cs o vs) t fz)
 |[],_,_,_,h=>h
 |v::r,o,w,cs,h=>by
  rw[World.setCells,bGt];refine bBi r (o+1) _ _ ?_;simp[World.setCell,Array.getElem?_modify,h]
theorem bVr{off:Nat}: ∀(vs bs cs:List Value) (p:Nat),(∀j u,bs[j]?=some u->cs[off+j]?=some u)-> ∀j u,(kS bs p vs)[j]?=some u->(kS cs (off+p) vs)[off+j]?=some u
 |[],_,_,_,h=>h
 |v::r,bs,cs,p,h=>by
  rw[kS,kS];refine bVr r (bs.set p v) (cs.set (off+p) v) (p+1) λj u a=>?_
  by_cases e:p=j
  .subst e;have hlt:=(D9.1 a).1;rw[P6]at hlt;rw[P7 hlt]at a;have:=h p _ (D7 hlt);rw[P7 (D9.1 this).1];exact a
  .rw[P8 e]at a;rw[P8 k9];exact h j u a
section
variable {P : Program} {β : dE} {n : Nat} {Γ : Env} {H : List bC} {F : List bE} {Q : Exit -> Act -> World -> Prop} {K : Act -> World -> Prop} {T : Tab} {α : Type} {E : Flat α}
def wW (v:Value):List α->Option Nat
 |[]=>none
 |_::_=>v.ownBlock
def Flat.held(E:Flat α)(v:Value)(xs:List α):bC:= .gen (wW v xs) λo=> ∃A cap,v= .slice A xs.length cap/\(xs=[]\/ ∃g off cs t fz,A=some ⟨g,off,none⟩/\o=some (.cells cs t fz)/\ ∀j u,(E.all xs)[j]?=some u->cs.toList[off+j]?=some u/\(fz.1<=off+j&&off+j<fz.2)=false)
theorem sD{w:World}{v:Value}{xs:List α}(h:(E.held v xs).ok w){k:Nat}(hk:k<xs.length): ∃g off cap cs t fz,v= .slice (some ⟨g,off,none⟩) xs.length cap/\(E.held v xs).blk=some g/\w.heap[g]?=some (.cells cs t fz)/\
  ∀j u,(E.all xs)[j]?=some u->cs.toList[off+j]?=some u/\(fz.1<=off+j&&off+j<fz.2)=false:=by
 obtain⟨A,cap,e,h⟩:=h
 rcases h with h|⟨g,off,cs,t,fz,b,a,h⟩
 .subst h;simp at hk
 .subst e;subst b
  cases xs with
  |nil=>simp at hk
  |cons x r=>exact⟨g,off,cap,cs,t,fz,rfl,rfl,a,h⟩
theorem bBy{w:World}{v:Value}{xs:List α}(h:(E.held v xs).ok w){S:jX}(hS: ∀b,(E.held v xs).blk=some b->S b):(E.sl v xs).p S w:=by
 have h0:=h;obtain⟨A,d,e,_⟩:=h;refine⟨A,d,e,λk x f=>?_⟩;obtain⟨g,a,i,q,t,o,c,hb,m,n⟩:=sD h0 (D9.1 f).1;rw[e]at c;injection c with c
 subst c;refine⟨g,a,E.cells x,rfl,hS g hb,λj u l=>?_,rfl⟩;have:=(n _ _ (E.all_get f l)).1;show w.cell? ⟨g,a+k*E.size+j,none⟩=some u;unfold j7;rw[m];rw[Nat.add_assoc]
 simpa using this
theorem dF{A:Option Addr}{m cap:Nat}{xs:List α}{H':List bC}(hH:bU H (E.held (.slice A m cap) xs) H'):dO β H F E A xs:=λw S s _ i x c=>by
 have h:=bBy (S:=λ_=>True) (s.ok _ hH.mem) (λ_ _=>trivial);obtain⟨l,k,e,h⟩:=h;obtain⟨b,o,g,f,j,d,a⟩:=h i x c;injection e with e
 subst e;subst f;have a:g=E.cells x:=a;subst a;exact⟨⟨b,o,rfl⟩,d⟩
theorem lends_held{v:Value}{xs:List α}{L:List bC}{G:List bE}(h:xS L G):xS (E.held v xs::L) (E.sl v xs::G):=λS w a e=>
 All.cons (bBy (a _ (D5 ..)) λb hb=>e _ (D5 ..) b hb) (h S w (λc d=>a c (D1 _ d)) λc d=>e c (D1 _ d))
theorem dV{ops:Array Oper}{rest:List Oper}{o:Oper}(hT:dU P T){t k fo m cap:Nat}{p x:Operand}{v:Value}{vs:List Value}{i:TI}{A:Option Addr}{xs:List α}{y y':α}{H':List bC}(hH:bU H (E.held (.slice A m cap) xs) H')(hw:want ops Γ o=some true)(ho:o.op= .store t p x)(hd:o.dst=none)
  (hp:Γ.ev p=some (.pointer (some ⟨bRn A,bRj A+k*E.size+fo,none⟩))) (hx:Γ.ev x=some v) (ht:T.get t=some i) (hc:v.cells=vs.toArray) (hs:B5 vs.length i.size=true)
  (h1:vs.all (·.oneCell')=true) (hk:xs[k]?=some y) (hput:rP (E.cells y) fo vs=some (E.cells y')) (K:At β n Γ (E.held (.slice A m cap) (xs.set k y')::H') F (wpList P ops Q rest)):At β n Γ H F (wpList P ops Q (o::rest)):=
 fV hw λa w S f s X=>by
  have hlt:k<xs.length:=(D9.1 hk).1;have J:=s.ok _ hH.mem;obtain⟨g,b,R,G,U,Y,e,q,M,z⟩:=sD J hlt;injection e with e1 e2 e3
  subst e1 e2 e3;have hb:=(qD hput).1;rw[E.len]at hb;have D:(k+1)*E.size<=xs.length*E.size:=C8 _ hlt;rw[Nat.add_mul,Nat.one_mul]at D
  have N: ∀j,j<vs.length-> ∃u,(E.all xs)[k*E.size+fo+j]?=some u:=λj d=>⟨_,D7 (by rw[E.all_length];omega)⟩
  have B:w.there g (b+k*E.size+fo) vs.length:=λj d=>by
   obtain⟨u,hu⟩:=N j d;obtain⟨W,V⟩:=z _ _ hu;have e:b+k*E.size+fo+j=b+(k*E.size+fo+j):=k9
   refine⟨?_,?_⟩
   .rw[e];unfold j7;rw[M];have:G[b+(k*E.size+fo+j)]?=some u:=by simpa using W
    simp[this]
   .rw[e];unfold World.frozen?;rw[M];exact V
  have C:=run_storeCells_cells (P:=P) g (b+k*E.size+fo) vs 0 w (λj d=>by simpa using (B j d).1) (λj d=>by simpa using (B j d).2) (λu hu=>by simpa using (D6.1 h1) u hu);rw[Nat.add_zero]at C;have I:v.cells.size=i.size:=by rw[hc];simpa using B7 hs
  have hr:(execOp a.eval o).run P w= .ok .skip (w.setCells g (b+k*E.size+fo) vs):=by
   unfold execOp;simp only[ho,f.ev hp,f.ev hx,Instr.storeAt,Instr.sureAddr,storeVar,E6,E7,E8,hT.size ht,I,bRn,bRj];simp[hc,C]
  unfold F4;rw[hr,F6,hd];have O:=s.perm hH.perm
  have l:(E.held (.slice (some ⟨g,b,none⟩) xs.length cap) (xs.set k y')).blk=some g:=by
   cases xs with
   |nil=>simp at hlt
   |cons x0 r=>cases k<;>rfl
  refine K _ _ S (f.put_none _) (O.swap (jY g vs _ w) q l ?_) (All.mono (λ_ h=>h) (s.agree (jY g vs _ w) (λc hc e=>by subst e;exact(O.own _ (D5 ..) _ q).2.2 hc)) X);refine⟨_,cap,by rw[P6],.inr ⟨g,b,bGt G (b+k*E.size+fo) vs,U,Y,rfl,?_,λj u d=>?_⟩⟩
  .have:wW (Value.slice (some ⟨g,b,none⟩) xs.length cap) (xs.set k y')=some g:=l;rw[this];exact bBi vs _ w G M
  .rw[<-E.all_set hk hput]at d;rw[bIu];have e:b+k*E.size+fo=b+(k*E.size+fo):=k9
   rw[e];refine⟨bVr vs (E.all xs) G.toList _ (λj u d=>(z j u d).1) j u d,?_⟩
   have L:j<(E.all xs).length:=by
    have:=(D9.1 d).1;rw[bIw]at this;exact this
   exact(z _ _ (D7 L)).2
theorem jW{ops:Array Oper}{rest:List Oper}{o:Oper}{d:Nat}{x y:Operand}{t e:TypeId}{i:TypeInfo}{z:Value}{by_ c q:Nat}{v:Value}{A:Option Addr}{xs ys:List α}{H':List bC}(hH:bU H (E.row v e xs) H')(hr:dO β H F E A ys)(hg:o.guard=none)
  (ho:o.op= .call {callee:= .builtin .append,args:= #[x,y],argTypes:= #[t,t]}) (hd:o.dst=some d) (hn:C0 d n=true) (hu:P.underlying t=some (.slice e)) (hi:P.info? e=some i) (hz:i.zero=some z) (hsize:i.size=E.size) (hby:i.bytes=by_) (hzs:z.cells.size=E.size)
  (hx:Γ.ev x=some v) (hy:Γ.ev y=some (.slice A q c)) (hq:q=ys.length) (hbytes:(xs.length+ys.length)*by_<=140737488355328) (hpos:0<by_)
  (k: ∀A' cap',At β n ((d,.slice A' (xs++ys).length cap')::Γ) (E.row (.slice A' (xs++ys).length cap') e (xs++ys)::H') F (wpList P ops Q rest)):At β n Γ H F (wpList P ops Q (o::rest)):=by
 by_cases G:0<ys.length
 .exact bKx hH hr hg ho hd hn hu hi hz hsize hby hzs hx hy hq G hbytes hpos k
 .have h0:ys=[]:=List.eq_nil_of_length_eq_zero k9;subst h0;subst hq;simp only[P9]at k;refine at_rowv hH λA' cap' e=>?_;subst e
  cases A with
  |none=>
   have V:want ops Γ o=some true:=by unfold want;rw[hg]
   refine fV V λa w S f s M=>?_;have m:w.ownsRow 0 e E.size (.slice A' xs.length cap') xs.length (E.all xs):=s.ok _ hH.mem
   have D:(N1 #[t,t] o.type #[.slice A' xs.length cap',.slice none 0 c]).run P w= .ok (.slice A' xs.length cap') w:=by
    rcases m.2 with ⟨e,e0⟩|⟨g,Y,X,e,_,_,I,_⟩
    .injection e with e1 B e3
     subst e1 e3;rw[B];simp[N1,run_underlying hu,sizeOf,typeInfo,hi,M8,M9]
    .injection e with e1 B e3
     subst e1 e3;simp[N1,run_underlying hu,sizeOf,typeInfo,hi,M8,M9,I,storeCells]
   have C:(execOp a.eval o).run P w= .ok (.value (.slice A' xs.length cap')) w:=by
    unfold execOp;simp only[ho,resolve,invoke,builtin,E6,E7,E8,List.map_toArray,List.map_cons,List.map_nil,f.ev hx,f.ev hy,List.length_nil,D]
   unfold F4;rw[C,F5,hd];exact k A' cap' _ _ S (f.put m9 _) (s.perm hH.perm) M
  |some ad=>
   intro a w S f s M;have m:w.ownsRow 0 e E.size (.slice A' xs.length cap') xs.length (E.all xs):=s.ok _ hH.mem;have J:xs.length*by_<=140737488355328:=by simpa using hbytes
   have N:xs.length<=maxLen:=by
    have:xs.length<=xs.length*by_:=Nat.le_mul_of_pos_right _ hpos;simp[maxLen];omega
   refine wpList_append_own_at w hg x y t ho 0 e i z E.size by_ hu hi hz hsize hby hzs E.pos _ xs.length (E.all xs) (f.ev hx) m ad 0 c [] (f.ev hy) n4 (λj u W=>by simp at W) n4 N J (P2 _) ?_;intro O w' l p _ L;rw[P9]at l;have R:=s.perm hH.perm;rw[hd];have U:=R.swap_row (sQ p) L l;refine at_row (β:=β) (n:=n) (Γ:=(d,O)::Γ) (H:= .row O e E.size (xs.length+0) (E.all xs)::H') (F:=F) (K:=wpList P ops Q rest) .head (λ_ ⟨Z,r,B,_⟩=>?_) _ _ S (f.put m9 _) U (All.mono (λ_ h=>h) (s.agree (sQ p) (λb hb e=>(R.own _ (D5 ..) b e.symm).2.2 hb)) M);subst B;exact k Z r
theorem bHs{ops:Array Oper}{rest:List Oper}{o:Oper}{d:Nat}{t e:TypeId}{ie:TypeInfo}(E:Flat α)(hw:want ops Γ o=some true)(ho:o.op= .buildSlice t 0 #[])(hd:o.dst=some d)(hn:C0 d n=true)
  (hu:P.underlying t=some (.slice e)) (hie:P.info? e=some ie)
  (k: ∀b,At β n ((d,.slice (some ⟨b,0,none⟩) 0 0)::Γ) (E.row (.slice (some ⟨b,0,none⟩) 0 0) e []::H) F (wpList P ops Q rest)):At β n Γ H F (wpList P ops Q (o::rest)):=by
 refine at_build (m:=0) (parts:= #[]) (e:=e) (cs:=[]) hw ho hd hn (λa w f=>?_) λb=>?_
 .simp[Instr.buildSlice,run_underlying hu,sizeOf,typeInfo,hie,newRow,Instr.fill,Array.range_zero']
 .intro a w S f s l;have h:w.heap[b]?=some (.cells #[] e (0,0)):=s.ok _ (D5 ..);refine k b a w S f ⟨s.kept,λc g=>?_,λc g j hb=>?_,?_,s.zone⟩ l
  .rcases C9.1 g with rfl|g
   .exact⟨by simp[Flat.all],.inr ⟨b,0,#[],rfl,P2 _,h,B8 _,by simp[maxLen],n4,by simp[Flat.all]⟩⟩
   .exact s.ok c (D1 _ g)
  .rcases C9.1 g with rfl|g
   .exact s.own (.obj b (.cells #[] e)) (D5 ..) j hb
   .exact s.own c (D1 _ g) j hb
  .have i:=D2.1 s.sep;exact D2.2 ⟨λd hd b hb=>i.1 d hd b hb,i.2⟩
end
end
section
open Go.RowKit
abbrev Bs:=List UInt8
def bs (l:Bs):ByteArray:=⟨l.toArray⟩
theorem bs_size(l:Bs):(bs l).size=l.length:=rfl
section
variable {P : Program} {β : dE} {n : Nat} {Γ : Env} {H : List bC} {F : List bE} {Q : Exit -> Act -> World -> Prop} {K : Act -> World -> Prop} {T : Tab} {α : Type} {E : Flat α}
theorem dU.str(hT:dU P T){t sz:Nat}(ht:T.get t=some ⟨.string,sz⟩):P.underlying t=some .string:=by
 obtain⟨d,hu,hd⟩:=hT.any ht;cases d<;>simp[TD.of]at hd
 exact hu
def cutA (A:Option Addr)(l size c:Nat):Option Addr:=if c=l then A else A.map (·.add (l*size))
end
end
section
open Go.RowKit
section
variable {P : Program} {β : dE} {n : Nat} {Γ : Env} {H : List bC} {F : List bE} {Q : Exit -> Act -> World -> Prop} {K : Act -> World -> Prop} {T : Tab} {α : Type} {E : Flat α}
theorem at_scope{c:Code}(h:At β n Γ H F (c.wp P (Exit.noGoto Q))):At β n Γ H F ((Code.scope c).wp P Q):=λa w S f s k=>wp_scope_straight (h a w S f s k)
theorem at_label{l:Nat}(h:At β n Γ H F (Q .normal)):At β n Γ H F ((Code.label l).wp P Q):=λa w S f s k=>wp_label (h a w S f s k)
theorem n_scope(h:At β n Γ H F (Q .normal)):At β n Γ H F (Exit.noGoto Q .normal):=h
theorem r_scope(h:At β n Γ H F (Q .ret)):At β n Γ H F (Exit.noGoto Q .ret):=h
theorem x_scope{i:Nat}(h:At β n Γ H F (Q (.exit i))):At β n Γ H F (Exit.noGoto Q (.exit i)):=h
theorem bTz{o:Oper}{f:FuncId}{x:Operand}{first cap:Array Value}{ars:Array Operand}{ts:Array TypeId}{vs:List Value}{a:Act}(hcf: ∀(args:Array Value) (w:World),(callFunc f args).run P w= .ok (.enter f args) w)(ho:o.op= .call ⟨.value x,ars,ts⟩)(fi:Fits n Γ a)
  (hx:Γ.ev x=some (.func (.func f) first cap)) (hv:Γ.evs ars.toList=some vs) (w:World):(execOp a.eval o).run P w= .ok (.enter f (first++vs.toArray++cap)) w:=by
 have b:ars.map a.eval=vs.toArray:=by
  apply Array.ext'
  simpa using fi.evs hv
 unfold execOp;simp only[ho,resolve,fi.ev hx,Deferred.ofValue,E6,E7,E8,invoke];simp[b,hcf]
theorem lA{ι:Type}{ops:Array Oper}{rest:List Oper}{o:Oper}{d:Nat}{f:FuncId}{x:Operand}{first cap:Array Value}{ars:Array Operand}{ts:Array TypeId}{vs all:List Value}{Hin H2:List bC}{Pre:List bE}{val:ι->Value}{Hout:ι->List bC}{post:ι->List bE}
  (hcf: ∀(args:Array Value) (w:World),(callFunc f args).run P w= .ok (.enter f args) w) (hs:bZ P f all Hin Pre val Hout post) (hw:want ops Γ o=some true) (ho:o.op= .call ⟨.value x,ars,ts⟩) (hx:Γ.ev x=some (.func (.func f) first cap)) (hd:o.dst=some d) (hn:C0 d n=true)
  (hv:Γ.evs ars.toList=some vs) (hall:first.toList++vs++cap.toList=all) (hH:Split H Hin H2) (hF:bA F Pre) (k: ∀x,At β n ((d,val x)::Γ) (Hout x++H2) (post x++F) (wpList P ops Q rest)):At β n Γ H F (wpList P ops Q (o::rest)):=
 fV hw λa w S f s c=>by
  unfold F4;rw[bTz hcf ho f hx hv w,F7]
  have e:first++vs.toArray++cap=all.toArray:=by
   rw[<-hall];apply Array.ext';simp
  rw[e];have b:=s.perm hH.perm;refine(hs S w b.enter (hF.all S w c)).mono ?_;rintro e w' ⟨x,i,rfl,s',g⟩;show wpList P ops Q rest (a.put o.dst (val x)) w';rw[hd];exact k x _ _ _ (f.put m9 _) (b.leave s') ((All.mono (λ_ h=> .inr h) (λ_ _=>rfl) g).append (All.leave b s' c))
def resVal(a:Act):ResultVar->Sem Value
 |.tmp t=>pure (a.tmps.getD t undef)
 |.cell ad t=>do loadVar t (<-asAddr (a.tmps.getD ad undef))
def RV (P:Program)(β:dE)(n:Nat)(Γ:Env)(H:List bC)(F:List bE)(r:ResultVar)(v:Value):Prop:= ∀a w S,Fits n Γ a->St β H S w->All F S w->(resVal a r).run P w= .ok v w
theorem rv_tmp{t:Nat}{v:Value}(h:Γ.get t=some v):RV P β n Γ H F (.tmp t) v:=λa w S f _ _=>by
 have:=f.get t v h;simp[resVal,P1,this]
theorem rv_cell(hT:dU P T){t ty b q:Nat}{i:TI}{cs l:List Value}(hk:oU β H F b q cs)(h:Γ.get t=some (.pointer (some ⟨b,q,none⟩)))(ht:T.get ty=some i)(ha:aggD i.desc=true)(hv:cut cs 0 i.size=some l):RV P β n Γ H F (.cell t ty) (.agg l.toArray):=λa w S f s k=>by
 have:=f.get t _ h;obtain⟨h1,e,d⟩:=zD hv;have hl:=run_loadCells_list (P:=P) w ⟨b,q,none⟩ l (λj u c=>by rw[Addr.add_mid];exact hk w S s k j u (by simpa using d j u c));rw[e]at hl;unfold resVal;simp only[P1,this,L4,asAddr,E6,E7,E8,loadVar,hT.agg ht,ha,if_true,hT.size ht,hl]
theorem rv_cell1(hT:dU P T){t ty b q:Nat}{i:TI}{cs:List Value}{v:Value}(hk:oU β H F b q cs)(h:Γ.get t=some (.pointer (some ⟨b,q,none⟩)))(ht:T.get ty=some i)(ha:aggD i.desc=false)(hv:cs[0]?=some v):RV P β n Γ H F (.cell t ty) v:=λa w S f s k=>by
 have:=f.get t _ h;have c:=hk w S s k 0 v hv;rw[Nat.add_zero]at c;unfold resVal;simp only[P1,this,L4,asAddr,E6,E7,E8,loadVar,hT.agg ht,ha,G0,if_false,run_load,c]
theorem nZ(fn:Func)(a:Act):results fn a.tmps=(do let vs<-fn.results.mapM (resVal a);pure (if h:vs.size=1 then vs[0]else .tuple vs)):=by
 have e:(λx:ResultVar=>(match x with|.tmp t=>pure (a.tmps.getD t undef)|.cell ad t=>do loadVar t (<-asAddr (a.tmps.getD ad undef)):Sem Value))=resVal a:=by
  funext x
  cases x<;>rfl
 unfold results;rw[<-e];rfl
section
variable {ι : Type} {fn : Func} {val : ι -> Value} {Hout : ι -> List bC} {post : ι -> List bE} {r1 r2 r3 : ResultVar} {v1 v2 v3 : Value}
theorem cT(x:ι)(hr:fn.results= #[])(hH:Sel H (Hout x))(hF:bA F (post x))(he: .tuple #[]=val x):At β n Γ H F (bodyPost P fn (bRo β val Hout post) .normal):=λa w S f s k=>by
 refine⟨f.defers,.tuple #[],?_,x,S,by rw[he],s.sel hH,hF.all S w k⟩;rw[nZ,hr];simp
theorem oS(x:ι)(hr:fn.results= #[r1])(h1:RV P β n Γ H F r1 v1)(hH:Sel H (Hout x))(hF:bA F (post x))(he:v1=val x):At β n Γ H F (bodyPost P fn (bRo β val Hout post) .ret):=λa w S f s k=>by
 refine⟨f.defers,v1,?_,x,S,by rw[he],s.sel hH,hF.all S w k⟩;rw[nZ,hr];simp[h1 a w S f s k]
theorem sC(x:ι)(hr:fn.results= #[r1,r2])(h1:RV P β n Γ H F r1 v1)(h2:RV P β n Γ H F r2 v2)(hH:Sel H (Hout x))(hF:bA F (post x))(he: .tuple #[v1,v2]=val x):At β n Γ H F (bodyPost P fn (bRo β val Hout post) .ret):=λa w S f s k=>by
 refine⟨f.defers,.tuple #[v1,v2],?_,x,S,by rw[he],s.sel hH,hF.all S w k⟩;rw[nZ,hr];simp[h1 a w S f s k,h2 a w S f s k]
theorem at_res3(x:ι)(hr:fn.results= #[r1,r2,r3])(h1:RV P β n Γ H F r1 v1)(h2:RV P β n Γ H F r2 v2)(h3:RV P β n Γ H F r3 v3)(hH:Sel H (Hout x))(hF:bA F (post x))(he: .tuple #[v1,v2,v3]=val x):At β n Γ H F (bodyPost P fn (bRo β val Hout post) .ret):=λa w S f s k=>by
 refine⟨f.defers,.tuple #[v1,v2,v3],?_,x,S,by rw[he],s.sel hH,hF.all S w k⟩;rw[nZ,hr];simp[h1 a w S f s k,h2 a w S f s k,h3 a w S f s k]
end
end
end
section
namespace X
open Go.RowKit
def CallR (P:Program)(f:FuncId)(args:Array Value)(w:World)(R:Value->World->Prop):Prop:=
 (∃v w',(callFunc f args).run P w= .ok (.value v) w'/\R v w')\/((callFunc f args).run P w= .ok (.enter f args) w/\Calls P f args w λe w'=> ∃v,e= .returned v/\R v w')
def exitOf:Ex->Exit
 |.nm=> .normal
 |.ex id=> .exit id
 |.rt=> .ret
section
variable [Ctx]
def uC (f:FuncId)(h:Orc):Prop:= ∀args s v s',h args s=some (v,s')-> ∀α w,Sim α s w->(∀x∈args,x.Sc s.n s.c)->CallR Ctx.P f (args.map (V.inst α)).toArray w λu w'=> ∃α',u=v.inst α'/\Stp α s w α' s' w'
class Good:Prop extends Meths where
 mixed:Ctx.P.follows .mixedOrders=true
 gl: ∀g k,Ctx.gl g=some k->k<Ctx.n0
 valid: ∀f,Ctx.known f=true-> ∀fn c,Ctx.P.funcs[f]?=some fn->fn.body=some c->mC f c=true
 orc: ∀f h,Ctx.orc f=some h->uC f h
def Post (α:As)(s:St)(w:World)(N:Nat)(x:Ex)(e':E)(s':St)(ex:Exit)(a':Act)(w':World):Prop:=ex=exitOf x/\ ∃α',Stp α s w α' s' w'/\EOk α' s' N e' a'
def tC (rec:Rec):Prop:= ∀f N c e s x e' s',mC f c=true->rec f N c e s=some (x,e',s')-> ∀α w a,Sim α s w->EOk α s N e a->c.wp Ctx.P (Post α s w N x e' s') a w
section
variable {α α' : As} {s s' : St} {w w' : World} {N : Nat} {e e' : E} {a a' : Act} {rec : Rec}
theorem EOk.step(he:EOk α s N e a)(h:Stp α s w α' s' w'):EOk α' s' N e a:=⟨he.defers,he.size,λi v b=>by
 obtain⟨h1,d⟩:=he.get i v b
 exact⟨h1.mono h.n h.c,by rw[<-h1.ext h.same];exact d⟩⟩
omit [Ctx]in
theorem sL(he:EOk α s N e a){d:Option Tmp}{v:V}(h:putX N d v s e=some (e',s')):s'=s/\EOk α s N e' (a.put d (v.inst α)):=by
 cases d with
 |none=>
  have h:some (e,s)=some (e',s'):=h;cases h;exact⟨rfl,he⟩
 |some d=>
  obtain⟨h1,g⟩:=bN (show gd _ _=some (e',s')from h);cases g;rw[G1]at h1;have hd:d<N:=by simpa[H9]using h1.1
  refine⟨rfl,he.defers,by simpa[Act.put]using he.size,λi u c=>?_⟩;have hlt:d<a.tmps.size:=B6 hd he.size
  rcases T.get_set_fuel _ _ _ _ _ _ c with ⟨rfl,j⟩|⟨b,c⟩
  .cases j;exact⟨V.Sc.of h1.2,by simp[Act.put,hlt]⟩
  .obtain⟨f,h4⟩:=he.get i u c;exact⟨f,by simp[Act.put,Ne.symm b,h4]⟩
omit [Ctx]in
theorem bEf(he:EOk α s N e a){ops:Array Oper}{o:Oper}{t:Bool}(h:bBg ops o e=some t):E2 o (yielded ops a.tmps)=t:=by
 unfold bBg at h;unfold E2
 cases hg:o.guard with
 |none=>
  rw[hg]at h;cases h;rfl
 |some q=>
  rw[hg]at h;obtain⟨j,c⟩:=q;obtain⟨p,f,h1⟩:=bB (show wantG ops j c e=some t from h);obtain⟨d,hd,k⟩:=bB h1;obtain⟨v,i,g⟩:=bB k;rw[iJ]at f;have f:ops[j]?=some p:=by simpa using f
  have hr:=(he.get d v i).2
  cases v with
  |b x=>
   cases g;simp[yielded,f,hd,hr,V.inst]
  |t vs=>
   cases g;simp[yielded,f,hd,hr,V.inst]
  |_=>cases g
omit [Ctx]in
theorem args_ok{l:List V}(hl: ∀v∈l,v.Sc s.n s.c): ∀(n:Nat) (e:E) (L:List Value),(∀i v,e.get i=some v->v.Sc s.n s.c/\i<n/\L[i]?=some (v.inst α))->(∀i,n<=i->i<n+l.length->L[i]?=(l[i-n]?).map (V.inst α))->
  ∀i v,(argsE n l e).get i=some v->v.Sc s.n s.c/\i<n+l.length/\L[i]?=some (v.inst α):=by
 induction l with
 |nil=>
  intro n e L b _ i v h;have:=b i v h
  simpa using this
 |cons u l ih=>
  intro n e L b d i v h;have h:(argsE (n+1) l (e.set (some u) fuelT n)).get i=some v:=h
  have:=ih (λx hx=>hl x (D1 _ hx)) (n+1) (e.set (some u) fuelT n) L (λj x a=>by
   rcases T.get_set_fuel _ _ _ _ _ _ a with ⟨rfl,k⟩|⟨_,a⟩
   .cases k;refine⟨hl _ (D5 ..),J9 _,?_⟩;have:=d j (B8 _) n4
    simpa using this
   .obtain⟨h1,g,f⟩:=b j x a
    exact⟨h1,k9,f⟩) (λj h1 g=>by
   have:=d j k9 n9;rw[this];rw[show j-n=(j-(n+1))+1 from by omega]
   rfl) i v h
  refine⟨this.1,by simp;omega,this.2.2⟩
omit [Ctx]in
theorem enter_ok{l:List V}(hl: ∀v∈l,v.Sc s.n s.c)(hN:l.length<=N):EOk α s N (argsE 0 l .lf) {tmps:=(l.map (V.inst α)).toArray++A8 (N-(l.map (V.inst α)).toArray.size) undef,defers:=[]}:=by
 refine⟨rfl,by simp;omega,λi v b=>?_⟩;obtain⟨h1,a,d⟩:=args_ok (α:=α) hl 0 .lf (l.map (V.inst α)) (λi v h=>by cases h) (λi _ _=>by simp) i v b;refine⟨h1,?_⟩;rw[Nat.zero_add]at a;rw[Array.getElem?_append,if_pos (by simpa using a)]
 simpa using d
theorem res_run(hs:Sim α s w)(he:EOk α s N e a){fn:Func}{l:List V}(h:bKw (resV e s) fn.results.toList=some l):(results fn a.tmps).run Ctx.P w= .ok ((oneRes l).inst α) w:=by
 have one: ∀(r:ResultVar) (v:V),resV e s r=some v->(resVal a r).run Ctx.P w= .ok (v.inst α) w:=λr v hr=>by
  cases r with
  |tmp t=>
   have:=(he.get t v hr).2;simp[resVal,P1,this]
  |cell t q=>
   obtain⟨u,hu,h1⟩:=bB (show ob (e.get t) _=some v from hr);obtain⟨k,o,rfl,c⟩:=pH h1;have:=(he.get t _ hu).2;simp[resVal,P1,this,V.inst,asAddr,bMy hs c]
 have all: ∀(b:List ResultVar) (l:List V),bKw (resV e s) b=some l->(b.mapM (resVal a)).run Ctx.P w= .ok (l.map (V.inst α)) w:=by
  intro b
  induction b with
  |nil=>intro l h;cases h;rfl
  |cons r b ih=>
   intro l h;obtain⟨v,f,h1⟩:=bB h;obtain⟨d,hl,c⟩:=bB h1;cases c;simp[List.mapM_cons,one r v f,ih d hl]
 rw[nZ,E6,Array.mapM_eq_mapM_toList,Sem.run_map,all _ _ h];simp only[E8,E7]
 match l with
 |[]=>simp[oneRes,inst_t]
 |[v]=>simp[oneRes]
 |v::u::l=>simp[oneRes,inst_t]
variable [Good]
theorem bOt(hrec:tC rec)(hs:Sim α s w){f:FuncId}{args:List V}{v:V}(h:callF f rec args s=some (v,s'))(hargs: ∀x∈args,x.Sc s.n s.c):
  (callFunc f (args.map (V.inst α)).toArray).run Ctx.P w= .ok (.enter f (args.map (V.inst α)).toArray) w/\Calls Ctx.P f (args.map (V.inst α)).toArray w λe w'=> ∃u,e= .returned u/\ ∃α',u=v.inst α'/\Stp α s w α' s' w':=by
 obtain⟨k,h1⟩:=bN h;obtain⟨fn,g,y⟩:=bB h1;obtain⟨c,hb,t⟩:=bB y;obtain⟨h4,r⟩:=bN t;obtain⟨⟨x,z,i⟩,hr,q⟩:=bB r;obtain⟨p,o⟩:=bN q;obtain⟨l,hl,m⟩:=bB o;cases m;simp only[G1,L3]at h4;refine⟨bH g h4.2.2 (by rw[hb];rfl) _ _,?_⟩;refine calls_of_wp g hb (Q5 (λex a' w' j=>?_) (hrec f fn.ntmps c _ s x z i (Good.valid f k fn c g hb) hr α w _ hs (enter_ok hargs (fH h4.1))));obtain⟨rfl,α',b,d⟩:=j;have a:=res_run b.sim d hl
 cases x with
 |nm=>exact⟨d.defers,_,a,_,rfl,α',rfl,b⟩
 |ex id=>cases p
 |rt=>exact⟨d.defers,_,a,_,rfl,α',rfl,b⟩
theorem call_ok(hrec:tC rec)(hs:Sim α s w){f:FuncId}{args:List V}{v:V}(h:callX f rec args s=some (v,s'))(hargs: ∀x∈args,x.Sc s.n s.c):
  CallR Ctx.P f (args.map (V.inst α)).toArray w λu w'=> ∃α',u=v.inst α'/\Stp α s w α' s' w':=by
 unfold callX at h;rw[rN]at h
 cases ho:Ctx.orc f with
 |some g=>
  rw[ho]at h;exact Good.orc f g ho args s v s' h α w hs hargs
 |none=>
  rw[ho]at h;exact .inr (bOt hrec hs h hargs)
theorem yV(hrec:tC rec)(hs:Sim α s w)(he:EOk α s N e a){ops:Array Oper}{o:Oper}(h:bBc rec N ops o e s=some (e',s')){K:Act->World->Prop}{Q:Exit->Act->World->Prop}
  (k: ∀α' a' w',Stp α s w α' s' w'->EOk α' s' N e' a'->K a' w'):if E2 o (yielded ops a.tmps)then o.wp Ctx.P a w K Q else K (a.put o.dst undef) w:=by
 obtain⟨t,n,h1⟩:=bB h;rw[bEf he n];rw[cF]at h1
 cases t with
 |false=>
  simp only[G0,if_false]at h1⊢;obtain⟨rfl,g⟩:=sL he h1;rw[wK]at g;exact k α _ w (Stp.refl hs) g
 |true=>
  simp only[if_true]at h1⊢;obtain⟨r,hr,g⟩:=bB h1;have b:=op_run hs he hr;unfold F4
  cases r with
  |v v s1=>
   obtain⟨α',w',d,h4⟩:=b;rw[d,F5];obtain⟨rfl,c⟩:=sL (he.step h4) (show putX N o.dst v s1 e=some (e',s')from g);exact k α' _ w' h4 c
  |sk s1=>
   obtain⟨α',w',d,h4⟩:=b;rw[d,F6];obtain⟨rfl,c⟩:=sL (he.step h4) (show putX N o.dst undefV s1 e=some (e',s')from g);rw[wK]at c;exact k α' _ w' h4 c
  |call f args s1=>
   obtain⟨rfl,d,l⟩:=b;obtain⟨⟨v,m⟩,p,h4⟩:=bB (show ob (callX f rec args s1) _=some (e',s')from g)
   rcases call_ok hrec hs p l with ⟨u,w',c,α',rfl,j⟩|⟨c,j⟩
   .rw[d,c,F5];obtain⟨rfl,i⟩:=sL (he.step j) (show putX N o.dst v m e=some (e',s')from h4);exact k α' _ w' j i
   .rw[d,c,F7];refine j.mono ?_;rintro ex w' ⟨u,rfl,α',rfl,i⟩;obtain⟨rfl,q⟩:=sL (he.step i) (show putX N o.dst v m e=some (e',s')from h4);exact k α' _ w' i q
theorem ops_wp(hrec:tC rec){ops:Array Oper}{Q:Exit->Act->World->Prop}: ∀(l:List Oper) (e:E) (s:St) (α:As) (w:World) (a:Act),Sim α s w->EOk α s N e a->opsX rec N ops l e s=some (e',s')->
  (∀α' a' w',Stp α s w α' s' w'->EOk α' s' N e' a'->Q .normal a' w')->wpList Ctx.P ops Q l a w
 |[],e,s,α,w,a,hs,he,h,k=>by
  have h:some (e,s)=some (e',s'):=h;cases h;exact k α a w (Stp.refl hs) he
 |o::l,e,s,α,w,a,hs,he,h,k=>by
  obtain⟨⟨n,g⟩,h1,m⟩:=bB (show ob (bBc rec N ops o e s) _=some (e',s')from h);have:=yV hrec hs he h1 (K:=wpList Ctx.P ops Q l) (Q:=Q) (λα' a' w' f h4=>ops_wp hrec l n g α' w' a' f.sim h4 m λα'' d b j i=>k α'' d b (f.trans j) i);unfold wpList;split
  .rename_i c;rw[c]at this;exact .inl this
  .rename_i c;simp only[c]at this;exact this
end
end
end X
end
section
namespace X
open Go.RowKit
theorem qL{α:Type}{p:α->α->Bool}(hp: ∀x y,p x y=true->x=y): ∀{l m:List α},vN p l m=true->l=m
 |[],[],_=>rfl
 |[],_::_,h=>by cases h
 |_::_,[],h=>by cases h
 |x::l,y::m,h=>by
  simp only[vN,G1]at h;rw[hp x y h.1,qL hp h.2]
theorem jZ{a b:Nat}(h:B5 a b=true):a=b:=B7 h
theorem cap_eq{a b:Cap}(h:capEq a b=true):a=b:=by
 cases a<;>cases b<;>simp only[capEq,G1,Nat.beq_eq]at h<;>first|cases h|skip
 .rfl
 .rename_i h1 c;rw[h1,c]
theorem qG: ∀(d:Nat) (u v:V),beqD d u v=true->u=v:=by
 intro d
 induction d with
 |zero=>intro u v h;cases h
 |succ d ih=>
  intro u v h;cases u<;>cases v<;>try (cases h;done)
  case b.b x y=>
   have h:(x==y)=true:=h;rw[beq_iff_eq.1 h]
  case i.i k x k' y=>
   have h:(sameKind k k'&&ieq x y)=true:=h;rw[G1,bGk]at h;rw[kJ h.1,beq_iff_eq.1 h.2]
  case s.s x y=>rw[qL (λ_ _=>jZ) (show vN B5 x y=true from h)]
  case p0.p0=>rfl
  case p.p k o k' o'=>
   have h:(B5 k k'&&B5 o o')=true:=h;rw[G1]at h;rw[jZ h.1,jZ h.2]
  case l0.l0=>rfl
  case l.l k o n c k' o' n' c'=>
   have h:(B5 k k'&&(B5 o o'&&(B5 n n'&&capEq c c')))=true:=h;simp only[G1]at h;rw[jZ h.1,jZ h.2.1,jZ h.2.2.1,cap_eq h.2.2.2]
  case z.z k o n c k' o' n' c'=>
   have h:(B5 k k'&&(B5 o o'&&(B5 n n'&&B5 c c')))=true:=h;simp only[G1]at h;rw[jZ h.1,jZ h.2.1,jZ h.2.2.1,jZ h.2.2.2]
  case y.y c c'=>rw[jZ (show B5 c c'=true from h)]
  case m0.m0=>rfl
  case m.m k k'=>rw[jZ (show B5 k k'=true from h)]
  case f.f fn x y fn' x' y'=>
   cases fn with
   |func f=>
    cases fn' with
    |func f'=>
     have h:(B5 f f'&&(vN (beqD d) x x'&&vN (beqD d) y y'))=true:=h;simp only[G1]at h;rw[jZ h.1,qL ih h.2.1,qL ih h.2.2]
    |_=>cases h
   |_=>cases fn'<;>cases h
  case f0.f0=>rfl
  case e0.e0=>rfl
  case e.e t u t' u'=>
   have h:(B5 t t'&&beqD d u u')=true:=h;rw[G1]at h;rw[jZ h.1,ih _ _ h.2]
  case g.g x y=>rw[qL ih (show vN (beqD d) x y=true from h)]
  case t.t x y=>rw[qL ih (show vN (beqD d) x y=true from h)]
  all_goals (cases ‹Fn›<;>cases h)
theorem oeq_eq{a b:Option Nat}(h:oeq a b=true):a=b:=by
 cases a<;>cases b<;>first|rfl|cases h|rw[jZ (show B5 _ _=true from h)]
theorem blk_eq{x y:Blk}(h:x.beq y=true):x=y:=by
 cases x<;>cases y<;>try cases h
 case cells.cells cs t x ro cs' t' x' ro'=>
  have h:(B5 t t'&&(oeq x x'&&((ro==ro')&&vN (beqD 4) cs cs')))=true:=h;simp only[G1]at h;rw[jZ h.1,oeq_eq h.2.1,beq_iff_eq.1 h.2.2.1,qL (qG 4) h.2.2.2]
 case map.map es c es' c'=>
  have h:(B5 c c'&&vN entEq es es')=true:=h;rw[G1]at h
  rw[jZ h.1,qL (λx y h=>by
   simp only[entEq,G1]at h;obtain⟨g,f,e⟩:=x;obtain⟨d,b,a⟩:=y;simp only at h
   rw[qG 4 _ _ h.1,qG 4 _ _ h.2.1,jZ h.2.2]) h.2]
 case win.win cs cs'=>rw[qL (qG 4) (show vN (beqD 4) cs cs'=true from h)]
 case know.know n n'=>rw[jZ (show B5 n n'=true from h)]
section
variable [Ctx] {α α' α0 : As} {s s' : St} {w w' : World} {N : Nat} {e e' : E} {a a' : Act} {rec : Rec} {h0 : T Blk} {D : List Nat}
theorem Stp.of_grow(hs:Sim α s w)(hb:Below w.heap.size w w'):Stp α s w α s w':=
 ⟨mI.refl _ _ _,B8 _,B8 _,hs.grow hb,⟨hb.os,hb.tape,hb.output,hb.size,λb hlt _=>hb.block b hlt⟩,λk x a=> .inl ⟨k,x,a,id,rfl⟩⟩
omit [Ctx]in
theorem tE(s:St): ∀(D:List Nat) (k:Nat) (x:Blk),(restX s D).get k=some x->k∈D/\s.h.get k=some x
 |[],_,_,h=>by cases h
 |d::D,k,x,h=>by
  have h:((restX s D).set (s.h.get d) fuelT d).get k=some x:=h
  rcases T.get_set_fuel _ _ _ _ _ _ h with ⟨rfl,b⟩|⟨_,h⟩
  .exact⟨D5 ..,b⟩
  .obtain⟨h1,a⟩:=tE s D k x h;exact⟨D1 _ h1,a⟩
def Cls (α0:As)(h0:T Blk)(n0 c0:Nat)(w:World):Prop:=Sim α0 {h:=h0,n:=n0,c:=c0} w
theorem Cls.up{n0 c0:Nat}(h:Cls α0 h0 n0 c0 w)(hs:mI n0 c0 α0 α)(hn:n0<=s.n)(hc:c0<=s.c):Sim α {s with h:=h0} w where
 gl:=λg k a=>by
  obtain⟨h1,i⟩:=h.gl g k a;exact⟨B6 h1 hn,by rw[<-hs.blk k h1];exact i⟩
 lt:=λk x a=>B6 (h.lt k x a) hn
 sc:=λk x a=>(h.sc k x a).mono hn hc
 is:=λk x a=>by
  rw[<-hs.blk k (h.lt k x a)];exact(h.is k x a).ext (h.sc k x a) hs rfl
 ne:=λk d x f a b e=>h.ne k d x f a b (by rw[hs.blk k (h.lt k x a),hs.blk d (h.lt d f b)];exact e)
theorem Cls.keep{n0 c0:Nat}(h:Cls α0 h0 n0 c0 w)(hD: ∀k x,h0.get k=some x->k∈D)(hs:mI n0 c0 α0 α)(hsim:Sim α s w')(hk:xR h0 D s=true):Cls α0 h0 n0 c0 w' where
 gl:=h.gl
 lt:=h.lt
 sc:=h.sc
 is:=λk x hx=>by
  unfold xR at hk;rw[oY,D6]at hk;have h1:=hk k (hD k x hx);rw[hx]at h1;have h1:oc (s.h.get k) false (λb=>x.beq b)=true:=h1;rw[rN]at h1
  cases c:s.h.get k with
  |none=>rw[c]at h1;cases h1
  |some y=>
   rw[c]at h1;have:=blk_eq h1;subst this;have d:=hsim.is k x c;rw[<-hs.blk k (h.lt k x hx)]at d;exact d.ext (h.sc k x hx) ⟨λi a=>(hs.blk i a).symm,λi a=>(hs.room i a).symm,λi a=>(hs.place i a).symm⟩ rfl
 ne:=h.ne
theorem Sim.rest(hs:Sim α s w)(D:List Nat):Cls α (restX s D) s.n s.c w where
 gl:=hs.gl
 lt:=λk x a=>hs.lt k x (tE s D k x a).2
 sc:=λk x a=>hs.sc k x (tE s D k x a).2
 is:=λk x a=>hs.is k x (tE s D k x a).2
 ne:=λk e x d a b=>hs.ne k e x d (tE s D k x a).2 (tE s D e d b).2
omit [Ctx]in
theorem EOk.at_(he:EOk α s N e a):EOk α {s with h:=h0} N e a:=⟨he.defers,he.size,he.get⟩
theorem quiet_some{o:Op}{f:FuncId}{args:List Operand}(h:bLc o=some (f,args)): ∃xs ts,o= .call ⟨.value (.func f),xs,ts⟩/\args=xs.toList:=by
 unfold bLc at h;split at h
 .rename_i g xs ts;obtain⟨_,h1⟩:=bN h;cases h1;exact⟨xs,ts,rfl,rfl⟩
 .cases h
variable [Good]
theorem look_ok(hrec:tC rec){C:World->Prop}(hC: ∀w,C w->Sim α {s with h:=h0} w)(he:EOk α s N e a){o:Oper}{v:V}(h:lookX rec o.op {s with h:=h0} e=some v):looksAt Ctx.P o a C (v.inst α):=λw I=>by
 have p:=hC w I;have l:EOk α {s with h:=h0} N e a:=he.at_;unfold lookX at h;rw[rN]at h
 cases hq:bLc o.op with
 |none=>
  rw[hq]at h;rw[pure_run p l h];exact⟨rfl,rfl⟩
 |some q=>
  rw[hq]at h;obtain⟨f,E⟩:=q;obtain⟨m,ts,ho,rfl⟩:=quiet_some hq;obtain⟨A,n,h1⟩:=bB (show ob (evsX m.toList e) _=some v from h);obtain⟨D,O⟩:=bN h1;obtain⟨⟨u,R⟩,h4,M⟩:=bB O;obtain⟨L,K⟩:=bN M;cases K;rw[oY,D6]at D
  have i:oCallV (.func f) m.toList {s with h:=h0} e=some (.call f ([]++(A++[])) {s with h:=h0}):=by
   show ob (evsX m.toList e) _=_;rw[n];rfl
  obtain⟨g,G,J,B,_⟩:=bSy (ts:=ts) (ty:=o.type) p l i;cases J;simp only[List.nil_append,P9]at B
  have j:(execOp a.eval o).run Ctx.P w=(callFunc f (A.map (V.inst α)).toArray).run Ctx.P w:=by
   unfold execOp;simp only[ho];exact B
  have z:Sim α emptyS w:=⟨λg k c=>⟨Good.gl g k c,(p.gl g k c).2⟩,λk x c=>(by cases c),λk x c=>(by cases c),λk x c=>(by cases c),λk U x Q c=>(by cases c)⟩
  obtain⟨t,r⟩:=bOt hrec z h4 (λx hx=>(V.Sc.of (D x hx)).mono (P2 _) (P2 _));rw[j,t];refine⟨rfl,r.mono ?_⟩;rintro ex w' ⟨y,rfl,α',rfl,d⟩;refine⟨?_,d.fr.os,d.fr.tape,d.fr.output,d.fr.size,λb hb=>d.fr.block b hb λk x c=>(by cases c)⟩;rw[(V.Sc.of L).ext (⟨λk c=>absurd c (P3 _),λk c=>absurd c (P3 _),λk c=>absurd c (P3 _)⟩:mI 0 0 α α')]
omit [Ctx]in
theorem pN{md:Region.Mode}{ops:Array Oper}{ls:List Nat}: ∀{od:List (Bool×Nat)} {p:Option Nat} {listed:Array Bool},iM md ops ls od p listed=true->(∀k,p=some k->k<4096)->gT ops od=true
 |[],_,_,_,_=>rfl
 |(true,k)::r,p,_,h,hp=>by
  simp only[iM,G1]at h;exact pN (od:=r) h.2.2.2 hp
 |(false,k)::r,p,listed,h,hp=>by
  by_cases a:p=some k
  .have b:=hp k a;simp only[iM,a,if_true]at h;simp only[gT,b,if_true];exact pN h λk e=>by cases e
  .by_cases b:k<4096
   .simp only[iM,a,b,if_false,if_true,G1]at h;simp only[gT,b,if_true];exact pN h.2 hp
   .by_cases hq:yX<=k
    .simp only[iM,a,b,hq,if_false,if_true,G1]at h;simp only[gT,b,hq,if_false,if_true,G1];exact⟨⟨(bJo h.1).1,h.2.1⟩,pN h.2.2.2.1 λk e=>by cases e⟩
    .simp only[iM,a,b,hq,if_false,G1]at h;simp only[gT,b,hq,if_false,G1];exact⟨(bDf h.1).1,pN h.2 hp⟩
omit [Good]in
theorem Stp.adopt{α1:As}{s1:St}{w2:World}{el:TypeId}{cs:List V}(hs:Sim α s w)(hc: ∀v∈cs,v.Sc s.n s.c/\v.one=true)(h:Stp α s (w.alloc (.cells (cs.map (V.inst α)).toArray el)) α1 s1 w2):
  Stp α s w (α1.new s1.n w.heap.size s1.c 0) (s1.new (.cells cs el none false)) w2:=by
 have u:(w.alloc (.cells (cs.map (V.inst α)).toArray el)).heap.size=w.heap.size+1:=by
  show(w.heap.push _).size=_;exact Array.size_push ..
 have i:(α1.new s1.n w.heap.size s1.c 0).blk s1.n=w.heap.size:=by simp[As.new]
 have d: ∀k,k<s1.n->(α1.new s1.n w.heap.size s1.c 0).blk k=α1.blk k:=λk a=>by simp[As.new];omega
 have f:mI s.n s.c α (α1.new s1.n w.heap.size s1.c 0):=h.same.trans (nK _ _ _ _ _) h.n h.c
 have l: ∀k x,s1.h.get k=some x->α1.blk k≠w.heap.size:=λk x a e=>by
  rcases h.new k x a with ⟨p,o,h1,_,t⟩|h1
  .have:=(hs.is p o h1).lt;omega
  .omega
 refine⟨f,B9 h.n (J8 _),h.c,⟨λg k a=>?_,λk x a=>?_,λk x a=>?_,λk x a=>?_,λk A x z a q e=>?_⟩,⟨h.fr.os,h.fr.tape,h.fr.output,by have:=h.fr.size;omega,λb hb hn=>?_⟩,λk x a=>?_⟩
 .obtain⟨h1,r⟩:=h.sim.gl g k a;exact⟨P4 h1,by rw[d k h1];exact r⟩
 .rcases gA a with ⟨rfl,_⟩|⟨_,a⟩
  .exact J9 _
  .exact P4 (h.sim.lt k x a)
 .rcases gA a with ⟨rfl,e⟩|⟨_,a⟩
  .injection e with e
   subst e;exact⟨λv m=>⟨(hc v m).1.mono (B9 h.n (J8 _)) h.c,(hc v m).2⟩,λk a=>by cases a⟩
  .exact(h.sim.sc k x a).mono (J8 _) (B8 _)
 .rcases gA a with ⟨rfl,e⟩|⟨_,a⟩
  .injection e with e
   subst e;rw[i];have y:cs.map (V.inst α)=cs.map (V.inst (α1.new s1.n w.heap.size s1.c 0)):=List.map_congr_left λv m=>(hc v m).1.ext f;show w2.heap[w.heap.size]?=_;rw[h.fr.block _ k9 (λk x a _ e=>by have:=(hs.is k x a).lt;omega),heap_alloc_new,y]
  .have hlt:=h.sim.lt k x a;rw[d k hlt];exact(h.sim.is k x a).ext (h.sim.sc k x a) (nK _ _ _ _ _) rfl
 .rcases gA a with ⟨rfl,_⟩|⟨_,h1⟩<;>rcases gA q with ⟨rfl,_⟩|⟨_,j⟩
  .rfl
  .rw[i,d _ (h.sim.lt _ _ j)]at e;exact absurd e.symm (l _ _ j)
  .rw[i,d _ (h.sim.lt _ _ h1)]at e;exact absurd e (l _ _ h1)
  .rw[d _ (h.sim.lt _ _ h1),d _ (h.sim.lt _ _ j)]at e;exact h.sim.ne _ _ _ _ h1 j e
 .exact(h.fr.block b k9 hn).trans (heap_alloc_old w _ hb)
 .rcases gA a with ⟨rfl,_⟩|⟨_,a⟩
  .exact .inr (by rw[i];exact B8 _)
  .rcases h.new k x a with ⟨p,o,h1,r,t⟩|h1
   .exact .inl ⟨p,o,h1,r,by rw[d k (h.sim.lt k x a)];exact t⟩
   .exact .inr (by rw[d k (h.sim.lt k x a)];omega)
omit [Ctx] [Good]in
theorem same_bs{b b':TypeId×Option Nat×List V}(h:sameBs b b'=true):b=b':=by
 unfold sameBs at h;simp only[G1]at h;obtain⟨f,e,d⟩:=b;obtain⟨c1,c2,c3⟩:=b';have h1:f=c1:=jZ h.1;have c:e=c2:=oeq_eq h.2.1;have a:d=c3:=qL (qG 4) h.2.2;rw[h1,c,a]
theorem pair_wp(hrec:tC rec){ops:Array Oper}{n0 c0 j l:Nat}(hD: ∀k x,h0.get k=some x->k∈D)(hlate:bEn ops j l=true)(hsel:E5 ops=true)(hs:Sim α s w)(he:EOk α s N e a)(hsame:mI n0 c0 α0 α)(hn:n0<=s.n)(hc:c0<=s.c)(hC:Cls α0 h0 n0 c0 w)
  (h:pairX rec N ops D h0 j l e s=some (e',s')) {K:Act->World->Prop} (k: ∀α' a' w',Stp α s w α' s' w'->EOk α' s' N e' a'->Cls α0 h0 n0 c0 w'->K a' w'):
  fOp Ctx.P ops j (λa w=> ∀w',Below w.heap.size w w'->Cls α0 h0 n0 c0 w'/\fOp Ctx.P ops l K a w') a w/\fOp Ctx.P ops l (λa w=> ∀w',Below w.heap.size w w'->Cls α0 h0 n0 c0 w'/\fOp Ctx.P ops j K a w') a w:=by
 obtain⟨oj,ol,J,hl,t,hap,hjl⟩:=bGo hlate;obtain⟨r,z,h1⟩:=bB h;obtain⟨m,y,h2⟩:=bB h1;have z:ops[j]?=some r:=by rw[iJ]at z;simpa using z
 have y:ops[l]?=some m:=by rw[iJ]at y;simpa using y
 obtain rfl:r=oj:=Option.some.inj (z.symm.trans J);obtain rfl:m=ol:=Option.some.inj (y.symm.trans hl);obtain⟨b,hb,h3⟩:=bB h2;obtain⟨⟨U,p⟩,hA,h4⟩:=bB h3;obtain⟨Z,h5⟩:=bN h4;obtain⟨b',hb',h6⟩:=bB h5;obtain⟨hbb,h7⟩:=bN h6;obtain⟨⟨e2,s2⟩,hB,h8⟩:=bB h7;obtain⟨I,h9⟩:=bN h8;cases h9;obtain rfl:=same_bs hbb;refine⟨λo ho=>?_,?_⟩
 .
  obtain rfl:o=r:=Option.some.inj (ho.symm.trans J);refine kQ (yV hrec hs he hA λα1 a1 w1 B g2=>?_);have g:=hsame.trans B.same hn hc;have hC1:=Cls.keep hC hD g B.sim Z;intro w2 u;have R:Cls α0 h0 n0 c0 w2:=Sim.grow hC1 u;refine⟨R,λo' Y=>?_⟩;obtain rfl:o'=m:=Option.some.inj (Y.symm.trans hl);have E:=Stp.of_grow B.sim u;refine kQ (yV hrec E.sim g2 hB λα2 a2 W g3 g4=>?_);exact k α2 a2 W ((B.trans E).trans g3) g4 (Cls.keep R hD (g.trans g3.same (B9 hn B.n) (B9 hc B.c)) g3.sim I)
 .
  have hgd:m.guard=none/\ ∃d,m.dst=some d:=by
   unfold lateO at t;split at t
   all_goals first
    |cases t
    |(simp only[G1,Q4,Option.isSome_iff_exists]at t;exact t)
  obtain⟨hg,d,hd⟩:=hgd;obtain⟨G,M⟩:=bOr hs he hb;intro o ho;obtain rfl:o=m:=Option.some.inj (ho.symm.trans hl);apply kQ
  have hw:E2 o (yielded ops a.tmps)=true:=by
   unfold E2;rw[hg]
  rw[hw,if_pos rfl];unfold F4;rw[G];intro w2 u;have Q:Below w.heap.size w (w.alloc (.cells (b.2.2.map (V.inst α)).toArray b.1)):=(Below.refl _ _).alloc (B8 _) _;have O:=oK Q u;refine⟨Sim.grow hC O,bSi J hap (λcs q=>O7 hsel j r cs q J) ?_⟩;intro o2 X;obtain rfl:o2=r:=Option.some.inj (X.symm.trans J);refine kQ (yV hrec (hs.grow O) he hA λα1 a1 W B g2=>?_);have hfr:Stp α s (w.alloc (.cells (b.2.2.map (V.inst α)).toArray b.1)) α1 p W:=(Stp.of_grow (hs.grow Q) u).trans B;have C:=Stp.adopt hs M hfr;have hB':=hB;obtain⟨tt,f,hB1⟩:=bB hB';have f:bBg ops o U=some tt:=f;unfold bBg at f;rw[hg]at f;have f:some true=some tt:=f;cases f;obtain⟨rr,A,hB2⟩:=bB (show ob (opX o.op p U) (doneX rec N o.dst U)=some (e',s')from hB1);rw[late_op (s:=p) hb']at A;cases A;have hB3:putX N o.dst (bKm p.n b.2.1) (p.new (.cells b.2.2 b.1 none false)) U=some (e',s'):=hB2
  have he1:EOk (α1.new p.n w.heap.size p.c 0) (p.new (.cells b.2.2 b.1 none false)) N U a1:=⟨g2.defers,g2.size,λi v hi=>by
   obtain⟨q1,q2⟩:=g2.get i v hi
   exact⟨q1.mono (J8 _) (B8 _),by rw[q2,q1.ext (nK _ _ _ _ _)]⟩⟩
  obtain⟨rfl,L⟩:=sL he1 hB3
  have hv:(bKm p.n b.2.1).inst (α1.new p.n w.heap.size p.c 0)=rV w.heap.size b.2.1:=by
   obtain⟨b1,b2,b3⟩:=b;cases b2<;>simp[bKm,oc,rV,V.inst,Cap.inst,As.new]
  rw[hv]at L;exact k _ _ W C L (Cls.keep hC hD (hsame.trans C.same hn hc) C.sim I)
omit [Ctx] [Good]in
theorem bs_al{o:Op}(h:isAl o=true): ∃t,o= .alloc t:=by
 cases o<;>first|exact⟨_,rfl⟩|cases h
omit [Good]in
theorem late_done{ol:Oper}{αs:As}{ss:St}{ws:World}{b:TypeId×Option Nat×List V}{e1:E}{s1:St}(hss:Sim αs ss ws)(hbsc: ∀v∈b.2.2,v.Sc ss.n ss.c/\v.one=true)(hg:ol.guard=none)(hb:bsX ol.op e=some b){ops:Array Oper}
  (hst:Stp αs ss (ws.alloc (.cells (b.2.2.map (V.inst αs)).toArray b.1)) α s w) (he:EOk α s N e a) (h:bBc rec N ops ol e s=some (e1,s1)):
  ∃α',Stp αs ss ws α' s1 w/\EOk α' s1 N e1 (a.put ol.dst (rV ws.heap.size b.2.1)):=by
 have k:=Stp.adopt hss hbsc hst;obtain⟨p,d,o⟩:=bB h;have d:bBg ops ol e=some p:=d;unfold bBg at d;rw[hg]at d;have d:some true=some p:=d;cases d;obtain⟨y,f,m⟩:=bB (show ob (opX ol.op s e) (doneX rec N ol.dst e)=some (e1,s1)from o);rw[late_op (s:=s) hb]at f;cases f;have l:putX N ol.dst (bKm s.n b.2.1) (s.new (.cells b.2.2 b.1 none false)) e=some (e1,s1):=m
 have j:EOk (α.new s.n ws.heap.size s.c 0) (s.new (.cells b.2.2 b.1 none false)) N e a:=⟨he.defers,he.size,λi v u=>by
  obtain⟨q,r⟩:=he.get i v u
  exact⟨q.mono (J8 _) (B8 _),by rw[r,q.ext (nK _ _ _ _ _)]⟩⟩
 obtain⟨rfl,g⟩:=sL j l
 have t:(bKm s.n b.2.1).inst (α.new s.n ws.heap.size s.c 0)=rV ws.heap.size b.2.1:=by
  obtain⟨A,x,z⟩:=b;cases x<;>simp[bKm,oc,rV,V.inst,Cap.inst,As.new]
 rw[t]at g;exact⟨_,k,g⟩
omit [Good]in
theorem mix_al{ops:Array Oper}{lx:Nat}{ol:Oper}: ∀{l:List (Bool×Nat)} {e:E} {s:St},gT ops l=true->yK ops lx l=true->ops[lx]?=some ol->isAl ol.op=true->ol.guard=none->lx<4096->zC rec N ops D h0 l e s=some (e',s')-> ∃b,∀e,bsX ol.op e=some b
 |[],_,_,_,d,_,_,_,_,_=>by cases d
 |(true,j)::l,e,s,hP,d,hol,hal,hg,hlx,h=>by
  obtain⟨o,_,h1⟩:=bB (show ob (nthL ops.toList j) (λo=>ob (lookL rec N ops o h0 e s) λq=>zC rec N ops D h0 l q.1 q.2)=some (e',s')from h);obtain⟨⟨k,i⟩,_,x⟩:=bB h1;have d:((oc ops[lx]? false λol=>oc ops[j]? false λo=>ol.apart ops o)&&yK ops lx l)=true:=d;rw[G1]at d;exact mix_al (l:=l) hP d.2 hol hal hg hlx x
 |(false,j)::l,e,s,hP,d,hol,hal,hg,hlx,h=>by
  obtain rfl:j=lx:=B7 d
  have h:sel (C0 j 4096) (ob (nthL ops.toList j) λo=>ob (bBc rec N ops o e s) λq=>gd (xR h0 D q.2) (zC rec N ops D h0 l q.1 q.2)) (sel (Nat.ble yX j) (ob (nthL ops.toList (pW j)) λo=>ob (bBc rec N ops o e s) λq=>gd (xR h0 D q.2) (zC rec N ops D h0 l q.1 q.2))
   (ob (pairX rec N ops D h0 (Nat.mod j 4096) (Nat.pred (Nat.div j 4096)) e s) λq=>zC rec N ops D h0 l q.1 q.2))=some (e',s'):=h
  rw[cF,if_pos (by simpa[H9]using hlx)]at h;obtain⟨o,ho,h1⟩:=bB h;obtain⟨⟨k,i⟩,y,_⟩:=bB h1;have ho:ops[j]?=some o:=by rw[iJ]at ho;simpa using ho
  obtain rfl:o=ol:=Option.some.inj (ho.symm.trans hol);obtain⟨t,r⟩:=bs_al hal;obtain⟨g,a,f⟩:=bB y;have a:bBg ops o e=some g:=a;unfold bBg at a;rw[hg]at a;have a:some true=some g:=a;cases a;obtain⟨m,c,_⟩:=bB (show ob (opX o.op s e) (doneX rec N o.dst e)=some (k,i)from f);rw[r]at c⊢;obtain⟨z,hz,w⟩:=bB (show ob (zeroX t) (λz=>gd (allL V.one z.cells) (some (.v (.p s.n 0) (s.new (.cells z.cells t none false)))))=some m from c);obtain⟨u,_⟩:=bN w;refine⟨(t,none,z.cells),λe=>?_⟩;show ob (zeroX t) (λz=>gd (allL V.one z.cells) (some (t,none,z.cells)))=_;rw[hz];show gd (allL V.one z.cells) _=_;rw[u];rfl
theorem bNo(hrec:tC rec){ops:Array Oper}{n0 c0:Nat}(hsel:E5 ops=true)(hD: ∀k x,h0.get k=some x->k∈D){K:Act->World->Prop}: ∀(l:List (Bool×Nat)),
  (∀(e:E) (s:St) (α:As) (w:World) (a:Act),Sim α s w->EOk α s N e a->mI n0 c0 α0 α->n0<=s.n->c0<=s.c->Cls α0 h0 n0 c0 w->gT ops l=true->
   zC rec N ops D h0 l e s=some (e',s')->(∀α' a' w',Stp α s w α' s' w'->EOk α' s' N e' a'->K a' w')->nF Ctx.P ops (Cls α0 h0 n0 c0) K l none a w)/\
  (∀(lx:Nat) (ol:Oper) (b:TypeId×Option Nat×List V) (e:E) (s:St) (α:As) (w:World) (a:Act) (αs:As) (ss:St) (ws:World),lx<4096->ops[lx]?=some ol->isAl ol.op=true->ol.guard=none->(∀e,bsX ol.op e=some b)->yK ops lx l=true->
   Sim αs ss ws->(∀v∈b.2.2,v.Sc ss.n ss.c/\v.one=true)->Stp αs ss (ws.alloc (.cells (b.2.2.map (V.inst αs)).toArray b.1)) α s w->EOk α s N e a->mI n0 c0 α0 αs->n0<=ss.n->c0<=ss.c->Cls α0 h0 n0 c0 w->gT ops l=true->
   zC rec N ops D h0 l e s=some (e',s')->(∀α' a' w',Stp αs ss ws α' s' w'->EOk α' s' N e' a'->K a' w')->nF Ctx.P ops (Cls α0 h0 n0 c0) K l (some lx) (a.put ol.dst (rV ws.heap.size b.2.1)) w)
 |[]=>⟨λe s α w a hs u d hn p R i h k w' hb=>by
   have h:some (e,s)=some (e',s'):=h;cases h
   exact⟨Sim.grow R hb,k α a w' (Stp.of_grow hs hb) u⟩,λ_ _ _ _ _ _ _ _ _ _ _ _ _ _ _ _ h=>by cases h⟩
 |(true,j)::l=>by
  obtain⟨C,Y⟩:=bNo hrec hsel hD l;refine⟨λe s α w a hs u d hn p R i h k=>?_,λlx ol b e s α w a αs ss ws z r G hg hb hF Z y g u d hn p R i h k=>?_⟩
  .obtain⟨o,ho,h1⟩:=bB (show ob (nthL ops.toList j) (λo=>ob (lookL rec N ops o h0 e s) λq=>zC rec N ops D h0 l q.1 q.2)=some (e',s')from h);obtain⟨⟨J,B⟩,M,L⟩:=bB h1;obtain⟨t,ht,h4⟩:=bB M;have ho:ops[j]?=some o:=by rw[iJ]at ho;simpa using ho
   rw[cF]at h4
   cases t with
   |false=>
    simp only[G0,if_false]at h4;obtain⟨rfl,A⟩:=sL u h4;rw[wK]at A;exact⟨o,undef,ho,.inr ⟨bEf u ht,rfl⟩,C J B α w _ hs A d hn p R i L k⟩
   |true=>
    simp only[if_true]at h4;obtain⟨v,hv,A⟩:=bB h4;obtain⟨rfl,m⟩:=sL u A;exact⟨o,v.inst α,ho,.inl ⟨bEf u ht,look_ok hrec (λw' hw'=>Cls.up hw' d hn p) u hv⟩,C J B α w _ hs m d hn p R i L k⟩
  .obtain⟨o,ho,h1⟩:=bB (show ob (nthL ops.toList j) (λo=>ob (lookL rec N ops o h0 e s) λq=>zC rec N ops D h0 l q.1 q.2)=some (e',s')from h);obtain⟨⟨J,B⟩,M,L⟩:=bB h1;obtain⟨t,ht,h4⟩:=bB M;have ho:ops[j]?=some o:=by rw[iJ]at ho;simpa using ho
   have hF':ol.apart ops o=true/\yK ops lx l=true:=by
    have hF0:((oc ops[lx]? false λol=>oc ops[j]? false λo=>ol.apart ops o)&&yK ops lx l)=true:=hF;rw[r,ho,G1]at hF0;exact hF0
   obtain⟨W,O,a3⟩:=O8 hF'.1;have hso: ∀cs q,o.op≠ .select cs q:=λcs q=>O7 hsel j o cs q ho;have up: ∀v,Fq Ctx.P ops (Cls α0 h0 n0 c0) o v a->Fq Ctx.P ops (Cls α0 h0 n0 c0) o v (a.put ol.dst (rV ws.heap.size b.2.1)):=λv hy=>hy.of_same (execOp_put o hso a ol.dst _ W) (wanted_put o a ol.dst _ W);have hsam:mI n0 c0 α0 α:=d.trans g.same hn p;have hn':=B9 hn g.n;have hc':=B9 p g.c;rw[cF]at h4
   cases t with
   |false=>
    simp only[G0,if_false]at h4;obtain⟨rfl,A⟩:=sL u h4;rw[wK]at A;refine⟨o,undef,ho,up _ (.inr ⟨bEf u ht,rfl⟩),?_⟩;rw[Act.put_comm a _ _ O];exact Y lx ol b J B α w _ αs ss ws z r G hg hb hF'.2 Z y g A d hn p R i L k
   |true=>
    simp only[if_true]at h4;obtain⟨v,hv,A⟩:=bB h4;obtain⟨rfl,m⟩:=sL u A;refine⟨o,v.inst α,ho,up _ (.inl ⟨bEf u ht,look_ok hrec (λw' hw'=>Cls.up hw' hsam hn' hc') u hv⟩),?_⟩;rw[Act.put_comm a _ _ O];exact Y lx ol b J B α w _ αs ss ws z r G hg hb hF'.2 Z y g m d hn p R i L k
 |(false,j)::l=>by
  obtain⟨C,Y⟩:=bNo hrec hsel hD l;refine⟨λe s α w a hs u d hn p R i h k=>?_,λlx ol b e s α w a αs ss ws z r G hg hb hF Z y g u d hn p R i h k=>?_⟩
  .simp only[nF,reduceCtorEq,if_false];intro w' hb
   have h:sel (C0 j 4096) (ob (nthL ops.toList j) λo=>ob (bBc rec N ops o e s) λq=>gd (xR h0 D q.2) (zC rec N ops D h0 l q.1 q.2)) (sel (Nat.ble yX j) (ob (nthL ops.toList (pW j)) λo=>ob (bBc rec N ops o e s) λq=>gd (xR h0 D q.2) (zC rec N ops D h0 l q.1 q.2))
    (ob (pairX rec N ops D h0 (Nat.mod j 4096) (Nat.pred (Nat.div j 4096)) e s) λq=>zC rec N ops D h0 l q.1 q.2))=some (e',s'):=h
   have I:Cls α0 h0 n0 c0 w':=Sim.grow R hb;have g:=Stp.of_grow hs hb;rw[cF,cF]at h
   by_cases hj:j<4096
   .rw[if_pos (by simpa[H9]using hj)]at h;rw[if_pos hj];have i:gT ops l=true:=by simpa only[gT,hj,if_true]using i
    obtain⟨o,ho,h1⟩:=bB h;obtain⟨⟨J,B⟩,M,L⟩:=bB h1;obtain⟨h4,A⟩:=bN L;have ho:ops[j]?=some o:=by rw[iJ]at ho;simpa using ho
    refine⟨I,λo' Q=>?_⟩;have:o'=o:=Option.some.inj (Q.symm.trans ho);subst this;refine kQ (yV hrec g.sim u M λα1 W w1 m h7=>?_);have f:mI n0 c0 α0 α1:=d.trans m.same hn p;exact C J B α1 w1 W m.sim h7 f (B9 hn m.n) (B9 p m.c) (Cls.keep I hD f m.sim h4) i A λα2 O X h8 h9=>k α2 O X ((g.trans m).trans h8) h9
   .rw[if_neg (by simpa[H9]using hj)]at h;rw[if_neg hj]
    by_cases hq:yX<=j
    .rw[if_pos (Nat.ble_eq_true_of_le hq)]at h;rw[if_pos hq];have i:(bUx ops (pW j) (sN j)=true/\yK ops (sN j) l=true)/\gT ops l=true:=by simpa only[gT,hj,hq,if_false,if_true,G1]using i
     obtain⟨o,ho,h1⟩:=bB h;obtain⟨⟨J,B⟩,M,L⟩:=bB h1;obtain⟨h4,A⟩:=bN L;have ho:ops[pW j]?=some o:=by rw[iJ]at ho;simpa using ho
     obtain⟨hlB,z,ol,r,G⟩:=late_of i.1.1;obtain⟨oj,ol',hj',hl',hlo,hap,hjl⟩:=bGo hlB;obtain rfl:ol'=ol:=Option.some.inj (hl'.symm.trans r);obtain rfl:oj=o:=Option.some.inj (hj'.symm.trans ho);refine⟨I,λo' Q=>?_,λo' Q=>?_⟩
     .have:o'=oj:=Option.some.inj (Q.symm.trans ho);subst this;refine kQ (yV hrec g.sim u M λα1 W w1 m h7=>?_);have f:mI n0 c0 α0 α1:=d.trans m.same hn p;exact C J B α1 w1 W m.sim h7 f (B9 hn m.n) (B9 p m.c) (Cls.keep I hD f m.sim h4) i.2 A λα2 O X h8 h9=>k α2 O X ((g.trans m).trans h8) h9
     .obtain rfl:o'=ol':=Option.some.inj (Q.symm.trans r);obtain⟨t,ht⟩:=bs_al G
      have hgd:o'.guard=none:=by
       unfold lateO at hlo;rw[ht]at hlo;simp only[G1,Q4]at hlo;exact hlo.1
      obtain⟨b,hb0⟩:=mix_al i.2 i.1.2 r G hgd z A;obtain⟨hrun,y⟩:=bOr g.sim u (hb0 e);apply kQ
      have hw:E2 o' (yielded ops a.tmps)=true:=by
       unfold E2;rw[hgd]
      rw[hw,if_pos rfl];unfold F4;rw[hrun];intro X hb2;have hall:Below w'.heap.size w' (w'.alloc (.cells (b.2.2.map (V.inst α)).toArray b.1)):=(Below.refl _ _).alloc (B8 _) _;have hbl:=oK hall hb2;have hC2:Cls α0 h0 n0 c0 X:=Sim.grow I hbl;refine⟨hC2,bSi hj' hap (λcs q=>O7 hsel _ oj cs q hj') ?_⟩;intro o2 ho2;obtain rfl:o2=oj:=Option.some.inj (ho2.symm.trans hj');refine kQ (yV hrec (g.sim.grow hbl) u M λα1 W w3 U g2=>?_);have hfr:Stp α s (w'.alloc (.cells (b.2.2.map (V.inst α)).toArray b.1)) α1 B w3:=(Stp.of_grow (g.sim.grow hall) hb2).trans U;have f:mI n0 c0 α0 α1:=d.trans U.same hn p;exact Y (sN j) o' b J B α1 w3 W α s w' z r G hgd hb0 i.1.2 g.sim y hfr g2 d hn p (Cls.keep hC2 hD f U.sim h4) i.2 A λα2 O w4 h8 h9=>k α2 O w4 (g.trans h8) h9
    .rw[if_neg (λe=>hq (Nat.le_of_ble_eq_true e))]at h;rw[if_neg hq];have i:bEn ops (j%4096) (j/4096-1)=true/\gT ops l=true:=by simpa only[gT,hj,hq,if_false,G1]using i
     obtain⟨⟨J,B⟩,M,L⟩:=bB h
     exact⟨I,pair_wp hrec hD i.1 hsel g.sim u d hn p I M λα1 W w1 m h7 h8=>
      C J B α1 w1 W m.sim h7 (d.trans m.same hn p) (B9 hn m.n) (B9 p m.c) h8 i.2 L λα2 O X h9 h10=>k α2 O X ((g.trans m).trans h9) h10⟩
  .obtain rfl:j=lx:=B7 hF;simp only[nF,if_true]
   have h:sel (C0 j 4096) (ob (nthL ops.toList j) λo=>ob (bBc rec N ops o e s) λq=>gd (xR h0 D q.2) (zC rec N ops D h0 l q.1 q.2)) (sel (Nat.ble yX j) (ob (nthL ops.toList (pW j)) λo=>ob (bBc rec N ops o e s) λq=>gd (xR h0 D q.2) (zC rec N ops D h0 l q.1 q.2))
    (ob (pairX rec N ops D h0 (Nat.mod j 4096) (Nat.pred (Nat.div j 4096)) e s) λq=>zC rec N ops D h0 l q.1 q.2))=some (e',s'):=h
   rw[cF,if_pos (by simpa[H9]using z)]at h;have i:gT ops l=true:=by simpa only[gT,z,if_true]using i
   obtain⟨o,ho,h1⟩:=bB h;obtain⟨⟨J,B⟩,M,L⟩:=bB h1;obtain⟨h4,A⟩:=bN L;have ho:ops[j]?=some o:=by rw[iJ]at ho;simpa using ho
   obtain rfl:o=ol:=Option.some.inj (ho.symm.trans r);obtain⟨α',U,g2⟩:=late_done Z y hg (hb e) g u M;have f:mI n0 c0 α0 α':=d.trans U.same hn p;exact C J B α' w _ U.sim g2 f (B9 hn U.n) (B9 p U.c) (Cls.keep R hD f U.sim h4) i A λα2 O X h8 h9=>k α2 O X (U.trans h8) h9
theorem mix_wp(hrec:tC rec){ops:Array Oper}{n0 c0:Nat}(hsel:E5 ops=true)(hD: ∀k x,h0.get k=some x->k∈D){K:Act->World->Prop}(l:List (Bool×Nat))(e:E)(s:St)(α:As)(w:World)(a:Act)(hs:Sim α s w)(he:EOk α s N e a)(hsame:mI n0 c0 α0 α)(hn:n0<=s.n)(hc:c0<=s.c)(hC:Cls α0 h0 n0 c0 w)(hP:gT ops l=true)
  (h:zC rec N ops D h0 l e s=some (e',s')) (k: ∀α' a' w',Stp α s w α' s' w'->EOk α' s' N e' a'->K a' w'):nF Ctx.P ops (Cls α0 h0 n0 c0) K l none a w:=(bNo hrec hsel hD l).1 e s α w a hs he hsame hn hc hC hP h k
theorem tail_wp(hrec:tC rec){ops:Array Oper}{K:Act->World->Prop}: ∀(ls:List Nat) (e:E) (s:St) (α:As) (w:World) (a:Act),Sim α s w->EOk α s N e a->lastR rec N ops ls e s=some (e',s')->(∀α' a' w',Stp α s w α' s' w'->EOk α' s' N e' a'->K a' w')->bQv Ctx.P ops K ls a w
 |[],e,s,α,w,a,hs,he,h,k=>by
  have h:some (e,s)=some (e',s'):=h;cases h;exact k α a w (Stp.of_grow hs (Below.refl _ _)) he
 |l::ls,e,s,α,w,a,hs,he,h,k=>λi b=>by
  obtain⟨o,ho,h1⟩:=bB (show ob (nthL ops.toList l) (λo=>ob (bBc rec N ops o e s) λq=>lastR rec N ops ls q.1 q.2)=some (e',s')from h);obtain⟨⟨t,g⟩,r,p⟩:=bB h1;have ho:ops[l]?=some o:=by rw[iJ]at ho;simpa using ho
  have:i=o:=Option.some.inj (b.symm.trans ho);subst this;exact kQ (yV hrec hs he r λα1 v f c n=>tail_wp hrec ls t g α1 f v c.sim n p λα2 u d m j=>k α2 u d (c.trans m) j)
theorem reg_wp(hrec:tC rec){f id:Nat}{ops:Array Oper}{draw:Bool}(hv:mC f (.region id ops draw)=true)(hs:Sim α s w)(he:EOk α s N e a)(h:regX rec f N id ops draw e s=some (e',s')){Q:Exit->Act->World->Prop}
  (k: ∀α' a' w',Stp α s w α' s' w'->EOk α' s' N e' a'->Q .normal a' w'):(Code.region id ops draw).wp Ctx.P Q a w:=by
 cases draw with
 |false=>exact wp_region_list (ops_wp hrec ops.toList e s α w a hs he h k)
 |true=>
  obtain⟨⟨c,g⟩,m,h1⟩:=bB (show ob (Ctx.plan f id) (λq=>drawX rec N ops q.1 q.2 (bSb N s ops q.1 e) e s)=some (e',s')from h);obtain⟨⟨y,l⟩,v,u⟩:=bB h1;have hv:oc (Ctx.plan f id) true (planOk ops)=true:=hv;rw[m]at hv;have hb:Below w.heap.size w w.drew:=(Below.refl _ _).drew;have b:=Stp.of_grow hs hb;have o: ∀k x,(restX s (bSb N s ops c e)).get k=some x->k∈bSb N s ops c e:=λk x n=>(tE s _ k x n).1;have d:E5 ops=true/\B5 (xX c none+g.length) ops.size=true/\iM .any ops g c none (A8 ops.size false)=true:=by simpa only[planOk,oc,yG,G1]using hv
  exact region_tail Good.mixed (show yG g c ops=true from hv) (mix_wp hrec d.1 o c e s α w.drew a b.sim he (mI.refl _ _ _) (B8 _) (B8 _) (b.sim.rest _) (pN d.2.2 λk e=>by cases e) v λα1 A j h4 t=>
   tail_wp hrec g y l α1 j A h4.sim t u λα2 z i r p=>k α2 z i ((b.trans h4).trans r) p)
omit [Good]in
theorem Post.behind{α1:As}{s1 s2:St}{w1:World}{x:Ex}(h:Stp α s w α1 s1 w1){ex:Exit}{a':Act}{w':World}(hp:Post α1 s1 w1 N x e' s2 ex a' w'):Post α s w N x e' s2 ex a' w':=by
 obtain⟨h1,α2,b,a⟩:=hp;exact⟨h1,α2,h.trans b,a⟩
omit [Good]in
theorem zW(hs:Sim α s w)(he:EOk α s N e a)(x:Ex):Post α s w N x e s (exitOf x) a w:=⟨rfl,α,Stp.refl hs,he⟩
def LoopOk(n:Nat):Prop:= ∀f N c e s x e' s',mC f c=true->bDj n f N (.loop c) e s=some (x,e',s')-> ∀α w a,Sim α s w->EOk α s N e a->B4 Ctx.P c (Post α s w N x e' s') n a w
omit [Ctx] [Good]in
theorem rounds_mono{P:Program}{c:Code}{Q Q':Exit->Act->World->Prop}(hq: ∀e a w,Q e a w->Q' e a w): ∀(n:Nat) (a:Act) (w:World),B4 P c Q n a w->B4 P c Q' n a w
 |0,_,_,h=>h
 |n+1,a,w,h=>by
  refine Q5 (λe a w h=>?_) h
  cases e with
  |normal=>exact rounds_mono hq n a w h
  |_=>exact hq _ _ _ h
omit [Good]in
theorem loop_ok{n:Nat}(hrec:tC (bDj n))(hl:LoopOk n):LoopOk (n+1):=λf N c e s x e' s' k h α w a l m=>by
 obtain⟨⟨y,i,d⟩,h1,b⟩:=bB (show ob (bDj n f N c e s) (seqX (bDj n) f N (.loop c))=some (x,e',s')from h);rw[rounds_succ];refine Q5 (λex a' w' j=>?_) (hrec f N c e s y i d k h1 α w a l m);obtain⟨rfl,α1,g,h4⟩:=j
 cases y with
 |nm=>exact rounds_mono (λ_ _ _ j=>j.behind g) n _ _ (hl f N c i d x e' s' k b α1 w' a' g.sim h4)
 |ex id=>
  have b:some (Ex.ex id,i,d)=some (x,e',s'):=b;cases b;exact⟨rfl,α1,g,h4⟩
 |rt=>
  have b:some (Ex.rt,i,d)=some (x,e',s'):=b;cases b;exact⟨rfl,α1,g,h4⟩
theorem step_ok{n:Nat}(hrec:tC (bDj n))(hl:LoopOk (n+1)):tC (bDj (n+1)):=λf N c e s x e' s' d h α w a j k=>by
 have h:stepX (bDj n) f N c e s=some (x,e',s'):=h
 cases c with
 |skip=>cases h;exact wp_skip (zW j k .nm)
 |label l=>cases h;exact wp_label (zW j k .nm)
 |exit id=>cases h;exact wp_exit (zW j k (.ex id))
 |ret=>cases h;exact wp_ret (zW j k .rt)
 |region id ops draw=>
  obtain⟨⟨o,m⟩,h1,b⟩:=bB (show ob (regX (bDj n) f N id ops draw e s) nmX=some (x,e',s')from h);cases b
  exact reg_wp hrec d j k h1 λα1 z u g h4=>⟨rfl,α1,g,h4⟩
 |seq c1 c2=>
  obtain⟨⟨y,o,m⟩,h1,b⟩:=bB (show ob (bDj n f N c1 e s) (seqX (bDj n) f N c2)=some (x,e',s')from h);have d:(mC f c1&&mC f c2)=true:=d;rw[G1]at d;refine wp_seq (Q5 (λex a' w' p=>?_) (hrec f N c1 e s y o m d.1 h1 α w a j k));obtain⟨rfl,α1,g,h4⟩:=p
  cases y with
  |nm=>exact Q5 (λ_ _ _ p=>p.behind g) (hrec f N c2 o m x e' s' d.2 b α1 w' a' g.sim h4)
  |ex id=>
   have b:some (Ex.ex id,o,m)=some (x,e',s'):=b;cases b;exact⟨rfl,α1,g,h4⟩
  |rt=>
   have b:some (Ex.rt,o,m)=some (x,e',s'):=b;cases b;exact⟨rfl,α1,g,h4⟩
 |cond c0 c1 c2=>
  obtain⟨v,h1,b⟩:=bB (show ob (evX c0 e) _=some (x,e',s')from h);obtain⟨t,rfl,g⟩:=bPs b;have r:=(bT j k h1).1;have d:(mC f c1&&mC f c2)=true:=d;rw[G1]at d
  cases t with
  |true=>exact wp_cond_true r (hrec f N c1 e s x e' s' d.1 g α w a j k)
  |false=>exact wp_cond_false r (hrec f N c2 e s x e' s' d.2 g α w a j k)
 |block id c=>
  obtain⟨⟨y,o,m⟩,h1,b⟩:=bB (show ob (bDj n f N c e s) (blockX id)=some (x,e',s')from h);refine wp_block (Q5 (λex a' w' p=>?_) (hrec f N c e s y o m d h1 α w a j k));obtain⟨rfl,α1,g,h4⟩:=p
  cases y with
  |nm=>
   have b:some (Ex.nm,o,m)=some (x,e',s'):=b;cases b;exact⟨rfl,α1,g,h4⟩
  |ex i=>
   have b:some (sel (B5 i id) (Ex.nm,o,m) (Ex.ex i,o,m))=some (x,e',s'):=b;show if i=id then _ else _
   rw[cF]at b;split
   .rename_i q;subst q;rw[if_pos (Nat.beq_refl i)]at b;cases b;exact⟨rfl,α1,g,h4⟩
   .rename_i q;rw[if_neg (λhb=>q (B7 hb))]at b;cases b;exact⟨rfl,α1,g,h4⟩
  |rt=>
   have b:some (Ex.rt,o,m)=some (x,e',s'):=b;cases b;exact⟨rfl,α1,g,h4⟩
 |loop c=>exact wp_loop_rounds (n+1) (hl f N c e s x e' s' d h α w a j k)
 |scope c=>
  refine wp_scope_straight (Q5 (λex a' w' p=>?_) (hrec f N c e s x e' s' d h α w a j k));have h1:=p.1;cases x<;>subst h1<;>exact p
 |_=>cases h
theorem run_both: ∀n,tC (bDj n)/\LoopOk n
 |0=>⟨λ_ _ _ _ _ _ _ _ _ h=>(by cases h),λ_ _ _ _ _ _ _ _ _ h=>(by cases h)⟩
 |n+1=>by
  obtain⟨h1,b⟩:=run_both n;have a:=loop_ok h1 b;exact⟨step_ok h1 a,a⟩
theorem run_ok(n:Nat):tC (bDj n):=(run_both n).1
end
end X
end
end Go.Proofs.YtnfiadlonjediaaGreatDoor
