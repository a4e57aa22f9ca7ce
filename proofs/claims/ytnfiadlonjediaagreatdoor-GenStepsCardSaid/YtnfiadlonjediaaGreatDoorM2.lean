/- Texts of one proof, one behind the other: MixL, RunT, RunF, RunG, RunS, RunP, RunQ, RunU. -/
import Derived.Test.YtnfiadlonjediaaGreatDoorM1
import Derived.IntWalk
import Derived.ChangeKeysEq
import Derived.Laws.StructEq
import Derived.Laws.Cells
namespace Go.Proofs.YtnfiadlonjediaaGreatDoor
open Region renaming ready->E3,binds->E4,noSelect->E5
open _root_.Bool renaming and_eq_true->G1,or_eq_true->G6,rec->G7,eq_iff_iff->G8,false_eq_true->G0,noConfusion->G9
open _root_.Nat renaming lt_or_ge->H3,beq->B5,blt->C0,rec->H4,mod->H5,div->H6,beq_eq->H7,ble->H8,lt_of_lt_of_le->B6,blt_eq->H9,le_refl->B8
open _root_.Array renaming getElem?_eq_none->j9,replicate->A8,ext'->k7
open _root_.Option renaming rec->I0,isSome_some->I1,map_some->I2,map_none->I3
open _root_.List renaming rec->I4,map_cons->I5,all_eq_true->D6,map_congr_left->I6,getElem?_eq_some_iff->D9,getElem?_map->I7,extract_eq_take_drop->I8
open _root_.UInt8 renaming toNat->I9,ofNat->J0
open _root_.Int renaming ofNat->J1,negSucc->J2,natCast_nonneg->J3
open Sem renaming run_bind->E6,run_pure->E7
open Result renaming andThen_ok->E8
open Op renaming equalIn->E9,stringOp->J4
open Instr renaming sliceBound->J5,sliceBounds->J6,sliceAt->J7
section
open Go.RowKit
section
variable {P : Program} {ops : Array Oper} {md : Region.Mode} {C : World -> Prop} {R : Array Bool -> Act -> World -> Prop}
def bOf (P:Program)(md:Region.Mode)(ops:Array Oper)(C:World->Prop)(R:Array Bool->Act->World->Prop):Nat->Array Bool->Act->World->Prop
 |0,listed,a,w=>C w/\R listed a w
 |fuel+1,listed,a,w=>C w/\E3 md ops listed≠[]/\ ∀i∈E3 md ops listed,fOp P ops i (bOf P md ops C R fuel (listed.setIfInBounds i true)) a w
theorem wE{Q:Exit->Act->World->Prop}(hR: ∀listed a w,R listed a w->wpAny P md ops Q 1 listed a w): ∀(fuel:Nat) (listed:Array Bool) (a:Act) (w:World),bOf P md ops C R fuel listed a w->wpAny P md ops Q (fuel+1) listed a w
 |0,_,_,_,h=>hR _ _ _ h.2
 |fuel+1,listed,a,w,h=>by
  refine⟨λe=>absurd e h.2.1,λi g=>?_⟩;have k:=h.2.2 i g;unfold wpOp;split
  .rename_i ho;obtain⟨_,l,b,_⟩:=mem_ready.1 g;rw[ho]at b;cases b
  .rename_i o ho;have h1:=wpNm (k o ho);split
   .rename_i c;simp only[c,if_true]at h1;exact .inl (pJ rfl (λu j f=>wE hR fuel _ _ _ f) (λd j f=>wE hR fuel _ _ _ f) h1)
   .rename_i c;simp only[c]at h1;exact wE hR fuel _ _ _ h1
def depsIn(md:Region.Mode)(ops:Array Oper)(listed:Array Bool)(l:Nat):Prop:= ∀o,ops[l]?=some o-> ∀e∈o.after,E4 md e=true->listed.getD e.on false=true
def nX (md:Region.Mode)(ops:Array Oper)(listed:Array Bool):Prop:= ∀j,listed.getD j false=true->depsIn md ops listed j
def waitsN(md:Region.Mode)(ops:Array Oper):Nat->Nat->Nat->Bool
 |0,_,_=>false
 |n+1,l,i=>match ops[l]? with
  |some o=>o.after.any λe=>E4 md e&&(e.on==i || waitsN md ops n e.on i)
  |none=>false
def waits (md:Region.Mode)(ops:Array Oper)(l i:Nat):Bool:=waitsN md ops 4 l i
theorem bTt{listed:Array Bool}(hc:nX md ops listed): ∀(n l i:Nat),waitsN md ops n l i=true->depsIn md ops listed l->listed.getD i false=true
 |0,_,_,h,_=>by cases h
 |n+1,l,i,h,hd=>by
  unfold waitsN at h
  cases ho:ops[l]? with
  |none=>rw[ho]at h;cases h
  |some o=>
   rw[ho]at h;obtain⟨e,b,hb⟩:=Array.any_eq_true'.1 h;rw[G1,G6]at hb;have h1:=hd o ho e b hb.1
   rcases hb.2 with a|a
   .have a:e.on=i:=by simpa using a
    rw[<-a];exact h1
   .exact bTt hc n e.on i a (hc _ h1)
theorem bLz{listed:Array Bool}{l:Nat}(h:l∈E3 md ops listed):depsIn md ops listed l:=λo ho e d hb=>by
 obtain⟨_,c,b,a⟩:=mem_ready.1 h;have:o=c:=Option.some.inj (ho.symm.trans b);subst this;exact a e d hb
theorem bSl{l i:Nat}{listed:Array Bool}(hc:nX md ops listed)(h:waits md ops l i=true)(hi:listed.getD i false≠true):l∉E3 md ops listed:=λhl=>hi (bTt hc 4 l i h (bLz hl))
theorem getD_set{listed:Array Bool}{j k:Nat}(h:listed.getD k false=true):(listed.setIfInBounds j true).getD k false=true:=by
 by_cases e:j=k
 .subst e
  rcases H3 j listed.size with a|a
  .simp[a]
  .simp[j9 a]at h
 .rw[getD_set_ne false e];exact h
theorem nX.set{listed:Array Bool}(hc:nX md ops listed){j:Nat}(hj:j∈E3 md ops listed):nX md ops (listed.setIfInBounds j true):=λk a o ho e b hb=>by
 by_cases c:j=k
 .subst c;exact getD_set (bLz hj o ho e b hb)
 .rw[getD_set_ne false c]at a;exact getD_set (hc k a o ho e b hb)
theorem nX.none{n:Nat}:nX md ops (A8 n false):=λj a=>by
 simp at a
 rcases H3 j n with h|h<;>simp[h]at a
theorem wpAnyR_first{i l:Nat}{oi:Oper}{v:Value}(hi:ops[i]?=some oi)(hw:waits md ops l i=true)(hsel: ∀(j:Nat) (o:Oper) cs b,ops[j]?=some o->o.op≠ .select cs b)(hR: ∀listed a w,R listed a w->E3 md ops listed=[l]):
  ∀(fuel:Nat) (listed:Array Bool) (a:Act) (w:World),nX md ops listed->
   (∀j oj,ops[j]?=some oj->j≠i->listed.getD j true=false->(∀e∈oj.after,E4 md e=true->e.on≠i)->oi.apart ops oj=true)->
   i∈E3 md ops listed->Fl P ops C oi v a->
   bOf P md ops C R fuel (listed.setIfInBounds i true) (a.put oi.dst v) w->bOf P md ops C R (fuel+1) listed a w:=by
 have d: ∀{listed:Array Bool},i∈E3 md ops listed->listed.getD i false≠true:=λ{listed} hr e=>by
  have h0:=(mem_ready.1 hr).1
  rcases H3 i listed.size with B|B
  .simp[B]at h0 e;rw[h0]at e;cases e
  .simp[j9 B]at e
 intro fuel
 induction fuel with
 |zero=>
  intro listed a w z _ hr t H;refine⟨H.1,λh=>s7,λj p=>?_⟩
  by_cases c:j=i
  .subst c;exact t.fOp hi H.1 H
  .have h1:=ready_mono p c;rw[hR _ _ _ H.2]at h1;have A:j=l:=by simpa using h1
   subst A;exact absurd p (bSl z hw (d hr))
 |succ fuel ih=>
  intro listed a w z f hr t H;refine⟨H.1,λh=>s7,λj p=>?_⟩
  by_cases c:j=i
  .subst c;exact t.fOp hi H.1 H
  .have h1:=H.2.2 j (ready_mono p c);obtain⟨m,oj,n,s⟩:=mem_ready.1 p
   have q: ∀e∈oj.after,E4 md e=true->e.on≠i:=λe I hb y=>by
    have h1:=s e I hb;rw[y]at h1;exact d hr h1
   have A:=fOp_put n (f j oj n c m q) (λcs b=>hsel i oi cs b hi) (λcs b=>hsel j oj cs b n) t h1;have g: ∀k ok,ops[k]?=some ok->k≠i->(listed.setIfInBounds j true).getD k true=false->
     (∀e∈ok.after,E4 md e=true->e.on≠i)->oi.apart ops ok=true:=λk ok G x d u=>by
    refine f k ok G x ?_ u
    by_cases r:j=k
    .subst r;exact m
    .rw[getD_set_ne true r]at d;exact d
   refine fQ (λJ E D=>ih (listed.setIfInBounds j true) J E (z.set p) g (ready_mono hr (Ne.symm c)) D.1 ?_) A;rw[Array.setIfInBounds_comm _ _ c];exact D.2
def mM (P:Program)(ops:Array Oper)(C:World->Prop)(Q:Exit->Act->World->Prop)(l:Nat):List (Bool×Nat)->Act->World->Prop
 |[],a,w=>fOp P ops l (Q .normal) a w
 |(true,k)::r,a,w=> ∃o v,ops[k]?=some o/\Fl P ops C o v a/\mM P ops C Q l r (a.put o.dst v) w
 |(false,k)::r,a,w=>fOp P ops k (λa w=>C w/\mM P ops C Q l r a w) a w
def bNp (md:Region.Mode)(ops:Array Oper)(l:Nat):List (Bool×Nat)->Array Bool->Bool
 |[],listed=>(E3 md ops listed==[l])&&(E3 md ops (listed.setIfInBounds l true)).isEmpty
 |(true,k)::r,listed=>(E3 md ops listed).contains k&&Region.free md ops listed k&&waits md ops l k&&bNp md ops l r (listed.setIfInBounds k true)
 |(false,k)::r,listed=>(E3 md ops listed==[k])&&bNp md ops l r (listed.setIfInBounds k true)
def EndL (P:Program)(md:Region.Mode)(ops:Array Oper)(Q:Exit->Act->World->Prop)(l:Nat)(listed:Array Bool)(a:Act)(w:World):Prop:=
 E3 md ops listed=[l]/\E3 md ops (listed.setIfInBounds l true)=[]/\fOp P ops l (Q .normal) a w
theorem bCl{Q:Exit->Act->World->Prop}{l:Nat}(hs:E5 ops=true): ∀(od:List (Bool×Nat)) (listed:Array Bool) (a:Act) (w:World),nX md ops listed->bNp md ops l od listed=true->C w->mM P ops C Q l od a w->bOf P md ops C (EndL P md ops Q l) od.length listed a w
 |[],listed,a,w,_,hB,hC,h=>by
  simp only[bNp,G1,beq_iff_eq]at hB;exact⟨hC,hB.1,by simpa using hB.2,h⟩
 |(true,k)::r,listed,a,w,hc,hB,hC,h=>by
  simp only[bNp,G1]at hB;obtain⟨o,v,ho,d,e⟩:=h;exact wpAnyR_first ho hB.1.2 (Region.noSelect_spec hs) (λ_ _ _ h=>h.1) r.length listed a w hc (Region.free_spec ho hB.1.1.2) (by simpa using hB.1.1.1) d (bCl hs r _ _ _ (hc.set (by simpa using hB.1.1.1)) hB.2 hC e)
 |(false,k)::r,listed,a,w,hc,hB,hC,h=>by
  simp only[bNp,G1,beq_iff_eq]at hB;refine⟨hC,λh0=>t8,λi b=>?_⟩;rw[hB.1]at b;have:i=k:=by simpa using b
  subst this;exact fQ (λg f c=>bCl hs r _ _ _ (hc.set (by rw[hB.1];simp)) hB.2 c.1 c.2) h
theorem end_any{Q:Exit->Act->World->Prop}{l:Nat}(listed:Array Bool)(a:Act)(w:World)(h:EndL P md ops Q l listed a w):wpAny P md ops Q 1 listed a w:=by
 refine⟨λe=>(by rw[h.1]at e;cases e),λi g=>?_⟩;rw[h.1]at g;have:i=l:=by simpa using g
 subst this;have k:=h.2.2;unfold wpOp;split
 .rename_i ho;have hl:i∈E3 md ops listed:=by rw[h.1];simp
  obtain⟨_,m,b,_⟩:=mem_ready.1 hl;rw[ho]at b;cases b
 .rename_i o ho;have h1:=wpNm (k o ho);split
  .rename_i c;simp only[c,if_true]at h1;exact .inl (pJ rfl (λu j f=>⟨h.2.1,f⟩) (λd j f=>⟨h.2.1,f⟩) h1)
  .rename_i c;simp only[c]at h1;exact⟨h.2.1,h1⟩
def mixLOk(l:Nat)(od:List (Bool×Nat))(ops:Array Oper):Bool:=E5 ops&&B5 (od.length+1) ops.size&&bNp .any ops l od (A8 ops.size false)
end
section
variable {P : Program} {β : dE} {n : Nat} {Γ : Env} {H : List bC} {F : List bE} {Q : Exit -> Act -> World -> Prop} {Hk : List bC} {F0 : List bE} {ops : Array Oper}
theorem qN{id:Nat}{l:List Oper}(last:Nat)(Hk:List bC)(F0:List bE)(od:List (Bool×Nat))(hm:P.follows .mixedOrders=true)(hB:mixLOk last od l.toArray=true)(hH:Sel H Hk)(hF:bA F F0)
  (h:At β n Γ H F (mM P l.toArray (StF β Hk F0) Q last od)):At β n Γ H F ((Code.region id l.toArray true).wp P Q):=λa w S f s k=>by
 simp only[mixLOk,G1]at hB;have e:=StF.drew ⟨S,s,k⟩;obtain⟨d,b,c⟩:=e;refine wp_region_any hm ?_;have h1:=bCl (P:=P) (md:= .any) (C:=StF β Hk F0) (Q:=Q) hB.1.1 od (A8 l.toArray.size false) a _ nX.none hB.2 (StF.sel hH hF ⟨d,b,c⟩) (h a _ d f b c);have g:=wE (Q:=Q) end_any _ _ _ _ h1
 rwa[Nat.eq_of_beq_eq_true hB.1.2]at g
theorem bLk{r:List (Bool×Nat)}{o:Oper}{l k d:Nat}{v:Value}(hk:ops[k]?=some o)(hw:want ops Γ o=some true)(hd:o.dst=some d)(hn:C0 d n=true)(h:Sti P β n Γ Hk F0 o v)
  (K:At β n ((d,v)::Γ) H F (mM P ops (StF β Hk F0) Q l r)):At β n Γ H F (mM P ops (StF β Hk F0) Q l ((true,k)::r)):=λa w S f s g=>by
 refine⟨o,v,hk,.inl ⟨f.want hw,λb ⟨i,c,e⟩=>h a b i f c e⟩,?_⟩;rw[hd];exact K _ _ S (f.put m9 v) s g
theorem stL{r:List (Bool×Nat)}{o:Oper}{l k d:Nat}{v:Value}(hk:ops[k]?=some o)(h:Sti P β n Γ Hk F0 o v)(K:At β n ((d,v)::Γ) H F (mM P ops (StF β Hk F0) Q l r))(hw:want ops Γ o=some true:=by exact rfl)(hd:o.dst=some d:=by exact rfl)(hn:Nat.blt d n=true:=by exact rfl):At β n Γ H F (mM P ops (StF β Hk F0) Q l ((true,k)::r)):=bLk hk hw hd hn h K
theorem atl_op{r:List (Bool×Nat)}{o:Oper}{l k:Nat}{C:World->Prop}(hk:ops[k]?=some o)(h:At β n Γ H F (wpList P ops (Nm λa w=>C w/\mM P ops C Q l r a w) [o])):At β n Γ H F (mM P ops C Q l ((false,k)::r)):=λa w S f s d c b=>by
 have:c=o:=Option.some.inj (b.symm.trans hk);subst this;exact h a w S f s d
theorem atl_go{r:List (Bool×Nat)}{l:Nat}(hH:Sel H Hk)(hF:bA F F0)(h:At β n Γ H F (mM P ops (StF β Hk F0) Q l r)):At β n Γ H F (wpList P ops (Nm λa w=>StF β Hk F0 w/\mM P ops (StF β Hk F0) Q l r a w) []):=λa w S f s k=>
 ⟨rfl,StF.sel hH hF ⟨S,s,k⟩,h a w S f s k⟩
theorem atl_last{o:Oper}{l:Nat}{C:World->Prop}(hk:ops[l]?=some o)(h:At β n Γ H F (wpList P ops (Nm (Q .normal)) [o])):At β n Γ H F (mM P ops C Q l []):=λa w S f s d c b=>by
 have:c=o:=Option.some.inj (b.symm.trans hk);subst this;exact h a w S f s d
theorem atl_end{K:Act->World->Prop}(h:At β n Γ H F K):At β n Γ H F (wpList P ops (Nm K) []):=λa w S f s k=>⟨rfl,h a w S f s k⟩
end
end
section
namespace X
noncomputable section
inductive T (α:Type) where
 |lf
 |nd (l:T α) (x:Option α) (r:T α)
def T.get {α:Type}(t:T α):Nat->Option α:=
 T.rec (motive:=λ_=>Nat->Option α) (λ_=>none) (λ_ x _ gl gr n=>H4 x (λm _=>G7 gr gl (B5 (H5 m 2) 0) (H6 m 2)) n) t
def T.set {α:Type}(v:Option α)(f:Nat):T α->Nat->T α:=
 H4 (motive:=λ_=>T α->Nat->T α) (λ_ _=> .lf)
  (λ_ ih t n=>T.rec (motive:=λ_=>T α)
   (H4 (.nd .lf v .lf) (λm _=>G7 (.nd .lf none (ih .lf (H6 m 2))) (.nd (ih .lf (H6 m 2)) none .lf) (B5 (H5 m 2) 0)) n)
   (λl x r _ _=>H4 (.nd l v r) (λm _=>G7 (.nd l x (ih r (H6 m 2))) (.nd (ih l (H6 m 2)) x r) (B5 (H5 m 2) 0)) n) t) f
def ob {α β:Type}(o:Option α)(f:α->Option β):Option β:=I0 none f o
def gd {β:Type}(c:Bool)(x:Option β):Option β:=G7 none x c
def sel {α:Type}(c:Bool)(x y:α):α:=G7 y x c
def oc {α β:Type}(o:Option α)(n:β)(f:α->β):β:=I0 n f o
def nthL {α:Type}(l:List α):Nat->Option α:=I4 (motive:=λ_=>Nat->Option α) (λ_=>none) (λv _ ih n=>H4 (some v) (λm _=>ih m) n) l
def allL {α:Type}(p:α->Bool)(l:List α):Bool:=I4 true (λv _ ih=>sel (p v) ih false) l
def bKw {α β:Type}(f:α->Option β)(l:List α):Option (List β):=I4 (some []) (λv _ ih=>ob (f v) λx=>ob ih λr=>some (x::r)) l
def isSm {α:Type}(o:Option α):Bool:=I0 false (λ_=>true) o
def mapZ {α β:Type}(z:β)(f:α->Option β)(l:List α):Option (List β):=gd (allL (λx=>isSm (f x)) l) (some (I4 [] (λv _ ih=>oc (f v) z (λx=>x)::ih) l))
def cutL {α:Type}(l:List α):Nat->Nat->Option (List α):=I4 (motive:=λ_=>Nat->Nat->Option (List α))
 (λo n=>H4 (H4 (some []) (λ_ _=>none) n) (λ_ _=>none) o)
 (λv _ ih o n=>H4 (H4 (some []) (λm _=>ob (ih 0 m) λr=>some (v::r)) n) (λp _=>ih p n) o) l
def pasteL{α:Type}(l:List α):Nat->List α->Option (List α):=I4 (motive:=λ_=>Nat->List α->Option (List α))
 (λo vs=>H4 (I4 (some []) (λ_ _ _=>none) vs) (λ_ _=>none) o)
 (λv t ih o vs=>H4 (I4 (some (v::t)) (λu us _=>ob (ih 0 us) λr=>some (u::r)) vs) (λp _=>ob (ih p vs) λr=>some (v::r)) o) l
def rH {α:Type}(n:Nat)(z:List α):List α:=H4 [] (λ_ ih=>z++ih) n
section
variable {α β : Type}
theorem T.get_set_fuel(v:Option α): ∀(f:Nat) (t:T α) (n j:Nat) (u:α),(t.set v f n).get j=some u->(j=n/\v=some u)\/(j≠n/\t.get j=some u)
 |0,_,_,_,_,h=>by cases h
 |f+1,t,n,j,u,h=>by
  have ev: ∀m k:Nat,B5 (H5 m 2) 0=B5 (H5 k 2) 0->H6 m 2=H6 k 2->m=k:=λm k h1 d=>by
   have i:m%2=0↔k%2=0:=by
    show H5 m 2=0↔H5 k 2=0;rw[<-H7,<-H7,h1]
   have g:m/2=k/2:=d;omega
  cases t with
  |lf=>
   cases n with
   |zero=>
    cases j with
    |zero=>exact .inl ⟨rfl,h⟩
    |succ j=>
     exfalso
     have h:(G7 (motive:=λ_=>Nat->Option α) (λ_=>none) (λ_=>none) (B5 (H5 j 2) 0) (H6 j 2))=some u:=h;cases hb:B5 (H5 j 2) 0<;>rw[hb]at h<;>cases h
   |succ m=>
    have h:((G7 (motive:=λ_=>T α) (.nd .lf none (T.set v f .lf (H6 m 2))) (.nd (T.set v f .lf (H6 m 2)) none .lf) (B5 (H5 m 2) 0)):T α).get j=some u:=h;cases c:B5 (H5 m 2) 0<;>rw[c]at h
    .cases j with
     |zero=>cases h
     |succ j=>
      have h:(G7 (motive:=λ_=>Nat->Option α) (T.get (T.set v f .lf (H6 m 2))) (λ_=>none) (B5 (H5 j 2) 0) (H6 j 2))=some u:=h;cases a:B5 (H5 j 2) 0<;>rw[a]at h
      .rcases T.get_set_fuel v f _ _ _ _ h with ⟨e,h⟩|⟨_,h⟩
       .exact .inl ⟨by rw[ev j m (by rw[a,c]) e],h⟩
       .cases h
      .cases h
    .cases j with
     |zero=>cases h
     |succ j=>
      have h:(G7 (motive:=λ_=>Nat->Option α) (λ_=>none) (T.get (T.set v f .lf (H6 m 2))) (B5 (H5 j 2) 0) (H6 j 2))=some u:=h;cases a:B5 (H5 j 2) 0<;>rw[a]at h
      .cases h
      .rcases T.get_set_fuel v f _ _ _ _ h with ⟨e,h⟩|⟨_,h⟩
       .exact .inl ⟨by rw[ev j m (by rw[a,c]) e],h⟩
       .cases h
  |nd l x r=>
   cases n with
   |zero=>
    cases j with
    |zero=>exact .inl ⟨rfl,h⟩
    |succ j=>exact .inr ⟨n4,h⟩
   |succ m=>
    have h:((G7 (motive:=λ_=>T α) (.nd l x (T.set v f r (H6 m 2))) (.nd (T.set v f l (H6 m 2)) x r) (B5 (H5 m 2) 0)):T α).get j=some u:=h;cases c:B5 (H5 m 2) 0<;>rw[c]at h
    .cases j with
     |zero=>exact .inr ⟨n4,h⟩
     |succ j=>
      have h:(G7 (motive:=λ_=>Nat->Option α) (T.get (T.set v f r (H6 m 2))) (T.get l) (B5 (H5 j 2) 0) (H6 j 2))=some u:=h;cases a:B5 (H5 j 2) 0<;>rw[a]at h
      .rcases T.get_set_fuel v f _ _ _ _ h with ⟨e,h⟩|⟨e,h⟩
       .exact .inl ⟨by rw[ev j m (by rw[a,c]) e],h⟩
       .refine .inr ⟨λb=>e (by injection b with b;rw[b]),?_⟩;show(G7 (motive:=λ_=>Nat->Option α) (T.get r) (T.get l) (B5 (H5 j 2) 0) (H6 j 2))=some u;rw[a];exact h
      .refine .inr ⟨λb=>?_,?_⟩
       .injection b with b
        rw[b,c]at a;cases a
       .show(G7 (motive:=λ_=>Nat->Option α) (T.get r) (T.get l) (B5 (H5 j 2) 0) (H6 j 2))=some u;rw[a];exact h
    .cases j with
     |zero=>exact .inr ⟨n4,h⟩
     |succ j=>
      have h:(G7 (motive:=λ_=>Nat->Option α) (T.get r) (T.get (T.set v f l (H6 m 2))) (B5 (H5 j 2) 0) (H6 j 2))=some u:=h;cases a:B5 (H5 j 2) 0<;>rw[a]at h
      .refine .inr ⟨λb=>?_,?_⟩
       .injection b with b
        rw[b,c]at a;cases a
       .show(G7 (motive:=λ_=>Nat->Option α) (T.get r) (T.get l) (B5 (H5 j 2) 0) (H6 j 2))=some u;rw[a];exact h
      .rcases T.get_set_fuel v f _ _ _ _ h with ⟨e,h⟩|⟨e,h⟩
       .exact .inl ⟨by rw[ev j m (by rw[a,c]) e],h⟩
       .refine .inr ⟨λb=>e (by injection b with b;rw[b]),?_⟩;show(G7 (motive:=λ_=>Nat->Option α) (T.get r) (T.get l) (B5 (H5 j 2) 0) (H6 j 2))=some u;rw[a];exact h
theorem bB{o:Option α}{f:α->Option β}{b:β}(h:ob o f=some b): ∃a,o=some a/\f a=some b:=by
 cases o with
 |none=>cases h
 |some a=>exact⟨a,rfl,h⟩
theorem bN{c:Bool}{x:Option β}{b:β}(h:gd c x=some b):c=true/\x=some b:=by
 cases c with
 |false=>cases h
 |true=>exact⟨rfl,h⟩
theorem cF(c:Bool)(x y:α):sel c x y=if c=true then x else y:=by cases c<;>rfl
theorem rN(o:Option α)(n:β)(f:α->β):oc o n f=match o with|none=>n|some a=>f a:=by cases o<;>rfl
theorem iJ: ∀(l:List α) (n:Nat),nthL l n=l[n]?
 |[],_=>rfl
 |_::_,0=>rfl
 |_::r,n+1=>iJ r n
theorem oY(p:α->Bool): ∀l:List α,allL p l=l.all p
 |[]=>rfl
 |v::r=>by
  have:allL p (v::r)=G7 false (allL p r) (p v):=rfl;rw[this,oY p r,List.all_cons];cases p v<;>rfl
theorem bGl(f:α->Option β): ∀(l:List α) (r:List β),bKw f l=some r->l.map f=r.map some
 |[],r,h=>by cases h;rfl
 |v::l,r,h=>by
  obtain⟨x,hx,h⟩:=bB h;obtain⟨a,hr,h⟩:=bB h;cases h;simp[hx,bGl f l a hr]
theorem bRx(z:β)(f:α->Option β): ∀(l:List α) (r:List β),mapZ z f l=some r->l.map f=r.map some
 |[],r,h=>by
  have h:some ([]:List β)=some r:=h;cases h;rfl
 |v::l,r,h=>by
  obtain⟨h1,d⟩:=bN h;cases d;have h1:G7 false (allL (λx=>isSm (f x)) l) (isSm (f v))=true:=h1
  cases a:f v with
  |none=>rw[a]at h1;cases h1
  |some x=>
   rw[a]at h1;have c:allL (λx=>isSm (f x)) l=true:=h1
   have h4:mapZ z f l=some (I4 [] (λv _ b=>oc (f v) z (λx=>x)::b) l):=by
    unfold mapZ;rw[c];rfl
   have:=bRx z f l _ h4;rw[I5,this,a];show _=some (oc (f v) z λx=>x)::_;rw[a];rfl
theorem mS: ∀(l:List α) (o n:Nat) (r:List α),cutL l o n=some r->r=(l.drop o).take n/\o+n<=l.length
 |[],0,0,r,h=>by cases h;simp
 |[],0,_+1,r,h=>by cases h
 |[],_+1,_,r,h=>by cases h
 |v::l,0,0,r,h=>by cases h;simp
 |v::l,0,n+1,r,h=>by
  obtain⟨a,hr,h⟩:=bB h;cases h;obtain⟨e,hl⟩:=mS l 0 n a hr;simp at hl;simp[e,hl]
 |v::l,o+1,n,r,h=>by
  obtain⟨e,hl⟩:=mS l o n r h;refine⟨by simpa using e,by simp;omega⟩
theorem qT: ∀(l:List α) (o:Nat) (vs r:List α),pasteL l o vs=some r->o+vs.length<=l.length/\r=l.take o++vs++l.drop (o+vs.length)
 |[],0,[],r,h=>by cases h;simp
 |[],0,_::_,r,h=>by cases h
 |[],_+1,_,r,h=>by cases h
 |v::l,0,[],r,h=>by cases h;simp
 |v::l,0,u::us,r,h=>by
  obtain⟨b,hr,h⟩:=bB h;cases h;obtain⟨h1,a⟩:=qT l 0 us b hr;simp at h1 a;refine⟨by simp;omega,by simp[a]⟩
 |v::l,o+1,vs,r,h=>by
  obtain⟨b,hr,h⟩:=bB h;cases h;obtain⟨h1,a⟩:=qT l o vs b hr;refine⟨by simp;omega,?_⟩;rw[show o+1+vs.length=(o+vs.length)+1 from by omega];simp[a]
theorem bLp(n:Nat)(z:List α):rH n z=(List.replicate n z).flatten:=by
 induction n with
 |zero=>rfl
 |succ n ih=>
  have:rH (n+1) z=z++rH n z:=rfl;rw[this,ih,List.replicate_succ,List.flatten_cons]
end
end
end X
end
section
namespace X
noncomputable section
inductive Cap where
 |n (c:Nat)
 |s (c d:Nat)
inductive V where
 |b (x:Bool)|i (k:IntKind) (x:Int)|s (x:List Nat)
 |p0|p (k o:Nat)|l0|l (k o n:Nat) (c:Cap)|z (k o o' c:Nat)|y (c:Nat)|m0|m (k:Nat)
 |f (fn:Fn) (a c:List V)|f0|e0|e (t:Nat) (v:V)|g (cs:List V)|t (vs:List V)
abbrev E:=T V
abbrev Ent:=V×V×Nat
inductive Blk where
 |cells (cs:List V) (t:TypeId) (ext:Option Nat) (ro:Bool)
 |map (es:List Ent) (clock:Nat)
 |sit (s:List Nat) (pos:Nat)
 |mit (m:Option Nat) (since:Nat) (seen:List Nat) (last:Nat)
 |win (cs:List V)
 |know (n:Nat)
structure St where
 h:T Blk
 n:Nat
 c:Nat
abbrev Orc:=List V->St->Option (V×St)
abbrev Plan:=List (Bool×Nat)×List Nat
def undefV:V:= .t []
def V.cells:V->List V
 |.g cs=>cs
 |v=>[v]
def V.one:V->Bool
 |.g _=>false
 |.t _=>false
 |_=>true
def Cap.ok(c:Nat):Cap->Bool
 |.n _=>true
 |.s k _=>C0 k c
def okD (n c d:Nat):V->Bool:=H4 (motive:=λ_=>V->Bool) (λ_=>false) (λ_ ih v=>match v with
 |.p k _=>C0 k n
 |.l k _ _ cp=>C0 k n&&cp.ok c
 |.m k=>C0 k n
 |.z k _ _ cp=>C0 k n&&C0 cp c
 |.y cp=>C0 cp c
 |.f _ x y=>allL ih x&&allL ih y
 |.e _ v=>ih v
 |.g cs=>allL ih cs
 |.t vs=>allL ih vs
 |_=>true) d
def V.ok (n c:Nat)(v:V):Bool:=okD n c 5 v
def ofD (d:Nat):Value->Option V:=H4 (motive:=λ_=>Value->Option V) (λ_=>none) (λ_ ih v=>match v with
 |.bool x=>some (.b x)
 |.int k x=>some (.i k x)
 |.string s=>some (.s (s.data.toList.map I9))
 |.pointer none=>some .p0
 |.slice none 0 0=>some .l0
 |.map none=>some .m0
 |.func fn a c=>match a.toList,c.toList with
  |[],[]=>some (.f fn [] [])
  |_,_=>none
 |.nilFunc=>some .f0
 |.nilIface=>some .e0
 |.agg cs=>ob (mapZ undefV ih cs.toList) λl=>some (.g l)
 |.tuple cs=>match cs.toList with
  |[]=>some (.t [])
  |_=>none
 |_=>none) d
def ofV (v:Value):Option V:=ofD 5 v
class Ctx where
 P:Program
 gl:Nat->Option Nat
 orc:FuncId->Option Orc
 quiet:List FuncId
 known:FuncId->Bool
 n0:Nat
 plan:FuncId->Nat->Option Plan
 G:Nat->Obj->Prop
 meth:TypeId->String->Option (FuncId×Option TypeId)
 kw:Nat->Option (List V)
 kwOk: ∀n cs o,kw n=some cs->G n o->(∀v∈cs,v.one=true)/\ ∃C t z,o= .cells C t z/\ ∀(i:Nat) (v:V),cs[i]?=some v-> ∃u,C[i]?=some u/\ofV u=some v
section
variable {β : Type}
def asB (v:V):(Bool->Option β)->Option β:=match v with
 |.b x=>λf=>f x
 |_=>λ_=>none
def asI (v:V):(IntKind->Int->Option β)->Option β:=match v with
 |.i k x=>λf=>f k x
 |_=>λ_=>none
def asN (v:V):(Nat->Option β)->Option β:=match v with
 |.i _ (.ofNat n)=>λf=>f n
 |_=>λ_=>none
def asP (v:V):(Nat->Nat->Option β)->Option β:=match v with
 |.p k o=>λf=>f k o
 |_=>λ_=>none
def asS (v:V):(List Nat->Option β)->Option β:=match v with
 |.s a=>λf=>f a
 |_=>λ_=>none
def asG (v:V):(List V->Option β)->Option β:=match v with
 |.g cs=>λf=>f cs
 |_=>λ_=>none
def asT (v:V):(List V->Option β)->Option β:=match v with
 |.t cs=>λf=>f cs
 |_=>λ_=>none
def asM (v:V):(Nat->Option β)->Option β:=match v with
 |.m k=>λf=>f k
 |_=>λ_=>none
def Blk.row0:Blk->Option (List V)
 |.cells cs _ _ _=>some cs
 |.win cs=>some cs
 |_=>none
def rowX0 (s:St)(k o n:Nat):Option (List V):=ob (s.h.get k) λx=>ob x.row0 λcs=>cutL cs o n
def Blk.row [Ctx]:Blk->Option (List V)
 |.cells cs _ _ _=>some cs
 |.win cs=>some cs
 |.know n=>Ctx.kw n
 |_=>none
def asC (x:Blk):(List V->TypeId->Option Nat->Bool->Option β)->Option β:=match x with
 |.cells cs t ext ro=>λf=>f cs t ext ro
 |_=>λ_=>none
def asMap (x:Blk):(List Ent->Nat->Option β)->Option β:=match x with
 |.map es c=>λf=>f es c
 |_=>λ_=>none
end
def ieq (a b:Int):Bool:=match a with
 |.ofNat x=>match b with
  |.ofNat y=>B5 x y
  |.negSucc _=>false
 |.negSucc x=>match b with
  |.ofNat _=>false
  |.negSucc y=>B5 x y
def ilt (a b:Int):Bool:=match a with
 |.ofNat x=>match b with
  |.ofNat y=>C0 x y
  |.negSucc _=>false
 |.negSucc x=>match b with
  |.ofNat _=>true
  |.negSucc y=>C0 y x
def lim:IntKind->Nat
 |.i8=>128|.i16=>32768|.i32=>2147483648|.i64=>9223372036854775808
 |.u8=>256|.u16=>65536|.u32=>4294967296|.u64=>18446744073709551616
def isI64:IntKind->Bool
 |.i64=>true
 |_=>false
def wrapF (k:IntKind)(x:Int):Int:=match x with
 |.ofNat m=>sel (C0 m (lim k)) (.ofNat m) (k.wrap (.ofNat m))
 |.negSucc m=>sel (isI64 k) (sel (C0 m 9223372036854775808) (.negSucc m) (k.wrap (.negSucc m))) (k.wrap (.negSucc m))
def bitX (f:(n:Nat)->BitVec n->BitVec n->BitVec n)(k:IntKind)(a b:Int):V:= .i k (k.wrap ((f k.bits (BitVec.ofInt k.bits a) (BitVec.ofInt k.bits b)).toNat:Nat))
def arithX(op:BinOp):IntKind->Int->Int->Option V:=match op with
 |.add=>λk a b=>some (.i k (wrapF k (Int.add a b)))
 |.sub=>λk a b=>some (.i k (wrapF k (Int.sub a b)))
 |.mul=>λk a b=>some (.i k (wrapF k (Int.mul a b)))
 |.or=>λk a b=>some (bitX (λ_ x y=>x ||| y) k a b)
 |.and=>λk a b=>some (bitX (λ_ x y=>x&&&y) k a b)
 |.xor=>λk a b=>some (bitX (λ_ x y=>x^^^y) k a b)
 |.quo=>λk a b=>gd (!ieq b 0) (some (.i k (wrapF k (a.tdiv b))))
 |.rem=>λk a b=>gd (!ieq b 0) (some (.i k (a.tmod b)))
 |.eql=>λ_ a b=>some (.b (ieq a b))
 |.neq=>λ_ a b=>some (.b (!ieq a b))
 |.lss=>λ_ a b=>some (.b (ilt a b))
 |.leq=>λ_ a b=>some (.b (!ilt b a))
 |.gtr=>λ_ a b=>some (.b (ilt b a))
 |.geq=>λ_ a b=>some (.b (!ilt a b))
 |_=>λ_ _ _=>none
def shlX (k:IntKind)(a b:Int):Option V:=match b with
 |.ofNat n=>some (.i k (k.wrap (a*2^min n k.bits)))
 |_=>none
def shrX (k:IntKind)(a b:Int):Option V:=match b with
 |.ofNat n=>some (.i k (a.fdiv (2^min n k.bits)))
 |_=>none
def seq:List Nat->List Nat->Bool
 |[],[]=>true
 |a::x,b::y=>B5 (a%256) (b%256)&&seq x y
 |_,_=>false
def strX (op:BinOp):List Nat->List Nat->Option V:=match op with
 |.add=>λa b=>gd (C0 (a.length+b.length) 9223372036854775808) (some (.s (a++b)))
 |.eql=>λa b=>some (.b (seq a b))
 |.neq=>λa b=>some (.b (!seq a b))
 |_=>λ_ _=>none
section
variable [Ctx]
def glX (g:Nat):Option V:=ob (Ctx.gl g) λk=>some (.p k 0)
def evX (x:Operand):E->Option V:=match x with
 |.tmp t=>λe=>e.get t
 |.const v=>λ_=>ofV v
 |.global g=>λ_=>glX g
 |.func f=>λ_=>some (.f (.func f) [] [])
def evsX (l:List Operand)(e:E):Option (List V):=bKw (λx=>evX x e) l
def sizeX (t:TypeId):Option Nat:=ob (Ctx.P.info? t) λi=>some i.size
def zeroX (t:TypeId):Option V:=ob (Ctx.P.info? t) λi=>ob i.zero ofV
def aggX (t:TypeId):Option Bool:=ob (Ctx.P.underlying t) λd=>match d with
 |.struct _=>some true
 |.array _ _=>some true
 |_=>some false
def wideX (t:TypeId):Option (Option Nat):=ob (aggX t) λa=>sel a (ob (sizeX t) λn=>some (some n)) (some none)
def bFs (t:TypeId)(cs:List V)(o:Nat):Option V:=ob (wideX t) λw=>oc w (nthL cs o) λn=>ob (cutL cs o n) λl=>some (.g l)
def eqFs (eq:TypeId->V->V->Option Bool)(xs ys:List V):List Field->Option Bool
 |[]=>some true
 |f::r=>sel (f.name== "_") (eqFs eq xs ys r) (ob (bFs f.type xs f.offset) λx=>ob (bFs f.type ys f.offset) λy=>ob (eq f.type x y) λc=>sel c (eqFs eq xs ys r) (some false))
def eqEs (eq:V->V->Option Bool)(e n:Nat)(xs ys:List V):Nat->Nat->Option Bool
 |0,_=>some true
 |m+1,i=>ob (bFs e xs (i*n)) λx=>ob (bFs e ys (i*n)) λy=>ob (eq x y) λc=>sel c (eqEs eq e n xs ys m (i+1)) (some false)
def eqBool:V->V->Option Bool
 |.b x,.b y=>some (x==y)
 |_,_=>none
def eqInt:V->V->Option Bool
 |.i k x,.i k' y=>gd (sameKind k k') (some (ieq x y))
 |_,_=>none
def eqStr:V->V->Option Bool
 |.s x,.s y=>some (seq x y)
 |_,_=>none
def eqPtr:V->V->Option Bool
 |.p0,.p0=>some true
 |.p0,.p _ _=>some false
 |.p _ _,.p0=>some false
 |.p k o,.p k' o'=>gd (B5 k k') (some (B5 o o'))
 |_,_=>none
def eqIface:V->V->Option Bool
 |.e0,.e0=>some true
 |.e0,.e _ _=>some false
 |.e _ _,.e0=>some false
 |_,_=>none
def eqSlice:V->V->Option Bool
 |.l0,.l0=>some true
 |.l0,.l _ _ _ _=>some false
 |.l _ _ _ _,.l0=>some false
 |.l0,.z _ _ _ _=>some false
 |.z _ _ _ _,.l0=>some false
 |_,_=>none
def eqMap:V->V->Option Bool
 |.m0,.m0=>some true
 |.m0,.m _=>some false
 |.m _,.m0=>some false
 |_,_=>none
def eqFunc:V->V->Option Bool
 |.f0,.f0=>some true
 |.f0,.f _ _ _=>some false
 |.f _ _ _,.f0=>some false
 |_,_=>none
def eqX:Nat->TypeId->V->V->Option Bool
 |0,_=>λ_ _=>none
 |d+1,t=>match Ctx.P.underlying t with
  |some .bool=>eqBool
  |some (.int _)=>eqInt
  |some .string=>eqStr
  |some (.pointer el)=>λx y=>ob (sizeX el) λn=>gd (!B5 n 0) (eqPtr x y)
  |some (.interface _)=>eqIface
  |some (.slice _)=>eqSlice
  |some (.map _ _)=>eqMap
  |some (.func _ _ _)=>eqFunc
  |some (.struct fs)=>λx y=>asG x λxs=>asG y λys=>gd (!Ctx.P.stoodInHeld t) (eqFs (eqX d) xs ys fs.toList)
  |some (.array len e)=>λx y=>asG x λxs=>asG y λys=>ob (sizeX e) λn=>eqEs (eqX d e) e n xs ys len 0
  |_=>λ_ _=>none
def bLd:Operand->Bool
 |.const _=>true
 |_=>false
def guardX(t:TypeId)(x y:Operand)(u v:V):Bool:=match u with
 |.e0=>match v with
  |.e0=>bLd x || bLd y
  |_=>true
 |.g _=>match v with
  |.g _=>!Ctx.P.eqGuardType Ctx.P.depth t
  |_=>true
 |_=>true
def eqOp (t:TypeId)(x y:Operand)(u v:V):Option Bool:=gd (guardX t x y u v) (eqX 12 t u v)
def binI (op:BinOp):IntKind->Int->IntKind->Int->Option V:=match op with
 |.shl=>λk a _ b=>shlX k a b
 |.shr=>λk a _ b=>shrX k a b
 |op=>λk a k' b=>gd (sameKind k k') (arithX op k a b)
def binE (op:BinOp)(t:TypeId)(x y:Operand)(u v:V):Option V:=match op with
 |.eql=>ob (eqOp t x y u v) λr=>some (.b r)
 |.neq=>ob (eqOp t x y u v) λr=>some (.b (!r))
 |_=>none
def binX (op:BinOp)(t:TypeId)(x y:Operand)(u v:V):Option V:=match u with
 |.i k a=>asI v (binI op k a)
 |.s a=>asS v (strX op a)
 |u=>binE op t x y u v
def Cap.least:Cap->Nat
 |.n c=>c
 |.s _ d=>d
def kF (x:Option Operand)(d:Nat)(e:E):Option Nat:=oc x (some d) λx=>ob (evX x e) λv=>asN v some
def slStr (a:List Nat)(l h:Nat):Option V:=gd (H8 l h&&H8 h a.length) (some (.s ((a.drop l).take (h-l))))
def slCap (k o sz l h:Nat):Cap->Option V
 |.n cc=>some (.l k (sel (B5 cc l) o (o+l*sz)) (h-l) (.n (cc-l)))
 |.s cn d=>sel (B5 l 0) (some (.l k o h (.s cn d))) (sel (C0 l d) (some (.l k (o+l*sz) (h-l) (.s cn (d-l)))) (some (.z k o (o+l*sz) cn)))
def slRow (k o n sz:Nat)(c:Cap)(lo hi mx:Option Operand)(e:E):Option V:=ob (kF lo 0 e) λl=>ob (kF hi n e) λh=>oc mx
 (gd (H8 l h&&H8 h c.least) (slCap k o sz l h c))
 λ_=>ob (kF mx 0 e) λm=>gd (hi.isSome&&(H8 l h&&(H8 h m&&H8 m c.least))) (some (.l k (sel (B5 m l) o (o+l*sz)) (h-l) (.n (m-l))))
def slNil (lo hi mx:Option Operand)(e:E):Option V:=ob (kF lo 0 e) λl=>ob (kF hi 0 e) λh=>ob (kF mx 0 e) λm=>gd ((hi.isSome || !mx.isSome)&&(B5 l 0&&(B5 h 0&&B5 m 0))) (some .l0)
def slArr (k o n sz:Nat)(lo hi mx:Option Operand)(e:E):Option V:=ob (kF lo 0 e) λl=>ob (kF hi n e) λh=>oc mx
 (gd (H8 l h&&H8 h n) (some (.l k (sel (B5 n l) o (o+l*sz)) (h-l) (.n (n-l))))) λ_=>none
def slS (a:List Nat)(lo hi mx:Option Operand)(e:E):Option V:=ob (kF lo 0 e) λl=>ob (kF hi a.length e) λh=>oc mx (slStr a l h) λ_=>none
def elemOf(t:TypeId):Option (Option Nat×TypeId×Nat):=ob (Ctx.P.underlying t) λd=>match d with
 |.slice el=>ob (sizeX el) λsz=>some (none,el,sz)
 |.array n el=>ob (sizeX el) λsz=>some (some n,el,sz)
 |_=>none
def sliceV(n:Option Nat)(sz:Nat)(u:V):Option Operand->Option Operand->Option Operand->E->Option V:=match u with
 |.l0=>oc n slNil λ_ _ _ _ _=>none
 |.l k o m c=>oc n (slRow k o m sz c) λ_ _ _ _ _=>none
 |.p k o=>oc n (λ_ _ _ _=>none) λn=>slArr k o n sz
 |_=>λ_ _ _ _=>none
def isStr (t:TypeId):Bool:=match Ctx.P.underlying t with
 |some .string=>true
 |_=>false
def sliceX(t:TypeId)(u:V)(lo hi mx:Option Operand)(e:E):Option V:=sel (isStr t) (asS u λa=>slS a lo hi mx e) (ob (elemOf t) λq=>sliceV q.1 q.2.2 u lo hi mx e)
def placesX:List Field->Option (List (Nat×Nat)):=bKw λf=>ob (sizeX f.type) λn=>some (f.offset,n)
def bOq (place:Nat->Option (Nat×Nat))(cs:List V)(l:List (Nat×V)):Option (List V):=I4 (motive:=λ_=>List V->Option (List V)) (λcs=>some cs)
 (λx _ ih cs=>ob (place x.1) λq=>gd (B5 x.2.cells.length q.2) (ob (pasteL cs q.1 x.2.cells) ih)) l cs
def partsX(l:List (Nat×Operand))(e:E):Option (List (Nat×V)):=bKw (λx=>ob (evX x.2 e) λv=>some (x.1,v)) l
def placeOf(t:TypeId):Option (Nat->Option (Nat×Nat)):=ob (Ctx.P.underlying t) λd=>match d with
 |.struct fs=>ob (placesX fs.toList) λpl=>some (nthL pl)
 |.array _ el=>ob (sizeX el) λsz=>some λi=>some (i*sz,sz)
 |_=>none
def addO (o k:Nat):Nat:=Nat.add o k
def unX (op:UnOp)(v:V):Option V:=match op with
 |.not=>asB v λx=>some (.b (!x))
 |.neg=>asI v λk a=>some (.i k (wrapF k (Int.sub 0 a)))
 |_=>none
def byteX (v:V):Option Nat:=match v with
 |.i .u8 (.ofNat x)=>gd (C0 x 256) (some x)
 |_=>none
def bIf (s:St)(k o n:Nat):Option (List V):=ob (s.h.get k) λx=>ob x.row λcs=>cutL cs o n
def isU8 (t:TypeId):Bool:=match Ctx.P.underlying t with
 |some (.int .u8)=>true
 |_=>false
def isUns (t:TypeId):Bool:=match Ctx.P.underlying t with
 |some .unsafePointer=>true
 |_=>false
def cvBytes(el d:TypeId)(u:V)(s:St):Option V:=gd (isU8 el&&isStr d) (match u with
 |.l0=>some (.s [])
 |.l k o n _=>ob (bIf s k o n) λl=>ob (bKw byteX l) λa=>some (.s a)
 |_=>none)
def cvPtr (t d:TypeId)(u:V)(s:St):Option V:=asP u λk o=>ob (sizeX t) λn=>gd (isUns d&& !B5 n 0) (ob (s.h.get k) λx=>asC x λcs _ ext _=>oc ext (gd (C0 o cs.length) (some (.p k o))) λ_=>none)
def ptrTo (t:TypeId):Option TypeId:=ob (Ctx.P.underlying t) λd=>match d with
 |.pointer el=>some el
 |_=>none
def cvUns (d:TypeId)(u:V)(s:St):Option V:=ob (ptrTo d) λt=>asP u λk o=>ob (sizeX t) λn=>gd (!B5 n 0) (ob (s.h.get k) λx=>asC x λcs el ext _=>
 oc ext (gd (liesAt Ctx.P Ctx.P.depth el (cs.length/Ctx.P.cellsOf el) o t 1) (some (.p k o))) λ_=>none)
def cvOne (d:TypeId)(u:V):Option V:=ob (Ctx.P.underlying d) λd=>match d with
 |.int k=>asI u λ_ a=>some (.i k (wrapF k a))
 |.string=>asS u λa=>some (.s a)
 |_=>none
def cvX (src d:TypeId)(u:V):St->Option V:=match Ctx.P.underlying src with
 |none=>λ_=>none
 |some (.slice el)=>cvBytes el d u
 |some (.pointer t)=>cvPtr t d u
 |some .unsafePointer=>cvUns d u
 |some _=>λ_=>cvOne d u
def loadX (t:TypeId)(k o:Nat)(s:St):Option V:=ob (s.h.get k) λx=>ob x.row λcs=>bFs t cs o
def bDt (t:TypeId)(f:Nat):Option (TypeId×Nat):=ob (Ctx.P.underlying t) λd=>match d with
 |.struct fs=>ob (nthL fs.toList f) λfd=>some (fd.type,fd.offset)
 |_=>none
def fieldAt(t:TypeId)(f:Nat):Option Nat:=ob (bDt t f) λq=>ob (sizeX q.1) λn=>gd (!B5 n 0) (some q.2)
def idxX (u:V)(n:Option Nat)(sz z:Nat):Option V:=match u with
 |.l k o m _=>oc n (gd (C0 z m) (some (.p k (addO o (z*sz))))) λ_=>none
 |.p k o=>oc n none λn=>gd (C0 z n) (some (.p k (addO o (z*sz))))
 |_=>none
def atX (t:TypeId)(u:V)(z:Nat):Option V:=match u with
 |.s a=>gd (isStr t) (ob (nthL a z) λx=>some (.i .u8 (.ofNat (x%256))))
 |.g cs=>ob (elemOf t) λq=>oc q.1 none λn=>gd (C0 z n) (bFs q.2.1 cs (z*q.2.2))
 |_=>none
def nilX (u:V):Option V:=match u with
 |.p k o=>some (.p k o)
 |.f (.func f) a c=>some (.f (.func f) a c)
 |_=>none
def isIf (t:TypeId):Option Bool:=ob (Ctx.P.underlying t) λd=>match d with
 |.interface _=>some true
 |_=>some false
def asE {β:Type}(v:V):(TypeId->V->Option β)->Option β:=match v with
 |.e t v=>λf=>f t v
 |_=>λ_=>none
def lenD (d:TypeDesc)(u:V)(s:St):Option Nat:=match d with
 |.string=>asS u λa=>some a.length
 |.array n _=>some n
 |.slice _=>match u with
  |.l0=>some 0
  |.l _ _ n _=>some n
  |.z _ _ _ _=>some 0
  |.y _=>some 0
  |_=>none
 |.map _ _=>match u with
  |.m0=>some 0
  |.m k=>ob (s.h.get k) λx=>asMap x λes _=>some es.length
  |_=>none
 |_=>none
def isSl (t:TypeId):Bool:=match Ctx.P.underlying t with
 |some (.slice _)=>true
 |_=>false
def capX (u:V):Option V:=match u with
 |.l0=>some (.i .i64 0)
 |.l _ _ _ (.n c)=>some (.i .i64 (.ofNat c))
 |_=>none
def dataX (u:V):Option V:=match u with
 |.l0=>some .p0
 |.l k o _ c=>gd (!B5 c.least 0) (some (.p k o))
 |_=>none
section
variable (e : E)
def pLen (x:Operand)(t:TypeId)(s:St):Option V:=ob (evX x e) λu=>ob (Ctx.P.underlying t) λd=>ob (lenD d u s) λn=>some (.i .i64 (.ofNat n))
def pMost (hi:Bool)(x y:Operand):Option V:=ob (evX x e) λu=>ob (evX y e) λv=>asI u λk a=>asI v λ_ c=>some (.i k (sel (sel hi (ilt a c) (ilt c a)) c a))
end
def pCall (b:Builtin)(args:List Operand)(ts:List TypeId)(s:St)(e:E):Option V:=match b with
 |.len=>match args,ts with
  |[x],[t]=>pLen e x t s
  |_,_=>none
 |.cap=>match args,ts with
  |[x],[t]=>ob (evX x e) λu=>gd (isSl t) (capX u)
  |_,_=>none
 |.unsafeSliceData=>match args with
  |[x]=>ob (evX x e) dataX
  |_=>none
 |.max=>match args with
  |[x,y]=>pMost e true x y
  |_=>none
 |.min=>match args with
  |[x,y]=>pMost e false x y
  |_=>none
 |_=>none
def xQ (kt:TypeId)(k:V):Bool:=match Ctx.P.underlying kt with
 |some (.int _)=>match k with|.i _ _=>true|_=>false
 |some .string=>match k with|.s _=>true|_=>false
 |_=>false
def bDy (kt:TypeId)(k:V):List Ent->Nat->Option (Option (Nat×V))
 |[],_=>some none
 |x::r,i=>ob (eqX 1 kt k x.1) λc=>sel c (some (some (i,x.2.1))) (bDy kt k r (i+1))
def bLv (t:TypeId):Option (TypeId×TypeId):=ob (Ctx.P.underlying t) λd=>match d with
 |.map kt et=>some (kt,et)
 |_=>none
def mapOf (u:V)(s:St):Option (List Ent):=match u with
 |.m0=>some []
 |.m r=>ob (s.h.get r) λx=>asMap x λes _=>some es
 |_=>none
def foundX(ok:Bool)(et:TypeId)(r:Option (Nat×V)):Option V:=oc r (ob (zeroX et) λz=>some (sel ok (.t [z,.b false]) z)) λq=>some (sel ok (.t [q.2,.b true]) q.2)
def pLookup(t:TypeId)(x ix:Operand)(ok:Bool)(s:St)(e:E):Option V:=ob (bLv t) λq=>ob (evX x e) λu=>ob (evX ix e) λk=>gd (xQ q.1 k) (ob (mapOf u s) λes=>ob (bDy q.1 k es 0) (foundX ok q.2))
def pureC (c:Call):St->E->Option V:=match c with
 |⟨.builtin b,args,ts⟩=>pCall b args.toList ts.toList
 |_=>λ_ _=>none
def pureX (o:Op):St->E->Option V:=match o with
 |.move x=>λ_ e=>evX x e
 |.assign x=>λ_ e=>evX x e
 |.pick c a b=>λ_ e=>ob (evX c e) λv=>asB v λt=>sel t (evX a e) (evX b e)
 |.binOp op t x y _=>λ_ e=>ob (evX x e) λu=>ob (evX y e) (binX op t x y u)
 |.unOp op _ x=>λ_ e=>ob (evX x e) (unX op)
 |.convert src d x=>λs e=>ob (evX x e) λu=>cvX src d u s
 |.extract x i=>λ_ e=>ob (evX x e) λv=>asT v λvs=>nthL vs i
 |.load t a=>λs e=>ob (evX a e) λv=>asP v λk o=>loadX t k o s
 |.fieldAddr t x f=>λ_ e=>ob (fieldAt t f) λfo=>ob (evX x e) λv=>asP v λk o=>some (.p k (addO o fo))
 |.field t x f=>λ_ e=>ob (bDt t f) λq=>ob (evX x e) λv=>asG v λcs=>bFs q.1 cs q.2
 |.indexAddr t x i=>λ_ e=>ob (evX i e) λv=>asN v λz=>ob (elemOf t) λq=>ob (evX x e) λu=>idxX u q.1 q.2.2 z
 |.index t x i=>λ_ e=>ob (evX i e) λv=>asN v λz=>ob (evX x e) λu=>atX t u z
 |.slice t x lo hi mx=>λ_ e=>ob (evX x e) λu=>sliceX t u lo hi mx e
 |.nilCheck x=>λ_ e=>ob (evX x e) nilX
 |.makeFunc fn first cap=>λ_ e=>ob (evsX first.toList e) λa=>ob (evsX cap.toList e) λc=>some (.f fn a c)
 |.makeInterface t x=>λ_ e=>ob (isIf t) λq=>gd (!q) (ob (evX x e) λv=>some (.e t v))
 |.typeAssert x _ t ok=>λ_ e=>ob (isIf t) λq=>gd (!q) (ob (evX x e) λv=>asE v λt' w=>gd (B5 t' t) (some (sel ok (.t [w,.b true]) w)))
 |.build t parts=>λ_ e=>ob (zeroX t) λz=>ob (placeOf t) λpl=>ob (partsX parts.toList e) λps=>ob (bOq pl z.cells ps) λcs=>some (.g cs)
 |.call c=>pureC c
 |.lookup t x ix ok=>pLookup t x ix ok
 |_=>λ_ _=>none
end
end
end X
end
section
namespace X
noncomputable section
inductive R where
 |v (v:V) (s:St)
 |sk (s:St)
 |call (f:FuncId) (args:List V) (s:St)
section
variable [Ctx]
def fuelT:Nat:=40
def St.put(s:St)(k:Nat)(x:Blk):St:={s with h:=s.h.set (some x) fuelT k}
def St.new(s:St)(x:Blk):St:={s with h:=s.h.set (some x) fuelT s.n,n:=s.n+1}
def St.drop(s:St)(k:Nat):St:={s with h:=s.h.set none fuelT k}
def newsX (sz:Nat)(u:V)(s:St):Option (Nat×List V):=match u with
 |.l0=>some (0,[])
 |.z _ _ _ _=>some (0,[])
 |.y _=>some (0,[])
 |.l k o n _=>ob (bIf s k o (n*sz)) λcs=>some (n,cs)
 |.s a=>gd (B5 sz 1) (some (a.length,a.map λx=>V.i .u8 (.ofNat (x%256))))
 |_=>none
def pow47:Nat:=140737488355328
def bCx (k o:Nat)(vs:List V)(s:St):Option St:=ob (s.h.get k) λx=>asC x λcs t ext ro=>gd (!ro) (ob (pasteL cs o vs) λcs'=>some (s.put k (.cells cs' t ext false)))
def bNb (el:TypeId)(n:Nat)(cs:List V)(s:St):R:= .v (.l s.n 0 n (.s s.c n)) {h:=s.h.set (some (.cells cs el (some s.c) false)) fuelT s.n,n:=s.n+1,c:=s.c+1}
def apNil (el:TypeId)(by_ n:Nat)(news:List V)(s:St):Option R:=sel (B5 n 0) (some (.v .l0 s)) (gd (H8 n pow47&&H8 (n*by_) pow47) (some (bNb el n news s)))
def apFits(k o m:Nat)(c:Cap)(sz n:Nat)(news:List V)(s:St):Option R:=sel (B5 n 0) (some (.v (.l k o m c) s)) (ob (bCx k (o+m*sz) news s) λs'=>some (.v (.l k o (m+n) c) s'))
def apGrows(el:TypeId)(by_ k o m sz n:Nat)(news:List V)(s:St):Option R:=gd (H8 (m+n) pow47&&H8 ((m+n)*by_) pow47) (ob (bIf s k o (m*sz)) λolds=>some (bNb el (m+n) (olds++news) s))
def apRow (el:TypeId)(by_ k m cn d sz n:Nat)(news:List V)(s:St):Option R:=ob (s.h.get k) λx=>asC x λcs el' ext ro=>oc ext none λcn'=>
 gd (!ro&&(B5 cn cn'&&(B5 el el'&&(B5 (d*sz) cs.length&&(H8 m d&&(H8 (m+n) pow47&&H8 ((m+n)*by_) pow47)))))) (ob (cutL cs 0 (m*sz)) λolds=>some (bNb el (m+n) (olds++news) (s.drop k)))
def apL (el:TypeId)(by_ sz k o m n:Nat)(news:List V)(c:Cap):St->Option R:=match c with
 |.n c=>sel (H8 (m+n) c) (apFits k o m (.n c) sz n news) (apGrows el by_ k o m sz n news)
 |.s cn d=>sel (H8 (m+n) d) (apFits k o m (.s cn d) sz n news) λs=>gd (B5 o 0) (apRow el by_ k m cn d sz n news s)
def apX (el:TypeId)(sz by_:Nat)(u:V)(n:Nat)(news:List V):St->Option R:=match u with
 |.l0=>apNil el by_ n news
 |.l k o m c=>apL el by_ sz k o m n news c
 |_=>λ_=>none
def appendX(el:TypeId)(sz by_:Nat)(u v:V)(s:St):Option R:=ob (newsX sz v s) λq=>apX el sz by_ u q.1 q.2 s
def setV:List Ent->Nat->V->List Ent
 |[],_,_=>[]
 |(k,_,x)::r,0,v=>(k,v,x)::r
 |x::r,n+1,v=>x::setV r n v
def findB:List Ent->Nat->Nat->Option Nat
 |[],_,_=>none
 |x::r,j,i=>sel (B5 x.2.2 j) (some i) (findB r j (i+1))
def runeX (s:List Nat)(p:Nat):Option Nat:=ob (nthL s p) λx=>gd (C0 (x%256) 128) (some (x%256))
structure Found where
 r:Nat
 k:V
 et:TypeId
 es:List Ent
 clock:Nat
 at_:Option (Nat×V)
def mapAt (t:TypeId)(m k:Operand)(s:St)(e:E):Option Found:=ob (bLv t) λq=>ob (evX m e) λu=>asM u λr=>ob (evX k e) λkv=>ob (s.h.get r) λx=>asMap x λes clock=>
 gd (xQ q.1 kv) (ob (bDy q.1 kv es 0) λf=>some ⟨r,kv,q.2,es,clock,f⟩)
def bMc (t:TypeId)(m k x:Operand)(s:St)(e:E):Option R:=ob (mapAt t m k s e) λf=>ob (evX x e) λv=>some (.sk (s.put f.r (oc f.at_ (.map (f.es++[(f.k,v,f.clock)]) (f.clock+1)) λq=> .map (setV f.es q.1 v) f.clock)))
def delE:List Ent->Nat->List Ent
 |[],_=>[]
 |_::r,0=>r
 |x::r,n+1=>x::delE r n
def oDelete(m k:Operand)(t:TypeId)(s:St)(e:E):Option R:=ob (mapAt t m k s e) λf=>some (.v (.t []) (s.put f.r (.map (oc f.at_ f.es λq=>delE f.es q.1) f.clock)))
def clearX(el:TypeId)(sz k o n:Nat)(s:St):Option R:=ob (zeroX el) λz=>gd (B5 z.cells.length sz&&allL V.one z.cells) (ob (bCx k o (rH n z.cells) s) λs'=>some (.v (.t []) s'))
def clearV(el:TypeId)(sz:Nat)(u:V)(s:St):Option R:=match u with
 |.l0=>some (.v (.t []) s)
 |.z _ _ _ _=>some (.v (.t []) s)
 |.l k o n _=>sel (B5 n 0) (some (.v (.t []) s)) (clearX el sz k o n s)
 |_=>none
def oClear(x:Operand)(t:TypeId)(s:St)(e:E):Option R:=ob (elemOf t) λq=>oc q.1 (ob (evX x e) λu=>clearV q.2.1 q.2.2 u s) λ_=>none
def oAlloc(t:TypeId)(s:St)(_e:E):Option R:=ob (zeroX t) λz=>gd (allL V.one z.cells) (some (.v (.p s.n 0) (s.new (.cells z.cells t none false))))
def oBox (t:TypeId)(x:Operand)(s:St)(e:E):Option R:=ob (evX x e) λv=>gd (allL V.one v.cells) (some (.v (.p s.n 0) (s.new (.cells v.cells t none false))))
def uF (t:TypeId)(n:Nat)(parts:Array (Nat×Operand))(s:St)(e:E):Option R:=ob (elemOf t) λq=>oc q.1 (ob (zeroX q.2.1) λz=>ob (partsX parts.toList e) λps=>
 gd (H8 (n*q.2.2) 16777216&&B5 z.cells.length q.2.2) (ob (bOq (λi=>some (i*q.2.2,q.2.2)) (rH n z.cells) ps) λcs=>gd (allL V.one cs) (some (.v (.l s.n 0 n (.n n)) (s.new (.cells cs q.2.1 none false)))))) λ_=>none
def oStore(t:TypeId)(a x:Operand)(s:St)(e:E):Option R:=ob (evX a e) λu=>asP u λk o=>ob (evX x e) λv=>ob (sizeX t) λsz=>gd (B5 v.cells.length sz&&allL V.one v.cells) (ob (bCx k o v.cells s) λs'=>some (.sk s'))
def bytesOf(t:TypeId):Option Nat:=ob (Ctx.P.info? t) λi=>some i.bytes
def bQo (t:TypeId)(l c:Operand)(s:St)(e:E):Option R:=ob (elemOf t) λq=>oc q.1 (ob (zeroX q.2.1) λz=>ob (bytesOf q.2.1) λw=>ob (evX l e) λl=>asN l λl=>ob (evX c e) λc=>asN c λc=>
 gd (H8 l c&&(H8 (w*c) pow47&&(C0 c 9223372036854775808&&(B5 z.cells.length q.2.2&&allL V.one z.cells)))) (some (.v (.l s.n 0 l (.n c)) (s.new (.cells (rH c z.cells) q.2.1 none false))))) λ_=>none
def oMakeMap(t:TypeId)(x:Option Operand)(s:St)(e:E):Option R:=oc x (some (.v (.m s.n) (s.new (.map [] 0)))) λx=>ob (bLv t) λ_=>ob (evX x e) λu=>asI u λ_ _=>some (.v (.m s.n) (s.new (.map [] 0)))
def bUr (t:TypeId)(m k:Operand)(s:St)(e:E):Option R:=ob (mapAt t m k s e) λf=>oc f.at_
 (ob (zeroX f.et) λz=>some (.v (.t [z,.i .i64 (.ofNat f.clock)]) (s.put f.r (.map (f.es++[(f.k,z,f.clock)]) (f.clock+1)))))
 λq=>ob (nthL f.es q.1) λx=>some (.v (.t [q.2,.i .i64 (.ofNat x.2.2)]) s)
def bKd (m st x:Operand)(s:St)(e:E):Option R:=ob (evX m e) λu=>asM u λr=>ob (evX st e) λb=>asN b λb=>ob (evX x e) λv=>ob (s.h.get r) λx=>asMap x λes clock=>ob (findB es b 0) λi=>some (.sk (s.put r (.map (setV es i v) clock)))
def oRange(t:TypeId)(x:Operand)(s:St)(e:E):Option R:=ob (evX x e) λu=>gd (isStr t) (asS u λa=>some (.v (.p s.n 0) (s.new (.sit a 0))))
def nxStr (k:Nat)(a:List Nat)(p:Nat)(s:St):Option R:=sel (C0 p a.length) (ob (runeX a p) λc=>some (.v (.t [.b true,.i .i64 (.ofNat p),.i .i32 (.ofNat c)]) (s.put k (.sit a (p+1))))) (some (.v (.t [.b false]) s))
def oNext (it:Operand)(str:Bool)(s:St)(e:E):Option R:=gd str (ob (evX it e) λu=>asP u λk o=>gd (B5 o 0) (ob (s.h.get k) λx=>match x with
 |.sit a p=>nxStr k a p s
 |_=>none))
def oAppend0(x y:Operand)(t t':TypeId)(s:St)(e:E):Option R:=gd (isSl t' || isStr t') (ob (elemOf t) λq=>oc q.1 (ob (zeroX q.2.1) λz=>gd (B5 z.cells.length q.2.2) (ob (bytesOf q.2.1) λw=>ob (evX x e) λu=>ob (evX y e) λv=>appendX q.2.1 q.2.2 w u v s)) λ_=>none)
def isIntT(t:TypeId):Bool:=match Ctx.P.underlying t with
 |some (.int _)=>true
 |_=>false
def isL0:V->Bool
 |.l0=>true
 |_=>false
def oZeros(x y:Operand)(t:TypeId)(s:St)(e:E):Option R:=ob (elemOf t) λq=>oc q.1 (ob (zeroX q.2.1) λz=>ob (bytesOf q.2.1) λw=>ob (evX x e) λu=>ob (evX y e) λv=>asN v λn=>
 gd (isL0 u&&(C0 0 n&&(C0 0 q.2.2&&(B5 z.cells.length q.2.2&&(allL V.one z.cells&&(H8 n pow47&&H8 (n*w) pow47)))))) (some (bNb q.2.1 n (rH n z.cells) s))) λ_=>none
def oAppend(x y:Operand)(t t':TypeId)(s:St)(e:E):Option R:=sel (isIntT t') (oZeros x y t s e) (oAppend0 x y t t' s e)
def copyX (sz k o m:Nat)(v:V)(s:St):Option R:=match v with
 |.l0=>some (.v (.i .i64 0) s)
 |.l k' o' m' _=>ob (bIf s k' o' ((Nat.min m' m)*sz)) λcs=>ob (bCx k o cs s) λs'=>some (.v (.i .i64 (.ofNat (Nat.min m' m))) s')
 |_=>none
def oCopy (x y:Operand)(t:TypeId)(s:St)(e:E):Option R:=ob (elemOf t) λq=>oc q.1 (ob (evX x e) λu=>ob (evX y e) λv=>match u with
 |.l k o m _=>copyX q.2.2 k o m v s
 |_=>none) λ_=>none
def ustrX (q k n:Nat)(s:St):Option R:=ob (s.h.get k) λx=>asC x λcs el _ ro=>gd (!ro&&(B5 q el&&(isU8 el&&H8 n pow47))) (ob (cutL cs 0 n) λl=>ob (bKw byteX l) λa=>some (.v (.s a) (s.drop k)))
def asN6 {β:Type}(v:V):(Nat->Option β)->Option β:=match v with
 |.i .i64 (.ofNat n)=>λf=>f n
 |_=>λ_=>none
def usNil (u:V)(s:St):Option R:=match u with
 |.p0=>some (.v (.s []) s)
 |.p _ _=>some (.v (.s []) s)
 |_=>none
def bOz (x y:Operand)(t:TypeId)(s:St)(e:E):Option R:=ob (evX x e) λu=>ob (evX y e) λv=>asN6 v λn=>sel (B5 n 0) (usNil u s) (asP u λk o=>gd (B5 o 0) (ob (ptrTo t) λq=>ob (sizeX q) λz=>gd (B5 z 1) (ustrX q k n s)))
def oCallV(f:Operand)(args:List Operand)(s:St)(e:E):Option R:=ob (evX f e) λv=>match v with
 |.f (.func f) first cap=>ob (evsX args e) λvs=>some (.call f (first++(vs++cap)) s)
 |_=>none
def recvX (el:Option TypeId)(v:V)(s:St):Option V:=oc el (some v) λel=>asP v λk o=>ob (loadX el k o s) λr=>gd (r.ok s.n s.c) (some r)
def oInvoke(r:Operand)(name:String)(args:List Operand)(s:St)(e:E):Option R:=ob (evX r e) λu=>asE u λt v=>ob (Ctx.meth t name) λf=>ob (recvX f.2 v s) λq=>ob (evsX args e) λvs=>some (.call f.1 (q::vs) s)
def two (args:List Operand)(ts:List TypeId)(f:Operand->Operand->TypeId->TypeId->St->E->Option R):St->E->Option R:=match args,ts with
 |[x,y],[t,t']=>f x y t t'
 |_,_=>λ_ _=>none
def one1 (args:List Operand)(ts:List TypeId)(f:Operand->TypeId->St->E->Option R):St->E->Option R:=match args,ts with
 |[x],[t]=>f x t
 |_,_=>λ_ _=>none
def oBuiltin(b:Builtin)(args:List Operand)(ts:List TypeId):St->E->Option R:=match b with
 |.append=>two args ts oAppend
 |.unsafeString=>two args ts λx y t _=>bOz x y t
 |.delete=>two args ts λm k t _=>oDelete m k t
 |.clear=>one1 args ts oClear
 |.copy=>two args ts λx y t _=>oCopy x y t
 |b=>λs e=>ob (pCall b args ts s e) λv=>some (.v v s)
def oCall (c:Call):St->E->Option R:=match c with
 |⟨.builtin b,args,ts⟩=>oBuiltin b args.toList ts.toList
 |⟨.value f,args,_⟩=>oCallV f args.toList
 |⟨.invoke r name,args,_⟩=>oInvoke r name args.toList
def oPure (o:Op)(s:St)(e:E):Option R:=ob (pureX o s e) λv=>some (.v v s)
def opX (o:Op):St->E->Option R:=match o with
 |.alloc t=>oAlloc t
 |.box t x=>oBox t x
 |.buildSlice t n parts=>uF t n parts
 |.store t a x=>oStore t a x
 |.makeSlice t l c=>bQo t l c
 |.makeMap t r=>oMakeMap t r
 |.mapUpdate t m k x=>bMc t m k x
 |.insert t m k x=>bMc t m k x
 |.mapEntry t m k=>bUr t m k
 |.entryStore _ m st x=>bKd m st x
 |.range t x=>oRange t x
 |.next it str=>oNext it str
 |.call c=>oCall c
 |o=>oPure o
def wantG (ops:Array Oper)(j:Nat)(c:Bool)(e:E):Option Bool:=ob (nthL ops.toList j) λo=>ob o.dst λd=>ob (e.get d) λv=>match v with
 |.b x=>some (x==c)
 |.t _=>some false
 |_=>none
def bBg (ops:Array Oper)(o:Oper)(e:E):Option Bool:=oc o.guard (some true) λq=>wantG ops q.1 q.2 e
def putX (N:Nat)(d:Option Tmp)(v:V)(s:St)(e:E):Option (E×St):=oc d (some (e,s)) λd=>gd (C0 d N&&v.ok s.n s.c) (some (e.set (some v) fuelT d,s))
inductive Ex where
 |nm|ex (id:Nat)|rt
abbrev Res:=Option (Ex×E×St)
abbrev Rec:=FuncId->Nat->Code->E->St->Res
def argsE (n:Nat)(l:List V)(e:E):E:=I4 (motive:=λ_=>Nat->E->E) (λ_ e=>e) (λv _ ih i e=>ih (i+1) (e.set (some v) fuelT i)) l n e
def resV (e:E)(s:St)(r:ResultVar):Option V:=match r with
 |.tmp t=>e.get t
 |.cell a t=>ob (e.get a) λu=>asP u λk o=>loadX t k o s
def oneRes:List V->V
 |[v]=>v
 |l=> .t l
def endR:Ex->Bool
 |.ex _=>false
 |_=>true
def callB (f:FuncId)(fn:Func)(c:Code)(rec:Rec)(args:List V)(s:St):Option (V×St):=gd (H8 args.length fn.ntmps&&(allL (V.ok s.n s.c) args&& !(fn.name== "runtime.NumGoroutine"))) (ob (rec f fn.ntmps c (argsE 0 args .lf) s) λq=>
 gd (endR q.1) (ob (bKw (resV q.2.1 q.2.2) fn.results.toList) λl=>some (oneRes l,q.2.2)))
def callF (f:FuncId)(rec:Rec)(args:List V)(s:St):Option (V×St):=gd (Ctx.known f) (ob (Ctx.P.funcs[f]?) λfn=>ob fn.body λc=>callB f fn c rec args s)
def callX (f:FuncId)(rec:Rec)(args:List V)(s:St):Option (V×St):=oc (Ctx.orc f) (callF f rec args s) λh=>h args s
def doneX (rec:Rec)(N:Nat)(d:Option Tmp)(e:E)(r:R):Option (E×St):=match r with
 |.v v s=>putX N d v s e
 |.sk s=>putX N d undefV s e
 |.call f args s=>ob (callX f rec args s) λq=>putX N d q.1 q.2 e
def bBc (rec:Rec)(N:Nat)(ops:Array Oper)(o:Oper)(e:E)(s:St):Option (E×St):=ob (bBg ops o e) λw=>sel w (ob (opX o.op s e) (doneX rec N o.dst e)) (putX N o.dst undefV s e)
def opsX (rec:Rec)(N:Nat)(ops:Array Oper)(l:List Oper)(e:E)(s:St):Option (E×St):=I4 (motive:=λ_=>E->St->Option (E×St)) (λe s=>some (e,s)) (λo _ ih e s=>ob (bBc rec N ops o e s) λq=>ih q.1 q.2) l e s
def looksB:Builtin->Bool
 |.len=>true
 |.cap=>true
 |.max=>true
 |.min=>true
 |.unsafeSliceData=>true
 |_=>false
def looks:Op->Bool
 |.move _|.assign _|.pick ..|.binOp ..|.unOp ..|.extract ..|.load ..|.fieldAddr ..|.field ..|.indexAddr ..|.index ..|.slice ..|.nilCheck _|.makeFunc ..|.makeInterface ..|.typeAssert ..|.build ..|.lookup ..|.convert .. =>true
 |.call ⟨.builtin b,_,_⟩=>looksB b
 |_=>false
def bLc:Op->Option (FuncId×List Operand)
 |.call ⟨.value (.func f),args,_⟩=>gd (Ctx.quiet.any (B5 f)) (some (f,args.toList))
 |_=>none
def lateO (o:Oper):Bool:=match o.op with
 |.buildSlice _ _ _=>o.guard.isNone&&o.dst.isSome
 |.alloc _=>o.guard.isNone&&o.dst.isSome
 |.box _ _=>o.guard.isNone&&o.dst.isSome
 |_=>false
def bEn (ops:Array Oper)(j l:Nat):Bool:=oc ops[j]? false λoj=>oc ops[l]? false λol=>lateO ol&&(ol.apart ops oj&&(C0 j 4096&& !B5 j l))
def pairB (md:Region.Mode)(ops:Array Oper)(j l:Nat)(listed:Array Bool):Bool:=bEn ops j l&&((E3 md ops listed==[j,l] || E3 md ops listed==[l,j])&&(E3 md ops (listed.setIfInBounds j true)==[l]&&E3 md ops (listed.setIfInBounds l true)==[j]))
def isAl:Op->Bool
 |.alloc _=>true
 |_=>false
def bUx (ops:Array Oper)(j l:Nat):Bool:=bEn ops j l&&(C0 l 4096&&oc ops[l]? false λol=>isAl ol.op)
def yX:Nat:=16777216
def pW (k:Nat):Nat:=H5 k 4096
def sN (k:Nat):Nat:=Nat.sub (H6 k 4096) 4096
def earlyB(md:Region.Mode)(ops:Array Oper)(j l:Nat)(listed:Array Bool):Bool:=bUx ops j l&&((E3 md ops listed==[j,l] || E3 md ops listed==[l,j])&&E3 md ops (listed.setIfInBounds l true)==[j])
def bTu (md:Region.Mode)(ops:Array Oper):List Nat->Array Bool->Bool
 |[],listed=>(E3 md ops listed).isEmpty
 |l::r,listed=>(E3 md ops listed==[l])&&bTu md ops r (listed.setIfInBounds l true)
def nameOf:V->List Nat
 |.p k _=>[k]
 |.l k _ _ _=>[k]
 |.m k=>[k]
 |_=>[]
def namesAt(x:Operand)(e:E):List Nat:=oc (evX x e) [] nameOf
def mapName:V->List Nat
 |.m k=>[k]
 |_=>[]
def readsX(e:E):Op->List Nat
 |.load _ a=>namesAt a e
 |.convert _ _ a=>namesAt a e
 |.lookup _ a _ _=>namesAt a e
 |.call ⟨.builtin .len,args,_⟩=>oc (nthL args.toList 0) [] λx=>oc (evX x e) [] mapName
 |_=>[]
def bSb (N:Nat)(s:St)(ops:Array Oper):List (Bool×Nat)->E->List Nat
 |[],_=>[]
 |(q,k)::r,e=>sel q (oc (nthL ops.toList k) [] λo=>readsX e o.op++bSb N s ops r (oc (pureX o.op s e) e λv=>oc (putX N o.dst v s e) e Prod.fst)) (bSb N s ops r e)
def vN {α:Type}(p:α->α->Bool):List α->List α->Bool
 |[],[]=>true
 |x::a,y::b=>p x y&&vN p a b
 |_,_=>false
def capEq:Cap->Cap->Bool
 |.n a,.n b=>B5 a b
 |.s a b,.s a' b'=>B5 a a'&&B5 b b'
 |_,_=>false
def beqD (d:Nat):V->V->Bool:=H4 (motive:=λ_=>V->V->Bool) (λ_ _=>false) (λ_ ih u v=>match u,v with
 |.b x,.b y=>x==y
 |.i k x,.i k' y=>sameKind k k'&&ieq x y
 |.s x,.s y=>vN B5 x y
 |.p0,.p0=>true
 |.p k o,.p k' o'=>B5 k k'&&B5 o o'
 |.l0,.l0=>true
 |.l k o n c,.l k' o' n' c'=>B5 k k'&&(B5 o o'&&(B5 n n'&&capEq c c'))
 |.z k o n c,.z k' o' n' c'=>B5 k k'&&(B5 o o'&&(B5 n n'&&B5 c c'))
 |.y c,.y c'=>B5 c c'
 |.m0,.m0=>true
 |.m k,.m k'=>B5 k k'
 |.f (.func f) a c,.f (.func f') a' c'=>B5 f f'&&(vN ih a a'&&vN ih c c')
 |.f0,.f0=>true
 |.e0,.e0=>true
 |.e t v,.e t' v'=>B5 t t'&&ih v v'
 |.g a,.g b=>vN ih a b
 |.t a,.t b=>vN ih a b
 |_,_=>false) d
def oeq:Option Nat->Option Nat->Bool
 |none,none=>true
 |some a,some b=>B5 a b
 |_,_=>false
def entEq (x y:Ent):Bool:=beqD 4 x.1 y.1&&(beqD 4 x.2.1 y.2.1&&B5 x.2.2 y.2.2)
def Blk.beq:Blk->Blk->Bool
 |.cells cs t x ro,.cells cs' t' x' ro'=>B5 t t'&&(oeq x x'&&((ro==ro')&&vN (beqD 4) cs cs'))
 |.map es c,.map es' c'=>B5 c c'&&vN entEq es es'
 |.win a,.win b=>vN (beqD 4) a b
 |.know a,.know b=>B5 a b
 |_,_=>false
def restX (s:St)(D:List Nat):T Blk:=I4 .lf (λk _ ih=>ih.set (s.h.get k) fuelT k) D
def emptyS:St:={h:= .lf,n:=Ctx.n0,c:=0}
def quietX(f:FuncId)(args:List Operand)(rec:Rec)(e:E):Option V:=ob (evsX args e) λvs=>gd (allL (V.ok 0 0) vs) (ob (callF f rec vs emptyS) λq=>gd (q.1.ok 0 0) (some q.1))
def lookX (rec:Rec)(o:Op)(s0:St)(e:E):Option V:=oc (bLc o) (pureX o s0 e) λq=>quietX q.1 q.2 rec e
def lookL (rec:Rec)(N:Nat)(ops:Array Oper)(o:Oper)(h0:T Blk)(e:E)(s:St):Option (E×St):=ob (bBg ops o e) λw=>sel w (ob (lookX rec o.op {s with h:=h0} e) λv=>putX N o.dst v s e) (putX N o.dst undefV s e)
def xR (h0:T Blk)(D:List Nat)(s:St):Bool:=allL (λk=>oc (h0.get k) false λa=>oc (s.h.get k) false λb=>a.beq b) D
def bsX (o:Op)(e:E):Option (TypeId×Option Nat×List V):=match o with
 |.buildSlice t n parts=>ob (elemOf t) λq=>oc q.1 (ob (zeroX q.2.1) λz=>ob (partsX parts.toList e) λps=>
   gd (H8 (n*q.2.2) 16777216&&B5 z.cells.length q.2.2) (ob (bOq (λi=>some (i*q.2.2,q.2.2)) (rH n z.cells) ps) λcs=>gd (allL V.one cs) (some (q.2.1,some n,cs)))) λ_=>none
 |.alloc t=>ob (zeroX t) λz=>gd (allL V.one z.cells) (some (t,none,z.cells))
 |.box t x=>ob (evX x e) λv=>gd (allL V.one v.cells) (some (t,none,v.cells))
 |_=>none
def bKm (k:Nat)(n:Option Nat):V:=oc n (.p k 0) λn=> .l k 0 n (.n n)
def sameBs(b b':TypeId×Option Nat×List V):Bool:=B5 b.1 b'.1&&(oeq b.2.1 b'.2.1&&vN (beqD 4) b.2.2 b'.2.2)
def pairX (rec:Rec)(N:Nat)(ops:Array Oper)(D:List Nat)(h0:T Blk)(j l:Nat)(e:E)(s:St):Option (E×St):=ob (nthL ops.toList j) λoj=>ob (nthL ops.toList l) λol=>ob (bsX ol.op e) λb=>ob (bBc rec N ops oj e s) λq=>gd (xR h0 D q.2)
 (ob (bsX ol.op q.1) λb'=>gd (sameBs b b') (ob (bBc rec N ops ol q.1 q.2) λr=>gd (xR h0 D r.2) (some r)))
def zC (rec:Rec)(N:Nat)(ops:Array Oper)(D:List Nat)(h0:T Blk)(l:List (Bool×Nat))(e:E)(s:St):Option (E×St):=I4 (motive:=λ_=>E->St->Option (E×St)) (λe s=>some (e,s))
 (λx _ ih e s=>sel x.1 (ob (nthL ops.toList x.2) λo=>ob (lookL rec N ops o h0 e s) λq=>ih q.1 q.2) (sel (C0 x.2 4096) (ob (nthL ops.toList x.2) λo=>ob (bBc rec N ops o e s) λq=>gd (xR h0 D q.2) (ih q.1 q.2))<| sel (H8 yX x.2) (ob (nthL ops.toList (pW x.2)) λo=>ob (bBc rec N ops o e s) λq=>gd (xR h0 D q.2) (ih q.1 q.2))
  (ob (pairX rec N ops D h0 (H5 x.2 4096) (Nat.pred (H6 x.2 4096)) e s) λq=>ih q.1 q.2))) l e s
def lastR (rec:Rec)(N:Nat)(ops:Array Oper)(l:List Nat)(e:E)(s:St):Option (E×St):=I4 (motive:=λ_=>E->St->Option (E×St)) (λe s=>some (e,s)) (λk _ ih e s=>ob (nthL ops.toList k) λo=>ob (bBc rec N ops o e s) λq=>ih q.1 q.2) l e s
def drawX (rec:Rec)(N:Nat)(ops:Array Oper)(od:List (Bool×Nat))(l:List Nat)(D:List Nat)(e:E)(s:St):Option (E×St):=ob (zC rec N ops D (restX s D) od e s) λq=>lastR rec N ops l q.1 q.2
def regX (rec:Rec)(f N id:Nat)(ops:Array Oper)(draw:Bool)(e:E)(s:St):Option (E×St):=sel draw
 (ob (Ctx.plan f id) λq=>drawX rec N ops q.1 q.2 (bSb N s ops q.1 e) e s)
 (opsX rec N ops ops.toList e s)
def yK (ops:Array Oper)(l:Nat):List (Bool×Nat)->Bool
 |[]=>false
 |(true,k)::r=>oc ops[l]? false (λol=>oc ops[k]? false λo=>ol.apart ops o)&&yK ops l r
 |(false,k)::_=>B5 k l
def gT (ops:Array Oper):List (Bool×Nat)->Bool
 |[]=>true
 |(true,_)::r=>gT ops r
 |(false,k)::r=>if k<4096 then gT ops r else if yX<=k then (bUx ops (pW k) (sN k)&&yK ops (sN k) r)&&gT ops r else bEn ops (k%4096) (k/4096-1)&&gT ops r
def xX:List (Bool×Nat)->Option Nat->Nat
 |[],_=>0
 |(true,_)::r,p=>xX r p+1
 |(false,k)::r,p=>if p=some k then xX r none else if k<4096 then xX r p+1 else if yX<=k then xX r p+1 else xX r p+2
def waitsT(md:Region.Mode)(ops:Array Oper)(ls:List Nat)(k:Nat):Bool:=match ls with
 |[]=>true
 |l::_=>waits md ops l k
def iM (md:Region.Mode)(ops:Array Oper)(ls:List Nat):List (Bool×Nat)->Option Nat->Array Bool->Bool
 |[],p,listed=>p.isNone&&bTu md ops ls listed
 |(true,k)::r,p,listed=>(E3 md ops listed).contains k&&(Region.free md ops listed k&&(waitsT md ops ls k&&iM md ops ls r p (listed.setIfInBounds k true)))
 |(false,k)::r,p,listed=>if p=some k then iM md ops ls r none listed else if k<4096 then (E3 md ops listed==[k])&&iM md ops ls r p (listed.setIfInBounds k true)
   else if yX<=k then earlyB md ops (pW k) (sN k) listed&&(yK ops (sN k) r&&(p.isNone&&(iM md ops ls r none (listed.setIfInBounds (pW k) true)&&iM md ops ls r (some (sN k)) ((listed.setIfInBounds (sN k) true).setIfInBounds (pW k) true))))
   else pairB md ops (k%4096) (k/4096-1) listed&&iM md ops ls r p ((listed.setIfInBounds (k%4096) true).setIfInBounds (k/4096-1) true)
def yG (ls:List Nat)(od:List (Bool×Nat))(ops:Array Oper):Bool:=E5 ops&&(B5 (xX od none+ls.length) ops.size&&iM .any ops ls od none (A8 ops.size false))
def seqX (rec:Rec)(f N:Nat)(c:Code)(q:Ex×E×St):Res:=match q.1 with
 |.nm=>rec f N c q.2.1 q.2.2
 |_=>some q
def blockX(id:Nat)(q:Ex×E×St):Res:=match q.1 with
 |.ex i=>some (sel (B5 i id) (.nm,q.2) q)
 |_=>some q
def nmX (q:E×St):Res:=some (.nm,q)
def planOk(ops:Array Oper)(q:Plan):Bool:=yG q.2 q.1 ops
def mC (f:FuncId):Code->Bool
 |.region id ops draw=>!draw || oc (Ctx.plan f id) true (planOk ops)
 |.seq a b=>mC f a&&mC f b
 |.cond _ a b=>mC f a&&mC f b
 |.block _ a=>mC f a
 |.loop a=>mC f a
 |.scope a=>mC f a
 |_=>true
def stepX (rec:Rec)(f N:Nat)(c:Code):E->St->Res:=match c with
 |.skip=>λe s=>some (.nm,e,s)
 |.label _=>λe s=>some (.nm,e,s)
 |.exit id=>λe s=>some (.ex id,e,s)
 |.ret=>λe s=>some (.rt,e,s)
 |.region id ops draw=>λe s=>ob (regX rec f N id ops draw e s) nmX
 |.seq a b=>λe s=>ob (rec f N a e s) (seqX rec f N b)
 |.cond c a b=>λe s=>ob (evX c e) λv=>asB v λt=>sel t (rec f N a e s) (rec f N b e s)
 |.block id a=>λe s=>ob (rec f N a e s) (blockX id)
 |.loop a=>λe s=>ob (rec f N a e s) (seqX rec f N (.loop a))
 |.scope a=>rec f N a
 |_=>λ_ _=>none
def bDj (n:Nat):Rec:=H4 (λ_ _ _ _ _=>none) (λ_ r=>stepX r) n
end
end
end X
end
section
namespace X
open Go.RowKit
structure As where
 blk:Nat->Nat
 room:Nat->Nat
 place:Nat->Option Addr
def Cap.inst(α:As):Cap->Nat
 |.n c=>c
 |.s k d=>d+α.room k
def bR (x:List Nat):ByteArray:=⟨(x.map J0).toArray⟩
mutual
def V.inst(α:As)(v:V):Value:=match v with
 |.b x=> .bool x
 |.i k x=> .int k x
 |.s x=> .string (bR x)
 |.p0=> .pointer none
 |.p k o=> .pointer (some ⟨α.blk k,o,none⟩)
 |.l0=> .slice none 0 0
 |.l k o n c=> .slice (some ⟨α.blk k,o,none⟩) n (c.inst α)
 |.z k o o' c=> .slice (some ⟨α.blk k,if α.room c=0 then o else o',none⟩) 0 (α.room c)
 |.y c=> .slice (α.place c) 0 (α.room c)
 |.m0=> .map none
 |.m k=> .map (some (α.blk k))
 |.f fn x w=> .func fn (V.instL α x).toArray (V.instL α w).toArray
 |.f0=> .nilFunc
 |.e0=> .nilIface
 |.e q u=> .iface q (V.inst α u)
 |.g cs=> .agg (V.instL α cs).toArray
 |.t vs=> .tuple (V.instL α vs).toArray
def V.instL(α:As)(l:List V):List Value:=match l with
 |[]=>[]
 |v::r=>V.inst α v::V.instL α r
end
theorem V.instL_eq(α:As): ∀l:List V,V.instL α l=l.map (V.inst α)
 |[]=>rfl
 |v::r=>by simp[V.instL,V.instL_eq α r]
theorem oR(α:As)(cs:List V):(V.g cs).inst α= .agg (cs.map (V.inst α)).toArray:=by simp[V.inst,V.instL_eq]
theorem inst_t(α:As)(cs:List V):(V.t cs).inst α= .tuple (cs.map (V.inst α)).toArray:=by simp[V.inst,V.instL_eq]
theorem bNr(α:As)(fn:Fn)(x y:List V):(V.f fn x y).inst α= .func fn (x.map (V.inst α)).toArray (y.map (V.inst α)).toArray:=by simp[V.inst,V.instL_eq]
theorem wK(α:As):undefV.inst α=undef:=by simp[undefV,inst_t,undef]
structure mI (n c:Nat) (α β:As):Prop where
 blk: ∀k,k<n->α.blk k=β.blk k
 room: ∀k,k<c->α.room k=β.room k
 place: ∀k,k<c->α.place k=β.place k
theorem mI.refl(n c:Nat)(α:As):mI n c α α:=⟨λ_ _=>rfl,λ_ _=>rfl,λ_ _=>rfl⟩
theorem mI.trans{n c n' c':Nat}{α β γ:As}(h:mI n c α β)(k:mI n' c' β γ)(hn:n<=n')(hc:c<=c'):mI n c α γ:=
 ⟨λi a=>(h.blk i a).trans (k.blk i (B6 a hn)),λi a=>(h.room i a).trans (k.room i (B6 a hc)),λi a=>(h.place i a).trans (k.place i (B6 a hc))⟩
def V.Sc (n c:Nat)(v:V):Prop:= ∃d,okD n c d v=true
theorem iU(n c d:Nat)(v:V):okD n c (d+1) v=(match v with
 |.p k _=>C0 k n
 |.l k _ _ cp=>C0 k n&&cp.ok c
 |.m k=>C0 k n
 |.z k _ _ cp=>C0 k n&&C0 cp c
 |.y cp=>C0 cp c
 |.f _ x y=>allL (okD n c d) x&&allL (okD n c d) y
 |.e _ v=>okD n c d v
 |.g cs=>allL (okD n c d) cs
 |.t vs=>allL (okD n c d) vs
 |_=>true):=rfl
theorem cap_ext{n c:Nat}{α β:As}(h:mI n c α β){x:Cap}(hx:x.ok c=true):x.inst α=x.inst β:=by
 cases x with
 |n _=>rfl
 |s k d=>
  simp only[Cap.ok,H9]at hx;simp[Cap.inst,h.room k hx]
theorem okD_ext{n c:Nat}{α β:As}(h:mI n c α β): ∀(d:Nat) (v:V),okD n c d v=true->v.inst α=v.inst β:=by
 intro d
 induction d with
 |zero=>intro v a;cases a
 |succ d ih=>
  intro v a
  have hl: ∀l:List V,allL (okD n c d) l=true->l.map (V.inst α)=l.map (V.inst β):=λl hl=>by
   rw[oY,D6]at hl;exact I6 λx hx=>ih x (hl x hx)
  rw[iU]at a;cases v<;>simp only[G1,H9]at a<;>try rfl
  case p k o=>simp[V.inst,h.blk k a]
  case l k o m cp=>simp[V.inst,h.blk k a.1,cap_ext h a.2]
  case z k o o' cp=>simp[V.inst,h.blk k a.1,h.room cp a.2]
  case y cp=>simp[V.inst,h.room cp a,h.place cp a]
  case m k=>simp[V.inst,h.blk k a]
  case f fn x y=>simp[bNr,hl x a.1,hl y a.2]
  case e t v=>simp[V.inst,ih v a]
  case g cs=>simp[oR,hl cs a]
  case t cs=>simp[inst_t,hl cs a]
theorem V.Sc.ext{n c:Nat}{α β:As}{v:V}(h:v.Sc n c)(hs:mI n c α β):v.inst α=v.inst β:=h.elim λd hd=>okD_ext hs d v hd
theorem okD_mono{n c n' c':Nat}(hn:n<=n')(hc:c<=c'): ∀(d:Nat) (v:V),okD n c d v=true->okD n' c' d v=true:=by
 intro d
 induction d with
 |zero=>intro v a;cases a
 |succ d ih=>
  intro v a
  have hl: ∀l:List V,allL (okD n c d) l=true->allL (okD n' c' d) l=true:=λl hl=>by
   rw[oY,D6]at*;exact λx hx=>ih x (hl x hx)
  rw[iU]at a⊢;cases v<;>simp only[G1,H9]at a⊢ <;>try omega
  case l k o m cp=>
   refine⟨k9,?_⟩
   cases cp with
   |n _=>rfl
   |s j d=>have:=a.2;simp only[Cap.ok,H9]at this⊢;omega
  case f fn x y=>exact⟨hl x a.1,hl y a.2⟩
  case e t v=>exact ih v a
  case g cs=>exact hl cs a
  case t cs=>exact hl cs a
theorem V.Sc.mono{n c n' c':Nat}{v:V}(h:v.Sc n c)(hn:n<=n')(hc:c<=c'):v.Sc n' c':=h.elim λd hd=>⟨d,okD_mono hn hc d v hd⟩
theorem V.Sc.of{n c:Nat}{v:V}(h:v.ok n c=true):v.Sc n c:=⟨5,h⟩
theorem V.Sc.cells{n c:Nat}{v:V}(h:v.Sc n c): ∀x∈v.cells,x.Sc n c:=λx hx=>by
 obtain⟨d,hd⟩:=h;cases v
 case g cs=>
  cases d with
  |zero=>cases hd
  |succ d=>
   rw[iU]at hd;simp only[oY,D6]at hd;exact⟨d,hd x hx⟩
 all_goals
  have:x=_:=List.mem_singleton.1 hx;rw[this];exact⟨d,hd⟩
theorem hJ(α:As)(v:V):(v.inst α).cells=(v.cells.map (V.inst α)).toArray:=by
 cases v<;>simp[V.cells,Value.cells,V.inst,V.instL_eq]
theorem one_inst(α:As){v:V}(h:v.one=true):(v.inst α).oneCell'=true:=by
 cases v<;>simp[V.one,V.inst,Value.oneCell']at h⊢
theorem byte_back(s:ByteArray):bR (s.data.toList.map I9)=s:=by
 have:(s.data.toList.map I9).map J0=s.data.toList:=by
  rw[List.map_map]
  conv=>rhs;rw[<-List.map_id s.data.toList]
  exact I6 λx _=>by simp
 unfold bR;rw[this]
theorem ofD_succ(d:Nat)(v:Value):ofD (d+1) v=(match v with
   |.bool x=>some (.b x)
   |.int k x=>some (.i k x)
   |.string s=>some (.s (s.data.toList.map I9))
   |.pointer none=>some .p0
   |.slice none 0 0=>some .l0
   |.map none=>some .m0
   |.func fn a c=>match a.toList,c.toList with
    |[],[]=>some (.f fn [] [])
    |_,_=>none
   |.nilFunc=>some .f0
   |.nilIface=>some .e0
   |.agg cs=>ob (mapZ undefV (ofD d) cs.toList) λl=>some (.g l)
   |.tuple cs=>match cs.toList with
    |[]=>some (.t [])
    |_=>none
   |_=>none):=rfl
theorem ofD_inst(α:As): ∀(d:Nat) (v:Value) (u:V),ofD d v=some u->u.inst α=v/\ ∀n c,okD n c d u=true:=by
 intro d
 induction d with
 |zero=>intro v u h;cases h
 |succ d ih=>
  intro v u h;rw[ofD_succ]at h;split at h
  .cases h;exact⟨rfl,λ_ _=>rfl⟩
  .cases h;exact⟨rfl,λ_ _=>rfl⟩
  .cases h;exact⟨by simp[V.inst,byte_back],λ_ _=>rfl⟩
  .cases h;exact⟨rfl,λ_ _=>rfl⟩
  .cases h;exact⟨rfl,λ_ _=>rfl⟩
  .cases h;exact⟨rfl,λ_ _=>rfl⟩
  .rename_i p a c;split at h
   .rename_i k e;cases h;refine⟨?_,λ_ _=>rfl⟩;have o:a= #[]:=by apply k7;simpa using k
    have g:c= #[]:=by apply k7;simpa using e
    subst o g;rfl
   .cases h
  .cases h;exact⟨rfl,λ_ _=>rfl⟩
  .cases h;exact⟨rfl,λ_ _=>rfl⟩
  .rename_i i;obtain⟨l,hl,h⟩:=bB h;cases h;have j:=bRx _ _ _ _ hl
   have key: ∀(b:List Value) (l:List V),b.map (ofD d)=l.map some->l.map (V.inst α)=b/\ ∀n c,l.all (okD n c d)=true:=by
    intro b
    induction b with
    |nil=>
     intro l h
     cases l with
     |nil=>exact⟨rfl,λ_ _=>rfl⟩
     |cons _ _=>cases h
    |cons x b ihx=>
     intro l h
     cases l with
     |nil=>cases h
     |cons y l=>
      simp only[I5,List.cons.injEq]at h;obtain⟨h1,f⟩:=ih x y h.1;obtain⟨m,h4⟩:=ihx l h.2;exact⟨by simp[h1,m],λn c=>by simp[f n c,h4 n c]⟩
   obtain⟨h1,f⟩:=key i.toList l j;refine⟨by simp[oR,h1],λn c=>?_⟩;rw[iU];simp only[oY,f]
  .rename_i i;split at h
   .rename_i e;cases h;have g:i= #[]:=by apply k7;simpa using e
    subst g;exact⟨by simp[inst_t],λ_ _=>rfl⟩
   .cases h
  .cases h
theorem vF{α:As}{v:Value}{u:V}(h:ofV v=some u):u.inst α=v:=(ofD_inst α _ v u h).1
theorem ofV_sc{v:Value}{u:V}(h:ofV v=some u)(n c:Nat):u.Sc n c:=⟨_,(ofD_inst ⟨λ_=>0,λ_=>0,λ_=>none⟩ _ v u h).2 n c⟩
section
variable {β : Type} {x : β} {v : V}
theorem bPs{f:Bool->Option β}(h:asB v f=some x): ∃t,v= .b t/\f t=some x:=by cases v<;>first|exact⟨_,rfl,h⟩|cases h
theorem lG{f:IntKind->Int->Option β}(h:asI v f=some x): ∃k n,v= .i k n/\f k n=some x:=by cases v<;>first|exact⟨_,_,rfl,h⟩|cases h
theorem tB{f:Nat->Option β}(h:asN v f=some x): ∃k n,v= .i k (.ofNat n)/\f n=some x:=by
 cases v
 case i k n=>
  cases n
  .exact⟨_,_,rfl,h⟩
  .cases h
 all_goals cases h
theorem pH{f:Nat->Nat->Option β}(h:asP v f=some x): ∃k o,v= .p k o/\f k o=some x:=by cases v<;>first|exact⟨_,_,rfl,h⟩|cases h
theorem kD{f:List Nat->Option β}(h:asS v f=some x): ∃a,v= .s a/\f a=some x:=by cases v<;>first|exact⟨_,rfl,h⟩|cases h
theorem vB{f:List V->Option β}(h:asG v f=some x): ∃a,v= .g a/\f a=some x:=by cases v<;>first|exact⟨_,rfl,h⟩|cases h
theorem asT_some{f:List V->Option β}(h:asT v f=some x): ∃a,v= .t a/\f a=some x:=by cases v<;>first|exact⟨_,rfl,h⟩|cases h
theorem asM_some{f:Nat->Option β}(h:asM v f=some x): ∃k,v= .m k/\f k=some x:=by cases v<;>first|exact⟨_,rfl,h⟩|cases h
theorem asE_some{f:TypeId->V->Option β}(h:asE v f=some x): ∃t u,v= .e t u/\f t u=some x:=by cases v<;>first|exact⟨_,_,rfl,h⟩|cases h
theorem zP{y:Blk}{f:List V->TypeId->Option Nat->Bool->Option β}(h:asC y f=some x): ∃cs t ext ro,y= .cells cs t ext ro/\f cs t ext ro=some x:=by cases y<;>first|exact⟨_,_,_,_,rfl,h⟩|cases h
theorem xJ{y:Blk}{f:List Ent->Nat->Option β}(h:asMap y f=some x): ∃es c,y= .map es c/\f es c=some x:=by cases y<;>first|exact⟨_,_,rfl,h⟩|cases h
end
theorem bGk(a b:Int):ieq a b=(a==b):=by
 rw[G8];cases a<;>cases b<;>simp[ieq]<;>omega
theorem ilt_eq(a b:Int):ilt a b=decide (a<b):=by
 cases a with
 |ofNat x=>
  cases b with
  |ofNat y=>
   have:(J1 x<J1 y)↔x<y:=Int.ofNat_lt;simp only[ilt,this]
   cases h:C0 x y with
   |true=>simp[H9]at h;simp[h]
   |false=>
    have: ¬x<y:=λc=>by rw[<-H9,h]at c;cases c
    simp[this]
  |negSucc y=>simp[ilt];omega
 |negSucc x=>
  cases b with
  |ofNat y=>simp[ilt];omega
  |negSucc y=>
   have:(J2 x<J2 y)↔y<x:=k9
   simp only[ilt,this]
   cases h:C0 y x with
   |true=>simp[H9]at h;simp[h]
   |false=>
    have: ¬y<x:=λc=>by rw[<-H9,h]at c;cases c
    simp[this]
theorem bEv(k:IntKind)(x:Int):wrapF k x=k.wrap x:=by
 unfold wrapF
 cases x with
 |ofNat m=>
  show sel (C0 m (lim k)) (J1 m) (k.wrap (.ofNat m))=k.wrap (.ofNat m);rw[cF];split
  .rename_i h;rw[H9]at h;have h0:(0:Int)<=J1 m:=J3 m;have h1:(J1 m:Int)<(lim k:Nat):=Int.ofNat_lt.2 h;generalize J1 m=z at*;cases k<;>simp only[lim]at h1
   .exact(IntWalk.i8_in z k9).symm
   .exact(IntWalk.i16_in z k9).symm
   .exact(IntWalk.i32_in z k9).symm
   .exact(IntWalk.i64_in z k9).symm
   .exact(IntWalk.u8_in z k9).symm
   .exact(IntWalk.u16_in z k9).symm
   .exact(IntWalk.u32_in z k9).symm
   .exact(IntWalk.u64_in z k9).symm
  .rfl
 |negSucc m=>
  show sel (isI64 k) (sel (C0 m 9223372036854775808) (J2 m) (k.wrap (.negSucc m))) (k.wrap (.negSucc m))=k.wrap (.negSucc m);rw[cF,cF];split
  .split
   .rename_i a h;rw[H9]at h;cases k<;>simp[isI64]at a
    exact(IntWalk.i64_in _ k9).symm
   .rfl
  .rfl
end X
end
section
namespace X
open Go.RowKit
theorem bQq(x y:List Nat):seq x y=((bR x).toList==(bR y).toList):=by
 rw[ByteArray.toList_eq,ByteArray.toList_eq];show seq x y=(x.map J0==y.map J0)
 induction x generalizing y with
 |nil=>cases y<;>rfl
 |cons a x ih=>
  cases y with
  |nil=>rfl
  |cons b y=>
   have hb:B5 (a%256) (b%256)=(J0 a==J0 b):=by
    rw[G8,H7,beq_iff_eq,<-UInt8.toNat_inj];simp
   simp only[seq,ih,hb,I5,List.cons_beq_cons]
section
variable [Ctx]
def entI (α:As)(x:Ent):MapEntry:=⟨x.1.inst α,x.2.1.inst α,x.2.2⟩
def Blk.Is(α:As)(w:World)(r:Nat):Blk->Prop
 |.cells cs q none _=>w.heap[r]?=some (.cells (cs.map (V.inst α)).toArray q)
 |.cells cs q (some c) _=> ∃rest:List Value,rest.length=α.room c*Ctx.P.cellsOf q/\w.heap[r]?=some (.cells (cs.map (V.inst α)++rest).toArray q)
 |.map es clock=>w.heap[r]?=some (.map (es.map (entI α)).toArray clock)
 |.sit x pos=>w.heap[r]?=some (.stringIter (bR x) pos)
 |.mit m since seen last=>w.heap[r]?=some (.mapIter (m.map α.blk) since seen.toArray last)
 |.win cs=>r<w.heap.size/\ ∀i v,cs[i]?=some v->w.cell? ⟨r,i,none⟩=some (v.inst α)
 |.know n=> ∃o,w.heap[r]?=some o/\Ctx.G n o
def Blk.Sc(n c:Nat):Blk->Prop
 |.cells cs _ ext _=>(∀v∈cs,v.Sc n c/\v.one=true)/\ ∀k,ext=some k->k<c
 |.map es _=> ∀x∈es,x.1.Sc n c/\x.2.1.Sc n c
 |.sit _ _=>True
 |.mit m _ _ _=> ∀k,m=some k->k<n
 |.win cs=> ∀v∈cs,v.Sc n c/\v.one=true
 |.know _=>True
structure Sim (α:As) (s:St) (w:World):Prop where
 gl: ∀g k,Ctx.gl g=some k->k<s.n/\α.blk k=g
 lt: ∀k x,s.h.get k=some x->k<s.n
 sc: ∀k x,s.h.get k=some x->x.Sc s.n s.c
 is: ∀k x,s.h.get k=some x->x.Is α w (α.blk k)
 ne: ∀k k' x x',s.h.get k=some x->s.h.get k'=some x'->α.blk k=α.blk k'->k=k'
structure EOk (α:As) (s:St) (N:Nat) (e:E) (a:Act):Prop where
 defers:a.defers=[]
 size:N<=a.tmps.size
 get: ∀i v,e.get i=some v->v.Sc s.n s.c/\a.tmps[i]?=some (v.inst α)
section
variable {α : As} {s : St} {w : World} {N : Nat} {e : E} {a : Act}
theorem Sim.cells(h:Sim α s w){k:Nat}{cs:List V}{t:TypeId}{ext:Option Nat}{ro:Bool}(hk:s.h.get k=some (.cells cs t ext ro)): ∃rest:List Value,w.heap[α.blk k]?=some (.cells (cs.map (V.inst α)++rest).toArray t)/\(ext=none->rest=[]):=by
 have:=h.is k _ hk
 cases ext with
 |none=>exact⟨[],by simpa[Blk.Is]using this,λ_=>rfl⟩
 |some c=>
  obtain⟨rest,_,hr⟩:=this;exact⟨rest,hr,λh=>by cases h⟩
theorem Sim.cell_of(h:Sim α s w){k:Nat}{cs:List V}{t:TypeId}{ext:Option Nat}{ro:Bool}(hk:s.h.get k=some (.cells cs t ext ro)){i:Nat}{v:V}(hi:cs[i]?=some v):w.cell? ⟨α.blk k,i,none⟩=some (v.inst α):=by
 obtain⟨rest,hr,_⟩:=h.cells hk;have hlt:i<cs.length:=(D9.1 hi).1;unfold World.cell?;have a:cs[i]=v:=(D9.1 hi).2;simp only[hr];simp[List.getElem?_append_left,hlt,a]
theorem Sim.row_sc(h:Sim α s w){k:Nat}{x:Blk}{cs:List V}(hk:s.h.get k=some x)(hx:x.row=some cs): ∀v∈cs,v.Sc s.n s.c/\v.one=true:=by
 have b:=h.sc k x hk
 cases x with
 |cells cs' t ext ro=>
  cases hx;exact b.1
 |win cs'=>
  cases hx;exact b
 |know n=>
  obtain⟨o,_,e⟩:=h.is k _ hk;obtain⟨h1,C,t,z,_,f⟩:=Ctx.kwOk n cs o hx e;intro v a;obtain⟨i,d⟩:=List.mem_iff_getElem?.1 a;obtain⟨u,_,hu⟩:=f i v d;exact⟨ofV_sc hu _ _,h1 v a⟩
 |_=>cases hx
theorem Sim.cell(h:Sim α s w){k:Nat}{x:Blk}{cs:List V}(hk:s.h.get k=some x)(hx:x.row=some cs){i:Nat}{v:V}(hi:cs[i]?=some v):w.cell? ⟨α.blk k,i,none⟩=some (v.inst α):=by
 cases x with
 |win cs'=>
  cases hx;exact(h.is k _ hk).2 i v hi
 |cells cs' t ext ro=>
  cases hx;exact h.cell_of hk hi
 |know n=>
  obtain⟨o,ho,b⟩:=h.is k _ hk;obtain⟨_,C,t,z,rfl,c⟩:=Ctx.kwOk n cs o hx b;obtain⟨u,hu,a⟩:=c i v hi;unfold World.cell?;simp only[ho,hu,vF a];rfl
 |_=>cases hx
theorem bT(hs:Sim α s w)(he:EOk α s N e a){x:Operand}{v:V}(h:evX x e=some v):a.eval x=v.inst α/\v.Sc s.n s.c:=by
 cases x with
 |tmp t=>
  obtain⟨h1,b⟩:=he.get t v h;exact⟨by simp[Act.eval,Array.getD_eq_getD_getElem?,b],h1⟩
 |const u=>
  have h:ofV u=some v:=h;exact⟨(vF h).symm,ofV_sc h _ _⟩
 |global g=>
  obtain⟨k,d,h⟩:=bB (show ob (Ctx.gl g) (λk=>some (V.p k 0))=some v from h);cases h;obtain⟨h1,b⟩:=hs.gl g k d;exact⟨by simp[Act.eval,V.inst,b],⟨1,by rw[iU];simpa using h1⟩⟩
 |func f=>
  have h:some (V.f (.func f) [] [])=some v:=h;cases h;exact⟨by simp[Act.eval,bNr],⟨1,by rw[iU];rfl⟩⟩
theorem bAi(hs:Sim α s w)(he:EOk α s N e a){l:List Operand}{vs:List V}(h:evsX l e=some vs):l.map a.eval=vs.map (V.inst α)/\ ∀v∈vs,v.Sc s.n s.c:=by
 have b:=bGl _ _ _ h;clear h
 induction l generalizing vs with
 |nil=>
  cases vs with
  |nil=>exact⟨rfl,λ_ h=>by cases h⟩
  |cons _ _=>cases b
 |cons x l ih=>
  cases vs with
  |nil=>cases b
  |cons v vs=>
   simp only[I5,List.cons.injEq]at b;obtain⟨h1,f⟩:=bT hs he b.1;obtain⟨d,h4⟩:=ih b.2;refine⟨by simp[h1,d],λu hu=>?_⟩
   rcases List.mem_cons.1 hu with rfl|hu
   .exact f
   .exact h4 u hu
end
theorem jQ{t:TypeId}{n:Nat}(h:sizeX t=some n): ∃i,Ctx.P.info? t=some i/\i.size=n:=by
 obtain⟨i,a,h⟩:=bB h;cases h;exact⟨i,a,rfl⟩
theorem iD{t:TypeId}{n:Nat}(h:sizeX t=some n)(w:World):(sizeOf t).run Ctx.P w= .ok n w:=by
 obtain⟨i,a,rfl⟩:=jQ h;simp[sizeOf,typeInfo,a]
theorem bMn{t:TypeId}{n:Nat}(h:sizeX t=some n):Ctx.P.cellsOf t=n:=by
 obtain⟨i,a,rfl⟩:=jQ h;simp[Program.cellsOf,a]
theorem agg_run{t:TypeId}{x:Bool}(h:aggX t=some x)(w:World):(isAgg t).run Ctx.P w= .ok x w:=by
 obtain⟨d,hd,h⟩:=bB h;unfold isAgg;rw[E6,run_underlying hd,E8];cases d<;>cases h<;>rfl
theorem wide_run{t:TypeId}{x:Option Nat}(h:wideX t=some x)(w:World):(isAgg t).run Ctx.P w= .ok x.isSome w/\ ∀n,x=some n->(sizeOf t).run Ctx.P w= .ok n w:=by
 obtain⟨q,hq,h⟩:=bB h;rw[cF]at h
 cases q with
 |true=>
  simp only[if_true]at h;obtain⟨n,hn,h⟩:=bB h;cases h;exact⟨agg_run hq w,λm a=>by cases a;exact iD hn w⟩
 |false=>
  simp only[G0,if_false,Option.some.injEq]at h;subst h;exact⟨agg_run hq w,λm a=>by cases a⟩
theorem vR{t:TypeId}{z:V}(h:zeroX t=some z)(w:World)(α:As):(zeroValue t).run Ctx.P w= .ok (z.inst α) w:=by
 obtain⟨i,a,h⟩:=bB h;obtain⟨u,hu,h⟩:=bB h;simp[zeroValue,typeInfo,a,hu,vF h]
theorem vK{α:As}{t:TypeId}{cs:List V}{o:Nat}{v:V}(h:bFs t cs o=some v)(w:World):(part t (cs.map (V.inst α)).toArray o).run Ctx.P w= .ok (v.inst α) w:=by
 obtain⟨x,hx,h⟩:=bB h;obtain⟨h1,a⟩:=wide_run hx w;rw[rN]at h;unfold part;rw[E6,h1,E8]
 cases x with
 |none=>
  simp only[iJ]at h;simp[I7,h]
 |some n=>
  obtain⟨l,hl,h⟩:=bB h;cases h;obtain⟨e,_⟩:=mS _ _ _ _ hl;simp only[I1,if_true,E6,a n rfl,E8,E7,oR]
  congr 2
  apply k7;simp[I8,e,List.map_drop,List.map_take]
theorem bMy{α:As}{s:St}{w:World}(hs:Sim α s w){t:TypeId}{k o:Nat}{v:V}(h:loadX t k o s=some v):(loadVar t ⟨α.blk k,o,none⟩).run Ctx.P w= .ok (v.inst α) w:=by
 obtain⟨x,hx,h⟩:=bB h;obtain⟨p,a,h⟩:=bB h;obtain⟨y,g,h⟩:=bB h;obtain⟨h1,m⟩:=wide_run g w;rw[rN]at h;unfold loadVar;rw[E6,h1,E8]
 cases y with
 |none=>
  simp only[iJ]at h;simp[hs.cell hx a h]
 |some n=>
  obtain⟨l,hl,h⟩:=bB h;cases h;obtain⟨e,d⟩:=mS _ _ _ _ hl;have c:l.length=n:=by rw[e];simp;omega
  have f:=run_loadCells_list (P:=Ctx.P) w ⟨α.blk k,o,none⟩ (l.map (V.inst α)) (λj u b=>by
   rw[I7]at b
   cases hu:l[j]? with
   |none=>rw[hu]at b;cases b
   |some u'=>
    rw[hu]at b;cases b;rw[Addr.add_mid];have i:=(D9.1 hu).1;refine hs.cell hx a ?_;rw[e,List.getElem?_take,if_pos k9,List.getElem?_drop]at hu
    exact hu)
  rw[List.length_map,c]at f;simp only[I1,if_true,E6,m n rfl,E8,f,E7,oR]
theorem eq_run(α:As)(w:World): ∀(d:Nat) (t:TypeId) (u v:V) (x:Bool),eqX d t u v=some x-> ∀D,d<=D->(E9 D t (u.inst α) (v.inst α)).run Ctx.P w= .ok x w:=by
 intro d
 induction d with
 |zero=>intro t u v x h;cases h
 |succ d ih=>
  intro t u v x h D M
  obtain⟨D,rfl⟩: ∃D',D=D'+1:=⟨D-1,k9⟩
  have hd:d<=D:=k9
  have r: ∀(z:List Field) (l j:List V) (x:Bool),eqFs (eqX d) l j z=some x->(Op.eqFields D (l.map (V.inst α)).toArray (j.map (V.inst α)).toArray z).run Ctx.P w= .ok x w:=by
   intro z l j
   induction z with
   |nil=>intro x h;cases h;rfl
   |cons f z ihf=>
    intro x h;unfold eqFs at h;rw[cF]at h;unfold Op.eqFields
    by_cases y:(f.name== "_")=true
    .rw[if_pos y]at h;have: ¬f.name≠ "_" :=by simpa using y
     rw[if_neg this];exact ihf x h
    .rw[if_neg y]at h;have:f.name≠ "_" :=by simpa using y
     rw[if_pos this];obtain⟨p,A,h⟩:=bB h;obtain⟨q,hq,h⟩:=bB h;obtain⟨c,G,h⟩:=bB h;simp only[E6,vK A w,vK hq w,E8,ih _ _ _ _ G D hd];rw[cF]at h;cases c
     .simp at h;subst h;rfl
     .simp at h;simpa using ihf x h
  have s: ∀(g n:Nat) (l j:List V),Ctx.P.cellsOf g=n-> ∀(m i:Nat) (x:Bool),eqEs (eqX d g) g n l j m i=some x->(Op.eqItems D g (Ctx.P.cellsOf g) (l.map (V.inst α)).toArray (j.map (V.inst α)).toArray (List.range' i m)).run Ctx.P w= .ok x w:=by
   intro g n l j hn m
   induction m with
   |zero=>intro i x h;cases h;rfl
   |succ m ihm=>
    intro i x h;unfold eqEs at h;obtain⟨p,A,h⟩:=bB h;obtain⟨q,hq,h⟩:=bB h;obtain⟨c,G,h⟩:=bB h;rw[List.range'_succ];unfold Op.eqItems;rw[hn];simp only[E6,vK A w,vK hq w,E8,ih _ _ _ _ G D hd];rw[cF]at h;rw[hn]at ihm;cases c
    .simp at h;subst h;rfl
    .simp at h;simpa using ihm (i+1) x h
  cases a:Ctx.P.underlying t with
  |none=>simp only[eqX,a]at h;cases h
  |some ds=>
  cases ds with
  |bool=>
   simp only[eqX,a]at h;cases u<;>cases v<;>cases h
   exact run_equalIn_bool' w D t _ _ a
  |int k=>
   simp only[eqX,a]at h;cases u<;>cases v<;>try cases h
   obtain⟨B,h⟩:=bN h;cases h;rw[kJ B,bGk];exact run_equalIn_int w D t _ _ _ _ a
  |string=>
   simp only[eqX,a]at h;cases u<;>cases v<;>cases h
   rw[bQq];exact run_equalIn_string w D t _ _ a
  |pointer g=>
   simp only[eqX,a]at h;obtain⟨n,hn,h⟩:=bB h;obtain⟨hn0,h⟩:=bN h;have hn0:n≠0:=λe=>by subst e;cases hn0
   have E:=iD hn w;cases u<;>cases v<;>try cases h
   .simp[E9,run_underlying a,V.inst]
   .simp[E9,run_underlying a,V.inst]
   .simp[E9,run_underlying a,V.inst]
   .obtain⟨B,h⟩:=bN h;cases h;rw[H7]at B;subst B
    have L: ∀b o C:Nat,((⟨b,o,none⟩:Addr)==⟨b,C,none⟩)=B5 o C:=λb o C=>by
     rw[G8,H7,beq_iff_eq];simp
    simp[E9,run_underlying a,V.inst,E,hn0,sameAddr,L]
  |interface ms=>
   simp only[eqX,a]at h;cases u<;>cases v<;>cases h<;>simp[E9,run_underlying a,V.inst]
  |slice g=>
   simp only[eqX,a]at h;cases u<;>cases v<;>cases h<;>simp[E9,run_underlying a,V.inst]
  |map k g=>
   simp only[eqX,a]at h;cases u<;>cases v<;>cases h<;>simp[E9,run_underlying a,V.inst]
  |func ps rs vr=>
   simp only[eqX,a]at h;cases u<;>cases v<;>cases h
   all_goals
    unfold E9;rw[E6,run_underlying a,E8];rfl
  |struct z=>
   simp only[eqX,a]at h;obtain⟨l,rfl,h1⟩:=vB h;obtain⟨j,rfl,J⟩:=vB h1;obtain⟨A,I⟩:=bN J;have y:Ctx.P.fieldsOf t=z:=by simp[Program.fieldsOf,a]
   rw[oR,oR,run_equalIn_agg w D t _ _ (by rw[y];exact a) (by simpa using A),y];exact r _ _ _ _ I
  |array len g=>
   simp only[eqX,a]at h;obtain⟨l,rfl,h1⟩:=vB h;obtain⟨j,rfl,J⟩:=vB h1;obtain⟨n,hn,I⟩:=bB J;obtain⟨i,K,_⟩:=jQ hn;rw[oR,oR,run_equalIn_array w D _ _ a K,List.range_eq_range'];exact s g n l j (bMn hn) len 0 x I
  |_=>simp only[eqX,a]at h;cases h
end
end X
end
section
namespace X
open Go.RowKit
theorem binI_run{P:Program}{op:BinOp}{t:TypeId}{x y:Operand}{k k':IntKind}{p q:Int}{r:V}(h:binI op k p k' q=some r)(α:As)(w:World):
  ((do eqGuard op t x y (.int k p) (.int k' q);binOp op t (.int k p) (.int k' q):Sem Value)).run P w= .ok (r.inst α) w:=by
 have a: ∀op,(op= .shl\/op= .shr)->((do eqGuard op t x y (.int k p) (.int k' q);binOp op t (.int k p) (.int k' q):Sem Value)).run P w=(Op.shift op k p k' q).run P w:=λop ho=>by
  rcases ho with rfl|rfl<;>simp[eqGuard,binOp]
 by_cases hl:op= .shl
 .subst hl;have h:shlX k p q=some r:=h;rw[a _ (.inl rfl)]
  cases q with
  |ofNat n=>
   cases h;have: ¬((n:Int)<0):=k9
   simp[Op.shift,this,V.inst]
  |negSucc n=>cases h
 by_cases hr:op= .shr
 .subst hr;have h:shrX k p q=some r:=h;rw[a _ (.inr rfl)]
  cases q with
  |ofNat n=>
   cases h;have: ¬((n:Int)<0):=k9
   simp[Op.shift,this,V.inst]
  |negSucc n=>cases h
 have h0:gd (sameKind k k') (arithX op k p q)=some r:=by cases op<;>first|exact h|exact absurd rfl hl|exact absurd rfl hr
 clear h;obtain⟨c,h⟩:=bN h0;clear h0;have b:=kJ c;clear c;subst b
 have hz: ∀{z:V},gd (!ieq q 0) (some z)=some r->q≠0/\z=r:=λhz=>by
  obtain⟨h1,d⟩:=bN hz;cases d;rw[bGk]at h1;exact⟨by simpa using h1,rfl⟩
 cases op<;>first|exact absurd rfl hl|exact absurd rfl hr|skip
 case quo=>
  obtain⟨h0,e⟩:=hz h;subst e;simp[eqGuard,binOp,Op.intDiv,h0,V.inst,bEv]
 case rem=>
  obtain⟨h0,e⟩:=hz h;subst e;simp[eqGuard,binOp,Op.intDiv,h0,V.inst]
 case andNot=>cases h
 all_goals
  cases h;simp[eqGuard,binOp,Op.intArith,Op.intCmp,Op.intBits,V.inst,bEv,bGk,ilt_eq,bitX]<;>first|rfl|(rw[G8];simp;try omega)
theorem strX_run{P:Program}{op:BinOp}{t:TypeId}{x y:Operand}{p q:List Nat}{r:V}(h:strX op p q=some r)(α:As)(w:World):
  ((do eqGuard op t x y (.string (bR p)) (.string (bR q));binOp op t (.string (bR p)) (.string (bR q)):Sem Value)).run P w= .ok (r.inst α) w:=by
 cases op<;>try cases h
 case add=>
  obtain⟨h1,d⟩:=bN h;cases d;rw[H9]at h1;have b: ∀l:List Nat,(bR l).size=l.length:=λl=>by simp[bR,ByteArray.size]
  have c:bR p++bR q=bR (p++q):=by
   apply ByteArray.ext;apply k7;simp[bR]
  have a: ¬((((bR p).size+(bR q).size:Nat):Int)>IntKind.i64.max):=by
   rw[b,b];have:IntKind.i64.max=9223372036854775807:=by rfl
   rw[this];omega
  simp only[eqGuard,binOp,J4,if_neg a,V.inst,c];rfl
 case eql=>simp[eqGuard,binOp,J4,V.inst,bQq]
 case neq=>simp[eqGuard,binOp,J4,V.inst,bQq]
section
variable [Ctx] {α : As} {s : St} {w : World} {N : Nat} {e : E} {a : Act}
theorem guard_run{op:BinOp}{t:TypeId}{x y:Operand}{u v:V}(h:guardX t x y u v=true):(eqGuard op t x y (u.inst α) (v.inst α)).run Ctx.P w= .ok () w:=by
 have a: ∀op,op= .eql\/op= .neq->(eqGuard op t x y (u.inst α) (v.inst α)).run Ctx.P w= .ok () w:=λop ho=>by
  cases u
  case e0=>
   cases v
   case e0=>
    have h:(bLd x || bLd y)=true:=h;rw[G6]at h
    rcases h with h|h
    .cases x<;>first|exact G9 h|(rcases ho with rfl|rfl<;>simp[eqGuard,V.inst])
    .cases y<;>first|exact G9 h|(rcases ho with rfl|rfl<;>simp[eqGuard,V.inst])
   all_goals rcases ho with rfl|rfl<;>rfl
  case g cs=>
   cases v
   case g ds=>
    have h:(!Ctx.P.eqGuardType Ctx.P.depth t)=true:=h;simp only[Bool.not_eq_true']at h;rw[oR,oR];exact run_eqGuard_agg w op t x y _ _ h
   all_goals rcases ho with rfl|rfl<;>simp[eqGuard,V.inst]
  all_goals rcases ho with rfl|rfl<;>simp[eqGuard,V.inst]
 cases op<;>first|exact a _ (.inl rfl)|exact a _ (.inr rfl)|rfl
theorem bin_eq_run{op:BinOp}{t:TypeId}{x y:Operand}{u v r:V}(hi: ∀k z,u≠ .i k z)(hs: ∀z,u≠ .s z)(h:binE op t x y u v=some r):
  ((do eqGuard op t x y (u.inst α) (v.inst α);binOp op t (u.inst α) (v.inst α):Sem Value)).run Ctx.P w= .ok (r.inst α) w:=by
 have key: ∀c,eqOp t x y u v=some c->(eqGuard op t x y (u.inst α) (v.inst α)).run Ctx.P w= .ok () w/\(Op.equal t (u.inst α) (v.inst α)).run Ctx.P w= .ok c w:=λc a=>by
  obtain⟨h1,b⟩:=bN a;exact⟨guard_run h1,eq_run α w 12 t u v c b Op.maxDepth l5⟩
 cases op<;>try cases h
 case eql=>
  obtain⟨c,a,h⟩:=bB h;cases h;obtain⟨h1,b⟩:=key c a
  have hb:binOp .eql t (u.inst α) (v.inst α)=(do pure (.bool (<-Op.equal t (u.inst α) (v.inst α)))):=by
   cases u<;>first|rfl|exact absurd rfl (hi _ _)|exact absurd rfl (hs _)
  rw[E6,h1,E8,hb,E6,b];rfl
 case neq=>
  obtain⟨c,a,h⟩:=bB h;cases h;obtain⟨h1,b⟩:=key c a
  have hb:binOp .neq t (u.inst α) (v.inst α)=(do pure (.bool (!(<-Op.equal t (u.inst α) (v.inst α))))):=by
   cases u<;>first|rfl|exact absurd rfl (hi _ _)|exact absurd rfl (hs _)
  rw[E6,h1,E8,hb,E6,b];rfl
theorem bin_run{op:BinOp}{t:TypeId}{x y:Operand}{u v r:V}(h:binX op t x y u v=some r):
  ((do eqGuard op t x y (u.inst α) (v.inst α);binOp op t (u.inst α) (v.inst α):Sem Value)).run Ctx.P w= .ok (r.inst α) w:=by
 by_cases b: ∃k z,u= .i k z
 .obtain⟨k,z,rfl⟩:=b;obtain⟨d,c,e,h1⟩:=lG (show asI v (binI op k z)=some r from h);rw[e];exact binI_run h1 α w
 by_cases a: ∃z,u= .s z
 .obtain⟨z,rfl⟩:=a;obtain⟨c,e,h1⟩:=kD (show asS v (strX op z)=some r from h);rw[e];exact strX_run h1 α w
 have h:binE op t x y u v=some r:=by
  cases u<;>first|exact h|exact absurd ⟨_,_,rfl⟩ b|exact absurd ⟨_,rfl⟩ a
 exact bin_eq_run (λk z e=>b ⟨k,z,e⟩) (λz e=>a ⟨z,e⟩) h
end
end X
end
section
namespace X
open Go.RowKit
theorem lU(b o k:Nat):(⟨b,o,none⟩:Addr).add k=⟨b,o+k,none⟩:=Addr.add_mid _ _ _
theorem fH{a b:Nat}(h:H8 a b=true):a<=b:=Nat.le_of_ble_eq_true h
section
variable [Ctx] {α : As} {s : St} {w : World} {N : Nat} {e : E} {a : Act}
theorem kY{t el sz:Nat}(h:elemOf t=some (none,el,sz)):Ctx.P.underlying t=some (.slice el)/\sizeX el=some sz:=by
 obtain⟨d,hd,h1⟩:=bB h;cases d<;>try cases h1
 case slice el'=>
  obtain⟨n,hn,a⟩:=bB h1;cases a;exact⟨hd,hn⟩
 case array n el'=>
  obtain⟨n,hn,a⟩:=bB h1;cases a
theorem bCf{t n el sz:Nat}(h:elemOf t=some (some n,el,sz)):Ctx.P.underlying t=some (.array n el)/\sizeX el=some sz:=by
 obtain⟨d,hd,h1⟩:=bB h;cases d<;>try cases h1
 case slice el'=>
  obtain⟨n,hn,a⟩:=bB h1;cases a
 case array n el'=>
  obtain⟨n,hn,a⟩:=bB h1;cases a;exact⟨hd,hn⟩
theorem mX(hs:Sim α s w)(he:EOk α s N e a){x:Operand}{d n y:Nat}{c:BoundsCode}(h:kF (some x) d e=some n)(hn:n<=y):(J5 (a.eval x) y c).run Ctx.P w= .ok n w:=by
 obtain⟨v,b,h1⟩:=bB (show ob (evX x e) (λv=>asN v some)=some n from h);obtain⟨k,m,rfl,f⟩:=tB h1;cases f;have hx:=(bT hs he b).1
 have h0:(0:Int)<=J1 n/\J1 n<=(y:Int):=⟨J3 n,Int.ofNat_le.2 hn⟩
 rw[hx];simp only[V.inst,J5,asIntOf,E6,E7,E8,if_pos h0];rfl
theorem wX(hs:Sim α s w)(he:EOk α s N e a){lo hi:Option Operand}{q:Bool}{len cap l h:Nat}(hl:kF lo 0 e=some l)(hh:kF hi len e=some h)(h1:l<=h)(h2:h<=cap)(h3:hi=none->len<=cap):
  (J6 q len cap (lo.map a.eval) (hi.map a.eval) none).run Ctx.P w= .ok (l,h,cap) w:=by
 unfold J6
 cases hi with
 |none=>
  have:len=h:=Option.some.inj hh;subst this
  cases lo with
  |none=>
   have:0=l:=Option.some.inj hl;subst this;rfl
  |some x=>
   simp only[I2,I3,E6,E7,E8,mX hs he hl h1]
 |some y=>
  cases lo with
  |none=>
   have:0=l:=Option.some.inj hl;subst this;simp only[I2,I3,E6,E7,E8,mX hs he hh h2]
  |some x=>
   simp only[I2,E6,E7,E8,mX hs he hh h2,mX hs he hl h1]
theorem bJi(hs:Sim α s w)(he:EOk α s N e a){lo hi:Option Operand}{x:Operand}{q:Bool}{len cap l h m:Nat}(hl:kF lo 0 e=some l)(hh:kF hi len e=some h)(hm:kF (some x) 0 e=some m)(h0:hi≠none)(h1:l<=h)(h2:h<=m)(h3:m<=cap):
  (J6 q len cap (lo.map a.eval) (hi.map a.eval) (some (a.eval x))).run Ctx.P w= .ok (l,h,m) w:=by
 unfold J6
 cases hi with
 |none=>exact absurd rfl h0
 |some y=>
  cases lo with
  |none=>
   have:0=l:=Option.some.inj hl;subst this;simp only[I2,I3,E6,E7,E8,mX hs he hm h3,mX hs he hh h2]
  |some z=>
   simp only[I2,E6,E7,E8,mX hs he hm h3,mX hs he hh h2,mX hs he hl h1]
omit [Ctx]in
theorem bDx(c:Cap)(α:As):c.least<=c.inst α:=by cases c<;>simp[Cap.least,Cap.inst]
theorem slice_run(hs:Sim α s w)(he:EOk α s N e a){t:TypeId}{u r:V}{lo hi mx:Option Operand}(h:sliceX t u lo hi mx e=some r):(J7 t (u.inst α) (lo.map a.eval) (hi.map a.eval) (mx.map a.eval)).run Ctx.P w= .ok (r.inst α) w:=by
 unfold sliceX at h;rw[cF]at h;split at h
 .rename_i C;obtain⟨x,rfl,h1⟩:=kD h;obtain⟨l,hl,v⟩:=bB h1;obtain⟨m,g,i⟩:=bB v
  cases mx with
  |some _=>cases i
  |none=>
   obtain⟨hb,h4⟩:=bN (show gd _ _=some r from i);cases h4;rw[G1]at hb
   have hu:Ctx.P.underlying t=some .string:=by
    unfold isStr at C;split at C
    .assumption
    .cases C
   have f:(bR x).size=x.length:=by simp[bR,ByteArray.size]
   have b:=wX hs he (q:=false) (cap:=x.length) hl g (fH hb.1) (fH hb.2) (λ_=>B8 _);unfold J7;rw[E6,run_underlying hu,E8];unfold Instr.slice;rw[E6,run_underlying hu,E8];simp only[V.inst,I3,Option.isSome_none,G0,if_false,f,E6,E7,b,E8]
   congr 2
   apply ByteArray.ext;apply k7;simp[bR,ByteArray.data_extract,I8,List.map_take,List.map_drop]
 .obtain⟨⟨n,O,sz⟩,hq,h1⟩:=bB h;have h1:sliceV n sz u lo hi mx e=some r:=h1
  cases n with
  |none=>
   obtain⟨hu,f⟩:=kY hq;unfold J7;rw[E6,run_underlying hu,E8];unfold Instr.slice;rw[E6,run_underlying hu,E8]
   cases u with
   |l0=>
    obtain⟨l,hl,v⟩:=bB (show ob (kF lo 0 e) _=some r from h1);obtain⟨m,g,i⟩:=bB v;obtain⟨x,hx,h4⟩:=bB i;obtain⟨hb,K⟩:=bN h4;cases K;simp only[G1,H7]at hb;obtain⟨J,rfl,rfl,rfl⟩:=hb
    cases mx with
    |none=>
     have b:=wX hs he (q:=true) (cap:=0) hl g (B8 _) (B8 _) (λ_=>B8 _);simp only[V.inst,I3,E6,E7,b,E8,iD f];rfl
    |some y=>
     have h0:hi≠none:=λh0=>by subst h0;cases J
     .have b:=bJi hs he (q:=true) (cap:=0) hl g hx h0 (B8 _) (B8 _) (B8 _);simp only[V.inst,I2,E6,E7,b,E8,iD f];rfl
   |l k o m c=>
    obtain⟨l,hl,v⟩:=bB (show ob (kF lo 0 e) _=some r from h1);obtain⟨B,g,i⟩:=bB v
    cases mx with
    |none=>
     obtain⟨hb,h4⟩:=bN (show gd _ _=some r from i);rw[G1]at hb;have j:=fH hb.1;have A:=fH hb.2
     have b:=wX hs he (q:=true) (cap:=c.inst α) hl g j (Nat.le_trans A (bDx c α)) (λh0=>by
      subst h0;have:m=B:=Option.some.inj g;have:=bDx c α
      omega)
     simp only[V.inst,I3,E6,E7,b,E8,iD f,I2,lU]
     cases c with
     |n cc=>
      cases h4;simp only[V.inst,Cap.inst,cF,H7]
      by_cases q:cc=l
      .simp[q]
      .simp[q]
     |s cn d=>
      have h4:sel (B5 l 0) (some (V.l k o B (.s cn d))) (sel (C0 l d) (some (.l k (o+l*sz) (B-l) (.s cn (d-l)))) (some (.z k o (o+l*sz) cn)))=some r:=h4;rw[cF,cF]at h4;simp only[Cap.least]at A;simp only[H7,H9]at h4
      by_cases h0:l=0
      .rw[if_pos h0]at h4;cases h4;subst h0;simp[V.inst,Cap.inst]
      .rw[if_neg h0]at h4
       by_cases hd:l<d
       .rw[if_pos hd]at h4;cases h4;have D: ¬(d+α.room cn=l):=k9
        simp only[V.inst,Cap.inst];simp only[D,if_false];rw[show d+α.room cn-l=d-l+α.room cn from by omega]
       .rw[if_neg hd]at h4;cases h4;have M:B-l=0:=k9
        have L:d+α.room cn-l=α.room cn:=k9
        simp only[V.inst,Cap.inst,M,L]
        by_cases hr:α.room cn=0
        .have I:d=l:=k9
         simp[hr,I]
        .have: ¬(d+α.room cn=l):=k9
         simp[hr,this]
    |some y=>
     obtain⟨x,hx,h4⟩:=bB (show ob (kF (some y) 0 e) _=some r from i);obtain⟨hb,K⟩:=bN h4;cases K;simp only[G1]at hb;have j:=fH hb.2.1;have G:=fH hb.2.2.1;have E:=fH hb.2.2.2;have h0:hi≠none:=λh0=>by subst h0;cases hb.1
     .have b:=bJi hs he (q:=true) (cap:=c.inst α) hl g hx h0 j G (Nat.le_trans E (bDx c α));simp only[V.inst,I2,E6,E7,b,E8,iD f,lU];simp only[cF,H7,Cap.inst]
      by_cases q:x=l
      .simp[q]
      .simp[q]
   |_=>cases h1
  |some n=>
   obtain⟨hu,f⟩:=bCf hq
   cases u with
   |p k o=>
    obtain⟨l,hl,v⟩:=bB (show ob (kF lo 0 e) _=some r from h1);obtain⟨B,g,i⟩:=bB v
    cases mx with
    |some _=>cases i
    |none=>
     obtain⟨hb,h4⟩:=bN (show gd _ _=some r from i);cases h4;rw[G1]at hb;have b:=wX hs he (q:=false) (cap:=n) hl g (fH hb.1) (fH hb.2) (λ_=>B8 _);unfold J7;rw[E6,run_underlying hu,E8];simp only[V.inst,Instr.sureAddr,I3,E6,E7,b,E8,iD f,lU,cF,H7,Cap.inst]
     by_cases q:n=l
     .simp[q]
     .simp[q]
   |_=>cases h1
end
end X
end
end Go.Proofs.YtnfiadlonjediaaGreatDoor
