/- Texts of one proof, one behind the other: MixL, RunT, RunF, RunG, RunS, RunP, RunQ, RunU. -/
import Derived.Test.YtnfiadlonjediaaGreatDoorM1
import Derived.IntWalk
import Derived.ChangeKeysEq
import Derived.Laws.StructEq
import Derived.Laws.Cells
namespace Go.Proofs.YtnfiadlonjediaaGreatDoor
section
open Go.RowKit
section
variable {P : Program} {ops : Array Oper} {md : Region.Mode} {C : World -> Prop} {R : Array Bool -> Act -> World -> Prop}
def bMz (P:Program)(md:Region.Mode)(ops:Array Oper)(C:World->Prop)(R:Array Bool->Act->World->Prop):Nat->Array Bool->Act->World->Prop
 |0,listed,a,w=>C w/\R listed a w
 |fuel+1,listed,a,w=>C w/\Region.ready md ops listed≠[]/\ ∀i∈Region.ready md ops listed,fOp P ops i (bMz P md ops C R fuel (listed.setIfInBounds i true)) a w
theorem vN{Q:Exit->Act->World->Prop}(hR: ∀listed a w,R listed a w->wpAny P md ops Q 1 listed a w): ∀(fuel:Nat) (listed:Array Bool) (a:Act) (w:World),bMz P md ops C R fuel listed a w->wpAny P md ops Q (fuel+1) listed a w
 |0,_,_,_,h=>hR _ _ _ h.2
 |fuel+1,listed,a,w,h=>by
  refine⟨λe=>absurd e h.2.1,λi hi=>?_⟩;have hf:=h.2.2 i hi;unfold wpOp;split
  .rename_i ho;obtain⟨_,oi,hoi,_⟩:=mem_ready.1 hi;rw[ho]at hoi;cases hoi
  .rename_i o ho;have h1:=wpNm (hf o ho);split
   .rename_i hw;simp only[hw,if_true]at h1;exact .inl (nQ rfl (λu w' h'=>vN hR fuel _ _ _ h') (λd w' h'=>vN hR fuel _ _ _ h') h1)
   .rename_i hw;simp only[hw]at h1;exact vN hR fuel _ _ _ h1
def depsIn(md:Region.Mode)(ops:Array Oper)(listed:Array Bool)(l:Nat):Prop:= ∀o,ops[l]?=some o-> ∀e∈o.after,Region.binds md e=true->listed.getD e.on false=true
def mV (md:Region.Mode)(ops:Array Oper)(listed:Array Bool):Prop:= ∀j,listed.getD j false=true->depsIn md ops listed j
def waitsN(md:Region.Mode)(ops:Array Oper):Nat->Nat->Nat->Bool
 |0,_,_=>false
 |n+1,l,i=>match ops[l]? with
  |some o=>o.after.any λe=>Region.binds md e&&(e.on==i || waitsN md ops n e.on i)
  |none=>false
def waits (md:Region.Mode)(ops:Array Oper)(l i:Nat):Bool:=waitsN md ops 4 l i
theorem bQq{listed:Array Bool}(hc:mV md ops listed): ∀(n l i:Nat),waitsN md ops n l i=true->depsIn md ops listed l->listed.getD i false=true
 |0,_,_,h,_=>by cases h
 |n+1,l,i,h,hd=>by
  unfold waitsN at h
  cases ho:ops[l]? with
  |none=>rw[ho]at h;cases h
  |some o=>
   rw[ho]at h;obtain⟨e,he,hb⟩:=Array.any_eq_true'.1 h;rw[Bool.and_eq_true,Bool.or_eq_true]at hb;have h1:=hd o ho e he hb.1
   rcases hb.2 with h2|h2
   .have h2:e.on=i:=by simpa using h2
    rw[<-h2];exact h1
   .exact bQq hc n e.on i h2 (hc _ h1)
theorem bNd{listed:Array Bool}{l:Nat}(h:l∈Region.ready md ops listed):depsIn md ops listed l:=λo ho e he hb=>by
 obtain⟨_,o',ho',hall⟩:=mem_ready.1 h;have:o=o':=Option.some.inj (ho.symm.trans ho');subst this;exact hall e he hb
theorem bQn{l i:Nat}{listed:Array Bool}(hc:mV md ops listed)(h:waits md ops l i=true)(hi:listed.getD i false≠true):l∉Region.ready md ops listed:=λhl=>hi (bQq hc 4 l i h (bNd hl))
theorem getD_set{listed:Array Bool}{j k:Nat}(h:listed.getD k false=true):(listed.setIfInBounds j true).getD k false=true:=by
 by_cases e:j=k
 .subst e
  rcases Nat.lt_or_ge j listed.size with h'|h'
  .simp[h']
  .simp[Array.getElem?_eq_none h']at h
 .rw[getD_set_ne false e];exact h
theorem mV.set{listed:Array Bool}(hc:mV md ops listed){j:Nat}(hj:j∈Region.ready md ops listed):mV md ops (listed.setIfInBounds j true):=λk hk o ho e he hb=>by
 by_cases e':j=k
 .subst e';exact getD_set (bNd hj o ho e he hb)
 .rw[getD_set_ne false e']at hk;exact getD_set (hc k hk o ho e he hb)
theorem mV.none{n:Nat}:mV md ops (Array.replicate n false):=λj hj=>by
 simp at hj
 rcases Nat.lt_or_ge j n with h|h<;>simp[h]at hj
theorem wpAnyR_first{i l:Nat}{oi:Oper}{v:Value}(hi:ops[i]?=some oi)(hw:waits md ops l i=true)(hsel: ∀(j:Nat) (o:Oper) cs b,ops[j]?=some o->o.op≠ .select cs b)(hR: ∀listed a w,R listed a w->Region.ready md ops listed=[l]):
  ∀(fuel:Nat) (listed:Array Bool) (a:Act) (w:World),mV md ops listed->
   (∀j oj,ops[j]?=some oj->j≠i->listed.getD j true=false->(∀e∈oj.after,Region.binds md e=true->e.on≠i)->oi.apart ops oj=true)->
   i∈Region.ready md ops listed->Fl P ops C oi v a->
   bMz P md ops C R fuel (listed.setIfInBounds i true) (a.put oi.dst v) w->bMz P md ops C R (fuel+1) listed a w:=by
 have hun: ∀{listed:Array Bool},i∈Region.ready md ops listed->listed.getD i false≠true:=λ{listed} hr e=>by
  have h0:=(mem_ready.1 hr).1
  rcases Nat.lt_or_ge i listed.size with h'|h'
  .simp[h']at h0 e;rw[h0]at e;cases e
  .simp[Array.getElem?_eq_none h']at e
 intro fuel
 induction fuel with
 |zero=>
  intro listed a w hc _ hr hy H;refine⟨H.1,λh=>r9,λj hj=>?_⟩
  by_cases hji:j=i
  .subst hji;exact hy.fOp hi H.1 H
  .have h1:=ready_mono hj hji;rw[hR _ _ _ H.2]at h1;have h2:j=l:=by simpa using h1
   subst h2;exact absurd hj (bQn hc hw (hun hr))
 |succ fuel ih=>
  intro listed a w hc hfree hr hy H;refine⟨H.1,λh=>r9,λj hj=>?_⟩
  by_cases hji:j=i
  .subst hji;exact hy.fOp hi H.1 H
  .have h1:=H.2.2 j (ready_mono hj hji);obtain⟨hjun,oj,hoj,hall⟩:=mem_ready.1 hj
   have hnot: ∀e∈oj.after,Region.binds md e=true->e.on≠i:=λe he hb heq=>by
    have h1:=hall e he hb;rw[heq]at h1;exact hun hr h1
   have h2:=fOp_put hoj (hfree j oj hoj hji hjun hnot) (λcs b=>hsel i oi cs b hi) (λcs b=>hsel j oj cs b hoj) hy h1;have hfree': ∀k ok,ops[k]?=some ok->k≠i->(listed.setIfInBounds j true).getD k true=false->
     (∀e∈ok.after,Region.binds md e=true->e.on≠i)->oi.apart ops ok=true:=λk ok hk hki hun hno=>by
    refine hfree k ok hk hki ?_ hno
    by_cases hjk:j=k
    .subst hjk;exact hjun
    .rw[getD_set_ne true hjk]at hun;exact hun
   refine fR (λa' w' h3=>ih (listed.setIfInBounds j true) a' w' (hc.set hj) hfree' (ready_mono hr (Ne.symm hji)) h3.1 ?_) h2;rw[Array.setIfInBounds_comm _ _ hji];exact h3.2
def lS (P:Program)(ops:Array Oper)(C:World->Prop)(Q:Exit->Act->World->Prop)(l:Nat):List (Bool×Nat)->Act->World->Prop
 |[],a,w=>fOp P ops l (Q .normal) a w
 |(true,k)::r,a,w=> ∃o v,ops[k]?=some o/\Fl P ops C o v a/\lS P ops C Q l r (a.put o.dst v) w
 |(false,k)::r,a,w=>fOp P ops k (λa w=>C w/\lS P ops C Q l r a w) a w
def bNh (md:Region.Mode)(ops:Array Oper)(l:Nat):List (Bool×Nat)->Array Bool->Bool
 |[],listed=>(Region.ready md ops listed==[l])&&(Region.ready md ops (listed.setIfInBounds l true)).isEmpty
 |(true,k)::r,listed=>(Region.ready md ops listed).contains k&&Region.free md ops listed k&&waits md ops l k&&bNh md ops l r (listed.setIfInBounds k true)
 |(false,k)::r,listed=>(Region.ready md ops listed==[k])&&bNh md ops l r (listed.setIfInBounds k true)
def EndL (P:Program)(md:Region.Mode)(ops:Array Oper)(Q:Exit->Act->World->Prop)(l:Nat)(listed:Array Bool)(a:Act)(w:World):Prop:=
 Region.ready md ops listed=[l]/\Region.ready md ops (listed.setIfInBounds l true)=[]/\fOp P ops l (Q .normal) a w
theorem zX{Q:Exit->Act->World->Prop}{l:Nat}(hs:Region.noSelect ops=true): ∀(od:List (Bool×Nat)) (listed:Array Bool) (a:Act) (w:World),mV md ops listed->bNh md ops l od listed=true->C w->lS P ops C Q l od a w->bMz P md ops C (EndL P md ops Q l) od.length listed a w
 |[],listed,a,w,_,hB,hC,h=>by
  simp only[bNh,Bool.and_eq_true,beq_iff_eq]at hB;exact⟨hC,hB.1,by simpa using hB.2,h⟩
 |(true,k)::r,listed,a,w,hc,hB,hC,h=>by
  simp only[bNh,Bool.and_eq_true]at hB;obtain⟨o,v,ho,hy,hK⟩:=h;exact wpAnyR_first ho hB.1.2 (Region.noSelect_spec hs) (λ_ _ _ h=>h.1) r.length listed a w hc (Region.free_spec ho hB.1.1.2) (by simpa using hB.1.1.1) hy (zX hs r _ _ _ (hc.set (by simpa using hB.1.1.1)) hB.2 hC hK)
 |(false,k)::r,listed,a,w,hc,hB,hC,h=>by
  simp only[bNh,Bool.and_eq_true,beq_iff_eq]at hB;refine⟨hC,λh0=>t6,λi hi=>?_⟩;rw[hB.1]at hi;have:i=k:=by simpa using hi
  subst this;exact fR (λa' w' h'=>zX hs r _ _ _ (hc.set (by rw[hB.1];simp)) hB.2 h'.1 h'.2) h
theorem end_any{Q:Exit->Act->World->Prop}{l:Nat}(listed:Array Bool)(a:Act)(w:World)(h:EndL P md ops Q l listed a w):wpAny P md ops Q 1 listed a w:=by
 refine⟨λe=>(by rw[h.1]at e;cases e),λi hi=>?_⟩;rw[h.1]at hi;have:i=l:=by simpa using hi
 subst this;have hf:=h.2.2;unfold wpOp;split
 .rename_i ho;have hl:i∈Region.ready md ops listed:=by rw[h.1];simp
  obtain⟨_,oi,hoi,_⟩:=mem_ready.1 hl;rw[ho]at hoi;cases hoi
 .rename_i o ho;have h1:=wpNm (hf o ho);split
  .rename_i hw;simp only[hw,if_true]at h1;exact .inl (nQ rfl (λu w' h'=>⟨h.2.1,h'⟩) (λd w' h'=>⟨h.2.1,h'⟩) h1)
  .rename_i hw;simp only[hw]at h1;exact⟨h.2.1,h1⟩
def mixLOk(l:Nat)(od:List (Bool×Nat))(ops:Array Oper):Bool:=Region.noSelect ops&&Nat.beq (od.length+1) ops.size&&bNh .any ops l od (Array.replicate ops.size false)
end
section
variable {P : Program} {β : dC} {n : Nat} {Γ : Env} {H : List bD} {F : List bC} {Q : Exit -> Act -> World -> Prop} {Hk : List bD} {F0 : List bC} {ops : Array Oper}
theorem pJ{id:Nat}{l:List Oper}(last:Nat)(Hk:List bD)(F0:List bC)(od:List (Bool×Nat))(hm:P.follows .mixedOrders=true)(hB:mixLOk last od l.toArray=true)(hH:Sel H Hk)(hF:bA F F0)
  (h:At β n Γ H F (lS P l.toArray (StF β Hk F0) Q last od)):At β n Γ H F ((Code.region id l.toArray true).wp P Q):=λa w S f s k=>by
 simp only[mixLOk,Bool.and_eq_true]at hB;have hw:=StF.drew ⟨S,s,k⟩;obtain⟨S',s',k'⟩:=hw;refine wp_region_any hm ?_;have h1:=zX (P:=P) (md:= .any) (C:=StF β Hk F0) (Q:=Q) hB.1.1 od (Array.replicate l.toArray.size false) a _ mV.none hB.2 (StF.sel hH hF ⟨S',s',k'⟩) (h a _ S' f s' k');have h2:=vN (Q:=Q) end_any _ _ _ _ h1
 rwa[Nat.eq_of_beq_eq_true hB.1.2]at h2
theorem bHw{r:List (Bool×Nat)}{o:Oper}{l k d:Nat}{v:Value}(hk:ops[k]?=some o)(hw:want ops Γ o=some true)(hd:o.dst=some d)(hn:Nat.blt d n=true)(h:Sti P β n Γ Hk F0 o v)
  (K:At β n ((d,v)::Γ) H F (lS P ops (StF β Hk F0) Q l r)):At β n Γ H F (lS P ops (StF β Hk F0) Q l ((true,k)::r)):=λa w S f s hF=>by
 refine⟨o,v,hk,.inl ⟨f.want hw,λw' ⟨S',s',k'⟩=>h a w' S' f s' k'⟩,?_⟩;rw[hd];exact K _ _ S (f.put l9 v) s hF
theorem stL{r:List (Bool×Nat)}{o:Oper}{l k d:Nat}{v:Value}(hk:ops[k]?=some o)(h:Sti P β n Γ Hk F0 o v)(K:At β n ((d,v)::Γ) H F (lS P ops (StF β Hk F0) Q l r))(hw:want ops Γ o=some true:=by exact rfl)(hd:o.dst=some d:=by exact rfl)(hn:Nat.blt d n=true:=by exact rfl):At β n Γ H F (lS P ops (StF β Hk F0) Q l ((true,k)::r)):=bHw hk hw hd hn h K
theorem atl_op{r:List (Bool×Nat)}{o:Oper}{l k:Nat}{C:World->Prop}(hk:ops[k]?=some o)(h:At β n Γ H F (wpList P ops (Nm λa w=>C w/\lS P ops C Q l r a w) [o])):At β n Γ H F (lS P ops C Q l ((false,k)::r)):=λa w S f s hF o' ho'=>by
 have:o'=o:=Option.some.inj (ho'.symm.trans hk);subst this;exact h a w S f s hF
theorem atl_go{r:List (Bool×Nat)}{l:Nat}(hH:Sel H Hk)(hF:bA F F0)(h:At β n Γ H F (lS P ops (StF β Hk F0) Q l r)):At β n Γ H F (wpList P ops (Nm λa w=>StF β Hk F0 w/\lS P ops (StF β Hk F0) Q l r a w) []):=λa w S f s k=>
 ⟨rfl,StF.sel hH hF ⟨S,s,k⟩,h a w S f s k⟩
theorem atl_last{o:Oper}{l:Nat}{C:World->Prop}(hk:ops[l]?=some o)(h:At β n Γ H F (wpList P ops (Nm (Q .normal)) [o])):At β n Γ H F (lS P ops C Q l []):=λa w S f s hF o' ho'=>by
 have:o'=o:=Option.some.inj (ho'.symm.trans hk);subst this;exact h a w S f s hF
theorem atl_end{K:Act->World->Prop}(h:At β n Γ H F K):At β n Γ H F (wpList P ops (Nm K) []):=λa w S f s k=>⟨rfl,h a w S f s k⟩
end
end
section
namespace X
noncomputable section
inductive T (α:Type) where
 |lf
 |nd (l:T α) (x:Option α) (r:T α)
def T.get {α:Type}(t:T α):Nat->Option α:=
 T.rec (motive:=λ_=>Nat->Option α) (λ_=>none) (λ_ x _ gl gr n=>Nat.rec x (λm _=>Bool.rec gr gl (Nat.beq (Nat.mod m 2) 0) (Nat.div m 2)) n) t
def T.set {α:Type}(v:Option α)(f:Nat):T α->Nat->T α:=
 Nat.rec (motive:=λ_=>T α->Nat->T α) (λ_ _=> .lf)
  (λ_ ih t n=>T.rec (motive:=λ_=>T α)
   (Nat.rec (.nd .lf v .lf) (λm _=>Bool.rec (.nd .lf none (ih .lf (Nat.div m 2))) (.nd (ih .lf (Nat.div m 2)) none .lf) (Nat.beq (Nat.mod m 2) 0)) n)
   (λl x r _ _=>Nat.rec (.nd l v r) (λm _=>Bool.rec (.nd l x (ih r (Nat.div m 2))) (.nd (ih l (Nat.div m 2)) x r) (Nat.beq (Nat.mod m 2) 0)) n) t) f
def ob {α β:Type}(o:Option α)(f:α->Option β):Option β:=Option.rec none f o
def gd {β:Type}(c:Bool)(x:Option β):Option β:=Bool.rec none x c
def sel {α:Type}(c:Bool)(x y:α):α:=Bool.rec y x c
def oc {α β:Type}(o:Option α)(n:β)(f:α->β):β:=Option.rec n f o
def nthL {α:Type}(l:List α):Nat->Option α:=List.rec (motive:=λ_=>Nat->Option α) (λ_=>none) (λv _ ih n=>Nat.rec (some v) (λm _=>ih m) n) l
def allL {α:Type}(p:α->Bool)(l:List α):Bool:=List.rec true (λv _ ih=>sel (p v) ih false) l
def bHd {α β:Type}(f:α->Option β)(l:List α):Option (List β):=List.rec (some []) (λv _ ih=>ob (f v) λx=>ob ih λr=>some (x::r)) l
def isSm {α:Type}(o:Option α):Bool:=Option.rec false (λ_=>true) o
def mapZ {α β:Type}(z:β)(f:α->Option β)(l:List α):Option (List β):=gd (allL (λx=>isSm (f x)) l) (some (List.rec [] (λv _ ih=>oc (f v) z (λx=>x)::ih) l))
def cutL {α:Type}(l:List α):Nat->Nat->Option (List α):=List.rec (motive:=λ_=>Nat->Nat->Option (List α))
 (λo n=>Nat.rec (Nat.rec (some []) (λ_ _=>none) n) (λ_ _=>none) o)
 (λv _ ih o n=>Nat.rec (Nat.rec (some []) (λm _=>ob (ih 0 m) λr=>some (v::r)) n) (λp _=>ih p n) o) l
def pasteL{α:Type}(l:List α):Nat->List α->Option (List α):=List.rec (motive:=λ_=>Nat->List α->Option (List α))
 (λo vs=>Nat.rec (List.rec (some []) (λ_ _ _=>none) vs) (λ_ _=>none) o)
 (λv t ih o vs=>Nat.rec (List.rec (some (v::t)) (λu us _=>ob (ih 0 us) λr=>some (u::r)) vs) (λp _=>ob (ih p vs) λr=>some (v::r)) o) l
def qE {α:Type}(n:Nat)(z:List α):List α:=Nat.rec [] (λ_ ih=>z++ih) n
section
variable {α β : Type}
theorem T.get_set_fuel(v:Option α): ∀(f:Nat) (t:T α) (n j:Nat) (u:α),(t.set v f n).get j=some u->(j=n/\v=some u)\/(j≠n/\t.get j=some u)
 |0,_,_,_,_,h=>by cases h
 |f+1,t,n,j,u,h=>by
  have ev: ∀m k:Nat,Nat.beq (Nat.mod m 2) 0=Nat.beq (Nat.mod k 2) 0->Nat.div m 2=Nat.div k 2->m=k:=λm k h1 h2=>by
   have e1:m%2=0↔k%2=0:=by
    show Nat.mod m 2=0↔Nat.mod k 2=0;rw[<-Nat.beq_eq,<-Nat.beq_eq,h1]
   have e2:m/2=k/2:=h2;omega
  cases t with
  |lf=>
   cases n with
   |zero=>
    cases j with
    |zero=>exact .inl ⟨rfl,h⟩
    |succ j=>
     exfalso
     have h:(Bool.rec (motive:=λ_=>Nat->Option α) (λ_=>none) (λ_=>none) (Nat.beq (Nat.mod j 2) 0) (Nat.div j 2))=some u:=h;cases hb:Nat.beq (Nat.mod j 2) 0<;>rw[hb]at h<;>cases h
   |succ m=>
    have h:((Bool.rec (motive:=λ_=>T α) (.nd .lf none (T.set v f .lf (Nat.div m 2))) (.nd (T.set v f .lf (Nat.div m 2)) none .lf) (Nat.beq (Nat.mod m 2) 0)):T α).get j=some u:=h;cases hm:Nat.beq (Nat.mod m 2) 0<;>rw[hm]at h
    .cases j with
     |zero=>cases h
     |succ j=>
      have h:(Bool.rec (motive:=λ_=>Nat->Option α) (T.get (T.set v f .lf (Nat.div m 2))) (λ_=>none) (Nat.beq (Nat.mod j 2) 0) (Nat.div j 2))=some u:=h;cases hj:Nat.beq (Nat.mod j 2) 0<;>rw[hj]at h
      .rcases T.get_set_fuel v f _ _ _ _ h with ⟨e,h⟩|⟨_,h⟩
       .exact .inl ⟨by rw[ev j m (by rw[hj,hm]) e],h⟩
       .cases h
      .cases h
    .cases j with
     |zero=>cases h
     |succ j=>
      have h:(Bool.rec (motive:=λ_=>Nat->Option α) (λ_=>none) (T.get (T.set v f .lf (Nat.div m 2))) (Nat.beq (Nat.mod j 2) 0) (Nat.div j 2))=some u:=h;cases hj:Nat.beq (Nat.mod j 2) 0<;>rw[hj]at h
      .cases h
      .rcases T.get_set_fuel v f _ _ _ _ h with ⟨e,h⟩|⟨_,h⟩
       .exact .inl ⟨by rw[ev j m (by rw[hj,hm]) e],h⟩
       .cases h
  |nd l x r=>
   cases n with
   |zero=>
    cases j with
    |zero=>exact .inl ⟨rfl,h⟩
    |succ j=>exact .inr ⟨m9,h⟩
   |succ m=>
    have h:((Bool.rec (motive:=λ_=>T α) (.nd l x (T.set v f r (Nat.div m 2))) (.nd (T.set v f l (Nat.div m 2)) x r) (Nat.beq (Nat.mod m 2) 0)):T α).get j=some u:=h;cases hm:Nat.beq (Nat.mod m 2) 0<;>rw[hm]at h
    .cases j with
     |zero=>exact .inr ⟨m9,h⟩
     |succ j=>
      have h:(Bool.rec (motive:=λ_=>Nat->Option α) (T.get (T.set v f r (Nat.div m 2))) (T.get l) (Nat.beq (Nat.mod j 2) 0) (Nat.div j 2))=some u:=h;cases hj:Nat.beq (Nat.mod j 2) 0<;>rw[hj]at h
      .rcases T.get_set_fuel v f _ _ _ _ h with ⟨e,h⟩|⟨e,h⟩
       .exact .inl ⟨by rw[ev j m (by rw[hj,hm]) e],h⟩
       .refine .inr ⟨λe'=>e (by injection e' with e';rw[e']),?_⟩;show(Bool.rec (motive:=λ_=>Nat->Option α) (T.get r) (T.get l) (Nat.beq (Nat.mod j 2) 0) (Nat.div j 2))=some u;rw[hj];exact h
      .refine .inr ⟨λe'=>?_,?_⟩
       .injection e' with e'
        rw[e',hm]at hj;cases hj
       .show(Bool.rec (motive:=λ_=>Nat->Option α) (T.get r) (T.get l) (Nat.beq (Nat.mod j 2) 0) (Nat.div j 2))=some u;rw[hj];exact h
    .cases j with
     |zero=>exact .inr ⟨m9,h⟩
     |succ j=>
      have h:(Bool.rec (motive:=λ_=>Nat->Option α) (T.get r) (T.get (T.set v f l (Nat.div m 2))) (Nat.beq (Nat.mod j 2) 0) (Nat.div j 2))=some u:=h;cases hj:Nat.beq (Nat.mod j 2) 0<;>rw[hj]at h
      .refine .inr ⟨λe'=>?_,?_⟩
       .injection e' with e'
        rw[e',hm]at hj;cases hj
       .show(Bool.rec (motive:=λ_=>Nat->Option α) (T.get r) (T.get l) (Nat.beq (Nat.mod j 2) 0) (Nat.div j 2))=some u;rw[hj];exact h
      .rcases T.get_set_fuel v f _ _ _ _ h with ⟨e,h⟩|⟨e,h⟩
       .exact .inl ⟨by rw[ev j m (by rw[hj,hm]) e],h⟩
       .refine .inr ⟨λe'=>e (by injection e' with e';rw[e']),?_⟩;show(Bool.rec (motive:=λ_=>Nat->Option α) (T.get r) (T.get l) (Nat.beq (Nat.mod j 2) 0) (Nat.div j 2))=some u;rw[hj];exact h
theorem bB{o:Option α}{f:α->Option β}{b:β}(h:ob o f=some b): ∃a,o=some a/\f a=some b:=by
 cases o with
 |none=>cases h
 |some a=>exact⟨a,rfl,h⟩
theorem bL{c:Bool}{x:Option β}{b:β}(h:gd c x=some b):c=true/\x=some b:=by
 cases c with
 |false=>cases h
 |true=>exact⟨rfl,h⟩
theorem cJ(c:Bool)(x y:α):sel c x y=if c=true then x else y:=by cases c<;>rfl
theorem qK(o:Option α)(n:β)(f:α->β):oc o n f=match o with|none=>n|some a=>f a:=by cases o<;>rfl
theorem iF: ∀(l:List α) (n:Nat),nthL l n=l[n]?
 |[],_=>rfl
 |_::_,0=>rfl
 |_::r,n+1=>iF r n
theorem oF(p:α->Bool): ∀l:List α,allL p l=l.all p
 |[]=>rfl
 |v::r=>by
  have:allL p (v::r)=Bool.rec false (allL p r) (p v):=rfl;rw[this,oF p r,List.all_cons];cases p v<;>rfl
theorem bDz(f:α->Option β): ∀(l:List α) (r:List β),bHd f l=some r->l.map f=r.map some
 |[],r,h=>by cases h;rfl
 |v::l,r,h=>by
  obtain⟨x,hx,h⟩:=bB h;obtain⟨r',hr,h⟩:=bB h;cases h;simp[hx,bDz f l r' hr]
theorem bQj(z:β)(f:α->Option β): ∀(l:List α) (r:List β),mapZ z f l=some r->l.map f=r.map some
 |[],r,h=>by
  have h:some ([]:List β)=some r:=h;cases h;rfl
 |v::l,r,h=>by
  obtain⟨h1,h2⟩:=bL h;cases h2;have h1:Bool.rec false (allL (λx=>isSm (f x)) l) (isSm (f v))=true:=h1
  cases hv:f v with
  |none=>rw[hv]at h1;cases h1
  |some x=>
   rw[hv]at h1;have h3:allL (λx=>isSm (f x)) l=true:=h1
   have h4:mapZ z f l=some (List.rec [] (λv _ ih=>oc (f v) z (λx=>x)::ih) l):=by
    unfold mapZ;rw[h3];rfl
   have:=bQj z f l _ h4;rw[List.map_cons,this,hv];show _=some (oc (f v) z λx=>x)::_;rw[hv];rfl
theorem lY: ∀(l:List α) (o n:Nat) (r:List α),cutL l o n=some r->r=(l.drop o).take n/\o+n<=l.length
 |[],0,0,r,h=>by cases h;simp
 |[],0,_+1,r,h=>by cases h
 |[],_+1,_,r,h=>by cases h
 |v::l,0,0,r,h=>by cases h;simp
 |v::l,0,n+1,r,h=>by
  obtain⟨r',hr,h⟩:=bB h;cases h;obtain⟨e,hl⟩:=lY l 0 n r' hr;simp at hl;simp[e,hl]
 |v::l,o+1,n,r,h=>by
  obtain⟨e,hl⟩:=lY l o n r h;refine⟨by simpa using e,by simp;omega⟩
theorem pZ: ∀(l:List α) (o:Nat) (vs r:List α),pasteL l o vs=some r->o+vs.length<=l.length/\r=l.take o++vs++l.drop (o+vs.length)
 |[],0,[],r,h=>by cases h;simp
 |[],0,_::_,r,h=>by cases h
 |[],_+1,_,r,h=>by cases h
 |v::l,0,[],r,h=>by cases h;simp
 |v::l,0,u::us,r,h=>by
  obtain⟨r',hr,h⟩:=bB h;cases h;obtain⟨h1,h2⟩:=pZ l 0 us r' hr;simp at h1 h2;refine⟨by simp;omega,by simp[h2]⟩
 |v::l,o+1,vs,r,h=>by
  obtain⟨r',hr,h⟩:=bB h;cases h;obtain⟨h1,h2⟩:=pZ l o vs r' hr;refine⟨by simp;omega,?_⟩;rw[show o+1+vs.length=(o+vs.length)+1 from by omega];simp[h2]
theorem bHn(n:Nat)(z:List α):qE n z=(List.replicate n z).flatten:=by
 induction n with
 |zero=>rfl
 |succ n ih=>
  have:qE (n+1) z=z++qE n z:=rfl;rw[this,ih,List.replicate_succ,List.flatten_cons]
end
end
end X
end
section
namespace X
noncomputable section
inductive Cap where
 |n (c:Nat)
 |s (c d:Nat)
inductive V where
 |b (x:Bool)|i (k:IntKind) (x:Int)|s (x:List Nat)
 |p0|p (k o:Nat)|l0|l (k o n:Nat) (c:Cap)|z (k o o' c:Nat)|y (c:Nat)|m0|m (k:Nat)
 |f (fn:Fn) (a c:List V)|f0|e0|e (t:Nat) (v:V)|g (cs:List V)|t (vs:List V)
abbrev E:=T V
abbrev Ent:=V×V×Nat
inductive Blk where
 |cells (cs:List V) (t:TypeId) (ext:Option Nat) (ro:Bool)
 |map (es:List Ent) (clock:Nat)
 |sit (s:List Nat) (pos:Nat)
 |mit (m:Option Nat) (since:Nat) (seen:List Nat) (last:Nat)
 |win (cs:List V)
 |know (n:Nat)
structure St where
 h:T Blk
 n:Nat
 c:Nat
abbrev Orc:=List V->St->Option (V×St)
abbrev Plan:=List (Bool×Nat)×List Nat
def undefV:V:= .t []
def V.cells:V->List V
 |.g cs=>cs
 |v=>[v]
def V.one:V->Bool
 |.g _=>false
 |.t _=>false
 |_=>true
def Cap.ok(c:Nat):Cap->Bool
 |.n _=>true
 |.s k _=>Nat.blt k c
def okD (n c d:Nat):V->Bool:=Nat.rec (motive:=λ_=>V->Bool) (λ_=>false) (λ_ ih v=>match v with
 |.p k _=>Nat.blt k n
 |.l k _ _ cp=>Nat.blt k n&&cp.ok c
 |.m k=>Nat.blt k n
 |.z k _ _ cp=>Nat.blt k n&&Nat.blt cp c
 |.y cp=>Nat.blt cp c
 |.f _ x y=>allL ih x&&allL ih y
 |.e _ v=>ih v
 |.g cs=>allL ih cs
 |.t vs=>allL ih vs
 |_=>true) d
def V.ok (n c:Nat)(v:V):Bool:=okD n c 5 v
def ofD (d:Nat):Value->Option V:=Nat.rec (motive:=λ_=>Value->Option V) (λ_=>none) (λ_ ih v=>match v with
 |.bool x=>some (.b x)
 |.int k x=>some (.i k x)
 |.string s=>some (.s (s.data.toList.map UInt8.toNat))
 |.pointer none=>some .p0
 |.slice none 0 0=>some .l0
 |.map none=>some .m0
 |.func fn a c=>match a.toList,c.toList with
  |[],[]=>some (.f fn [] [])
  |_,_=>none
 |.nilFunc=>some .f0
 |.nilIface=>some .e0
 |.agg cs=>ob (mapZ undefV ih cs.toList) λl=>some (.g l)
 |.tuple cs=>match cs.toList with
  |[]=>some (.t [])
  |_=>none
 |_=>none) d
def ofV (v:Value):Option V:=ofD 5 v
class Ctx where
 P:Program
 gl:Nat->Option Nat
 orc:FuncId->Option Orc
 quiet:List FuncId
 known:FuncId->Bool
 n0:Nat
 plan:FuncId->Nat->Option Plan
 G:Nat->Obj->Prop
 meth:TypeId->String->Option (FuncId×Option TypeId)
 kw:Nat->Option (List V)
 kwOk: ∀n cs o,kw n=some cs->G n o->(∀v∈cs,v.one=true)/\ ∃C t z,o= .cells C t z/\ ∀(i:Nat) (v:V),cs[i]?=some v-> ∃u,C[i]?=some u/\ofV u=some v
section
variable {β : Type}
def asB (v:V):(Bool->Option β)->Option β:=match v with
 |.b x=>λf=>f x
 |_=>λ_=>none
def asI (v:V):(IntKind->Int->Option β)->Option β:=match v with
 |.i k x=>λf=>f k x
 |_=>λ_=>none
def asN (v:V):(Nat->Option β)->Option β:=match v with
 |.i _ (.ofNat n)=>λf=>f n
 |_=>λ_=>none
def asP (v:V):(Nat->Nat->Option β)->Option β:=match v with
 |.p k o=>λf=>f k o
 |_=>λ_=>none
def asS (v:V):(List Nat->Option β)->Option β:=match v with
 |.s a=>λf=>f a
 |_=>λ_=>none
def asG (v:V):(List V->Option β)->Option β:=match v with
 |.g cs=>λf=>f cs
 |_=>λ_=>none
def asT (v:V):(List V->Option β)->Option β:=match v with
 |.t cs=>λf=>f cs
 |_=>λ_=>none
def asM (v:V):(Nat->Option β)->Option β:=match v with
 |.m k=>λf=>f k
 |_=>λ_=>none
def Blk.row0:Blk->Option (List V)
 |.cells cs _ _ _=>some cs
 |.win cs=>some cs
 |_=>none
def rowX0 (s:St)(k o n:Nat):Option (List V):=ob (s.h.get k) λx=>ob x.row0 λcs=>cutL cs o n
def Blk.row [Ctx]:Blk->Option (List V)
 |.cells cs _ _ _=>some cs
 |.win cs=>some cs
 |.know n=>Ctx.kw n
 |_=>none
def asC (x:Blk):(List V->TypeId->Option Nat->Bool->Option β)->Option β:=match x with
 |.cells cs t ext ro=>λf=>f cs t ext ro
 |_=>λ_=>none
def asMap (x:Blk):(List Ent->Nat->Option β)->Option β:=match x with
 |.map es c=>λf=>f es c
 |_=>λ_=>none
end
def ieq (a b:Int):Bool:=match a with
 |.ofNat x=>match b with
  |.ofNat y=>Nat.beq x y
  |.negSucc _=>false
 |.negSucc x=>match b with
  |.ofNat _=>false
  |.negSucc y=>Nat.beq x y
def ilt (a b:Int):Bool:=match a with
 |.ofNat x=>match b with
  |.ofNat y=>Nat.blt x y
  |.negSucc _=>false
 |.negSucc x=>match b with
  |.ofNat _=>true
  |.negSucc y=>Nat.blt y x
def lim:IntKind->Nat
 |.i8=>128|.i16=>32768|.i32=>2147483648|.i64=>9223372036854775808
 |.u8=>256|.u16=>65536|.u32=>4294967296|.u64=>18446744073709551616
def isI64:IntKind->Bool
 |.i64=>true
 |_=>false
def wrapF (k:IntKind)(x:Int):Int:=match x with
 |.ofNat m=>sel (Nat.blt m (lim k)) (.ofNat m) (k.wrap (.ofNat m))
 |.negSucc m=>sel (isI64 k) (sel (Nat.blt m 9223372036854775808) (.negSucc m) (k.wrap (.negSucc m))) (k.wrap (.negSucc m))
def bitX (f:(n:Nat)->BitVec n->BitVec n->BitVec n)(k:IntKind)(a b:Int):V:= .i k (k.wrap ((f k.bits (BitVec.ofInt k.bits a) (BitVec.ofInt k.bits b)).toNat:Nat))
def arithX(op:BinOp):IntKind->Int->Int->Option V:=match op with
 |.add=>λk a b=>some (.i k (wrapF k (Int.add a b)))
 |.sub=>λk a b=>some (.i k (wrapF k (Int.sub a b)))
 |.mul=>λk a b=>some (.i k (wrapF k (Int.mul a b)))
 |.or=>λk a b=>some (bitX (λ_ x y=>x ||| y) k a b)
 |.and=>λk a b=>some (bitX (λ_ x y=>x&&&y) k a b)
 |.xor=>λk a b=>some (bitX (λ_ x y=>x^^^y) k a b)
 |.quo=>λk a b=>gd (!ieq b 0) (some (.i k (wrapF k (a.tdiv b))))
 |.rem=>λk a b=>gd (!ieq b 0) (some (.i k (a.tmod b)))
 |.eql=>λ_ a b=>some (.b (ieq a b))
 |.neq=>λ_ a b=>some (.b (!ieq a b))
 |.lss=>λ_ a b=>some (.b (ilt a b))
 |.leq=>λ_ a b=>some (.b (!ilt b a))
 |.gtr=>λ_ a b=>some (.b (ilt b a))
 |.geq=>λ_ a b=>some (.b (!ilt a b))
 |_=>λ_ _ _=>none
def shlX (k:IntKind)(a b:Int):Option V:=match b with
 |.ofNat n=>some (.i k (k.wrap (a*2^min n k.bits)))
 |_=>none
def shrX (k:IntKind)(a b:Int):Option V:=match b with
 |.ofNat n=>some (.i k (a.fdiv (2^min n k.bits)))
 |_=>none
def seq:List Nat->List Nat->Bool
 |[],[]=>true
 |a::x,b::y=>Nat.beq (a%256) (b%256)&&seq x y
 |_,_=>false
def strX (op:BinOp):List Nat->List Nat->Option V:=match op with
 |.add=>λa b=>gd (Nat.blt (a.length+b.length) 9223372036854775808) (some (.s (a++b)))
 |.eql=>λa b=>some (.b (seq a b))
 |.neq=>λa b=>some (.b (!seq a b))
 |_=>λ_ _=>none
section
variable [Ctx]
def glX (g:Nat):Option V:=ob (Ctx.gl g) λk=>some (.p k 0)
def evX (x:Operand):E->Option V:=match x with
 |.tmp t=>λe=>e.get t
 |.const v=>λ_=>ofV v
 |.global g=>λ_=>glX g
 |.func f=>λ_=>some (.f (.func f) [] [])
def evsX (l:List Operand)(e:E):Option (List V):=bHd (λx=>evX x e) l
def sizeX (t:TypeId):Option Nat:=ob (Ctx.P.info? t) λi=>some i.size
def zeroX (t:TypeId):Option V:=ob (Ctx.P.info? t) λi=>ob i.zero ofV
def aggX (t:TypeId):Option Bool:=ob (Ctx.P.underlying t) λd=>match d with
 |.struct _=>some true
 |.array _ _=>some true
 |_=>some false
def wideX (t:TypeId):Option (Option Nat):=ob (aggX t) λa=>sel a (ob (sizeX t) λn=>some (some n)) (some none)
def bBc (t:TypeId)(cs:List V)(o:Nat):Option V:=ob (wideX t) λw=>oc w (nthL cs o) λn=>ob (cutL cs o n) λl=>some (.g l)
def eqFs (eq:TypeId->V->V->Option Bool)(xs ys:List V):List Field->Option Bool
 |[]=>some true
 |f::r=>sel (f.name== "_") (eqFs eq xs ys r) (ob (bBc f.type xs f.offset) λx=>ob (bBc f.type ys f.offset) λy=>ob (eq f.type x y) λc=>sel c (eqFs eq xs ys r) (some false))
def eqEs (eq:V->V->Option Bool)(e n:Nat)(xs ys:List V):Nat->Nat->Option Bool
 |0,_=>some true
 |m+1,i=>ob (bBc e xs (i*n)) λx=>ob (bBc e ys (i*n)) λy=>ob (eq x y) λc=>sel c (eqEs eq e n xs ys m (i+1)) (some false)
def eqBool:V->V->Option Bool
 |.b x,.b y=>some (x==y)
 |_,_=>none
def eqInt:V->V->Option Bool
 |.i k x,.i k' y=>gd (sameKind k k') (some (ieq x y))
 |_,_=>none
def eqStr:V->V->Option Bool
 |.s x,.s y=>some (seq x y)
 |_,_=>none
def eqPtr:V->V->Option Bool
 |.p0,.p0=>some true
 |.p0,.p _ _=>some false
 |.p _ _,.p0=>some false
 |.p k o,.p k' o'=>gd (Nat.beq k k') (some (Nat.beq o o'))
 |_,_=>none
def eqIface:V->V->Option Bool
 |.e0,.e0=>some true
 |.e0,.e _ _=>some false
 |.e _ _,.e0=>some false
 |_,_=>none
def eqSlice:V->V->Option Bool
 |.l0,.l0=>some true
 |.l0,.l _ _ _ _=>some false
 |.l _ _ _ _,.l0=>some false
 |.l0,.z _ _ _ _=>some false
 |.z _ _ _ _,.l0=>some false
 |_,_=>none
def eqMap:V->V->Option Bool
 |.m0,.m0=>some true
 |.m0,.m _=>some false
 |.m _,.m0=>some false
 |_,_=>none
def eqFunc:V->V->Option Bool
 |.f0,.f0=>some true
 |.f0,.f _ _ _=>some false
 |.f _ _ _,.f0=>some false
 |_,_=>none
def eqX:Nat->TypeId->V->V->Option Bool
 |0,_=>λ_ _=>none
 |d+1,t=>match Ctx.P.underlying t with
  |some .bool=>eqBool
  |some (.int _)=>eqInt
  |some .string=>eqStr
  |some (.pointer el)=>λx y=>ob (sizeX el) λn=>gd (!Nat.beq n 0) (eqPtr x y)
  |some (.interface _)=>eqIface
  |some (.slice _)=>eqSlice
  |some (.map _ _)=>eqMap
  |some (.func _ _ _)=>eqFunc
  |some (.struct fs)=>λx y=>asG x λxs=>asG y λys=>gd (!Ctx.P.stoodInHeld t) (eqFs (eqX d) xs ys fs.toList)
  |some (.array len e)=>λx y=>asG x λxs=>asG y λys=>ob (sizeX e) λn=>eqEs (eqX d e) e n xs ys len 0
  |_=>λ_ _=>none
def bHp:Operand->Bool
 |.const _=>true
 |_=>false
def guardX(t:TypeId)(x y:Operand)(u v:V):Bool:=match u with
 |.e0=>match v with
  |.e0=>bHp x || bHp y
  |_=>true
 |.g _=>match v with
  |.g _=>!Ctx.P.eqGuardType Ctx.P.depth t
  |_=>true
 |_=>true
def eqOp (t:TypeId)(x y:Operand)(u v:V):Option Bool:=gd (guardX t x y u v) (eqX 12 t u v)
def binI (op:BinOp):IntKind->Int->IntKind->Int->Option V:=match op with
 |.shl=>λk a _ b=>shlX k a b
 |.shr=>λk a _ b=>shrX k a b
 |op=>λk a k' b=>gd (sameKind k k') (arithX op k a b)
def binE (op:BinOp)(t:TypeId)(x y:Operand)(u v:V):Option V:=match op with
 |.eql=>ob (eqOp t x y u v) λr=>some (.b r)
 |.neq=>ob (eqOp t x y u v) λr=>some (.b (!r))
 |_=>none
def binX (op:BinOp)(t:TypeId)(x y:Operand)(u v:V):Option V:=match u with
 |.i k a=>asI v (binI op k a)
 |.s a=>asS v (strX op a)
 |u=>binE op t x y u v
def Cap.least:Cap->Nat
 |.n c=>c
 |.s _ d=>d
def jU (x:Option Operand)(d:Nat)(e:E):Option Nat:=oc x (some d) λx=>ob (evX x e) λv=>asN v some
def slStr (a:List Nat)(l h:Nat):Option V:=gd (Nat.ble l h&&Nat.ble h a.length) (some (.s ((a.drop l).take (h-l))))
def slCap (k o sz l h:Nat):Cap->Option V
 |.n cc=>some (.l k (sel (Nat.beq cc l) o (o+l*sz)) (h-l) (.n (cc-l)))
 |.s cn d=>sel (Nat.beq l 0) (some (.l k o h (.s cn d))) (sel (Nat.blt l d) (some (.l k (o+l*sz) (h-l) (.s cn (d-l)))) (some (.z k o (o+l*sz) cn)))
def slRow (k o n sz:Nat)(c:Cap)(lo hi mx:Option Operand)(e:E):Option V:=ob (jU lo 0 e) λl=>ob (jU hi n e) λh=>oc mx
 (gd (Nat.ble l h&&Nat.ble h c.least) (slCap k o sz l h c))
 λ_=>ob (jU mx 0 e) λm=>gd (hi.isSome&&(Nat.ble l h&&(Nat.ble h m&&Nat.ble m c.least))) (some (.l k (sel (Nat.beq m l) o (o+l*sz)) (h-l) (.n (m-l))))
def slNil (lo hi mx:Option Operand)(e:E):Option V:=ob (jU lo 0 e) λl=>ob (jU hi 0 e) λh=>ob (jU mx 0 e) λm=>gd ((hi.isSome || !mx.isSome)&&(Nat.beq l 0&&(Nat.beq h 0&&Nat.beq m 0))) (some .l0)
def slArr (k o n sz:Nat)(lo hi mx:Option Operand)(e:E):Option V:=ob (jU lo 0 e) λl=>ob (jU hi n e) λh=>oc mx
 (gd (Nat.ble l h&&Nat.ble h n) (some (.l k (sel (Nat.beq n l) o (o+l*sz)) (h-l) (.n (n-l))))) λ_=>none
def slS (a:List Nat)(lo hi mx:Option Operand)(e:E):Option V:=ob (jU lo 0 e) λl=>ob (jU hi a.length e) λh=>oc mx (slStr a l h) λ_=>none
def elemOf(t:TypeId):Option (Option Nat×TypeId×Nat):=ob (Ctx.P.underlying t) λd=>match d with
 |.slice el=>ob (sizeX el) λsz=>some (none,el,sz)
 |.array n el=>ob (sizeX el) λsz=>some (some n,el,sz)
 |_=>none
def sliceV(n:Option Nat)(sz:Nat)(u:V):Option Operand->Option Operand->Option Operand->E->Option V:=match u with
 |.l0=>oc n slNil λ_ _ _ _ _=>none
 |.l k o m c=>oc n (slRow k o m sz c) λ_ _ _ _ _=>none
 |.p k o=>oc n (λ_ _ _ _=>none) λn=>slArr k o n sz
 |_=>λ_ _ _ _=>none
def isStr (t:TypeId):Bool:=match Ctx.P.underlying t with
 |some .string=>true
 |_=>false
def sliceX(t:TypeId)(u:V)(lo hi mx:Option Operand)(e:E):Option V:=sel (isStr t) (asS u λa=>slS a lo hi mx e) (ob (elemOf t) λq=>sliceV q.1 q.2.2 u lo hi mx e)
def placesX:List Field->Option (List (Nat×Nat)):=bHd λf=>ob (sizeX f.type) λn=>some (f.offset,n)
def bKq (place:Nat->Option (Nat×Nat))(cs:List V)(l:List (Nat×V)):Option (List V):=List.rec (motive:=λ_=>List V->Option (List V)) (λcs=>some cs)
 (λx _ ih cs=>ob (place x.1) λq=>gd (Nat.beq x.2.cells.length q.2) (ob (pasteL cs q.1 x.2.cells) ih)) l cs
def partsX(l:List (Nat×Operand))(e:E):Option (List (Nat×V)):=bHd (λx=>ob (evX x.2 e) λv=>some (x.1,v)) l
def placeOf(t:TypeId):Option (Nat->Option (Nat×Nat)):=ob (Ctx.P.underlying t) λd=>match d with
 |.struct fs=>ob (placesX fs.toList) λpl=>some (nthL pl)
 |.array _ el=>ob (sizeX el) λsz=>some λi=>some (i*sz,sz)
 |_=>none
def addO (o k:Nat):Nat:=Nat.add o k
def unX (op:UnOp)(v:V):Option V:=match op with
 |.not=>asB v λx=>some (.b (!x))
 |.neg=>asI v λk a=>some (.i k (wrapF k (Int.sub 0 a)))
 |_=>none
def byteX (v:V):Option Nat:=match v with
 |.i .u8 (.ofNat x)=>gd (Nat.blt x 256) (some x)
 |_=>none
def bDs (s:St)(k o n:Nat):Option (List V):=ob (s.h.get k) λx=>ob x.row λcs=>cutL cs o n
def isU8 (t:TypeId):Bool:=match Ctx.P.underlying t with
 |some (.int .u8)=>true
 |_=>false
def isUns (t:TypeId):Bool:=match Ctx.P.underlying t with
 |some .unsafePointer=>true
 |_=>false
def cvBytes(el d:TypeId)(u:V)(s:St):Option V:=gd (isU8 el&&isStr d) (match u with
 |.l0=>some (.s [])
 |.l k o n _=>ob (bDs s k o n) λl=>ob (bHd byteX l) λa=>some (.s a)
 |_=>none)
def cvPtr (t d:TypeId)(u:V)(s:St):Option V:=asP u λk o=>ob (sizeX t) λn=>gd (isUns d&& !Nat.beq n 0) (ob (s.h.get k) λx=>asC x λcs _ ext _=>oc ext (gd (Nat.blt o cs.length) (some (.p k o))) λ_=>none)
def ptrTo (t:TypeId):Option TypeId:=ob (Ctx.P.underlying t) λd=>match d with
 |.pointer el=>some el
 |_=>none
def cvUns (d:TypeId)(u:V)(s:St):Option V:=ob (ptrTo d) λt=>asP u λk o=>ob (sizeX t) λn=>gd (!Nat.beq n 0) (ob (s.h.get k) λx=>asC x λcs el ext _=>
 oc ext (gd (liesAt Ctx.P Ctx.P.depth el (cs.length/Ctx.P.cellsOf el) o t 1) (some (.p k o))) λ_=>none)
def cvOne (d:TypeId)(u:V):Option V:=ob (Ctx.P.underlying d) λd=>match d with
 |.int k=>asI u λ_ a=>some (.i k (wrapF k a))
 |.string=>asS u λa=>some (.s a)
 |_=>none
def cvX (src d:TypeId)(u:V):St->Option V:=match Ctx.P.underlying src with
 |none=>λ_=>none
 |some (.slice el)=>cvBytes el d u
 |some (.pointer t)=>cvPtr t d u
 |some .unsafePointer=>cvUns d u
 |some _=>λ_=>cvOne d u
def loadX (t:TypeId)(k o:Nat)(s:St):Option V:=ob (s.h.get k) λx=>ob x.row λcs=>bBc t cs o
def bCj (t:TypeId)(f:Nat):Option (TypeId×Nat):=ob (Ctx.P.underlying t) λd=>match d with
 |.struct fs=>ob (nthL fs.toList f) λfd=>some (fd.type,fd.offset)
 |_=>none
def fieldAt(t:TypeId)(f:Nat):Option Nat:=ob (bCj t f) λq=>ob (sizeX q.1) λn=>gd (!Nat.beq n 0) (some q.2)
def idxX (u:V)(n:Option Nat)(sz z:Nat):Option V:=match u with
 |.l k o m _=>oc n (gd (Nat.blt z m) (some (.p k (addO o (z*sz))))) λ_=>none
 |.p k o=>oc n none λn=>gd (Nat.blt z n) (some (.p k (addO o (z*sz))))
 |_=>none
def atX (t:TypeId)(u:V)(z:Nat):Option V:=match u with
 |.s a=>gd (isStr t) (ob (nthL a z) λx=>some (.i .u8 (.ofNat (x%256))))
 |.g cs=>ob (elemOf t) λq=>oc q.1 none λn=>gd (Nat.blt z n) (bBc q.2.1 cs (z*q.2.2))
 |_=>none
def nilX (u:V):Option V:=match u with
 |.p k o=>some (.p k o)
 |.f (.func f) a c=>some (.f (.func f) a c)
 |_=>none
def isIf (t:TypeId):Option Bool:=ob (Ctx.P.underlying t) λd=>match d with
 |.interface _=>some true
 |_=>some false
def asE {β:Type}(v:V):(TypeId->V->Option β)->Option β:=match v with
 |.e t v=>λf=>f t v
 |_=>λ_=>none
def lenD (d:TypeDesc)(u:V)(s:St):Option Nat:=match d with
 |.string=>asS u λa=>some a.length
 |.array n _=>some n
 |.slice _=>match u with
  |.l0=>some 0
  |.l _ _ n _=>some n
  |.z _ _ _ _=>some 0
  |.y _=>some 0
  |_=>none
 |.map _ _=>match u with
  |.m0=>some 0
  |.m k=>ob (s.h.get k) λx=>asMap x λes _=>some es.length
  |_=>none
 |_=>none
def isSl (t:TypeId):Bool:=match Ctx.P.underlying t with
 |some (.slice _)=>true
 |_=>false
def capX (u:V):Option V:=match u with
 |.l0=>some (.i .i64 0)
 |.l _ _ _ (.n c)=>some (.i .i64 (.ofNat c))
 |_=>none
def dataX (u:V):Option V:=match u with
 |.l0=>some .p0
 |.l k o _ c=>gd (!Nat.beq c.least 0) (some (.p k o))
 |_=>none
section
variable (e : E)
def pLen (x:Operand)(t:TypeId)(s:St):Option V:=ob (evX x e) λu=>ob (Ctx.P.underlying t) λd=>ob (lenD d u s) λn=>some (.i .i64 (.ofNat n))
def pMost (hi:Bool)(x y:Operand):Option V:=ob (evX x e) λu=>ob (evX y e) λv=>asI u λk a=>asI v λ_ c=>some (.i k (sel (sel hi (ilt a c) (ilt c a)) c a))
end
def pCall (b:Builtin)(args:List Operand)(ts:List TypeId)(s:St)(e:E):Option V:=match b with
 |.len=>match args,ts with
  |[x],[t]=>pLen e x t s
  |_,_=>none
 |.cap=>match args,ts with
  |[x],[t]=>ob (evX x e) λu=>gd (isSl t) (capX u)
  |_,_=>none
 |.unsafeSliceData=>match args with
  |[x]=>ob (evX x e) dataX
  |_=>none
 |.max=>match args with
  |[x,y]=>pMost e true x y
  |_=>none
 |.min=>match args with
  |[x,y]=>pMost e false x y
  |_=>none
 |_=>none
def vX (kt:TypeId)(k:V):Bool:=match Ctx.P.underlying kt with
 |some (.int _)=>match k with|.i _ _=>true|_=>false
 |some .string=>match k with|.s _=>true|_=>false
 |_=>false
def bBj (kt:TypeId)(k:V):List Ent->Nat->Option (Option (Nat×V))
 |[],_=>some none
 |x::r,i=>ob (eqX 1 kt k x.1) λc=>sel c (some (some (i,x.2.1))) (bBj kt k r (i+1))
def bKk (t:TypeId):Option (TypeId×TypeId):=ob (Ctx.P.underlying t) λd=>match d with
 |.map kt et=>some (kt,et)
 |_=>none
def mapOf (u:V)(s:St):Option (List Ent):=match u with
 |.m0=>some []
 |.m r=>ob (s.h.get r) λx=>asMap x λes _=>some es
 |_=>none
def foundX(ok:Bool)(et:TypeId)(r:Option (Nat×V)):Option V:=oc r (ob (zeroX et) λz=>some (sel ok (.t [z,.b false]) z)) λq=>some (sel ok (.t [q.2,.b true]) q.2)
def pLookup(t:TypeId)(x ix:Operand)(ok:Bool)(s:St)(e:E):Option V:=ob (bKk t) λq=>ob (evX x e) λu=>ob (evX ix e) λk=>gd (vX q.1 k) (ob (mapOf u s) λes=>ob (bBj q.1 k es 0) (foundX ok q.2))
def pureC (c:Call):St->E->Option V:=match c with
 |⟨.builtin b,args,ts⟩=>pCall b args.toList ts.toList
 |_=>λ_ _=>none
def pureX (o:Op):St->E->Option V:=match o with
 |.move x=>λ_ e=>evX x e
 |.assign x=>λ_ e=>evX x e
 |.pick c a b=>λ_ e=>ob (evX c e) λv=>asB v λt=>sel t (evX a e) (evX b e)
 |.binOp op t x y _=>λ_ e=>ob (evX x e) λu=>ob (evX y e) (binX op t x y u)
 |.unOp op _ x=>λ_ e=>ob (evX x e) (unX op)
 |.convert src d x=>λs e=>ob (evX x e) λu=>cvX src d u s
 |.extract x i=>λ_ e=>ob (evX x e) λv=>asT v λvs=>nthL vs i
 |.load t a=>λs e=>ob (evX a e) λv=>asP v λk o=>loadX t k o s
 |.fieldAddr t x f=>λ_ e=>ob (fieldAt t f) λfo=>ob (evX x e) λv=>asP v λk o=>some (.p k (addO o fo))
 |.field t x f=>λ_ e=>ob (bCj t f) λq=>ob (evX x e) λv=>asG v λcs=>bBc q.1 cs q.2
 |.indexAddr t x i=>λ_ e=>ob (evX i e) λv=>asN v λz=>ob (elemOf t) λq=>ob (evX x e) λu=>idxX u q.1 q.2.2 z
 |.index t x i=>λ_ e=>ob (evX i e) λv=>asN v λz=>ob (evX x e) λu=>atX t u z
 |.slice t x lo hi mx=>λ_ e=>ob (evX x e) λu=>sliceX t u lo hi mx e
 |.nilCheck x=>λ_ e=>ob (evX x e) nilX
 |.makeFunc fn first cap=>λ_ e=>ob (evsX first.toList e) λa=>ob (evsX cap.toList e) λc=>some (.f fn a c)
 |.makeInterface t x=>λ_ e=>ob (isIf t) λq=>gd (!q) (ob (evX x e) λv=>some (.e t v))
 |.typeAssert x _ t ok=>λ_ e=>ob (isIf t) λq=>gd (!q) (ob (evX x e) λv=>asE v λt' w=>gd (Nat.beq t' t) (some (sel ok (.t [w,.b true]) w)))
 |.build t parts=>λ_ e=>ob (zeroX t) λz=>ob (placeOf t) λpl=>ob (partsX parts.toList e) λps=>ob (bKq pl z.cells ps) λcs=>some (.g cs)
 |.call c=>pureC c
 |.lookup t x ix ok=>pLookup t x ix ok
 |_=>λ_ _=>none
end
end
end X
end
section
namespace X
noncomputable section
inductive R where
 |v (v:V) (s:St)
 |sk (s:St)
 |call (f:FuncId) (args:List V) (s:St)
section
variable [Ctx]
def fuelT:Nat:=40
def St.put(s:St)(k:Nat)(x:Blk):St:={s with h:=s.h.set (some x) fuelT k}
def St.new(s:St)(x:Blk):St:={s with h:=s.h.set (some x) fuelT s.n,n:=s.n+1}
def St.drop(s:St)(k:Nat):St:={s with h:=s.h.set none fuelT k}
def newsX (sz:Nat)(u:V)(s:St):Option (Nat×List V):=match u with
 |.l0=>some (0,[])
 |.z _ _ _ _=>some (0,[])
 |.y _=>some (0,[])
 |.l k o n _=>ob (bDs s k o (n*sz)) λcs=>some (n,cs)
 |.s a=>gd (Nat.beq sz 1) (some (a.length,a.map λx=>V.i .u8 (.ofNat (x%256))))
 |_=>none
def pow47:Nat:=140737488355328
def bAc (k o:Nat)(vs:List V)(s:St):Option St:=ob (s.h.get k) λx=>asC x λcs t ext ro=>gd (!ro) (ob (pasteL cs o vs) λcs'=>some (s.put k (.cells cs' t ext false)))
def bKg (el:TypeId)(n:Nat)(cs:List V)(s:St):R:= .v (.l s.n 0 n (.s s.c n)) {h:=s.h.set (some (.cells cs el (some s.c) false)) fuelT s.n,n:=s.n+1,c:=s.c+1}
def apNil (el:TypeId)(by_ n:Nat)(news:List V)(s:St):Option R:=sel (Nat.beq n 0) (some (.v .l0 s)) (gd (Nat.ble n pow47&&Nat.ble (n*by_) pow47) (some (bKg el n news s)))
def apFits(k o m:Nat)(c:Cap)(sz n:Nat)(news:List V)(s:St):Option R:=sel (Nat.beq n 0) (some (.v (.l k o m c) s)) (ob (bAc k (o+m*sz) news s) λs'=>some (.v (.l k o (m+n) c) s'))
def apGrows(el:TypeId)(by_ k o m sz n:Nat)(news:List V)(s:St):Option R:=gd (Nat.ble (m+n) pow47&&Nat.ble ((m+n)*by_) pow47) (ob (bDs s k o (m*sz)) λolds=>some (bKg el (m+n) (olds++news) s))
def apRow (el:TypeId)(by_ k m cn d sz n:Nat)(news:List V)(s:St):Option R:=ob (s.h.get k) λx=>asC x λcs el' ext ro=>oc ext none λcn'=>
 gd (!ro&&(Nat.beq cn cn'&&(Nat.beq el el'&&(Nat.beq (d*sz) cs.length&&(Nat.ble m d&&(Nat.ble (m+n) pow47&&Nat.ble ((m+n)*by_) pow47)))))) (ob (cutL cs 0 (m*sz)) λolds=>some (bKg el (m+n) (olds++news) (s.drop k)))
def apL (el:TypeId)(by_ sz k o m n:Nat)(news:List V)(c:Cap):St->Option R:=match c with
 |.n c=>sel (Nat.ble (m+n) c) (apFits k o m (.n c) sz n news) (apGrows el by_ k o m sz n news)
 |.s cn d=>sel (Nat.ble (m+n) d) (apFits k o m (.s cn d) sz n news) λs=>gd (Nat.beq o 0) (apRow el by_ k m cn d sz n news s)
def apX (el:TypeId)(sz by_:Nat)(u:V)(n:Nat)(news:List V):St->Option R:=match u with
 |.l0=>apNil el by_ n news
 |.l k o m c=>apL el by_ sz k o m n news c
 |_=>λ_=>none
def appendX(el:TypeId)(sz by_:Nat)(u v:V)(s:St):Option R:=ob (newsX sz v s) λq=>apX el sz by_ u q.1 q.2 s
def setV:List Ent->Nat->V->List Ent
 |[],_,_=>[]
 |(k,_,x)::r,0,v=>(k,v,x)::r
 |x::r,n+1,v=>x::setV r n v
def findB:List Ent->Nat->Nat->Option Nat
 |[],_,_=>none
 |x::r,j,i=>sel (Nat.beq x.2.2 j) (some i) (findB r j (i+1))
def runeX (s:List Nat)(p:Nat):Option Nat:=ob (nthL s p) λx=>gd (Nat.blt (x%256) 128) (some (x%256))
structure Found where
 r:Nat
 k:V
 et:TypeId
 es:List Ent
 clock:Nat
 at_:Option (Nat×V)
def mapAt (t:TypeId)(m k:Operand)(s:St)(e:E):Option Found:=ob (bKk t) λq=>ob (evX m e) λu=>asM u λr=>ob (evX k e) λkv=>ob (s.h.get r) λx=>asMap x λes clock=>
 gd (vX q.1 kv) (ob (bBj q.1 kv es 0) λf=>some ⟨r,kv,q.2,es,clock,f⟩)
def bKh (t:TypeId)(m k x:Operand)(s:St)(e:E):Option R:=ob (mapAt t m k s e) λf=>ob (evX x e) λv=>some (.sk (s.put f.r (oc f.at_ (.map (f.es++[(f.k,v,f.clock)]) (f.clock+1)) λq=> .map (setV f.es q.1 v) f.clock)))
def delE:List Ent->Nat->List Ent
 |[],_=>[]
 |_::r,0=>r
 |x::r,n+1=>x::delE r n
def oDelete(m k:Operand)(t:TypeId)(s:St)(e:E):Option R:=ob (mapAt t m k s e) λf=>some (.v (.t []) (s.put f.r (.map (oc f.at_ f.es λq=>delE f.es q.1) f.clock)))
def clearX(el:TypeId)(sz k o n:Nat)(s:St):Option R:=ob (zeroX el) λz=>gd (Nat.beq z.cells.length sz&&allL V.one z.cells) (ob (bAc k o (qE n z.cells) s) λs'=>some (.v (.t []) s'))
def clearV(el:TypeId)(sz:Nat)(u:V)(s:St):Option R:=match u with
 |.l0=>some (.v (.t []) s)
 |.z _ _ _ _=>some (.v (.t []) s)
 |.l k o n _=>sel (Nat.beq n 0) (some (.v (.t []) s)) (clearX el sz k o n s)
 |_=>none
def oClear(x:Operand)(t:TypeId)(s:St)(e:E):Option R:=ob (elemOf t) λq=>oc q.1 (ob (evX x e) λu=>clearV q.2.1 q.2.2 u s) λ_=>none
def oAlloc(t:TypeId)(s:St)(_e:E):Option R:=ob (zeroX t) λz=>gd (allL V.one z.cells) (some (.v (.p s.n 0) (s.new (.cells z.cells t none false))))
def oBox (t:TypeId)(x:Operand)(s:St)(e:E):Option R:=ob (evX x e) λv=>gd (allL V.one v.cells) (some (.v (.p s.n 0) (s.new (.cells v.cells t none false))))
def sV (t:TypeId)(n:Nat)(parts:Array (Nat×Operand))(s:St)(e:E):Option R:=ob (elemOf t) λq=>oc q.1 (ob (zeroX q.2.1) λz=>ob (partsX parts.toList e) λps=>
 gd (Nat.ble (n*q.2.2) 16777216&&Nat.beq z.cells.length q.2.2) (ob (bKq (λi=>some (i*q.2.2,q.2.2)) (qE n z.cells) ps) λcs=>gd (allL V.one cs) (some (.v (.l s.n 0 n (.n n)) (s.new (.cells cs q.2.1 none false)))))) λ_=>none
def oStore(t:TypeId)(a x:Operand)(s:St)(e:E):Option R:=ob (evX a e) λu=>asP u λk o=>ob (evX x e) λv=>ob (sizeX t) λsz=>gd (Nat.beq v.cells.length sz&&allL V.one v.cells) (ob (bAc k o v.cells s) λs'=>some (.sk s'))
def bytesOf(t:TypeId):Option Nat:=ob (Ctx.P.info? t) λi=>some i.bytes
def bIg (t:TypeId)(l c:Operand)(s:St)(e:E):Option R:=ob (elemOf t) λq=>oc q.1 (ob (zeroX q.2.1) λz=>ob (bytesOf q.2.1) λw=>ob (evX l e) λl=>asN l λl=>ob (evX c e) λc=>asN c λc=>
 gd (Nat.ble l c&&(Nat.ble (w*c) pow47&&(Nat.blt c 9223372036854775808&&(Nat.beq z.cells.length q.2.2&&allL V.one z.cells)))) (some (.v (.l s.n 0 l (.n c)) (s.new (.cells (qE c z.cells) q.2.1 none false))))) λ_=>none
def oMakeMap(t:TypeId)(x:Option Operand)(s:St)(e:E):Option R:=oc x (some (.v (.m s.n) (s.new (.map [] 0)))) λx=>ob (bKk t) λ_=>ob (evX x e) λu=>asI u λ_ _=>some (.v (.m s.n) (s.new (.map [] 0)))
def bQo (t:TypeId)(m k:Operand)(s:St)(e:E):Option R:=ob (mapAt t m k s e) λf=>oc f.at_
 (ob (zeroX f.et) λz=>some (.v (.t [z,.i .i64 (.ofNat f.clock)]) (s.put f.r (.map (f.es++[(f.k,z,f.clock)]) (f.clock+1)))))
 λq=>ob (nthL f.es q.1) λx=>some (.v (.t [q.2,.i .i64 (.ofNat x.2.2)]) s)
def bGh (m st x:Operand)(s:St)(e:E):Option R:=ob (evX m e) λu=>asM u λr=>ob (evX st e) λb=>asN b λb=>ob (evX x e) λv=>ob (s.h.get r) λx=>asMap x λes clock=>ob (findB es b 0) λi=>some (.sk (s.put r (.map (setV es i v) clock)))
def oRange(t:TypeId)(x:Operand)(s:St)(e:E):Option R:=ob (evX x e) λu=>gd (isStr t) (asS u λa=>some (.v (.p s.n 0) (s.new (.sit a 0))))
def nxStr (k:Nat)(a:List Nat)(p:Nat)(s:St):Option R:=sel (Nat.blt p a.length) (ob (runeX a p) λc=>some (.v (.t [.b true,.i .i64 (.ofNat p),.i .i32 (.ofNat c)]) (s.put k (.sit a (p+1))))) (some (.v (.t [.b false]) s))
def oNext (it:Operand)(str:Bool)(s:St)(e:E):Option R:=gd str (ob (evX it e) λu=>asP u λk o=>gd (Nat.beq o 0) (ob (s.h.get k) λx=>match x with
 |.sit a p=>nxStr k a p s
 |_=>none))
def oAppend0(x y:Operand)(t t':TypeId)(s:St)(e:E):Option R:=gd (isSl t' || isStr t') (ob (elemOf t) λq=>oc q.1 (ob (zeroX q.2.1) λz=>gd (Nat.beq z.cells.length q.2.2) (ob (bytesOf q.2.1) λw=>ob (evX x e) λu=>ob (evX y e) λv=>appendX q.2.1 q.2.2 w u v s)) λ_=>none)
def isIntT(t:TypeId):Bool:=match Ctx.P.underlying t with
 |some (.int _)=>true
 |_=>false
def isL0:V->Bool
 |.l0=>true
 |_=>false
def oZeros(x y:Operand)(t:TypeId)(s:St)(e:E):Option R:=ob (elemOf t) λq=>oc q.1 (ob (zeroX q.2.1) λz=>ob (bytesOf q.2.1) λw=>ob (evX x e) λu=>ob (evX y e) λv=>asN v λn=>
 gd (isL0 u&&(Nat.blt 0 n&&(Nat.blt 0 q.2.2&&(Nat.beq z.cells.length q.2.2&&(allL V.one z.cells&&(Nat.ble n pow47&&Nat.ble (n*w) pow47)))))) (some (bKg q.2.1 n (qE n z.cells) s))) λ_=>none
def oAppend(x y:Operand)(t t':TypeId)(s:St)(e:E):Option R:=sel (isIntT t') (oZeros x y t s e) (oAppend0 x y t t' s e)
def copyX (sz k o m:Nat)(v:V)(s:St):Option R:=match v with
 |.l0=>some (.v (.i .i64 0) s)
 |.l k' o' m' _=>ob (bDs s k' o' ((Nat.min m' m)*sz)) λcs=>ob (bAc k o cs s) λs'=>some (.v (.i .i64 (.ofNat (Nat.min m' m))) s')
 |_=>none
def oCopy (x y:Operand)(t:TypeId)(s:St)(e:E):Option R:=ob (elemOf t) λq=>oc q.1 (ob (evX x e) λu=>ob (evX y e) λv=>match u with
 |.l k o m _=>copyX q.2.2 k o m v s
 |_=>none) λ_=>none
def ustrX (q k n:Nat)(s:St):Option R:=ob (s.h.get k) λx=>asC x λcs el _ ro=>gd (!ro&&(Nat.beq q el&&(isU8 el&&Nat.ble n pow47))) (ob (cutL cs 0 n) λl=>ob (bHd byteX l) λa=>some (.v (.s a) (s.drop k)))
def asN6 {β:Type}(v:V):(Nat->Option β)->Option β:=match v with
 |.i .i64 (.ofNat n)=>λf=>f n
 |_=>λ_=>none
def usNil (u:V)(s:St):Option R:=match u with
 |.p0=>some (.v (.s []) s)
 |.p _ _=>some (.v (.s []) s)
 |_=>none
def bLo (x y:Operand)(t:TypeId)(s:St)(e:E):Option R:=ob (evX x e) λu=>ob (evX y e) λv=>asN6 v λn=>sel (Nat.beq n 0) (usNil u s) (asP u λk o=>gd (Nat.beq o 0) (ob (ptrTo t) λq=>ob (sizeX q) λz=>gd (Nat.beq z 1) (ustrX q k n s)))
def oCallV(f:Operand)(args:List Operand)(s:St)(e:E):Option R:=ob (evX f e) λv=>match v with
 |.f (.func f) first cap=>ob (evsX args e) λvs=>some (.call f (first++(vs++cap)) s)
 |_=>none
def recvX (el:Option TypeId)(v:V)(s:St):Option V:=oc el (some v) λel=>asP v λk o=>ob (loadX el k o s) λr=>gd (r.ok s.n s.c) (some r)
def oInvoke(r:Operand)(name:String)(args:List Operand)(s:St)(e:E):Option R:=ob (evX r e) λu=>asE u λt v=>ob (Ctx.meth t name) λf=>ob (recvX f.2 v s) λq=>ob (evsX args e) λvs=>some (.call f.1 (q::vs) s)
def two (args:List Operand)(ts:List TypeId)(f:Operand->Operand->TypeId->TypeId->St->E->Option R):St->E->Option R:=match args,ts with
 |[x,y],[t,t']=>f x y t t'
 |_,_=>λ_ _=>none
def one1 (args:List Operand)(ts:List TypeId)(f:Operand->TypeId->St->E->Option R):St->E->Option R:=match args,ts with
 |[x],[t]=>f x t
 |_,_=>λ_ _=>none
def oBuiltin(b:Builtin)(args:List Operand)(ts:List TypeId):St->E->Option R:=match b with
 |.append=>two args ts oAppend
 |.unsafeString=>two args ts λx y t _=>bLo x y t
 |.delete=>two args ts λm k t _=>oDelete m k t
 |.clear=>one1 args ts oClear
 |.copy=>two args ts λx y t _=>oCopy x y t
 |b=>λs e=>ob (pCall b args ts s e) λv=>some (.v v s)
def oCall (c:Call):St->E->Option R:=match c with
 |⟨.builtin b,args,ts⟩=>oBuiltin b args.toList ts.toList
 |⟨.value f,args,_⟩=>oCallV f args.toList
 |⟨.invoke r name,args,_⟩=>oInvoke r name args.toList
def oPure (o:Op)(s:St)(e:E):Option R:=ob (pureX o s e) λv=>some (.v v s)
def opX (o:Op):St->E->Option R:=match o with
 |.alloc t=>oAlloc t
 |.box t x=>oBox t x
 |.buildSlice t n parts=>sV t n parts
 |.store t a x=>oStore t a x
 |.makeSlice t l c=>bIg t l c
 |.makeMap t r=>oMakeMap t r
 |.mapUpdate t m k x=>bKh t m k x
 |.insert t m k x=>bKh t m k x
 |.mapEntry t m k=>bQo t m k
 |.entryStore _ m st x=>bGh m st x
 |.range t x=>oRange t x
 |.next it str=>oNext it str
 |.call c=>oCall c
 |o=>oPure o
def wantG (ops:Array Oper)(j:Nat)(c:Bool)(e:E):Option Bool:=ob (nthL ops.toList j) λo=>ob o.dst λd=>ob (e.get d) λv=>match v with
 |.b x=>some (x==c)
 |.t _=>some false
 |_=>none
def zC (ops:Array Oper)(o:Oper)(e:E):Option Bool:=oc o.guard (some true) λq=>wantG ops q.1 q.2 e
def putX (N:Nat)(d:Option Tmp)(v:V)(s:St)(e:E):Option (E×St):=oc d (some (e,s)) λd=>gd (Nat.blt d N&&v.ok s.n s.c) (some (e.set (some v) fuelT d,s))
inductive Ex where
 |nm|ex (id:Nat)|rt
abbrev Res:=Option (Ex×E×St)
abbrev Rec:=FuncId->Nat->Code->E->St->Res
def argsE (n:Nat)(l:List V)(e:E):E:=List.rec (motive:=λ_=>Nat->E->E) (λ_ e=>e) (λv _ ih i e=>ih (i+1) (e.set (some v) fuelT i)) l n e
def resV (e:E)(s:St)(r:ResultVar):Option V:=match r with
 |.tmp t=>e.get t
 |.cell a t=>ob (e.get a) λu=>asP u λk o=>loadX t k o s
def oneRes:List V->V
 |[v]=>v
 |l=> .t l
def endR:Ex->Bool
 |.ex _=>false
 |_=>true
def callB (f:FuncId)(fn:Func)(c:Code)(rec:Rec)(args:List V)(s:St):Option (V×St):=gd (Nat.ble args.length fn.ntmps&&(allL (V.ok s.n s.c) args&& !(fn.name== "runtime.NumGoroutine"))) (ob (rec f fn.ntmps c (argsE 0 args .lf) s) λq=>
 gd (endR q.1) (ob (bHd (resV q.2.1 q.2.2) fn.results.toList) λl=>some (oneRes l,q.2.2)))
def callF (f:FuncId)(rec:Rec)(args:List V)(s:St):Option (V×St):=gd (Ctx.known f) (ob (Ctx.P.funcs[f]?) λfn=>ob fn.body λc=>callB f fn c rec args s)
def callX (f:FuncId)(rec:Rec)(args:List V)(s:St):Option (V×St):=oc (Ctx.orc f) (callF f rec args s) λh=>h args s
def doneX (rec:Rec)(N:Nat)(d:Option Tmp)(e:E)(r:R):Option (E×St):=match r with
 |.v v s=>putX N d v s e
 |.sk s=>putX N d undefV s e
 |.call f args s=>ob (callX f rec args s) λq=>putX N d q.1 q.2 e
def yT (rec:Rec)(N:Nat)(ops:Array Oper)(o:Oper)(e:E)(s:St):Option (E×St):=ob (zC ops o e) λw=>sel w (ob (opX o.op s e) (doneX rec N o.dst e)) (putX N o.dst undefV s e)
def opsX (rec:Rec)(N:Nat)(ops:Array Oper)(l:List Oper)(e:E)(s:St):Option (E×St):=List.rec (motive:=λ_=>E->St->Option (E×St)) (λe s=>some (e,s)) (λo _ ih e s=>ob (yT rec N ops o e s) λq=>ih q.1 q.2) l e s
def looksB:Builtin->Bool
 |.len=>true
 |.cap=>true
 |.max=>true
 |.min=>true
 |.unsafeSliceData=>true
 |_=>false
def looks:Op->Bool
 |.move _|.assign _|.pick ..|.binOp ..|.unOp ..|.extract ..|.load ..|.fieldAddr ..|.field ..|.indexAddr ..|.index ..|.slice ..|.nilCheck _|.makeFunc ..|.makeInterface ..|.typeAssert ..|.build ..|.lookup ..|.convert .. =>true
 |.call ⟨.builtin b,_,_⟩=>looksB b
 |_=>false
def bHx:Op->Option (FuncId×List Operand)
 |.call ⟨.value (.func f),args,_⟩=>gd (Ctx.quiet.any (Nat.beq f)) (some (f,args.toList))
 |_=>none
def lateO (o:Oper):Bool:=match o.op with
 |.buildSlice _ _ _=>o.guard.isNone&&o.dst.isSome
 |.alloc _=>o.guard.isNone&&o.dst.isSome
 |.box _ _=>o.guard.isNone&&o.dst.isSome
 |_=>false
def bCv (ops:Array Oper)(j l:Nat):Bool:=oc ops[j]? false λoj=>oc ops[l]? false λol=>lateO ol&&(ol.apart ops oj&&(Nat.blt j 4096&& !Nat.beq j l))
def pairB (md:Region.Mode)(ops:Array Oper)(j l:Nat)(listed:Array Bool):Bool:=bCv ops j l&&((Region.ready md ops listed==[j,l] || Region.ready md ops listed==[l,j])&&(Region.ready md ops (listed.setIfInBounds j true)==[l]&&Region.ready md ops (listed.setIfInBounds l true)==[j]))
def isAl:Op->Bool
 |.alloc _=>true
 |_=>false
def bPi (ops:Array Oper)(j l:Nat):Bool:=bCv ops j l&&(Nat.blt l 4096&&oc ops[l]? false λol=>isAl ol.op)
def wE:Nat:=16777216
def oZ (k:Nat):Nat:=Nat.mod k 4096
def sC (k:Nat):Nat:=Nat.sub (Nat.div k 4096) 4096
def earlyB(md:Region.Mode)(ops:Array Oper)(j l:Nat)(listed:Array Bool):Bool:=bPi ops j l&&((Region.ready md ops listed==[j,l] || Region.ready md ops listed==[l,j])&&Region.ready md ops (listed.setIfInBounds l true)==[j])
def bPf (md:Region.Mode)(ops:Array Oper):List Nat->Array Bool->Bool
 |[],listed=>(Region.ready md ops listed).isEmpty
 |l::r,listed=>(Region.ready md ops listed==[l])&&bPf md ops r (listed.setIfInBounds l true)
def nameOf:V->List Nat
 |.p k _=>[k]
 |.l k _ _ _=>[k]
 |.m k=>[k]
 |_=>[]
def namesAt(x:Operand)(e:E):List Nat:=oc (evX x e) [] nameOf
def mapName:V->List Nat
 |.m k=>[k]
 |_=>[]
def readsX(e:E):Op->List Nat
 |.load _ a=>namesAt a e
 |.convert _ _ a=>namesAt a e
 |.lookup _ a _ _=>namesAt a e
 |.call ⟨.builtin .len,args,_⟩=>oc (nthL args.toList 0) [] λx=>oc (evX x e) [] mapName
 |_=>[]
def bPq (N:Nat)(s:St)(ops:Array Oper):List (Bool×Nat)->E->List Nat
 |[],_=>[]
 |(q,k)::r,e=>sel q (oc (nthL ops.toList k) [] λo=>readsX e o.op++bPq N s ops r (oc (pureX o.op s e) e λv=>oc (putX N o.dst v s e) e Prod.fst)) (bPq N s ops r e)
def uC {α:Type}(p:α->α->Bool):List α->List α->Bool
 |[],[]=>true
 |x::a,y::b=>p x y&&uC p a b
 |_,_=>false
def capEq:Cap->Cap->Bool
 |.n a,.n b=>Nat.beq a b
 |.s a b,.s a' b'=>Nat.beq a a'&&Nat.beq b b'
 |_,_=>false
def beqD (d:Nat):V->V->Bool:=Nat.rec (motive:=λ_=>V->V->Bool) (λ_ _=>false) (λ_ ih u v=>match u,v with
 |.b x,.b y=>x==y
 |.i k x,.i k' y=>sameKind k k'&&ieq x y
 |.s x,.s y=>uC Nat.beq x y
 |.p0,.p0=>true
 |.p k o,.p k' o'=>Nat.beq k k'&&Nat.beq o o'
 |.l0,.l0=>true
 |.l k o n c,.l k' o' n' c'=>Nat.beq k k'&&(Nat.beq o o'&&(Nat.beq n n'&&capEq c c'))
 |.z k o n c,.z k' o' n' c'=>Nat.beq k k'&&(Nat.beq o o'&&(Nat.beq n n'&&Nat.beq c c'))
 |.y c,.y c'=>Nat.beq c c'
 |.m0,.m0=>true
 |.m k,.m k'=>Nat.beq k k'
 |.f (.func f) a c,.f (.func f') a' c'=>Nat.beq f f'&&(uC ih a a'&&uC ih c c')
 |.f0,.f0=>true
 |.e0,.e0=>true
 |.e t v,.e t' v'=>Nat.beq t t'&&ih v v'
 |.g a,.g b=>uC ih a b
 |.t a,.t b=>uC ih a b
 |_,_=>false) d
def oeq:Option Nat->Option Nat->Bool
 |none,none=>true
 |some a,some b=>Nat.beq a b
 |_,_=>false
def entEq (x y:Ent):Bool:=beqD 4 x.1 y.1&&(beqD 4 x.2.1 y.2.1&&Nat.beq x.2.2 y.2.2)
def Blk.beq:Blk->Blk->Bool
 |.cells cs t x ro,.cells cs' t' x' ro'=>Nat.beq t t'&&(oeq x x'&&((ro==ro')&&uC (beqD 4) cs cs'))
 |.map es c,.map es' c'=>Nat.beq c c'&&uC entEq es es'
 |.win a,.win b=>uC (beqD 4) a b
 |.know a,.know b=>Nat.beq a b
 |_,_=>false
def restX (s:St)(D:List Nat):T Blk:=List.rec .lf (λk _ ih=>ih.set (s.h.get k) fuelT k) D
def emptyS:St:={h:= .lf,n:=Ctx.n0,c:=0}
def quietX(f:FuncId)(args:List Operand)(rec:Rec)(e:E):Option V:=ob (evsX args e) λvs=>gd (allL (V.ok 0 0) vs) (ob (callF f rec vs emptyS) λq=>gd (q.1.ok 0 0) (some q.1))
def lookX (rec:Rec)(o:Op)(s0:St)(e:E):Option V:=oc (bHx o) (pureX o s0 e) λq=>quietX q.1 q.2 rec e
def lookL (rec:Rec)(N:Nat)(ops:Array Oper)(o:Oper)(h0:T Blk)(e:E)(s:St):Option (E×St):=ob (zC ops o e) λw=>sel w (ob (lookX rec o.op {s with h:=h0} e) λv=>putX N o.dst v s e) (putX N o.dst undefV s e)
def vW (h0:T Blk)(D:List Nat)(s:St):Bool:=allL (λk=>oc (h0.get k) false λa=>oc (s.h.get k) false λb=>a.beq b) D
def bsX (o:Op)(e:E):Option (TypeId×Option Nat×List V):=match o with
 |.buildSlice t n parts=>ob (elemOf t) λq=>oc q.1 (ob (zeroX q.2.1) λz=>ob (partsX parts.toList e) λps=>
   gd (Nat.ble (n*q.2.2) 16777216&&Nat.beq z.cells.length q.2.2) (ob (bKq (λi=>some (i*q.2.2,q.2.2)) (qE n z.cells) ps) λcs=>gd (allL V.one cs) (some (q.2.1,some n,cs)))) λ_=>none
 |.alloc t=>ob (zeroX t) λz=>gd (allL V.one z.cells) (some (t,none,z.cells))
 |.box t x=>ob (evX x e) λv=>gd (allL V.one v.cells) (some (t,none,v.cells))
 |_=>none
def bGg (k:Nat)(n:Option Nat):V:=oc n (.p k 0) λn=> .l k 0 n (.n n)
def sameBs(b b':TypeId×Option Nat×List V):Bool:=Nat.beq b.1 b'.1&&(oeq b.2.1 b'.2.1&&uC (beqD 4) b.2.2 b'.2.2)
def pairX (rec:Rec)(N:Nat)(ops:Array Oper)(D:List Nat)(h0:T Blk)(j l:Nat)(e:E)(s:St):Option (E×St):=ob (nthL ops.toList j) λoj=>ob (nthL ops.toList l) λol=>ob (bsX ol.op e) λb=>ob (yT rec N ops oj e s) λq=>gd (vW h0 D q.2)
 (ob (bsX ol.op q.1) λb'=>gd (sameBs b b') (ob (yT rec N ops ol q.1 q.2) λr=>gd (vW h0 D r.2) (some r)))
def wV (rec:Rec)(N:Nat)(ops:Array Oper)(D:List Nat)(h0:T Blk)(l:List (Bool×Nat))(e:E)(s:St):Option (E×St):=List.rec (motive:=λ_=>E->St->Option (E×St)) (λe s=>some (e,s))
 (λx _ ih e s=>sel x.1 (ob (nthL ops.toList x.2) λo=>ob (lookL rec N ops o h0 e s) λq=>ih q.1 q.2) (sel (Nat.blt x.2 4096) (ob (nthL ops.toList x.2) λo=>ob (yT rec N ops o e s) λq=>gd (vW h0 D q.2) (ih q.1 q.2))<| sel (Nat.ble wE x.2) (ob (nthL ops.toList (oZ x.2)) λo=>ob (yT rec N ops o e s) λq=>gd (vW h0 D q.2) (ih q.1 q.2))
  (ob (pairX rec N ops D h0 (Nat.mod x.2 4096) (Nat.pred (Nat.div x.2 4096)) e s) λq=>ih q.1 q.2))) l e s
def lastR (rec:Rec)(N:Nat)(ops:Array Oper)(l:List Nat)(e:E)(s:St):Option (E×St):=List.rec (motive:=λ_=>E->St->Option (E×St)) (λe s=>some (e,s)) (λk _ ih e s=>ob (nthL ops.toList k) λo=>ob (yT rec N ops o e s) λq=>ih q.1 q.2) l e s
def drawX (rec:Rec)(N:Nat)(ops:Array Oper)(od:List (Bool×Nat))(l:List Nat)(D:List Nat)(e:E)(s:St):Option (E×St):=ob (wV rec N ops D (restX s D) od e s) λq=>lastR rec N ops l q.1 q.2
def regX (rec:Rec)(f N id:Nat)(ops:Array Oper)(draw:Bool)(e:E)(s:St):Option (E×St):=sel draw
 (ob (Ctx.plan f id) λq=>drawX rec N ops q.1 q.2 (bPq N s ops q.1 e) e s)
 (opsX rec N ops ops.toList e s)
def xA (ops:Array Oper)(l:Nat):List (Bool×Nat)->Bool
 |[]=>false
 |(true,k)::r=>oc ops[l]? false (λol=>oc ops[k]? false λo=>ol.apart ops o)&&xA ops l r
 |(false,k)::_=>Nat.beq k l
def gT (ops:Array Oper):List (Bool×Nat)->Bool
 |[]=>true
 |(true,_)::r=>gT ops r
 |(false,k)::r=>if k<4096 then gT ops r else if wE<=k then (bPi ops (oZ k) (sC k)&&xA ops (sC k) r)&&gT ops r else bCv ops (k%4096) (k/4096-1)&&gT ops r
def wB:List (Bool×Nat)->Option Nat->Nat
 |[],_=>0
 |(true,_)::r,p=>wB r p+1
 |(false,k)::r,p=>if p=some k then wB r none else if k<4096 then wB r p+1 else if wE<=k then wB r p+1 else wB r p+2
def waitsT(md:Region.Mode)(ops:Array Oper)(ls:List Nat)(k:Nat):Bool:=match ls with
 |[]=>true
 |l::_=>waits md ops l k
def iJ (md:Region.Mode)(ops:Array Oper)(ls:List Nat):List (Bool×Nat)->Option Nat->Array Bool->Bool
 |[],p,listed=>p.isNone&&bPf md ops ls listed
 |(true,k)::r,p,listed=>(Region.ready md ops listed).contains k&&(Region.free md ops listed k&&(waitsT md ops ls k&&iJ md ops ls r p (listed.setIfInBounds k true)))
 |(false,k)::r,p,listed=>if p=some k then iJ md ops ls r none listed else if k<4096 then (Region.ready md ops listed==[k])&&iJ md ops ls r p (listed.setIfInBounds k true)
   else if wE<=k then earlyB md ops (oZ k) (sC k) listed&&(xA ops (sC k) r&&(p.isNone&&(iJ md ops ls r none (listed.setIfInBounds (oZ k) true)&&iJ md ops ls r (some (sC k)) ((listed.setIfInBounds (sC k) true).setIfInBounds (oZ k) true))))
   else pairB md ops (k%4096) (k/4096-1) listed&&iJ md ops ls r p ((listed.setIfInBounds (k%4096) true).setIfInBounds (k/4096-1) true)
def xG (ls:List Nat)(od:List (Bool×Nat))(ops:Array Oper):Bool:=Region.noSelect ops&&(Nat.beq (wB od none+ls.length) ops.size&&iJ .any ops ls od none (Array.replicate ops.size false))
def seqX (rec:Rec)(f N:Nat)(c:Code)(q:Ex×E×St):Res:=match q.1 with
 |.nm=>rec f N c q.2.1 q.2.2
 |_=>some q
def blockX(id:Nat)(q:Ex×E×St):Res:=match q.1 with
 |.ex i=>some (sel (Nat.beq i id) (.nm,q.2) q)
 |_=>some q
def nmX (q:E×St):Res:=some (.nm,q)
def planOk(ops:Array Oper)(q:Plan):Bool:=xG q.2 q.1 ops
def lL (f:FuncId):Code->Bool
 |.region id ops draw=>!draw || oc (Ctx.plan f id) true (planOk ops)
 |.seq a b=>lL f a&&lL f b
 |.cond _ a b=>lL f a&&lL f b
 |.block _ a=>lL f a
 |.loop a=>lL f a
 |.scope a=>lL f a
 |_=>true
def stepX (rec:Rec)(f N:Nat)(c:Code):E->St->Res:=match c with
 |.skip=>λe s=>some (.nm,e,s)
 |.label _=>λe s=>some (.nm,e,s)
 |.exit id=>λe s=>some (.ex id,e,s)
 |.ret=>λe s=>some (.rt,e,s)
 |.region id ops draw=>λe s=>ob (regX rec f N id ops draw e s) nmX
 |.seq a b=>λe s=>ob (rec f N a e s) (seqX rec f N b)
 |.cond c a b=>λe s=>ob (evX c e) λv=>asB v λt=>sel t (rec f N a e s) (rec f N b e s)
 |.block id a=>λe s=>ob (rec f N a e s) (blockX id)
 |.loop a=>λe s=>ob (rec f N a e s) (seqX rec f N (.loop a))
 |.scope a=>rec f N a
 |_=>λ_ _=>none
def zV (n:Nat):Rec:=Nat.rec (λ_ _ _ _ _=>none) (λ_ r=>stepX r) n
end
end
end X
end
section
namespace X
open Go.RowKit
structure As where
 blk:Nat->Nat
 room:Nat->Nat
 place:Nat->Option Addr
def Cap.inst(α:As):Cap->Nat
 |.n c=>c
 |.s k d=>d+α.room k
def bQ (x:List Nat):ByteArray:=⟨(x.map UInt8.ofNat).toArray⟩
mutual
def V.inst(α:As)(v:V):Value:=match v with
 |.b x=> .bool x
 |.i k x=> .int k x
 |.s x=> .string (bQ x)
 |.p0=> .pointer none
 |.p k o=> .pointer (some ⟨α.blk k,o,none⟩)
 |.l0=> .slice none 0 0
 |.l k o n c=> .slice (some ⟨α.blk k,o,none⟩) n (c.inst α)
 |.z k o o' c=> .slice (some ⟨α.blk k,if α.room c=0 then o else o',none⟩) 0 (α.room c)
 |.y c=> .slice (α.place c) 0 (α.room c)
 |.m0=> .map none
 |.m k=> .map (some (α.blk k))
 |.f fn x w=> .func fn (V.instL α x).toArray (V.instL α w).toArray
 |.f0=> .nilFunc
 |.e0=> .nilIface
 |.e q u=> .iface q (V.inst α u)
 |.g cs=> .agg (V.instL α cs).toArray
 |.t vs=> .tuple (V.instL α vs).toArray
def V.instL(α:As)(l:List V):List Value:=match l with
 |[]=>[]
 |v::r=>V.inst α v::V.instL α r
end
theorem V.instL_eq(α:As): ∀l:List V,V.instL α l=l.map (V.inst α)
 |[]=>rfl
 |v::r=>by simp[V.instL,V.instL_eq α r]
theorem oH(α:As)(cs:List V):(V.g cs).inst α= .agg (cs.map (V.inst α)).toArray:=by simp[V.inst,V.instL_eq]
theorem inst_t(α:As)(cs:List V):(V.t cs).inst α= .tuple (cs.map (V.inst α)).toArray:=by simp[V.inst,V.instL_eq]
theorem bIf(α:As)(fn:Fn)(x y:List V):(V.f fn x y).inst α= .func fn (x.map (V.inst α)).toArray (y.map (V.inst α)).toArray:=by simp[V.inst,V.instL_eq]
theorem uX(α:As):undefV.inst α=undef:=by simp[undefV,inst_t,undef]
structure lT (n c:Nat) (α β:As):Prop where
 blk: ∀k,k<n->α.blk k=β.blk k
 room: ∀k,k<c->α.room k=β.room k
 place: ∀k,k<c->α.place k=β.place k
theorem lT.refl(n c:Nat)(α:As):lT n c α α:=⟨λ_ _=>rfl,λ_ _=>rfl,λ_ _=>rfl⟩
theorem lT.trans{n c n' c':Nat}{α β γ:As}(h:lT n c α β)(k:lT n' c' β γ)(hn:n<=n')(hc:c<=c'):lT n c α γ:=
 ⟨λi hi=>(h.blk i hi).trans (k.blk i (Nat.lt_of_lt_of_le hi hn)),λi hi=>(h.room i hi).trans (k.room i (Nat.lt_of_lt_of_le hi hc)),λi hi=>(h.place i hi).trans (k.place i (Nat.lt_of_lt_of_le hi hc))⟩
def V.Sc (n c:Nat)(v:V):Prop:= ∃d,okD n c d v=true
theorem iN(n c d:Nat)(v:V):okD n c (d+1) v=(match v with
 |.p k _=>Nat.blt k n
 |.l k _ _ cp=>Nat.blt k n&&cp.ok c
 |.m k=>Nat.blt k n
 |.z k _ _ cp=>Nat.blt k n&&Nat.blt cp c
 |.y cp=>Nat.blt cp c
 |.f _ x y=>allL (okD n c d) x&&allL (okD n c d) y
 |.e _ v=>okD n c d v
 |.g cs=>allL (okD n c d) cs
 |.t vs=>allL (okD n c d) vs
 |_=>true):=rfl
theorem cap_ext{n c:Nat}{α β:As}(h:lT n c α β){x:Cap}(hx:x.ok c=true):x.inst α=x.inst β:=by
 cases x with
 |n _=>rfl
 |s k d=>
  simp only[Cap.ok,Nat.blt_eq]at hx;simp[Cap.inst,h.room k hx]
theorem okD_ext{n c:Nat}{α β:As}(h:lT n c α β): ∀(d:Nat) (v:V),okD n c d v=true->v.inst α=v.inst β:=by
 intro d
 induction d with
 |zero=>intro v hv;cases hv
 |succ d ih=>
  intro v hv
  have hl: ∀l:List V,allL (okD n c d) l=true->l.map (V.inst α)=l.map (V.inst β):=λl hl=>by
   rw[oF,List.all_eq_true]at hl;exact List.map_congr_left λx hx=>ih x (hl x hx)
  rw[iN]at hv;cases v<;>simp only[Bool.and_eq_true,Nat.blt_eq]at hv<;>try rfl
  case p k o=>simp[V.inst,h.blk k hv]
  case l k o m cp=>simp[V.inst,h.blk k hv.1,cap_ext h hv.2]
  case z k o o' cp=>simp[V.inst,h.blk k hv.1,h.room cp hv.2]
  case y cp=>simp[V.inst,h.room cp hv,h.place cp hv]
  case m k=>simp[V.inst,h.blk k hv]
  case f fn x y=>simp[bIf,hl x hv.1,hl y hv.2]
  case e t v=>simp[V.inst,ih v hv]
  case g cs=>simp[oH,hl cs hv]
  case t cs=>simp[inst_t,hl cs hv]
theorem V.Sc.ext{n c:Nat}{α β:As}{v:V}(h:v.Sc n c)(hs:lT n c α β):v.inst α=v.inst β:=h.elim λd hd=>okD_ext hs d v hd
theorem okD_mono{n c n' c':Nat}(hn:n<=n')(hc:c<=c'): ∀(d:Nat) (v:V),okD n c d v=true->okD n' c' d v=true:=by
 intro d
 induction d with
 |zero=>intro v hv;cases hv
 |succ d ih=>
  intro v hv
  have hl: ∀l:List V,allL (okD n c d) l=true->allL (okD n' c' d) l=true:=λl hl=>by
   rw[oF,List.all_eq_true]at*;exact λx hx=>ih x (hl x hx)
  rw[iN]at hv⊢;cases v<;>simp only[Bool.and_eq_true,Nat.blt_eq]at hv⊢ <;>try omega
  case l k o m cp=>
   refine⟨k7,?_⟩
   cases cp with
   |n _=>rfl
   |s j d=>have:=hv.2;simp only[Cap.ok,Nat.blt_eq]at this⊢;omega
  case f fn x y=>exact⟨hl x hv.1,hl y hv.2⟩
  case e t v=>exact ih v hv
  case g cs=>exact hl cs hv
  case t cs=>exact hl cs hv
theorem V.Sc.mono{n c n' c':Nat}{v:V}(h:v.Sc n c)(hn:n<=n')(hc:c<=c'):v.Sc n' c':=h.elim λd hd=>⟨d,okD_mono hn hc d v hd⟩
theorem V.Sc.of{n c:Nat}{v:V}(h:v.ok n c=true):v.Sc n c:=⟨5,h⟩
theorem V.Sc.cells{n c:Nat}{v:V}(h:v.Sc n c): ∀x∈v.cells,x.Sc n c:=λx hx=>by
 obtain⟨d,hd⟩:=h;cases v
 case g cs=>
  cases d with
  |zero=>cases hd
  |succ d=>
   rw[iN]at hd;simp only[oF,List.all_eq_true]at hd;exact⟨d,hd x hx⟩
 all_goals
  have:x=_:=List.mem_singleton.1 hx;rw[this];exact⟨d,hd⟩
theorem gZ(α:As)(v:V):(v.inst α).cells=(v.cells.map (V.inst α)).toArray:=by
 cases v<;>simp[V.cells,Value.cells,V.inst,V.instL_eq]
theorem one_inst(α:As){v:V}(h:v.one=true):(v.inst α).oneCell'=true:=by
 cases v<;>simp[V.one,V.inst,Value.oneCell']at h⊢
theorem byte_back(s:ByteArray):bQ (s.data.toList.map UInt8.toNat)=s:=by
 have:(s.data.toList.map UInt8.toNat).map UInt8.ofNat=s.data.toList:=by
  rw[List.map_map]
  conv=>rhs;rw[<-List.map_id s.data.toList]
  exact List.map_congr_left λx _=>by simp
 unfold bQ;rw[this]
theorem ofD_succ(d:Nat)(v:Value):ofD (d+1) v=(match v with
   |.bool x=>some (.b x)
   |.int k x=>some (.i k x)
   |.string s=>some (.s (s.data.toList.map UInt8.toNat))
   |.pointer none=>some .p0
   |.slice none 0 0=>some .l0
   |.map none=>some .m0
   |.func fn a c=>match a.toList,c.toList with
    |[],[]=>some (.f fn [] [])
    |_,_=>none
   |.nilFunc=>some .f0
   |.nilIface=>some .e0
   |.agg cs=>ob (mapZ undefV (ofD d) cs.toList) λl=>some (.g l)
   |.tuple cs=>match cs.toList with
    |[]=>some (.t [])
    |_=>none
   |_=>none):=rfl
theorem ofD_inst(α:As): ∀(d:Nat) (v:Value) (u:V),ofD d v=some u->u.inst α=v/\ ∀n c,okD n c d u=true:=by
 intro d
 induction d with
 |zero=>intro v u h;cases h
 |succ d ih=>
  intro v u h;rw[ofD_succ]at h;split at h
  .cases h;exact⟨rfl,λ_ _=>rfl⟩
  .cases h;exact⟨rfl,λ_ _=>rfl⟩
  .cases h;exact⟨by simp[V.inst,byte_back],λ_ _=>rfl⟩
  .cases h;exact⟨rfl,λ_ _=>rfl⟩
  .cases h;exact⟨rfl,λ_ _=>rfl⟩
  .cases h;exact⟨rfl,λ_ _=>rfl⟩
  .rename_i fn a c;split at h
   .rename_i ha hc;cases h;refine⟨?_,λ_ _=>rfl⟩;have ea:a= #[]:=by apply Array.ext';simpa using ha
    have ec:c= #[]:=by apply Array.ext';simpa using hc
    subst ea ec;rfl
   .cases h
  .cases h;exact⟨rfl,λ_ _=>rfl⟩
  .cases h;exact⟨rfl,λ_ _=>rfl⟩
  .rename_i cs;obtain⟨l,hl,h⟩:=bB h;cases h;have hm:=bQj _ _ _ _ hl
   have key: ∀(xs:List Value) (l:List V),xs.map (ofD d)=l.map some->l.map (V.inst α)=xs/\ ∀n c,l.all (okD n c d)=true:=by
    intro xs
    induction xs with
    |nil=>
     intro l h
     cases l with
     |nil=>exact⟨rfl,λ_ _=>rfl⟩
     |cons _ _=>cases h
    |cons x xs ihx=>
     intro l h
     cases l with
     |nil=>cases h
     |cons y l=>
      simp only[List.map_cons,List.cons.injEq]at h;obtain⟨h1,h2⟩:=ih x y h.1;obtain⟨h3,h4⟩:=ihx l h.2;exact⟨by simp[h1,h3],λn c=>by simp[h2 n c,h4 n c]⟩
   obtain⟨h1,h2⟩:=key cs.toList l hm;refine⟨by simp[oH,h1],λn c=>?_⟩;rw[iN];simp only[oF,h2]
  .rename_i cs;split at h
   .rename_i hc;cases h;have ec:cs= #[]:=by apply Array.ext';simpa using hc
    subst ec;exact⟨by simp[inst_t],λ_ _=>rfl⟩
   .cases h
  .cases h
theorem tP{α:As}{v:Value}{u:V}(h:ofV v=some u):u.inst α=v:=(ofD_inst α _ v u h).1
theorem ofV_sc{v:Value}{u:V}(h:ofV v=some u)(n c:Nat):u.Sc n c:=⟨_,(ofD_inst ⟨λ_=>0,λ_=>0,λ_=>none⟩ _ v u h).2 n c⟩
section
variable {β : Type} {x : β} {v : V}
theorem bKp{f:Bool->Option β}(h:asB v f=some x): ∃t,v= .b t/\f t=some x:=by cases v<;>first|exact⟨_,rfl,h⟩|cases h
theorem kT{f:IntKind->Int->Option β}(h:asI v f=some x): ∃k n,v= .i k n/\f k n=some x:=by cases v<;>first|exact⟨_,_,rfl,h⟩|cases h
theorem rR{f:Nat->Option β}(h:asN v f=some x): ∃k n,v= .i k (.ofNat n)/\f n=some x:=by
 cases v
 case i k n=>
  cases n
  .exact⟨_,_,rfl,h⟩
  .cases h
 all_goals cases h
theorem nW{f:Nat->Nat->Option β}(h:asP v f=some x): ∃k o,v= .p k o/\f k o=some x:=by cases v<;>first|exact⟨_,_,rfl,h⟩|cases h
theorem jT{f:List Nat->Option β}(h:asS v f=some x): ∃a,v= .s a/\f a=some x:=by cases v<;>first|exact⟨_,rfl,h⟩|cases h
theorem tR{f:List V->Option β}(h:asG v f=some x): ∃a,v= .g a/\f a=some x:=by cases v<;>first|exact⟨_,rfl,h⟩|cases h
theorem asT_some{f:List V->Option β}(h:asT v f=some x): ∃a,v= .t a/\f a=some x:=by cases v<;>first|exact⟨_,rfl,h⟩|cases h
theorem asM_some{f:Nat->Option β}(h:asM v f=some x): ∃k,v= .m k/\f k=some x:=by cases v<;>first|exact⟨_,rfl,h⟩|cases h
theorem asE_some{f:TypeId->V->Option β}(h:asE v f=some x): ∃t u,v= .e t u/\f t u=some x:=by cases v<;>first|exact⟨_,_,rfl,h⟩|cases h
theorem wF{y:Blk}{f:List V->TypeId->Option Nat->Bool->Option β}(h:asC y f=some x): ∃cs t ext ro,y= .cells cs t ext ro/\f cs t ext ro=some x:=by cases y<;>first|exact⟨_,_,_,_,rfl,h⟩|cases h
theorem uS{y:Blk}{f:List Ent->Nat->Option β}(h:asMap y f=some x): ∃es c,y= .map es c/\f es c=some x:=by cases y<;>first|exact⟨_,_,rfl,h⟩|cases h
end
theorem bEn(a b:Int):ieq a b=(a==b):=by
 rw[Bool.eq_iff_iff];cases a<;>cases b<;>simp[ieq]<;>omega
theorem ilt_eq(a b:Int):ilt a b=decide (a<b):=by
 cases a with
 |ofNat x=>
  cases b with
  |ofNat y=>
   have:(Int.ofNat x<Int.ofNat y)↔x<y:=Int.ofNat_lt;simp only[ilt,this]
   cases h:Nat.blt x y with
   |true=>simp[Nat.blt_eq]at h;simp[h]
   |false=>
    have: ¬x<y:=λhh=>by rw[<-Nat.blt_eq,h]at hh;cases hh
    simp[this]
  |negSucc y=>simp[ilt];omega
 |negSucc x=>
  cases b with
  |ofNat y=>simp[ilt];omega
  |negSucc y=>
   have:(Int.negSucc x<Int.negSucc y)↔y<x:=k7
   simp only[ilt,this]
   cases h:Nat.blt y x with
   |true=>simp[Nat.blt_eq]at h;simp[h]
   |false=>
    have: ¬y<x:=λhh=>by rw[<-Nat.blt_eq,h]at hh;cases hh
    simp[this]
theorem bBm(k:IntKind)(x:Int):wrapF k x=k.wrap x:=by
 unfold wrapF
 cases x with
 |ofNat m=>
  show sel (Nat.blt m (lim k)) (Int.ofNat m) (k.wrap (.ofNat m))=k.wrap (.ofNat m);rw[cJ];split
  .rename_i h;rw[Nat.blt_eq]at h;have h0:(0:Int)<=Int.ofNat m:=Int.natCast_nonneg m;have h1:(Int.ofNat m:Int)<(lim k:Nat):=Int.ofNat_lt.2 h;generalize Int.ofNat m=z at*;cases k<;>simp only[lim]at h1
   .exact(IntWalk.i8_in z k7).symm
   .exact(IntWalk.i16_in z k7).symm
   .exact(IntWalk.i32_in z k7).symm
   .exact(IntWalk.i64_in z k7).symm
   .exact(IntWalk.u8_in z k7).symm
   .exact(IntWalk.u16_in z k7).symm
   .exact(IntWalk.u32_in z k7).symm
   .exact(IntWalk.u64_in z k7).symm
  .rfl
 |negSucc m=>
  show sel (isI64 k) (sel (Nat.blt m 9223372036854775808) (Int.negSucc m) (k.wrap (.negSucc m))) (k.wrap (.negSucc m))=k.wrap (.negSucc m);rw[cJ,cJ];split
  .split
   .rename_i hk h;rw[Nat.blt_eq]at h;cases k<;>simp[isI64]at hk
    exact(IntWalk.i64_in _ k7).symm
   .rfl
  .rfl
end X
end
section
namespace X
open Go.RowKit
theorem bLk(x y:List Nat):seq x y=((bQ x).toList==(bQ y).toList):=by
 rw[ByteArray.toList_eq,ByteArray.toList_eq];show seq x y=(x.map UInt8.ofNat==y.map UInt8.ofNat)
 induction x generalizing y with
 |nil=>cases y<;>rfl
 |cons a x ih=>
  cases y with
  |nil=>rfl
  |cons b y=>
   have hb:Nat.beq (a%256) (b%256)=(UInt8.ofNat a==UInt8.ofNat b):=by
    rw[Bool.eq_iff_iff,Nat.beq_eq,beq_iff_eq,<-UInt8.toNat_inj];simp
   simp only[seq,ih,hb,List.map_cons,List.cons_beq_cons]
section
variable [Ctx]
def entI (α:As)(x:Ent):MapEntry:=⟨x.1.inst α,x.2.1.inst α,x.2.2⟩
def Blk.Is(α:As)(w:World)(r:Nat):Blk->Prop
 |.cells cs q none _=>w.heap[r]?=some (.cells (cs.map (V.inst α)).toArray q)
 |.cells cs q (some c) _=> ∃rest:List Value,rest.length=α.room c*Ctx.P.cellsOf q/\w.heap[r]?=some (.cells (cs.map (V.inst α)++rest).toArray q)
 |.map es clock=>w.heap[r]?=some (.map (es.map (entI α)).toArray clock)
 |.sit x pos=>w.heap[r]?=some (.stringIter (bQ x) pos)
 |.mit m since seen last=>w.heap[r]?=some (.mapIter (m.map α.blk) since seen.toArray last)
 |.win cs=>r<w.heap.size/\ ∀i v,cs[i]?=some v->w.cell? ⟨r,i,none⟩=some (v.inst α)
 |.know n=> ∃o,w.heap[r]?=some o/\Ctx.G n o
def Blk.Sc(n c:Nat):Blk->Prop
 |.cells cs _ ext _=>(∀v∈cs,v.Sc n c/\v.one=true)/\ ∀k,ext=some k->k<c
 |.map es _=> ∀x∈es,x.1.Sc n c/\x.2.1.Sc n c
 |.sit _ _=>True
 |.mit m _ _ _=> ∀k,m=some k->k<n
 |.win cs=> ∀v∈cs,v.Sc n c/\v.one=true
 |.know _=>True
structure Sim (α:As) (s:St) (w:World):Prop where
 gl: ∀g k,Ctx.gl g=some k->k<s.n/\α.blk k=g
 lt: ∀k x,s.h.get k=some x->k<s.n
 sc: ∀k x,s.h.get k=some x->x.Sc s.n s.c
 is: ∀k x,s.h.get k=some x->x.Is α w (α.blk k)
 ne: ∀k k' x x',s.h.get k=some x->s.h.get k'=some x'->α.blk k=α.blk k'->k=k'
structure EOk (α:As) (s:St) (N:Nat) (e:E) (a:Act):Prop where
 defers:a.defers=[]
 size:N<=a.tmps.size
 get: ∀i v,e.get i=some v->v.Sc s.n s.c/\a.tmps[i]?=some (v.inst α)
section
variable {α : As} {s : St} {w : World} {N : Nat} {e : E} {a : Act}
theorem Sim.cells(h:Sim α s w){k:Nat}{cs:List V}{t:TypeId}{ext:Option Nat}{ro:Bool}(hk:s.h.get k=some (.cells cs t ext ro)): ∃rest:List Value,w.heap[α.blk k]?=some (.cells (cs.map (V.inst α)++rest).toArray t)/\(ext=none->rest=[]):=by
 have:=h.is k _ hk
 cases ext with
 |none=>exact⟨[],by simpa[Blk.Is]using this,λ_=>rfl⟩
 |some c=>
  obtain⟨rest,_,hr⟩:=this;exact⟨rest,hr,λh=>by cases h⟩
theorem Sim.cell_of(h:Sim α s w){k:Nat}{cs:List V}{t:TypeId}{ext:Option Nat}{ro:Bool}(hk:s.h.get k=some (.cells cs t ext ro)){i:Nat}{v:V}(hi:cs[i]?=some v):w.cell? ⟨α.blk k,i,none⟩=some (v.inst α):=by
 obtain⟨rest,hr,_⟩:=h.cells hk;have hlt:i<cs.length:=(List.getElem?_eq_some_iff.1 hi).1;unfold World.cell?;have hv:cs[i]=v:=(List.getElem?_eq_some_iff.1 hi).2;simp only[hr];simp[List.getElem?_append_left,hlt,hv]
theorem Sim.row_sc(h:Sim α s w){k:Nat}{x:Blk}{cs:List V}(hk:s.h.get k=some x)(hx:x.row=some cs): ∀v∈cs,v.Sc s.n s.c/\v.one=true:=by
 have hs:=h.sc k x hk
 cases x with
 |cells cs' t ext ro=>
  cases hx;exact hs.1
 |win cs'=>
  cases hx;exact hs
 |know n=>
  obtain⟨o,_,hG⟩:=h.is k _ hk;obtain⟨h1,C,t,z,_,h2⟩:=Ctx.kwOk n cs o hx hG;intro v hv;obtain⟨i,hi⟩:=List.mem_iff_getElem?.1 hv;obtain⟨u,_,hu⟩:=h2 i v hi;exact⟨ofV_sc hu _ _,h1 v hv⟩
 |_=>cases hx
theorem Sim.cell(h:Sim α s w){k:Nat}{x:Blk}{cs:List V}(hk:s.h.get k=some x)(hx:x.row=some cs){i:Nat}{v:V}(hi:cs[i]?=some v):w.cell? ⟨α.blk k,i,none⟩=some (v.inst α):=by
 cases x with
 |win cs'=>
  cases hx;exact(h.is k _ hk).2 i v hi
 |cells cs' t ext ro=>
  cases hx;exact h.cell_of hk hi
 |know n=>
  obtain⟨o,ho,hG⟩:=h.is k _ hk;obtain⟨_,C,t,z,rfl,h2⟩:=Ctx.kwOk n cs o hx hG;obtain⟨u,hu,hv⟩:=h2 i v hi;unfold World.cell?;simp only[ho,hu,tP hv];rfl
 |_=>cases hx
theorem bV(hs:Sim α s w)(he:EOk α s N e a){x:Operand}{v:V}(h:evX x e=some v):a.eval x=v.inst α/\v.Sc s.n s.c:=by
 cases x with
 |tmp t=>
  obtain⟨h1,h2⟩:=he.get t v h;exact⟨by simp[Act.eval,Array.getD_eq_getD_getElem?,h2],h1⟩
 |const u=>
  have h:ofV u=some v:=h;exact⟨(tP h).symm,ofV_sc h _ _⟩
 |global g=>
  obtain⟨k,hk,h⟩:=bB (show ob (Ctx.gl g) (λk=>some (V.p k 0))=some v from h);cases h;obtain⟨h1,h2⟩:=hs.gl g k hk;exact⟨by simp[Act.eval,V.inst,h2],⟨1,by rw[iN];simpa using h1⟩⟩
 |func f=>
  have h:some (V.f (.func f) [] [])=some v:=h;cases h;exact⟨by simp[Act.eval,bIf],⟨1,by rw[iN];rfl⟩⟩
theorem xV(hs:Sim α s w)(he:EOk α s N e a){l:List Operand}{vs:List V}(h:evsX l e=some vs):l.map a.eval=vs.map (V.inst α)/\ ∀v∈vs,v.Sc s.n s.c:=by
 have hm:=bDz _ _ _ h;clear h
 induction l generalizing vs with
 |nil=>
  cases vs with
  |nil=>exact⟨rfl,λ_ h=>by cases h⟩
  |cons _ _=>cases hm
 |cons x l ih=>
  cases vs with
  |nil=>cases hm
  |cons v vs=>
   simp only[List.map_cons,List.cons.injEq]at hm;obtain⟨h1,h2⟩:=bV hs he hm.1;obtain⟨h3,h4⟩:=ih hm.2;refine⟨by simp[h1,h3],λu hu=>?_⟩
   rcases List.mem_cons.1 hu with rfl|hu
   .exact h2
   .exact h4 u hu
end
theorem iZ{t:TypeId}{n:Nat}(h:sizeX t=some n): ∃i,Ctx.P.info? t=some i/\i.size=n:=by
 obtain⟨i,hi,h⟩:=bB h;cases h;exact⟨i,hi,rfl⟩
theorem iA{t:TypeId}{n:Nat}(h:sizeX t=some n)(w:World):(sizeOf t).run Ctx.P w= .ok n w:=by
 obtain⟨i,hi,rfl⟩:=iZ h;simp[sizeOf,typeInfo,hi]
theorem bJr{t:TypeId}{n:Nat}(h:sizeX t=some n):Ctx.P.cellsOf t=n:=by
 obtain⟨i,hi,rfl⟩:=iZ h;simp[Program.cellsOf,hi]
theorem agg_run{t:TypeId}{x:Bool}(h:aggX t=some x)(w:World):(isAgg t).run Ctx.P w= .ok x w:=by
 obtain⟨d,hd,h⟩:=bB h;unfold isAgg;rw[Sem.run_bind,run_underlying hd,Result.andThen_ok];cases d<;>cases h<;>rfl
theorem wide_run{t:TypeId}{x:Option Nat}(h:wideX t=some x)(w:World):(isAgg t).run Ctx.P w= .ok x.isSome w/\ ∀n,x=some n->(sizeOf t).run Ctx.P w= .ok n w:=by
 obtain⟨q,hq,h⟩:=bB h;rw[cJ]at h
 cases q with
 |true=>
  simp only[if_true]at h;obtain⟨n,hn,h⟩:=bB h;cases h;exact⟨agg_run hq w,λm hm=>by cases hm;exact iA hn w⟩
 |false=>
  simp only[Bool.false_eq_true,if_false,Option.some.injEq]at h;subst h;exact⟨agg_run hq w,λm hm=>by cases hm⟩
theorem uD{t:TypeId}{z:V}(h:zeroX t=some z)(w:World)(α:As):(zeroValue t).run Ctx.P w= .ok (z.inst α) w:=by
 obtain⟨i,hi,h⟩:=bB h;obtain⟨u,hu,h⟩:=bB h;simp[zeroValue,typeInfo,hi,hu,tP h]
theorem tS{α:As}{t:TypeId}{cs:List V}{o:Nat}{v:V}(h:bBc t cs o=some v)(w:World):(part t (cs.map (V.inst α)).toArray o).run Ctx.P w= .ok (v.inst α) w:=by
 obtain⟨x,hx,h⟩:=bB h;obtain⟨h1,h2⟩:=wide_run hx w;rw[qK]at h;unfold part;rw[Sem.run_bind,h1,Result.andThen_ok]
 cases x with
 |none=>
  simp only[iF]at h;simp[List.getElem?_map,h]
 |some n=>
  obtain⟨l,hl,h⟩:=bB h;cases h;obtain⟨e,_⟩:=lY _ _ _ _ hl;simp only[Option.isSome_some,if_true,Sem.run_bind,h2 n rfl,Result.andThen_ok,Sem.run_pure,oH]
  congr 2
  apply Array.ext';simp[List.extract_eq_take_drop,e,List.map_drop,List.map_take]
theorem bJj{α:As}{s:St}{w:World}(hs:Sim α s w){t:TypeId}{k o:Nat}{v:V}(h:loadX t k o s=some v):(loadVar t ⟨α.blk k,o,none⟩).run Ctx.P w= .ok (v.inst α) w:=by
 obtain⟨x,hx,h⟩:=bB h;obtain⟨cs,hrow,h⟩:=bB h;obtain⟨y,hy,h⟩:=bB h;obtain⟨h1,h2⟩:=wide_run hy w;rw[qK]at h;unfold loadVar;rw[Sem.run_bind,h1,Result.andThen_ok]
 cases y with
 |none=>
  simp only[iF]at h;simp[hs.cell hx hrow h]
 |some n=>
  obtain⟨l,hl,h⟩:=bB h;cases h;obtain⟨e,hlen⟩:=lY _ _ _ _ hl;have hl':l.length=n:=by rw[e];simp;omega
  have hc:=run_loadCells_list (P:=Ctx.P) w ⟨α.blk k,o,none⟩ (l.map (V.inst α)) (λj u hj=>by
   rw[List.getElem?_map]at hj
   cases hu:l[j]? with
   |none=>rw[hu]at hj;cases hj
   |some u'=>
    rw[hu]at hj;cases hj;rw[Addr.add_mid];have hjl:=(List.getElem?_eq_some_iff.1 hu).1;refine hs.cell hx hrow ?_;rw[e,List.getElem?_take,if_pos k7,List.getElem?_drop]at hu
    exact hu)
  rw[List.length_map,hl']at hc;simp only[Option.isSome_some,if_true,Sem.run_bind,h2 n rfl,Result.andThen_ok,hc,Sem.run_pure,oH]
theorem eq_run(α:As)(w:World): ∀(d:Nat) (t:TypeId) (u v:V) (x:Bool),eqX d t u v=some x-> ∀D,d<=D->(Op.equalIn D t (u.inst α) (v.inst α)).run Ctx.P w= .ok x w:=by
 intro d
 induction d with
 |zero=>intro t u v x h;cases h
 |succ d ih=>
  intro t u v x h D hD
  obtain⟨D,rfl⟩: ∃D',D=D'+1:=⟨D-1,k7⟩
  have hd:d<=D:=k7
  have fields: ∀(fs:List Field) (xs ys:List V) (x:Bool),eqFs (eqX d) xs ys fs=some x->(Op.eqFields D (xs.map (V.inst α)).toArray (ys.map (V.inst α)).toArray fs).run Ctx.P w= .ok x w:=by
   intro fs xs ys
   induction fs with
   |nil=>intro x h;cases h;rfl
   |cons f fs ihf=>
    intro x h;unfold eqFs at h;rw[cJ]at h;unfold Op.eqFields
    by_cases hf:(f.name== "_")=true
    .rw[if_pos hf]at h;have: ¬f.name≠ "_" :=by simpa using hf
     rw[if_neg this];exact ihf x h
    .rw[if_neg hf]at h;have:f.name≠ "_" :=by simpa using hf
     rw[if_pos this];obtain⟨p,hp,h⟩:=bB h;obtain⟨q,hq,h⟩:=bB h;obtain⟨c,hc,h⟩:=bB h;simp only[Sem.run_bind,tS hp w,tS hq w,Result.andThen_ok,ih _ _ _ _ hc D hd];rw[cJ]at h;cases c
     .simp at h;subst h;rfl
     .simp at h;simpa using ihf x h
  have items: ∀(el n:Nat) (xs ys:List V),Ctx.P.cellsOf el=n-> ∀(m i:Nat) (x:Bool),eqEs (eqX d el) el n xs ys m i=some x->(Op.eqItems D el (Ctx.P.cellsOf el) (xs.map (V.inst α)).toArray (ys.map (V.inst α)).toArray (List.range' i m)).run Ctx.P w= .ok x w:=by
   intro el n xs ys hn m
   induction m with
   |zero=>intro i x h;cases h;rfl
   |succ m ihm=>
    intro i x h;unfold eqEs at h;obtain⟨p,hp,h⟩:=bB h;obtain⟨q,hq,h⟩:=bB h;obtain⟨c,hc,h⟩:=bB h;rw[List.range'_succ];unfold Op.eqItems;rw[hn];simp only[Sem.run_bind,tS hp w,tS hq w,Result.andThen_ok,ih _ _ _ _ hc D hd];rw[cJ]at h;rw[hn]at ihm;cases c
    .simp at h;subst h;rfl
    .simp at h;simpa using ihm (i+1) x h
  cases ht:Ctx.P.underlying t with
  |none=>simp only[eqX,ht]at h;cases h
  |some ds=>
  cases ds with
  |bool=>
   simp only[eqX,ht]at h;cases u<;>cases v<;>cases h
   exact run_equalIn_bool' w D t _ _ ht
  |int k=>
   simp only[eqX,ht]at h;cases u<;>cases v<;>try cases h
   obtain⟨hk,h⟩:=bL h;cases h;rw[jZ hk,bEn];exact run_equalIn_int w D t _ _ _ _ ht
  |string=>
   simp only[eqX,ht]at h;cases u<;>cases v<;>cases h
   rw[bLk];exact run_equalIn_string w D t _ _ ht
  |pointer el=>
   simp only[eqX,ht]at h;obtain⟨n,hn,h⟩:=bB h;obtain⟨hn0,h⟩:=bL h;have hn0:n≠0:=λe=>by subst e;cases hn0
   have hsz:=iA hn w;cases u<;>cases v<;>try cases h
   .simp[Op.equalIn,run_underlying ht,V.inst]
   .simp[Op.equalIn,run_underlying ht,V.inst]
   .simp[Op.equalIn,run_underlying ht,V.inst]
   .obtain⟨hk,h⟩:=bL h;cases h;rw[Nat.beq_eq]at hk;subst hk
    have ab: ∀b o o':Nat,((⟨b,o,none⟩:Addr)==⟨b,o',none⟩)=Nat.beq o o':=λb o o'=>by
     rw[Bool.eq_iff_iff,Nat.beq_eq,beq_iff_eq];simp
    simp[Op.equalIn,run_underlying ht,V.inst,hsz,hn0,sameAddr,ab]
  |interface ms=>
   simp only[eqX,ht]at h;cases u<;>cases v<;>cases h<;>simp[Op.equalIn,run_underlying ht,V.inst]
  |slice el=>
   simp only[eqX,ht]at h;cases u<;>cases v<;>cases h<;>simp[Op.equalIn,run_underlying ht,V.inst]
  |map k el=>
   simp only[eqX,ht]at h;cases u<;>cases v<;>cases h<;>simp[Op.equalIn,run_underlying ht,V.inst]
  |func ps rs vr=>
   simp only[eqX,ht]at h;cases u<;>cases v<;>cases h
   all_goals
    unfold Op.equalIn;rw[Sem.run_bind,run_underlying ht,Result.andThen_ok];rfl
  |struct fs=>
   simp only[eqX,ht]at h;obtain⟨xs,rfl,h1⟩:=tR h;obtain⟨ys,rfl,h2⟩:=tR h1;obtain⟨hp,h3⟩:=bL h2;have hf:Ctx.P.fieldsOf t=fs:=by simp[Program.fieldsOf,ht]
   rw[oH,oH,run_equalIn_agg w D t _ _ (by rw[hf];exact ht) (by simpa using hp),hf];exact fields _ _ _ _ h3
  |array len el=>
   simp only[eqX,ht]at h;obtain⟨xs,rfl,h1⟩:=tR h;obtain⟨ys,rfl,h2⟩:=tR h1;obtain⟨n,hn,h3⟩:=bB h2;obtain⟨i,hi,_⟩:=iZ hn;rw[oH,oH,run_equalIn_array w D _ _ ht hi,List.range_eq_range'];exact items el n xs ys (bJr hn) len 0 x h3
  |_=>simp only[eqX,ht]at h;cases h
end
end X
end
section
namespace X
open Go.RowKit
theorem binI_run{P:Program}{op:BinOp}{t:TypeId}{x y:Operand}{k k':IntKind}{p q:Int}{r:V}(h:binI op k p k' q=some r)(α:As)(w:World):
  ((do eqGuard op t x y (.int k p) (.int k' q);binOp op t (.int k p) (.int k' q):Sem Value)).run P w= .ok (r.inst α) w:=by
 have hsh: ∀op,(op= .shl\/op= .shr)->((do eqGuard op t x y (.int k p) (.int k' q);binOp op t (.int k p) (.int k' q):Sem Value)).run P w=(Op.shift op k p k' q).run P w:=λop ho=>by
  rcases ho with rfl|rfl<;>simp[eqGuard,binOp]
 by_cases hl:op= .shl
 .subst hl;have h:shlX k p q=some r:=h;rw[hsh _ (.inl rfl)]
  cases q with
  |ofNat n=>
   cases h;have: ¬((n:Int)<0):=k7
   simp[Op.shift,this,V.inst]
  |negSucc n=>cases h
 by_cases hr:op= .shr
 .subst hr;have h:shrX k p q=some r:=h;rw[hsh _ (.inr rfl)]
  cases q with
  |ofNat n=>
   cases h;have: ¬((n:Int)<0):=k7
   simp[Op.shift,this,V.inst]
  |negSucc n=>cases h
 have h0:gd (sameKind k k') (arithX op k p q)=some r:=by cases op<;>first|exact h|exact absurd rfl hl|exact absurd rfl hr
 clear h;obtain⟨hk,h⟩:=bL h0;clear h0;have hk':=jZ hk;clear hk;subst hk'
 have hz: ∀{z:V},gd (!ieq q 0) (some z)=some r->q≠0/\z=r:=λhz=>by
  obtain⟨h1,h2⟩:=bL hz;cases h2;rw[bEn]at h1;exact⟨by simpa using h1,rfl⟩
 cases op<;>first|exact absurd rfl hl|exact absurd rfl hr|skip
 case quo=>
  obtain⟨h0,e⟩:=hz h;subst e;simp[eqGuard,binOp,Op.intDiv,h0,V.inst,bBm]
 case rem=>
  obtain⟨h0,e⟩:=hz h;subst e;simp[eqGuard,binOp,Op.intDiv,h0,V.inst]
 case andNot=>cases h
 all_goals
  cases h;simp[eqGuard,binOp,Op.intArith,Op.intCmp,Op.intBits,V.inst,bBm,bEn,ilt_eq,bitX]<;>first|rfl|(rw[Bool.eq_iff_iff];simp;try omega)
theorem strX_run{P:Program}{op:BinOp}{t:TypeId}{x y:Operand}{p q:List Nat}{r:V}(h:strX op p q=some r)(α:As)(w:World):
  ((do eqGuard op t x y (.string (bQ p)) (.string (bQ q));binOp op t (.string (bQ p)) (.string (bQ q)):Sem Value)).run P w= .ok (r.inst α) w:=by
 cases op<;>try cases h
 case add=>
  obtain⟨h1,h2⟩:=bL h;cases h2;rw[Nat.blt_eq]at h1;have hs: ∀l:List Nat,(bQ l).size=l.length:=λl=>by simp[bQ,ByteArray.size]
  have ha:bQ p++bQ q=bQ (p++q):=by
   apply ByteArray.ext;apply Array.ext';simp[bQ]
  have hle: ¬((((bQ p).size+(bQ q).size:Nat):Int)>IntKind.i64.max):=by
   rw[hs,hs];have:IntKind.i64.max=9223372036854775807:=by rfl
   rw[this];omega
  simp only[eqGuard,binOp,Op.stringOp,if_neg hle,V.inst,ha];rfl
 case eql=>simp[eqGuard,binOp,Op.stringOp,V.inst,bLk]
 case neq=>simp[eqGuard,binOp,Op.stringOp,V.inst,bLk]
section
variable [Ctx] {α : As} {s : St} {w : World} {N : Nat} {e : E} {a : Act}
theorem guard_run{op:BinOp}{t:TypeId}{x y:Operand}{u v:V}(h:guardX t x y u v=true):(eqGuard op t x y (u.inst α) (v.inst α)).run Ctx.P w= .ok () w:=by
 have base: ∀op,op= .eql\/op= .neq->(eqGuard op t x y (u.inst α) (v.inst α)).run Ctx.P w= .ok () w:=λop ho=>by
  cases u
  case e0=>
   cases v
   case e0=>
    have h:(bHp x || bHp y)=true:=h;rw[Bool.or_eq_true]at h
    rcases h with h|h
    .cases x<;>first|exact Bool.noConfusion h|(rcases ho with rfl|rfl<;>simp[eqGuard,V.inst])
    .cases y<;>first|exact Bool.noConfusion h|(rcases ho with rfl|rfl<;>simp[eqGuard,V.inst])
   all_goals rcases ho with rfl|rfl<;>rfl
  case g cs=>
   cases v
   case g ds=>
    have h:(!Ctx.P.eqGuardType Ctx.P.depth t)=true:=h;simp only[Bool.not_eq_true']at h;rw[oH,oH];exact run_eqGuard_agg w op t x y _ _ h
   all_goals rcases ho with rfl|rfl<;>simp[eqGuard,V.inst]
  all_goals rcases ho with rfl|rfl<;>simp[eqGuard,V.inst]
 cases op<;>first|exact base _ (.inl rfl)|exact base _ (.inr rfl)|rfl
theorem bin_eq_run{op:BinOp}{t:TypeId}{x y:Operand}{u v r:V}(hi: ∀k z,u≠ .i k z)(hs: ∀z,u≠ .s z)(h:binE op t x y u v=some r):
  ((do eqGuard op t x y (u.inst α) (v.inst α);binOp op t (u.inst α) (v.inst α):Sem Value)).run Ctx.P w= .ok (r.inst α) w:=by
 have key: ∀c,eqOp t x y u v=some c->(eqGuard op t x y (u.inst α) (v.inst α)).run Ctx.P w= .ok () w/\(Op.equal t (u.inst α) (v.inst α)).run Ctx.P w= .ok c w:=λc hc=>by
  obtain⟨h1,h2⟩:=bL hc;exact⟨guard_run h1,eq_run α w 12 t u v c h2 Op.maxDepth m7⟩
 cases op<;>try cases h
 case eql=>
  obtain⟨c,hc,h⟩:=bB h;cases h;obtain⟨h1,h2⟩:=key c hc
  have hb:binOp .eql t (u.inst α) (v.inst α)=(do pure (.bool (<-Op.equal t (u.inst α) (v.inst α)))):=by
   cases u<;>first|rfl|exact absurd rfl (hi _ _)|exact absurd rfl (hs _)
  rw[Sem.run_bind,h1,Result.andThen_ok,hb,Sem.run_bind,h2];rfl
 case neq=>
  obtain⟨c,hc,h⟩:=bB h;cases h;obtain⟨h1,h2⟩:=key c hc
  have hb:binOp .neq t (u.inst α) (v.inst α)=(do pure (.bool (!(<-Op.equal t (u.inst α) (v.inst α))))):=by
   cases u<;>first|rfl|exact absurd rfl (hi _ _)|exact absurd rfl (hs _)
  rw[Sem.run_bind,h1,Result.andThen_ok,hb,Sem.run_bind,h2];rfl
theorem bin_run{op:BinOp}{t:TypeId}{x y:Operand}{u v r:V}(h:binX op t x y u v=some r):
  ((do eqGuard op t x y (u.inst α) (v.inst α);binOp op t (u.inst α) (v.inst α):Sem Value)).run Ctx.P w= .ok (r.inst α) w:=by
 by_cases hi: ∃k z,u= .i k z
 .obtain⟨k,z,rfl⟩:=hi;obtain⟨k',z',e,h1⟩:=kT (show asI v (binI op k z)=some r from h);rw[e];exact binI_run h1 α w
 by_cases hs: ∃z,u= .s z
 .obtain⟨z,rfl⟩:=hs;obtain⟨z',e,h1⟩:=jT (show asS v (strX op z)=some r from h);rw[e];exact strX_run h1 α w
 have h:binE op t x y u v=some r:=by
  cases u<;>first|exact h|exact absurd ⟨_,_,rfl⟩ hi|exact absurd ⟨_,rfl⟩ hs
 exact bin_eq_run (λk z e=>hi ⟨k,z,e⟩) (λz e=>hs ⟨z,e⟩) h
end
end X
end
section
namespace X
open Go.RowKit
theorem lB(b o k:Nat):(⟨b,o,none⟩:Addr).add k=⟨b,o+k,none⟩:=Addr.add_mid _ _ _
theorem fI{a b:Nat}(h:Nat.ble a b=true):a<=b:=Nat.le_of_ble_eq_true h
section
variable [Ctx] {α : As} {s : St} {w : World} {N : Nat} {e : E} {a : Act}
theorem kH{t el sz:Nat}(h:elemOf t=some (none,el,sz)):Ctx.P.underlying t=some (.slice el)/\sizeX el=some sz:=by
 obtain⟨d,hd,h1⟩:=bB h;cases d<;>try cases h1
 case slice el'=>
  obtain⟨n,hn,h2⟩:=bB h1;cases h2;exact⟨hd,hn⟩
 case array n el'=>
  obtain⟨n,hn,h2⟩:=bB h1;cases h2
theorem zT{t n el sz:Nat}(h:elemOf t=some (some n,el,sz)):Ctx.P.underlying t=some (.array n el)/\sizeX el=some sz:=by
 obtain⟨d,hd,h1⟩:=bB h;cases d<;>try cases h1
 case slice el'=>
  obtain⟨n,hn,h2⟩:=bB h1;cases h2
 case array n el'=>
  obtain⟨n,hn,h2⟩:=bB h1;cases h2;exact⟨hd,hn⟩
theorem lU(hs:Sim α s w)(he:EOk α s N e a){x:Operand}{d n y:Nat}{c:BoundsCode}(h:jU (some x) d e=some n)(hn:n<=y):(Instr.sliceBound (a.eval x) y c).run Ctx.P w= .ok n w:=by
 obtain⟨v,hv,h1⟩:=bB (show ob (evX x e) (λv=>asN v some)=some n from h);obtain⟨k,m,rfl,h2⟩:=rR h1;cases h2;have hx:=(bV hs he hv).1
 have h0:(0:Int)<=Int.ofNat n/\Int.ofNat n<=(y:Int):=⟨Int.natCast_nonneg n,Int.ofNat_le.2 hn⟩
 rw[hx];simp only[V.inst,Instr.sliceBound,asIntOf,Sem.run_bind,Sem.run_pure,Result.andThen_ok,if_pos h0];rfl
theorem uN(hs:Sim α s w)(he:EOk α s N e a){lo hi:Option Operand}{q:Bool}{len cap l h:Nat}(hl:jU lo 0 e=some l)(hh:jU hi len e=some h)(h1:l<=h)(h2:h<=cap)(h3:hi=none->len<=cap):
  (Instr.sliceBounds q len cap (lo.map a.eval) (hi.map a.eval) none).run Ctx.P w= .ok (l,h,cap) w:=by
 unfold Instr.sliceBounds
 cases hi with
 |none=>
  have:len=h:=Option.some.inj hh;subst this
  cases lo with
  |none=>
   have:0=l:=Option.some.inj hl;subst this;rfl
  |some x=>
   simp only[Option.map_some,Option.map_none,Sem.run_bind,Sem.run_pure,Result.andThen_ok,lU hs he hl h1]
 |some y=>
  cases lo with
  |none=>
   have:0=l:=Option.some.inj hl;subst this;simp only[Option.map_some,Option.map_none,Sem.run_bind,Sem.run_pure,Result.andThen_ok,lU hs he hh h2]
  |some x=>
   simp only[Option.map_some,Sem.run_bind,Sem.run_pure,Result.andThen_ok,lU hs he hh h2,lU hs he hl h1]
theorem bGf(hs:Sim α s w)(he:EOk α s N e a){lo hi:Option Operand}{x:Operand}{q:Bool}{len cap l h m:Nat}(hl:jU lo 0 e=some l)(hh:jU hi len e=some h)(hm:jU (some x) 0 e=some m)(h0:hi≠none)(h1:l<=h)(h2:h<=m)(h3:m<=cap):
  (Instr.sliceBounds q len cap (lo.map a.eval) (hi.map a.eval) (some (a.eval x))).run Ctx.P w= .ok (l,h,m) w:=by
 unfold Instr.sliceBounds
 cases hi with
 |none=>exact absurd rfl h0
 |some y=>
  cases lo with
  |none=>
   have:0=l:=Option.some.inj hl;subst this;simp only[Option.map_some,Option.map_none,Sem.run_bind,Sem.run_pure,Result.andThen_ok,lU hs he hm h3,lU hs he hh h2]
  |some z=>
   simp only[Option.map_some,Sem.run_bind,Sem.run_pure,Result.andThen_ok,lU hs he hm h3,lU hs he hh h2,lU hs he hl h1]
omit [Ctx]in
theorem bBp(c:Cap)(α:As):c.least<=c.inst α:=by cases c<;>simp[Cap.least,Cap.inst]
theorem slice_run(hs:Sim α s w)(he:EOk α s N e a){t:TypeId}{u r:V}{lo hi mx:Option Operand}(h:sliceX t u lo hi mx e=some r):(Instr.sliceAt t (u.inst α) (lo.map a.eval) (hi.map a.eval) (mx.map a.eval)).run Ctx.P w= .ok (r.inst α) w:=by
 unfold sliceX at h;rw[cJ]at h;split at h
 .rename_i ht;obtain⟨x,rfl,h1⟩:=jT h;obtain⟨l,hl,h2⟩:=bB h1;obtain⟨m,hm,h3⟩:=bB h2
  cases mx with
  |some _=>cases h3
  |none=>
   obtain⟨hb,h4⟩:=bL (show gd _ _=some r from h3);cases h4;rw[Bool.and_eq_true]at hb
   have hu:Ctx.P.underlying t=some .string:=by
    unfold isStr at ht;split at ht
    .assumption
    .cases ht
   have hsz:(bQ x).size=x.length:=by simp[bQ,ByteArray.size]
   have hb':=uN hs he (q:=false) (cap:=x.length) hl hm (fI hb.1) (fI hb.2) (λ_=>Nat.le_refl _);unfold Instr.sliceAt;rw[Sem.run_bind,run_underlying hu,Result.andThen_ok];unfold Instr.slice;rw[Sem.run_bind,run_underlying hu,Result.andThen_ok];simp only[V.inst,Option.map_none,Option.isSome_none,Bool.false_eq_true,if_false,hsz,Sem.run_bind,Sem.run_pure,hb',Result.andThen_ok]
   congr 2
   apply ByteArray.ext;apply Array.ext';simp[bQ,ByteArray.data_extract,List.extract_eq_take_drop,List.map_take,List.map_drop]
 .obtain⟨⟨n,el,sz⟩,hq,h1⟩:=bB h;have h1:sliceV n sz u lo hi mx e=some r:=h1
  cases n with
  |none=>
   obtain⟨hu,hsz⟩:=kH hq;unfold Instr.sliceAt;rw[Sem.run_bind,run_underlying hu,Result.andThen_ok];unfold Instr.slice;rw[Sem.run_bind,run_underlying hu,Result.andThen_ok]
   cases u with
   |l0=>
    obtain⟨l,hl,h2⟩:=bB (show ob (jU lo 0 e) _=some r from h1);obtain⟨m,hm,h3⟩:=bB h2;obtain⟨x,hx,h4⟩:=bB h3;obtain⟨hb,h5⟩:=bL h4;cases h5;simp only[Bool.and_eq_true,Nat.beq_eq]at hb;obtain⟨hbm,rfl,rfl,rfl⟩:=hb
    cases mx with
    |none=>
     have hb':=uN hs he (q:=true) (cap:=0) hl hm (Nat.le_refl _) (Nat.le_refl _) (λ_=>Nat.le_refl _);simp only[V.inst,Option.map_none,Sem.run_bind,Sem.run_pure,hb',Result.andThen_ok,iA hsz];rfl
    |some y=>
     have h0:hi≠none:=λh0=>by subst h0;cases hbm
     .have hb':=bGf hs he (q:=true) (cap:=0) hl hm hx h0 (Nat.le_refl _) (Nat.le_refl _) (Nat.le_refl _);simp only[V.inst,Option.map_some,Sem.run_bind,Sem.run_pure,hb',Result.andThen_ok,iA hsz];rfl
   |l k o m c=>
    obtain⟨l,hl,h2⟩:=bB (show ob (jU lo 0 e) _=some r from h1);obtain⟨hh,hm,h3⟩:=bB h2
    cases mx with
    |none=>
     obtain⟨hb,h4⟩:=bL (show gd _ _=some r from h3);rw[Bool.and_eq_true]at hb;have hlh:=fI hb.1;have hhc:=fI hb.2
     have hb':=uN hs he (q:=true) (cap:=c.inst α) hl hm hlh (Nat.le_trans hhc (bBp c α)) (λh0=>by
      subst h0;have:m=hh:=Option.some.inj hm;have:=bBp c α
      omega)
     simp only[V.inst,Option.map_none,Sem.run_bind,Sem.run_pure,hb',Result.andThen_ok,iA hsz,Option.map_some,lB]
     cases c with
     |n cc=>
      cases h4;simp only[V.inst,Cap.inst,cJ,Nat.beq_eq]
      by_cases q:cc=l
      .simp[q]
      .simp[q]
     |s cn d=>
      have h4:sel (Nat.beq l 0) (some (V.l k o hh (.s cn d))) (sel (Nat.blt l d) (some (.l k (o+l*sz) (hh-l) (.s cn (d-l)))) (some (.z k o (o+l*sz) cn)))=some r:=h4;rw[cJ,cJ]at h4;simp only[Cap.least]at hhc;simp only[Nat.beq_eq,Nat.blt_eq]at h4
      by_cases h0:l=0
      .rw[if_pos h0]at h4;cases h4;subst h0;simp[V.inst,Cap.inst]
      .rw[if_neg h0]at h4
       by_cases hd:l<d
       .rw[if_pos hd]at h4;cases h4;have hne: ¬(d+α.room cn=l):=k7
        simp only[V.inst,Cap.inst];simp only[hne,if_false];rw[show d+α.room cn-l=d-l+α.room cn from by omega]
       .rw[if_neg hd]at h4;cases h4;have e1:hh-l=0:=k7
        have e2:d+α.room cn-l=α.room cn:=k7
        simp only[V.inst,Cap.inst,e1,e2]
        by_cases hr:α.room cn=0
        .have hdl:d=l:=k7
         simp[hr,hdl]
        .have: ¬(d+α.room cn=l):=k7
         simp[hr,this]
    |some y=>
     obtain⟨x,hx,h4⟩:=bB (show ob (jU (some y) 0 e) _=some r from h3);obtain⟨hb,h5⟩:=bL h4;cases h5;simp only[Bool.and_eq_true]at hb;have hlh:=fI hb.2.1;have hhm:=fI hb.2.2.1;have hmc:=fI hb.2.2.2;have h0:hi≠none:=λh0=>by subst h0;cases hb.1
     .have hb':=bGf hs he (q:=true) (cap:=c.inst α) hl hm hx h0 hlh hhm (Nat.le_trans hmc (bBp c α));simp only[V.inst,Option.map_some,Sem.run_bind,Sem.run_pure,hb',Result.andThen_ok,iA hsz,lB];simp only[cJ,Nat.beq_eq,Cap.inst]
      by_cases q:x=l
      .simp[q]
      .simp[q]
   |_=>cases h1
  |some n=>
   obtain⟨hu,hsz⟩:=zT hq
   cases u with
   |p k o=>
    obtain⟨l,hl,h2⟩:=bB (show ob (jU lo 0 e) _=some r from h1);obtain⟨hh,hm,h3⟩:=bB h2
    cases mx with
    |some _=>cases h3
    |none=>
     obtain⟨hb,h4⟩:=bL (show gd _ _=some r from h3);cases h4;rw[Bool.and_eq_true]at hb;have hb':=uN hs he (q:=false) (cap:=n) hl hm (fI hb.1) (fI hb.2) (λ_=>Nat.le_refl _);unfold Instr.sliceAt;rw[Sem.run_bind,run_underlying hu,Result.andThen_ok];simp only[V.inst,Instr.sureAddr,Option.map_none,Sem.run_bind,Sem.run_pure,hb',Result.andThen_ok,iA hsz,lB,cJ,Nat.beq_eq,Cap.inst]
     by_cases q:n=l
     .simp[q]
     .simp[q]
   |_=>cases h1
end
end X
end
end Go.Proofs.YtnfiadlonjediaaGreatDoor
