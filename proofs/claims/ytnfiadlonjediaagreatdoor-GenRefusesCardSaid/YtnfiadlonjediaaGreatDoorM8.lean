/- A part of one proof. -/
import Derived.Test.YtnfiadlonjediaaGreatDoorM7
set_option maxRecDepth 100000
namespace Go.Proofs.YtnfiadlonjediaaGreatDoor
open Region renaming ready->I4,noSelect->I7
open _root_.Nat renaming beq->B1,eq_of_beq_eq_true->B5,blt->C2,le_refl->B8,min_eq_left->aB,le_succ_of_le->aW
open _root_.Bool renaming and_eq_true->L9,or_eq_true->M0,not_eq_true'->T3,or_eq_false_iff->aX,and_eq_false_iff->aY
open _root_.Int renaming add_zero->aZ,zero_add->eA,mul_comm->eB,mul_assoc->eC,pow_succ->eD,mul_zero->eE,mul_one->eF,mul_nonneg->aO,mul_le_mul->eG,le_trans->eH,mul_le_mul_of_nonneg_left->eI,le_refl->eJ,toNat_of_nonneg->eK
open _root_.List renaming pairwise_cons->F4,mem_cons->F1,any_cons->V3,length_cons->G5,map_cons->H6,any_eq_false->eL,replicate->V4,mem_cons_self->F9,mem_cons_of_mem->F3,mem_append->F2,findIdx?_eq_some_iff_getElem->eM,getElem?_eq_some_iff->G3,mem_of_getElem?->eN,getElem?_set_ne->R1,getElem?_set->W3,drop_eq_nil_iff->eO,getElem?_drop->I1,all_eq_true->G0,length_set->R0,getElem_cons_drop->aH,drop_of_length_le->U8,getElem?_eq_getElem->G1,map_append->P4,length_take->Z4,length_append->G4,getElem?_append_left->G6,getElem?_set_self->G8,getElem?_of_mem->eP,flatMap_append->eQ,flatMap_cons->eR,perm_append_comm_assoc->eS,getElem?_append->eT,nodup_cons->eU,findIdx?_map->eV,eraseIdx_sublist->eW
open _root_.UInt8 renaming add_comm->eX
open Value renaming bool->Y6
section
open Go.RowKit Go.Proofs.Tryz
inductive Tr3 where
 |nil
 |fl (k:Nat) (r:Tr3)
 |op (k:Nat) (r:Tr3)
 |two (k l:Nat) (r s:Tr3)
 |three (k l m:Nat) (r s t:Tr3)
def Tr3.len:Tr3->Nat
 |.nil=>0
 |.fl _ r=>r.len+1
 |.op _ r=>r.len+1
 |.two _ _ r _=>r.len+1
 |.three _ _ _ r _ _=>r.len+1
section
variable {P : Program} {ops : Array Oper} {md : Region.Mode} {C : World -> Prop} {Q : Exit -> Act -> World -> Prop}
def kD (P:Program)(ops:Array Oper)(C:World->Prop)(Q:Exit->Act->World->Prop):Tr3->Act->World->Prop
 |.nil,a,w=>Q .normal a w
 |.fl k r,a,w=> ∃o v,ops[k]?=some o/\Fl P ops C o v a/\kD P ops C Q r (a.put o.dst v) w
 |.op k r,a,w=>fOp P ops k (λa w=>C w/\kD P ops C Q r a w) a w
 |.two k l r s,a,w=>fOp P ops k (λa w=>C w/\kD P ops C Q r a w) a w/\fOp P ops l (λa w=>C w/\kD P ops C Q s a w) a w
 |.three k l m r s t,a,w=>fOp P ops k (λa w=>C w/\kD P ops C Q r a w) a w/\fOp P ops l (λa w=>C w/\kD P ops C Q s a w) a w/\fOp P ops m (λa w=>C w/\kD P ops C Q t a w) a w
def uY (md:Region.Mode)(ops:Array Oper):Tr3->Array Bool->Bool
 |.nil,listed=>(I4 md ops listed).isEmpty
 |.fl k r,listed=>(I4 md ops listed).contains k&&Region.free md ops listed k&&uY md ops r (listed.setIfInBounds k true)
 |.op k r,listed=>(I4 md ops listed==[k])&&uY md ops r (listed.setIfInBounds k true)
 |.two k l r s,listed=>(I4 md ops listed==[k,l])&&B1 r.len s.len&&uY md ops r (listed.setIfInBounds k true)&&uY md ops s (listed.setIfInBounds l true)
 |.three k l m r s t,listed=>(I4 md ops listed==[k,l,m])&&B1 r.len s.len&&B1 r.len t.len&&uY md ops r (listed.setIfInBounds k true)&&uY md ops s (listed.setIfInBounds l true)&&uY md ops t (listed.setIfInBounds m true)
theorem lW(hs:I7 ops=true): ∀(l:Tr3) (listed:Array Bool) (a:Act) (w:World),uY md ops l listed=true->C w->kD P ops C Q l a w->bCt P md ops C Q l.len listed a w
 |.nil,listed,a,w,hB,hC,h=>⟨hC,by simpa[uY]using hB,h⟩
 |.fl k r,listed,a,w,hB,hC,h=>by
  simp only[uY,L9]at hB;obtain⟨o,v,ho,g,j⟩:=h;exact xS ho (Region.noSelect_spec hs) r.len listed a w (Region.free_spec ho hB.1.2) (by simpa using hB.1.1) g (lW hs r _ _ _ hB.2 hC j)
 |.op k r,listed,a,w,hB,hC,h=>by
  simp only[uY,L9,beq_iff_eq]at hB;refine⟨hC,λh0=>aa5,λi c=>?_⟩;rw[hB.1]at c;have:i=k:=by simpa using c
  subst this;exact gL (λf d b=>lW hs r _ _ _ hB.2 b.1 b.2) h
 |.two k l r s,listed,a,w,hB,hC,h=>by
  simp only[uY,L9,beq_iff_eq]at hB;obtain⟨⟨⟨h1,h2⟩,h3⟩,h4⟩:=hB;refine⟨hC,λh0=>ad7,λi c=>?_⟩;rw[h1]at c;have c:i=k\/i=l:=by simpa using c
  rcases c with rfl|rfl
  .exact gL (λf d b=>lW hs r _ _ _ h3 b.1 b.2) h.1
  .have e:Tr3.len (.two k i r s)=s.len+1:=by simp only[Tr3.len,B5 h2]
   have x:r.len=s.len:=B5 h2;rw[x];exact gL (λf d b=>lW hs s _ _ _ h4 b.1 b.2) h.2
 |.three k l m r s t,listed,a,w,hB,hC,h=>by
  simp only[uY,L9,beq_iff_eq]at hB;obtain⟨⟨⟨⟨⟨h1,h2⟩,h3⟩,h4⟩,p⟩,n⟩:=hB;have u:r.len=s.len:=B5 h2;have q:r.len=t.len:=B5 h3;refine⟨hC,λh0=>ad7,λi c=>?_⟩;rw[h1]at c;have c:i=k\/i=l\/i=m:=by simpa using c
  rcases c with rfl|rfl|rfl
  .exact gL (λf d b=>lW hs r _ _ _ h4 b.1 b.2) h.1
  .rw[u];exact gL (λf d b=>lW hs s _ _ _ p b.1 b.2) h.2.1
  .rw[q];exact gL (λf d b=>lW hs t _ _ _ n b.1 b.2) h.2.2
def mixUOk(l:Tr3)(ops:Array Oper):Bool:=I7 ops&&B1 l.len ops.size&&uY .any ops l (Array.replicate ops.size false)
end
section
variable {P : Program} {β : dY} {n : Nat} {Γ : Env} {H : List bD} {F : List bC} {Q : Exit -> Act -> World -> Prop} {Hk : List bD} {F0 : List bC} {ops : Array Oper}
theorem at_mixU{id:Nat}{l:List Oper}(Hk:List bD)(F0:List bC)(od:Tr3)(hm:P.follows .mixedOrders=true)(hB:mixUOk od l.toArray=true)(hH:Sel H Hk)(hF:bA F F0)
  (h:At β n Γ H F (kD P l.toArray (StF β Hk F0) Q od)):At β n Γ H F ((Code.region id l.toArray true).wp P Q):=λa w S f s k=>by
 simp only[mixUOk,L9]at hB;have d:=StF.drew ⟨S,s,k⟩;obtain⟨c,s',b⟩:=d;refine wp_region_any hm (rL (C:=StF β Hk F0) _ _ _ _ ?_);have:=lW (P:=P) (md:= .any) (C:=StF β Hk F0) (Q:=Q) hB.1.1 od (Array.replicate l.toArray.size false) a _ hB.2 (StF.sel hH hF ⟨c,s',b⟩) (h a _ c f s' b)
 rwa[B5 hB.1.2]at this
theorem oW{C:World->Prop}(h:At β n Γ H F (Q .normal)):At β n Γ H F (kD P ops C Q .nil):=h
theorem bEy{r:Tr3}{o:Oper}{k d:Nat}{v:Value}(hk:ops[k]?=some o)(hw:want ops Γ o=some true)(hd:o.dst=some d)(hn:C2 d n=true)(h:Sti P β n Γ Hk F0 o v)
  (K:At β n ((d,v)::Γ) H F (kD P ops (StF β Hk F0) Q r)):At β n Γ H F (kD P ops (StF β Hk F0) Q (.fl k r)):=λa w S f s e=>by refine⟨o,v,hk,.inl ⟨f.want hw,λb ⟨g,s',c⟩=>h a b g f s' c⟩,?_⟩;rw[hd];exact K _ _ S (f.put m8 v) s e
theorem fZ{r:Tr3}{o:Oper}{k:Nat}{C:World->Prop}(hk:ops[k]?=some o)(h:At β n Γ H F (wpList P ops (Nm λa w=>C w/\kD P ops C Q r a w) [o])):At β n Γ H F (kD P ops C Q (.op k r)):=xZ hk h
theorem xA{r s:Tr3}{o o':Oper}{k l:Nat}{C:World->Prop}(hk:ops[k]?=some o)(hl:ops[l]?=some o')(h:At β n Γ H F (wpList P ops (Nm λa w=>C w/\kD P ops C Q r a w) [o]))(h':At β n Γ H F (wpList P ops (Nm λa w=>C w/\kD P ops C Q s a w) [o'])):
  At β n Γ H F (kD P ops C Q (.two k l r s)):=λa w S f st b=>⟨xZ hk h a w S f st b,xZ hl h' a w S f st b⟩
theorem bTh{r s t:Tr3}{o o' o2:Oper}{k l m:Nat}{C:World->Prop}(hk:ops[k]?=some o)(hl:ops[l]?=some o')(hm:ops[m]?=some o2)(h:At β n Γ H F (wpList P ops (Nm λa w=>C w/\kD P ops C Q r a w) [o]))(h':At β n Γ H F (wpList P ops (Nm λa w=>C w/\kD P ops C Q s a w) [o']))(h2:At β n Γ H F (wpList P ops (Nm λa w=>C w/\kD P ops C Q t a w) [o2])):
  At β n Γ H F (kD P ops C Q (.three k l m r s t)):=λa w S f st b=>⟨xZ hk h a w S f st b,xZ hl h' a w S f st b,xZ hm h2 a w S f st b⟩
theorem dD{r:Tr3}(hH:Sel H Hk)(hF:bA F F0)(h:At β n Γ H F (kD P ops (StF β Hk F0) Q r)):At β n Γ H F (wpList P ops (Nm λa w=>StF β Hk F0 w/\kD P ops (StF β Hk F0) Q r a w) []):=λa w S f s k=>
 ⟨rfl,StF.sel hH hF ⟨S,s,k⟩,h a w S f s k⟩
end
end
section
open Go.RowKit Go.Sort Go.Proofs.Tryz
def fU (a b:Int):Prop:=(18446744073709551616:Int)∣a-b
theorem fU.refl(a:Int):fU a a:=by unfold fU;omega
theorem fU.of_eq{a b:Int}(h:a=b):fU a b:=by unfold fU;omega
theorem fU.symm{a b:Int}(h:fU a b):fU b a:=by unfold fU at*;omega
theorem fU.trans{a b c:Int}(h:fU a b)(h2:fU b c):fU a c:=by unfold fU at*;omega
theorem fU.add{a b c d:Int}(h:fU a b)(h2:fU c d):fU (a+c) (b+d):=by unfold fU at*;omega
theorem fU.sub{a b c d:Int}(h:fU a b)(h2:fU c d):fU (a-c) (b-d):=by unfold fU at*;omega
theorem fU.mul{a b:Int}(h:fU a b)(c:Int):fU (a*c) (b*c):=by unfold fU at*;rw[<-Int.sub_mul];exact Int.dvd_trans h (Int.dvd_mul_right _ _)
theorem tX(a:Int):fU (wrap64 a) a:=by unfold fU wrap64;omega
theorem yF(a:Int): -9223372036854775808<=wrap64 a/\wrap64 a<9223372036854775808:=by unfold wrap64;omega
theorem fU.eq{a b:Int}(h:fU a b)(h1: -9223372036854775808<=a/\a<9223372036854775808)(h2: -9223372036854775808<=b/\b<9223372036854775808):a=b:=by unfold fU at h;omega
def Ext (F:Mono->Int):Prop:= ∀a b:Mono,a.key=b.key->F a=F b
def dQ (f:Mono->Int):List Mono->Int
 |[]=>0
 |m::l=>f m+dQ f l
def lin (F:Mono->Int)(L:List Mono):Int:=dQ (λm=>m.n*F m) L
theorem sumOf_perm(f:Mono->Int){l m:List Mono}(h:l.Perm m):dQ f l=dQ f m:=by
 induction h with
 |nil=>rfl
 |cons x _ ih=>simp only[dQ,ih]
 |swap x y l=>simp only[dQ];omega
 |trans _ _ ih1 ih2=>rw[ih1,ih2]
theorem bTr(f g:Mono->Int): ∀l,dQ (λm=>f m+g m) l=dQ f l+dQ g l
 |[]=>rfl
 |m::l=>by simp only[dQ,bTr f g l];omega
theorem bOj: ∀l,dQ (λ_=>0) l=0
 |[]=>rfl
 |m::l=>by simp only[dQ,bOj l];omega
theorem bBl(f:Mono->Int)(c:Int): ∀l,dQ (λm=>f m*c) l=dQ f l*c
 |[]=>by simp[dQ]
 |m::l=>by simp only[dQ,bBl f c l,Int.add_mul]
theorem bPp(f:Mono->Mono->Int)(q:List Mono): ∀p,dQ (λa=>dQ (λb=>f a b) q) p=dQ (λb=>dQ (λa=>f a b) p) q
 |[]=>by simp only[dQ,bOj]
 |a::p=>by simp only[dQ,bPp f q p,bTr]
theorem sG{f g:Mono->Int}: ∀{l:List Mono},(∀m∈l,f m=g m)->dQ f l=dQ g l
 |[],_=>rfl
 |m::l,h=>by simp only[dQ];rw[h m m9,sG λx hx=>h x aa1]
theorem bNs{f g:Mono->Int}: ∀{l:List Mono},(∀m∈l,fU (f m) (g m))->fU (dQ f l) (dQ g l)
 |[],_=>fU.refl _
 |m::l,h=>(h m m9).add (bNs λx hx=>h x aa1)
theorem bSp(F:Mono->Int)(L:List Mono):lin F (lV L)=lin F L:=by
 unfold lin lV;rw[sumOf_perm _ (List.mergeSort_perm _ _)]
 induction L with
 |nil=>rfl
 |cons m l ih=>
  by_cases h:m.n=0
  .rw[List.filter_cons_of_neg ab4,ih];simp[dQ,h]
  .rw[List.filter_cons_of_pos ab4];simp only[dQ,ih]
theorem bHx{F:Mono->Int}(hF:Ext F)(k:Mono)(x:Int): ∀L,lin F (setTo k x L)=lin F L+(x-pW k L)*F k
 |[]=>by
  have:F {k with n:=x}=F k:=hF _ _ rfl;simp only[lin,setTo,pW,dQ,this];simp
 |m::L=>by
  have b:F {k with n:=x}=F k:=hF _ _ rfl;have a:=bHx hF k x L;unfold lin at a;unfold setTo pW lin
  by_cases h:k.sameE m=true
  .have h2:F m=F k:=hF _ _ (sameE_E.1 h).symm;simp only[if_pos h,dQ,b,h2,Int.sub_mul];omega
  .simp only[if_neg h,dQ,a];omega
theorem bTn{F:Mono->Int}(hF:Ext F)(m:Mono)(v:Int)(L:List Mono):fU (lin F (uF m v L)) (lin F L+v*F m):=by unfold uF;rw[bHx hF];refine(fU.refl _).add (fU.mul ?_ _);have:=tX (pW m L+v);unfold fU at*;omega
theorem bDy{F:Mono->Int}(hF:Ext F)(g:Mono->Int): ∀(p L:List Mono),fU (lin F (gN g L p)) (lin F L+dQ (λm=>g m*F m) p)
 |[],L=>by simp only[gN,dQ,aZ];exact fU.refl _
 |m::p,L=>by refine(bDy hF g p (uF m (g m) L)).trans ?_;refine((bTn hF m (g m) L).add (fU.refl _)).trans (fU.of_eq ?_);simp only[dQ];omega
theorem bNt{F:Mono->Int}(hF:Ext F)(a:Mono): ∀(q L:List Mono),fU (lin F (mH a L q)) (lin F L+dQ (λb=>a.n*b.n*F (mulM a b)) q)
 |[],L=>by simp only[mH,dQ,aZ];exact fU.refl _
 |b::q,L=>by refine(bNt hF a q _).trans ?_;refine(((bTn hF (mulM a b) _ L).trans ((fU.refl _).add ((tX _).mul _))).add (fU.refl _)).trans (fU.of_eq ?_);simp only[dQ];omega
theorem bMt{F:Mono->Int}(hF:Ext F)(q:List Mono): ∀(p L:List Mono),fU (lin F (iQ q L p)) (lin F L+dQ (λa=>dQ (λb=>a.n*b.n*F (mulM a b)) q) p)
 |[],L=>by simp only[iQ,dQ,aZ];exact fU.refl _
 |a::p,L=>by refine(bMt hF q p _).trans ?_;refine((bNt hF a q L).add (fU.refl _)).trans (fU.of_eq ?_);simp only[dQ];omega
def Fit (L:List Mono):Prop:= ∀m∈L,-9223372036854775808<=m.n/\m.n<9223372036854775808
theorem bUx(m:Mono)(v:Int){L:List Mono}(h:Fit L):Fit (uF m v L):=λy a=>by
 rcases bBd a with rfl|a
 .exact yF _
 .exact h y a
theorem bDq(g:Mono->Int): ∀(p:List Mono) {L:List Mono},Fit L->Fit (gN g L p)
 |[],_,h=>h
 |_::p,_,h=>bDq g p (bUx _ _ h)
theorem bOi(a:Mono): ∀(q:List Mono) {L:List Mono},Fit L->Fit (mH a L q)
 |[],_,h=>h
 |_::q,_,h=>bOi a q (bUx _ _ h)
theorem bOy(q:List Mono): ∀(p:List Mono) {L:List Mono},Fit L->Fit (iQ q L p)
 |[],_,h=>h
 |a::p,_,h=>bOy q p (bOi a q h)
theorem bLw:Fit []:=λ_ h=>by simp at h
def ind (k:Nat)(m:Mono):Int:=if m.key=k then 1 else 0
theorem ext_ind(k:Nat):Ext (ind k):=λa b h=>by unfold ind;rw[h]
theorem iK(F:Mono->Int)(m:Mono)(L:List Mono):lin F (m::L)=m.n*F m+lin F L:=rfl
theorem ind_ne{k:Nat}{m:Mono}(h:m.key≠k):ind k m=0:=if_neg h
theorem ind_self(m:Mono):ind m.key m=1:=if_pos rfl
theorem yA{k:Nat}: ∀{L:List Mono},(∀y∈L,y.key≠k)->lin (ind k) L=0
 |[],_=>rfl
 |m::L,h=>by rw[iK,yA (L:=L) (k:=k) λy a=>h y (by simp[a]),ind_ne (h m m9)];simp
theorem bGd{x:Mono}: ∀{L:List Mono},jQ L->x∈L->lin (ind x.key) L=x.n
 |[],_,h=>by simp at h
 |m::L,hA,h=>by
  obtain⟨h1,h2⟩:=F4.1 hA;rw[iK]
  rcases F1.1 h with rfl|h
  .rw[yA (L:=L) (k:=x.key) λy a=>Ne.symm (h1 y a),ind_self];simp
  .rw[bGd h2 h,ind_ne (h1 x h)];simp
theorem bVg{L L':List Mono}(hA:jQ L)(hf:Fit L)(hA':jQ L')(hf':Fit L')(h: ∀F,Ext F->fU (lin F L) (lin F L')){x:Mono}(hx:x∈lV L):x∈lV L':=by
 obtain⟨hx,h0⟩:=bIs.1 hx;have e:=h _ (ext_ind x.key);rw[bGd hA hx]at e;have b:=hf x hx
 by_cases a: ∃y∈L',y.key=x.key
 .obtain⟨y,a,c⟩:=a;rw[<-c,bGd hA' a]at e;have hn:=e.eq b (hf' y a);rw[eq_of_key c.symm hn]at h0⊢;exact bIs.2 ⟨a,h0⟩
 .rw[yA λy h1 h2=>a ⟨y,h1,h2⟩]at e;exact absurd (e.eq b j5) h0
theorem bEb{L L':List Mono}(hA:jQ L)(hf:Fit L)(hA':jQ L')(hf':Fit L')(h: ∀F,Ext F->fU (lin F L) (lin F L')):lV L=lV L':=
 pS.ext (bAh hA) (bAh hA') λ_=>⟨bVg hA hf hA' hf' h,bVg hA' hf' hA hf λF a=>(h F a).symm⟩
theorem vJ: ∀{l:List Mono} {o:Option Mono},fG o l=true->pS l/\(∀a,o=some a-> ∀m∈l,m.key<a.key)/\(∀m∈l,hJ m=true)
 |[],_,_=>⟨by simp[pS],m9,m9⟩
 |m::l,none,h=>by
  rw[fG,L9]at h;obtain⟨h1,h2,h3⟩:=vJ h.2;refine⟨F4.2 ⟨λb hb=>h2 m rfl b hb,h1⟩,m9,?_⟩;intro x hx
  rcases F1.1 hx with rfl|hx
  .exact h.1
  .exact h3 x hx
 |m::l,some a,h=>by
  rw[fG,L9,L9,decide_eq_true_eq]at h;obtain⟨h1,h2,h3⟩:=vJ h.2.2;have c:=(ord_lt _ _).1 h.2.1;refine⟨F4.2 ⟨λb hb=>h2 m rfl b hb,h1⟩,?_,?_⟩
  .intro e d x hx;obtain rfl:a=e:=Option.some.inj d
   rcases F1.1 hx with rfl|hx
   .exact c
   .exact Nat.lt_trans (h2 m rfl x hx) c
  .intro x hx
   rcases F1.1 hx with rfl|hx
   .exact h.1
   .exact h3 x hx
theorem pQ{p:List Mono}(h:cK p=true):pS p/\(∀m∈p,hJ m=true)/\p.length<=48:=by simp only[cK,L9,decide_eq_true_eq]at h;exact⟨(vJ h.2).1,(vJ h.2).2.2,h.1⟩
theorem right_fit{p:List Mono}(h:cK p=true):Fit p:=λm a=>by have:=(pQ h).2.1 m a;simp only[hJ,decide_eq_true_eq]at this;omega
theorem bJf{p:List Mono}(h:cK p=true):jQ p:=(pQ h).1.apart
def bJj (p q:List Mono)(s:Int):List Mono:=gN (λm=>wrap64 (s*m.n)) (gN Mono.n [] p) q
theorem bTy:jQ []:=by simp[jQ]
theorem yU(p q:List Mono)(s:Int):jQ (bJj p q s):=mG _ _ (mG _ _ bTy)
theorem bGv(p q:List Mono)(s:Int):Fit (bJj p q s):=bDq _ _ (bDq _ _ bLw)
theorem bIc{F:Mono->Int}(hF:Ext F)(p q:List Mono)(s:Int):fU (lin F (bJj p q s)) (lin F p+s*lin F q):=by
 refine(bDy hF _ q _).trans ?_;refine fU.add ((bDy hF _ p _).trans (fU.of_eq ?_)) ?_
 .simp only[lin,dQ,eA]
 .unfold lin;rw[eB,<-bBl];refine bNs λm _=>((tX _).mul _).trans (fU.of_eq ?_);rw[eB s,eC,eB s,eC]
theorem bMh{F:Mono->Int}(hF:Ext F)(p q:List Mono):fU (lin F (iQ q [] p)) (dQ (λa=>dQ (λb=>a.n*b.n*F (mulM a b)) q) p):=by refine(bMt hF q p []).trans (fU.of_eq ?_);simp only[lin,dQ,eA]
theorem bDx(p q:List Mono):jQ (iQ q [] p):=tP _ _ bTy
theorem bRk(p q:List Mono):Fit (iQ q [] p):=bOy _ _ bLw
theorem mulM_comm(a b:Mono):mulM a b=mulM b a:=by simp only[mulM,eB a.n,eX a.e0,eX a.q,eX a.o,eX a.j,eX a.d,eX a.Z]
theorem bothP_L(p q:List Mono)(s:Int):bothP p q s=if cK p&&cK q then gV (bJj p q s)else ([],20):=rfl
theorem add_comm(p q:List Mono):bothP p q 1=bothP q p 1:=by
 have h:lV (bJj p q 1)=lV (bJj q p 1):=bEb (yU _ _ _) (bGv _ _ _) (yU _ _ _) (bGv _ _ _) λF a=>
  (bIc a p q 1).trans ((fU.of_eq j5).trans (bIc a q p 1).symm)
 rw[bothP_L,bothP_L,Bool.and_comm];unfold gV;rw[h]
theorem mul_comm(p q:List Mono):nD p q=nD q p:=by
 have h:lV (iQ q [] p)=lV (iQ p [] q):=bEb (bDx _ _) (bRk _ _) (bDx _ _) (bRk _ _) λF c=>
  (bMh c p q).trans ((fU.of_eq (by
   rw[bPp];refine sG λb _=>sG λa _=>?_
   rw[mulM_comm,eB a.n])).trans (bMh c q p).symm)
 unfold nD;rw[Bool.and_comm];unfold gV;rw[h]
theorem both_ok{p q a:List Mono}{s:Int}(h:bothP p q s=(a,0)):cK p=true/\cK q=true/\a=lV (bJj p q s)/\cK a=true:=by
 unfold bothP gV at h;split at h
 .rename_i h1;simp only[L9]at h1;split at h
  .rename_i h2;injection h with h _
   refine⟨h1.1,h1.2,h.symm,?_⟩;rw[<-h];exact h2
  .simp at h
 .simp at h
theorem mul_ok{p q a:List Mono}(h:nD p q=(a,0)):cK p=true/\cK q=true/\a=lV (iQ q [] p)/\cK a=true:=by
 unfold nD gV at h;split at h
 .rename_i h1;simp only[L9]at h1;split at h
  .rename_i h2;injection h with h _
   refine⟨h1.1,h1.2,h.symm,?_⟩;rw[<-h];exact h2
  .simp at h
 .simp at h
end
section
open Go.RowKit Go.Sort Go.Proofs.Tryz
def lG:List (UInt8×Int)->Int
 |[]=>1
 |x::l=>x.2^x.1.toNat*lG l
def val (D:Nat->Int)(m:Mono):Int:=lG (fE m D)
theorem ext_val(D:Nat->Int):Ext (val D):=λa b h=>by have:=key_E.1 h;simp only[Mono.E,List.cons.injEq,and_true]at this;obtain⟨h0,h1,h2,h3,h4,c⟩:=this;simp only[val,fE,h0,h1,h2,h3,h4,c]
theorem bUo{d:Int}: ∀{e:Nat} {n r:Int},sA d e n=some r->r=n*d^e
 |0,n,r,h=>by simp only[sA,Option.some.injEq]at h;simp[h]
 |e+1,n,r,h=>by
  unfold sA at h;split at h
  .simp at h
  .rw[bUo h,eD,eC,eB d]
theorem bUy: ∀{l:List (UInt8×Int)} {n r:Int},pA l n=some r->r=n*lG l
 |[],n,r,h=>by simp only[pA,Option.some.injEq]at h;simp[h,lG]
 |x::l,n,r,h=>by simp only[pA,Option.bind_eq_some_iff]at h;obtain⟨k,h1,h2⟩:=h;rw[bUy h2,bUo h1,lG,eC]
theorem bDs: ∀{l:List (UInt8×Int)},gJ l=true->lG l=0
 |[],h=>by simp[gJ]at h
 |x::l,h=>by
  simp only[gJ,V3,M0,L9,decide_eq_true_eq,beq_iff_eq]at h
  rcases h with ⟨h1,h2⟩|h
  .rw[lG,h2,Int.zero_pow j5,Int.zero_mul]
  .rw[lG,bDs (l:=l) (by simpa[gJ]using h),eE]
theorem value_val{m:Mono}{D:Nat->Int}(h:(cW m D).2=true):(cW m D).1=max m.n (-m.n)*val D m:=by
 unfold cW at*;split
 .rename_i a;rw[val,bDs a];simp
 .split
  .rename_i n hn;exact bUy hn
  .rename_i a _ hn;rw[if_neg a,hn]at h;simp at h
theorem bOk{D:Nat->Int}(hD: ∀k,0<=D k): ∀{l:List Mono} {size sum r:Int},-size<=sum->sum<=size->size<=iA->jV D l size sum=some r->r=sum+lin (val D) l/\ -iA<=r/\r<=iA
 |[],size,sum,r,h1,h2,h3,h=>by
  simp only[jV,Option.some.injEq]at h;subst h;exact⟨by simp[lin,dQ],j5,j5⟩
 |m::l,size,sum,r,h1,h2,h3,h=>by
  unfold jV at h;split at h
  .simp at h
  .rename_i c;rw[not_or]at c;have d:=value_val (m:=m) (D:=D) (by simpa using c.1);have h0:=xD m D hD
   have b:(if m.n<0 then sum-(cW m D).1 else sum+(cW m D).1)=sum+m.n*val D m:=by
    rw[d];split
    .rw[show max m.n (-m.n)= -m.n by omega,Int.neg_mul];omega
    .rw[show max m.n (-m.n)=m.n by omega]
   have a: -(size+(cW m D).1)<=sum+m.n*val D m/\sum+m.n*val D m<=size+(cW m D).1:=by rw[<-b];split<;>omega
   rw[b]at h;obtain⟨g,f,e⟩:=bOk hD a.1 a.2 j5 h;exact⟨by rw[g,iK];omega,f,e⟩
theorem eval_ok{p:List Mono}{ds:List Int}{v:Int}(h:bF p ds=(v,0)):cK p=true/\v=lin (val (cV ds)) p/\ -iA<=v/\v<=iA:=by
 unfold bF at h;split at h
 .rename_i h1;split at h
  .rename_i h2;simp only[nY,L9]at h2;have hD: ∀k,0<=cV ds k:=λk=>(bAc h2.2 k).1;split at h
   .rename_i n hn;injection h with h _
    subst h;obtain⟨c,b,a⟩:=bOk hD j5 j5 l4 hn;exact⟨h1,by rw[c];omega,b,a⟩
   .simp at h
  .simp at h
 .simp at h
def Bnd (N:Int)(L:List Mono):Prop:= ∀m∈L,-N<=m.n/\m.n<=N
theorem coef_bnd{N:Int}(hN:0<=N)(k:Mono): ∀{L:List Mono},Bnd N L-> -N<=pW k L/\pW k L<=N
 |[],_=>by simp only[pW];omega
 |m::L,h=>by
  unfold pW;split
  .exact h m m9
  .exact coef_bnd hN k λx hx=>h x aa1
theorem bJt{F:Mono->Int}(hF:Ext F){N V:Int}(hN:0<=N)(hV:0<=V)(hNV:N+V<9223372036854775808)(m:Mono){v:Int}(hv: -V<=v/\v<=V){L:List Mono}(h:Bnd N L):
  lin F (uF m v L)=lin F L+v*F m/\Bnd (N+V) (uF m v L):=by
 have c:=coef_bnd hN m h;have b:wrap64 (pW m L+v)=pW m L+v:=by unfold wrap64;omega
 unfold uF;rw[b];constructor
 .rw[bHx hF,show pW m L+v-pW m L=v by omega]
 .intro y a
  rcases bBd a with rfl|a
  .show _<=pW m L+v/\pW m L+v<=_;omega
  .have:=h y a;omega
theorem prod_bnd{x y:Int}(hx: -16777216<=x/\x<=16777216)(hy: -16777216<=y/\y<=16777216): -281474976710656<=x*y/\x*y<=281474976710656:=by
 have h:(x*y).natAbs<=16777216*16777216:=by rw[Int.natAbs_mul];exact Nat.mul_le_mul j5 j5
 omega
theorem bLf{m:Mono}(h:hJ m=true): -16777216<=m.n/\m.n<=16777216:=by simp only[hJ,decide_eq_true_eq]at h;omega
theorem bEm{F:Mono->Int}(hF:Ext F)(a:Mono)(ha:hJ a=true): ∀{q L:List Mono} {N:Int},0<=N->N+281474976710656*q.length<9223372036854775808->(∀b∈q,hJ b=true)->Bnd N L->
  lin F (mH a L q)=lin F L+dQ (λb=>a.n*b.n*F (mulM a b)) q/\Bnd (N+281474976710656*q.length) (mH a L q)
 |[],L,N,_,_,_,h=>by
  refine⟨by simp[mH,dQ],?_⟩
  simpa[mH]using h
 |b::q,L,N,hN,hl,hq,h=>by
  rw[G5]at hl⊢;have d:=prod_bnd (bLf ha) (bLf (hq b m9));have c:wrap64 (a.n*b.n)=a.n*b.n:=by unfold wrap64;omega
  obtain⟨i,g⟩:=bJt hF (V:=281474976710656) hN j5 j5 (mulM a b) d h;obtain⟨f,e⟩:=bEm hF a ha (q:=q) j5 j5 (λx hx=>hq x aa1) g;rw[mH,c];refine⟨?_,?_⟩
  .rw[f,i];simp only[dQ];omega
  .rw[show N+281474976710656*((q.length+1:Nat):Int)=N+281474976710656+281474976710656*q.length by omega];exact e
theorem bFh{F:Mono->Int}(hF:Ext F){q:List Mono}(hq: ∀b∈q,hJ b=true)(hl:q.length<=48): ∀{p L:List Mono} {N:Int},0<=N->N+13510798882111488*p.length<9223372036854775808->(∀b∈p,hJ b=true)->Bnd N L->
  lin F (iQ q L p)=lin F L+dQ (λa=>dQ (λb=>a.n*b.n*F (mulM a b)) q) p
 |[],L,N,_,_,_,h=>by simp[iQ,dQ]
 |a::p,L,N,hN,hp,hs,h=>by
  rw[G5]at hp;obtain⟨f,e⟩:=bEm hF a (hs a m9) (q:=q) hN j5 hq h;have d:Bnd (N+13510798882111488) (mH a L q):=λx hx=>by have:=e x hx;omega
  have c:=bFh hF hq hl (p:=p) j5 j5 (λx hx=>hs x aa1) d;rw[iQ,c,f];simp only[dQ];omega
theorem tS(x y:UInt8)(d:Int)(h:x.toNat+y.toNat<256):d^(x+y).toNat=d^x.toNat*d^y.toNat:=by rw[UInt8.toNat_add,Nat.mod_eq_of_lt h,Int.pow_add]
theorem bTf{m:Mono}(h:hJ m=true):m.e0.toNat<=8/\m.q.toNat<=8/\m.o.toNat<=8/\m.j.toNat<=8/\m.d.toNat<=8/\m.Z.toNat<=8:=by simp only[hJ,decide_eq_true_eq]at h;have h:=h.2.2.2;unfold Mono.deg at h;omega
theorem val_mul(D:Nat->Int){a b:Mono}(ha:hJ a=true)(hb:hJ b=true):val D (mulM a b)=val D a*val D b:=by
 obtain⟨n,m,l,k,j,i⟩:=bTf ha;obtain⟨h,g,f,e,d,c⟩:=bTf hb;simp only[val,fE,mulM,lG];rw[tS _ _ _ j5,tS _ _ _ j5,tS _ _ _ j5,tS _ _ _ j5,tS _ _ _ j5,tS _ _ _ j5];simp only[eF]
 ac_rfl
theorem eval_dims{p:List Mono}{ds:List Int}{v:Int}(h:bF p ds=(v,0)):nY ds=true:=by
 unfold bF at h;split at h
 .split at h
  .assumption
  .simp at h
 .simp at h
end
section
open Go.Proofs.Tryz
theorem pow_le{a b:Int}(ha:0<=a)(h:a<=b): ∀e:Nat,0<=a^e/\a^e<=b^e
 |0=>by simp
 |e+1=>by obtain⟨h1,h2⟩:=pow_le ha h e;rw[eD,eD];exact⟨aO h1 ha,eG h2 h ha (eH h1 h2)⟩
theorem prod_le{D D':Nat->Int}(hD: ∀k,0<=D k)(h: ∀k,D k<=D' k): ∀l:List (UInt8×Nat),0<=lG (l.map λx=>(x.1,D x.2))/\lG (l.map λx=>(x.1,D x.2))<=lG (l.map λx=>(x.1,D' x.2))
 |[]=>by simp[lG]
 |x::l=>by obtain⟨h1,h2⟩:=prod_le hD h l;obtain⟨h3,h4⟩:=pow_le (hD x.2) (h x.2) x.1.toNat;simp only[H6,lG];exact⟨aO h3 h1,eG h4 h2 h1 (eH h3 h4)⟩
theorem val_le{D D':Nat->Int}(hD: ∀k,0<=D k)(h: ∀k,D k<=D' k)(m:Mono):0<=val D m/\val D m<=val D' m:=
 prod_le hD h [(m.e0,0),(m.q,1),(m.o,2),(m.j,3),(m.d,4),(m.Z,5)]
theorem lin_le{D D':Nat->Int}(hD: ∀k,0<=D k)(h: ∀k,D k<=D' k): ∀p:List Mono,(∀m∈p,0<=m.n)->0<=lin (val D) p/\lin (val D) p<=lin (val D') p
 |[],_=>by simp[lin,dQ]
 |m::p,hp=>by obtain⟨h1,h2⟩:=lin_le hD h p λx hx=>hp x aa1;obtain⟨h3,h4⟩:=val_le hD h m;have h0:=hp m m9;have b:=aO h0 h3;have a:=eI h4 h0;rw[iK,iK];exact⟨j5,j5⟩
theorem grows_n{p:List Mono}(h:jJ p=true): ∀m∈p,0<=m.n:=λm a=>by simp only[jJ,L9,T3,eL,vV,decide_eq_true_eq]at h;have:=h.2 m a;omega
theorem eval_pos{p:List Mono}{ds:List Int}{v:Int}(h:bF p ds=(v,0)): ∀k,0<=cV ds k:=λk=>by have:=eval_dims h;simp only[nY,L9]at this;exact(bAc this.2 k).1
theorem grows_pos{p:List Mono}{ds:List Int}{a:Int}(hg:jJ p=true)(ha:bF p ds=(a,0)):0<=a:=by obtain⟨_,b,_⟩:=eval_ok ha;rw[b];exact(lin_le (eval_pos ha) (λk=>eJ _) p (grows_n hg)).1
end
section
open Go.RowKit Go.Sort Go.Proofs.Tryz
set_option maxRecDepth 100000
def bRz (n:Int):Mono:=⟨n,0,0,0,0,0,0⟩
def kC (n:Int):List Mono×Int:=if n=0 then ([],0)else if 16777216<n\/n< -16777216 then ([],21)else ([bRz n],0)
theorem bSj(n:Int)(w:World):(Instr.build 111 #[(0,j3 n)]).run prog w= .ok (.agg #[j3 n,j4 0,j4 0,j4 0,j4 0,j4 0,j4 0]) w:=run_build w _ _ _ j8
theorem res_one(w:World)(m:Mono):Res w.heap.size (w.alloc (.cells #[j3 m.n,j4 m.e0.toNat,j4 m.q.toNat,j4 m.o.toNat,j4 m.j.toNat,j4 m.d.toNat,j4 m.Z.toNat] 111)) (.slice (some ⟨w.heap.size,0,none⟩) 1 1) [m]:=by
 refine⟨_,1,rfl,.inr ⟨w.heap.size,rfl,B8 _,?_⟩⟩
 have h:bSf (w.alloc (.cells #[.int .i64 m.n,.int .u8 m.e0.toNat,.int .u8 m.q.toNat,.int .u8 m.o.toNat,.int .u8 m.j.toNat,.int .u8 m.d.toNat,.int .u8 m.Z.toNat] 111)) w.heap.size (.slice (some ⟨w.heap.size,0,none⟩) [m].length 1) [m]:=
  ⟨rfl,.inr ⟨w.heap.size,1,#[.int .i64 m.n,.int .u8 m.e0.toNat,.int .u8 m.q.toNat,.int .u8 m.o.toNat,.int .u8 m.j.toNat,.int .u8 m.d.toNat,.int .u8 m.Z.toNat],rfl,B8 _,heap_alloc_new _ _,B8 _,by simp[maxLen],rfl,rfl⟩⟩
 exact h.row
set_option maxHeartbeats 400000 in
theorem const_any(n:Int)(w:World):Calls prog 93 #[j3 n] w (bKj w (kC n)):=by
 have hbn:=bSj
 by_cases h0:n=0
 .have e:kC n=([],0):=by unfold kC;rw[if_pos h0]
  rw[e];subst h0
  go_enter func93,ntmps93
  go_wp2
  go_ret2
  exact⟨_,rfl,Below.refl _ _,Res.nil _ _ _ _⟩
 .have h01:(n==0)=false:=by simpa using h0
  by_cases h1:16777216<n
  .have e:kC n=([],21):=by unfold kC;rw[if_neg h0,if_pos (.inl h1)]
   rw[e];have h11:decide (16777216<n)=true:=by simpa using h1
   go_enter func93,ntmps93
   go_wp2
   go_ret2
   exact⟨_,rfl,Below.refl _ _,Res.nil _ _ _ _⟩
  .have h11:decide (16777216<n)=false:=by simpa using h1
   by_cases h2:n< -16777216
   .have e:kC n=([],21):=by unfold kC;rw[if_neg h0,if_pos (.inr h2)]
    rw[e];have h21:decide (n< -16777216)=true:=by simpa using h2
    go_enter func93,ntmps93
    go_wp2
    go_ret2
    exact⟨_,rfl,Below.refl _ _,Res.nil _ _ _ _⟩
   .have e:kC n=([bRz n],0):=by unfold kC;rw[if_neg h0,if_neg j5]
    rw[e];have h21:decide (n< -16777216)=false:=by simpa using h2
    go_enter func93,ntmps93
    go_wp2
    go_ret2
    exact⟨_,rfl,by go_grown,res_one w (bRz n)⟩
set_option maxHeartbeats 400000 in
theorem add_any(A B:Option Addr)(c d:Nat)(p q:List Mono)(w:World)(ha:lR w A p)(hb:lR w B q)(hp:p.length<=140737488355328)(hq:q.length<=140737488355328):
  Calls prog 96 #[.slice A p.length c,.slice B q.length d] w (bKj w (bothP p q 1)):=by
 have H:=Lib.hid (both_any A B c d p q 1 w ha hb hp hq);clear ha hb
 go_enter func96,ntmps96
 go_wp2_with fail
 refine H.out.mono ?_;rintro e w1 ⟨v,rfl,hb1,hv⟩;have HB:=Lib.hid hb1;have HV:=Lib.hid hv;clear hb1 hv
 go_wp2
 go_ret2
 exact⟨_,rfl,HB.out,HV.out⟩
end
section
open Go.RowKit Go.Proofs.Tryz
def oY:List (List Mono)->List Mono->Option (List Mono)
 |[],n=>some n
 |p::r,n=>if (nD n p).2=0 then oY r (nD n p).1 else none
def sizeC (sides:List (List Mono)):Option (List Mono):=oY sides (kC 1).1
structure SpC where
 at_:List Mono
 size:List Mono
 deriving DecidableEq
structure PlC where
 Y:List (List Mono)
 J:List Mono
 free:List SpC
 laid:List (Option SpC)
def oC (n:List Mono)(again:Bool)(l:List SpC):Option (Nat×SpC):=
 if again=true/\n≠[]then match l.findIdx? (λq=>decide (q.size=n))with
  |none=>none
  |some i=>match l[i]? with
   |none=>none
   |some q=>some (i,q)
 else none
def layC (sides:List (List Mono))(b:Nat)(again:Bool)(s:PlC):Option PlC:=match sizeC sides with
 |none=>none
 |some n=>match oC n again s.free with
  |some (i,q)=>some {s with free:=s.free.eraseIdx i,laid:=s.laid.set b (some q),Y:=s.Y.set b q.at_}
  |none=>if (bothP s.J n 1).2=0 then some {s with J:=(bothP s.J n 1).1,laid:=s.laid.set b (some ⟨s.J,n⟩),Y:=s.Y.set b s.J}else none
def relGo (i:Int):List LifeC->List (Option SpC)->List (Option SpC)×List SpC
 |y::ys,some q::r=>if y.za<i then (none::(relGo i ys r).1,if q.size=[]then (relGo i ys r).2 else q::(relGo i ys r).2)else (some q::(relGo i ys r).1,(relGo i ys r).2)
 |_::ys,none::r=>(none::(relGo i ys r).1,(relGo i ys r).2)
 |[],l=>(l,[])
 |_,[]=>([],[])
def relC (i:Int)(l:List LifeC)(s:PlC):PlC:={s with laid:=(relGo i l s.laid).1,free:=s.free++(relGo i l s.laid).2}
def mD (bufs:List jX)(l:List LifeC):Nat->Nat->PlC->Option PlC
 |0,_,s=>some s
 |m+1,b,s=>match bufs[b]?,l[b]? with
  |some u,some y=>if y.from_<0 then match layC u.K b false s with
    |none=>none
    |some s'=>mD bufs l m (b+1) s'
   else mD bufs l m (b+1) s
  |_,_=>none
def goC (c:dR)(l:List LifeC)(w:List Bool):List cT->Nat->PlC->Option PlC
 |[],_,s=>some s
 |x::r,i,s=>match c.C[x.I.toNat]?,l[x.I.toNat]?,w[x.I.toNat]? with
  |some u,some y,some t=>if y.from_=(i:Int)then match layC u.K x.I.toNat t (relC i l s)with
    |none=>none
    |some s'=>goC c l w r (i+1) s'
   else goC c l w r (i+1) s
  |_,_,_=>none
def oD (n:Nat):PlC:=⟨V4 n [],[],[],V4 n none⟩
def yX (c:dR):Option (List (List Mono)×List Mono):=match mD c.C (livesC c) c.C.length 0 (oD c.C.length)with
 |none=>none
 |some s=>match goC c (livesC c) (fullC c) c.D 0 s with
  |none=>none
  |some s=>some (s.Y,s.J)
end
section
open Go.RowKit Go.Sort Go.Proofs.Tryz
def Gr (p:List Mono):Prop:=cK p=true/\ ∀m∈p,0<=m.n
abbrev VD (ds:List Int)(p:List Mono):Int:=lin (val (cV ds)) p
theorem gr_of{p:List Mono}(h:jJ p=true):Gr p:=⟨by unfold jJ at h;rw[L9]at h;exact h.1,grows_n h⟩
theorem gr_nil:Gr []:=⟨by rfl,λ_ h=>by cases h⟩
theorem wN{f:Mono->Int}: ∀{l:List Mono},(∀m∈l,0<=f m)->0<=dQ f l
 |[],_=>by simp[dQ]
 |m::l,h=>by have h1:=h m (F9 ..);have h2:=wN λx hx=>h x (F3 m hx);simp only[dQ];omega
theorem ind_pos(k:Nat)(m:Mono):0<=ind k m:=by unfold ind;split<;>omega
section
variable {p q s : List Mono}
theorem mul_lin{F:Mono->Int}(hF:Ext F)(hs:nD p q=(s,0)):lin F s=dQ (λa=>dQ (λb=>a.n*b.n*F (mulM a b)) q) p:=by obtain⟨g,hq,c,_⟩:=mul_ok hs;obtain⟨_,f,i⟩:=pQ g;obtain⟨_,e,d⟩:=pQ hq;rw[c,bSp,bFh hF e d (N:=0) j5 j5 f (λ_ h=>by simp at h)];simp only[lin,dQ,eA]
theorem mul_V{D:Nat->Int}(hs:nD p q=(s,0)):lin (val D) s=lin (val D) p*lin (val D) q:=by
 obtain⟨c,hq,_,_⟩:=mul_ok hs;obtain⟨_,b,_⟩:=pQ c;obtain⟨_,a,_⟩:=pQ hq;rw[mul_lin (ext_val D) hs];simp only[lin];rw[<-bBl];refine sG λm d=>?_;rw[eB,<-bBl];refine sG λn hn=>?_;rw[val_mul _ (b m d) (a n hn)]
 ac_rfl
theorem mul_gr(hp:Gr p)(hq:Gr q)(hs:nD p q=(s,0)):Gr s:=by obtain⟨_,_,_,hr⟩:=mul_ok hs;refine⟨hr,λm c=>?_⟩;rw[<-bGd (bJf hr) c,mul_lin (ext_ind _) hs];exact wN λa d=>wN λb hb=>aO (aO (hp.2 a d) (hq.2 b hb)) (ind_pos _ _)
theorem xB{F:Mono->Int}(hF:Ext F){g:Mono->Int}: ∀{p L:List Mono} {N:Int},0<=N->N+16777216*p.length<9223372036854775808->(∀m∈p,hJ m=true/\g m=m.n)->Bnd N L->lin F (gN g L p)=lin F L+lin F p/\Bnd (N+16777216*p.length) (gN g L p)
 |[],L,N,_,_,_,h=>by
  refine⟨by simp[gN,lin,dQ],?_⟩
  simpa[gN]using h
 |m::p,L,N,hN,hl,hp,h=>by
  rw[G5]at hl⊢;obtain⟨h1,h2⟩:=hp m (F9 ..);have hb:=bLf h1;obtain⟨d,c⟩:=bJt hF (V:=16777216) hN j5 j5 m hb h;obtain⟨b,a⟩:=xB hF (g:=g) (p:=p) j5 j5 (λx hx=>hp x (F3 _ hx)) c;rw[gN,h2];refine⟨?_,?_⟩
  .rw[b,d,iK];omega
  .rw[show N+16777216*((p.length+1:Nat):Int)=N+16777216+16777216*p.length by omega];exact a
theorem add_lin{F:Mono->Int}(hF:Ext F)(hs:bothP p q 1=(s,0)):lin F s=lin F p+lin F q:=by
 obtain⟨e,hq,c,_⟩:=both_ok hs;obtain⟨_,d,l⟩:=pQ e;obtain⟨_,b,k⟩:=pQ hq;rw[c,bSp];unfold bJj;obtain⟨j,i⟩:=xB hF (g:=Mono.n) (p:=p) (L:=[]) (N:=0) j5 j5 (λm a=>⟨d m a,rfl⟩) (λ_ h=>by simp at h)
 obtain⟨f,_⟩:=xB hF (g:=λm=>wrap64 (1*m.n)) (p:=q) j5 j5 (λm a=>⟨b m a,by
  have:=bLf (b m a);show wrap64 (1*m.n)=m.n;unfold wrap64
  omega⟩) i
 rw[f,j];simp only[lin,dQ,eA]
theorem add_gr(hp:Gr p)(hq:Gr q)(hs:bothP p q 1=(s,0)):Gr s:=by obtain⟨_,_,_,hr⟩:=both_ok hs;refine⟨hr,λm c=>?_⟩;rw[<-bGd (bJf hr) c,add_lin (ext_ind _) hs];have h1:0<=lin (ind m.key) p:=wN λa b=>aO (hp.2 a b) (ind_pos _ _);have h2:0<=lin (ind m.key) q:=wN λa b=>aO (hq.2 a b) (ind_pos _ _);omega
end
theorem powD_is{d:Int}(hd:1<=d): ∀{e:Nat} {n:Int},0<=n->n*d^e<=iA->sA d e n=some (n*d^e)
 |0,n,_,_=>by simp[sA]
 |e+1,n,hn,h=>by
  have f:1<=d^e:=by
   have:=(pow_le (a:=1) (b:=d) j5 hd e).2
   rwa[Int.one_pow]at this
  have c:0<=n*d:=aO hn j5;have g:n*d^(e+1)=n*d*d^e:=by rw[eD,eB (d^e),eC]
  rw[g]at h⊢
  have h2:n*d<=iA:=by have:n*d*1<=n*d*d^e:=eI f c;omega
  rw[sA,if_neg,powD_is hd c h];intro hlt;have:=Int.le_ediv_of_mul_le j5 h2;omega
theorem mulD_is: ∀{l:List (UInt8×Int)} {n:Int},(∀x∈l,0<=x.2)->gJ l=false->0<=n->n*lG l<=iA->pA l n=some (n*lG l)
 |[],n,_,_,_,_=>by simp[pA,lG]
 |x::l,n,h0,hz,hn,h=>by
  have a:gJ l=false:=by unfold gJ at hz⊢;rw[V3,aX]at hz;exact hz.2
  have hx:x.1.toNat=0\/1<=x.2:=by
   unfold gJ at hz;rw[V3,aX,aY]at hz;have:=h0 x (F9 ..)
   rcases hz.1 with h1|h1
   .left;have:=of_decide_eq_false h1;omega
   .right;have:x.2≠0:=by simpa using h1
    omega
  have hl:1<=lG l:=prodD_pos (λy c=>h0 y (F3 _ c)) a;have d:0<=x.2^x.1.toNat:=Int.pow_nonneg (h0 x (F9 ..));have f:n*lG (x::l)=n*x.2^x.1.toNat*lG l:=by rw[lG,eC]
  rw[f]at h⊢;have b:0<=n*x.2^x.1.toNat:=aO hn d
  have h2:n*x.2^x.1.toNat<=iA:=by have:n*x.2^x.1.toNat*1<=n*x.2^x.1.toNat*lG l:=eI hl b;omega
  have e:sA x.2 x.1.toNat n=some (n*x.2^x.1.toNat):=by
   rcases hx with hx|hx
   .rw[hx];simp[sA]
   .exact powD_is hx hn h2
  rw[pA,e,Option.bind_some];exact mulD_is (λy c=>h0 y (F3 _ c)) a b h
where
 prodD_pos: ∀{l:List (UInt8×Int)},(∀x∈l,0<=x.2)->gJ l=false->1<=lG l
  |[],_,_=>by simp[lG]
  |x::l,h0,hz=>by
   unfold gJ at hz;rw[V3,aX,aY]at hz;have h1:=prodD_pos (l:=l) (λy hy=>h0 y (F3 _ hy)) hz.2;have h2:=h0 x (F9 ..)
   have h3:1<=x.2^x.1.toNat:=by
    rcases hz.1 with h4|h4
    .have:x.1.toNat=0:=by have:=of_decide_eq_false h4;omega
     rw[this];simp
    .have:x.2≠0:=by simpa using h4
     have:=(pow_le (a:=1) (b:=x.2) j5 j5 x.1.toNat).2
     rwa[Int.one_pow]at this
   rw[lG];have h5:1*lG l<=x.2^x.1.toNat*lG l:=Int.mul_le_mul_of_nonneg_right h3 j5;omega
section
variable {D : Nat -> Int} (hD : ∀ k, 0 <= D k)
include hD
theorem pairs_pos(m:Mono): ∀x∈fE m D,0<=x.2:=λx hx=>by
 simp only[fE,F1,List.not_mem_nil,or_false]at hx
 rcases hx with rfl|rfl|rfl|rfl|rfl|rfl<;>exact hD _
theorem value_is{m:Mono}(h0:0<=m.n)(h:m.n*val D m<=iA):cW m D=(m.n*val D m,true):=by
 unfold cW
 cases a:gJ (fE m D)with
 |true=>
  rw[if_pos rfl,val,bDs a,eE]
 |false=>
  have b:max m.n (-m.n)=m.n:=j5
  rw[if_neg m9,b,mulD_is (pairs_pos hD m) a h0 h];rfl
theorem evalL_is: ∀{l:List Mono} {size sum:Int},(∀m∈l,0<=m.n)->0<=size->size+lin (val D) l<=iA->jV D l size sum=some (sum+lin (val D) l)
 |[],size,sum,_,_,_=>by simp[jV,lin,dQ]
 |m::l,size,sum,hn,hs,h=>by
  rw[iK]at h⊢;have h0:=hn m (F9 ..);have h1:=aO h0 (val_le hD (λ_=>eJ _) m).1;have h2:=(lin_le hD (λ_=>eJ _) l λx hx=>hn x (F3 _ hx)).1;have a:=value_is hD h0 j5
  rw[jV,a,if_neg (by
   show ¬(true=false\/iA-size<m.n*val D m);rintro(h|h)
   .cases h
   .omega),if_neg j5]
  show jV D l (size+m.n*val D m) (sum+m.n*val D m)=_;rw[evalL_is (λx hx=>hn x (F3 _ hx)) j5 j5]
  congr 1
  omega
end
section
variable {ds : List Int}
theorem dims_pos(hd:nY ds=true): ∀k,0<=cV ds k:=λk=>by simp only[nY,L9]at hd;exact(bAc hd.2 k).1
theorem eval_is{p:List Mono}(hg:Gr p)(hd:nY ds=true)(hv:VD ds p<=iA):bF p ds=(VD ds p,0):=by unfold bF;rw[if_pos hg.1,if_pos hd,evalL_is (dims_pos hd) hg.2 j5 (by show 0+VD ds p<=iA;omega)];show(0+VD ds p,(0:Int))=_;rw[eA]
theorem gr_pos{p:List Mono}(hg:Gr p)(hd:nY ds=true):0<=VD ds p:=(lin_le (dims_pos hd) (λ_=>eJ _) p hg.2).1
def bAf:List Int->Int
 |[]=>1
 |n::r=>n*bAf r
theorem bOd: ∀{l:List Int},l.contains 0=true->bAf l=0
 |[],h=>by cases h
 |n::r,h=>by
  rw[List.contains_cons,M0,beq_iff_eq]at h
  rcases h with h|h
  .rw[bAf,<-h,Int.zero_mul]
  .rw[bAf,bOd h,eE]
theorem bNn: ∀{l:List Int} {a r:Int},prodQ l a=some r->r=a*bAf l
 |[],a,r,h=>by cases h;rw[bAf,eF]
 |n::l,a,r,h=>by
  unfold prodQ at h;split at h
  .cases h
  .rw[bNn h,bAf,eC]
theorem bFy: ∀{l:List (List Mono)} {acc r:List Int},sidesGo ds l acc=some r->r=acc++l.map (VD ds)
 |[],acc,r,h=>by cases h;simp
 |p::l,acc,r,h=>by
  unfold sidesGo at h;split at h
  .rename_i a;simp only[bSx,L9,beq_iff_eq]at a;have he:bF p ds=((bF p ds).1,0):=by rw[<-a.1.1]
   obtain⟨_,b,_⟩:=eval_ok he;rw[bFy h,b];simp
  .cases h
theorem sizeB_prod{sides:List (List Mono)}{n:Int}(h:sizeB sides ds=some n):n=bAf (sides.map (VD ds)):=by
 unfold sizeB at h;split at h
 .cases h
 .rename_i l hl;have hl:=bFy hl;rw[List.nil_append]at hl;subst hl;split at h
  .rename_i a;cases h;rw[bOd a]
  .rw[bNn h,Int.one_mul]
theorem bJb: ∀{l:List (List Mono)} {n s:List Mono},(∀p∈l,Gr p)->Gr n->oY l n=some s->VD ds s=VD ds n*bAf (l.map (VD ds))/\Gr s
 |[],n,s,_,hn,h=>by
  cases h;exact⟨by rw[List.map_nil,bAf,eF],hn⟩
 |p::l,n,s,hl,hn,h=>by
  unfold oY at h;split at h
  .rename_i h0;have a:nD n p=((nD n p).1,0):=by rw[<-h0]
   have b:=hl p (F9 ..);obtain⟨h1,h2⟩:=bJb (λx hx=>hl x (F3 _ hx)) (mul_gr hn b a) h;refine⟨?_,h2⟩;rw[h1,H6,bAf];show lin (val (cV ds)) (nD n p).1*_=_;rw[mul_V a,eC]
  .cases h
theorem const_gr:Gr (kC 1).1:=⟨l4,l4⟩
theorem const_V:VD ds (kC 1).1=1:=by show lin (val (cV ds)) [bRz 1]=1;simp[lin,dQ,val,fE,lG,bRz]
theorem sizeC_is{sides:List (List Mono)}{n:Int}{s:List Mono}(hg: ∀p∈sides,Gr p)(hb:sizeB sides ds=some n)(hs:sizeC sides=some s):VD ds s=n/\Gr s:=by obtain⟨h1,h2⟩:=bJb (ds:=ds) hg const_gr hs;exact⟨by rw[h1,const_V,Int.one_mul,sizeB_prod hb],h2⟩
end
end
section
open Go.RowKit Go.Sort Go.Proofs.Tryz
def SzV (ds:List Int)(u:jX):Int:=VD ds ((sizeC u.K).getD [])
structure Sized (c:dR) (ds:List Int):Prop where
 U:nY ds=true
 size: ∀(b:Nat) u,c.C[b]?=some u->0<=SzV ds u/\SzV ds u<=65536/\Gr ((sizeC u.K).getD [])
structure AgI (c:dR) (ds:List Int) (L:Nat->Prop) (N:Nat) (s:PlC):Prop where
 endG:Gr s.J
 endV:VD ds s.J<=65536*N
 free: ∀q∈s.free,Gr q.at_/\VD ds q.at_+VD ds q.size<=VD ds s.J/\0<=VD ds q.size
 laid: ∀q,some q∈s.laid->Gr q.at_/\VD ds q.at_+VD ds q.size<=VD ds s.J/\0<=VD ds q.size
 Y: ∀(b:Nat) a,s.Y[b]?=some a->Gr a/\VD ds a<=VD ds s.J
 low: ∀(k:Nat) a u,L k->s.Y[k]?=some a->c.C[k]?=some u->VD ds a+SzV ds u<=VD ds s.J
 pair: ∀(b k:Nat) y z a a' u,L b->L k->(livesC c)[b]?=some y->(livesC c)[k]?=some z->s.Y[b]?=some a->s.Y[k]?=some a'->c.C[k]?=some u->z.from_<y.from_->(fullC c)[b]?=some false->VD ds a'+SzV ds u<=VD ds a
section
variable {c : dR} {ds : List Int} {L L' : Nat -> Prop} {N N' : Nat} {s s' : PlC} {b : Nat} {u : jX} {y : LifeC} {again : Bool}
theorem AgI.less(h:AgI c ds L N s)(hL: ∀k,L' k->L k)(hN:N<=N'):AgI c ds L' N' s where
 endG:=h.endG
 endV:=by have:=h.endV;omega
 free:=h.free
 laid:=h.laid
 Y:=h.Y
 low:=λk a u d=>h.low k a u (hL k d)
 pair:=λb k y z a e u hb d=>h.pair b k y z a e u (hL b hb) (hL k d)
theorem ag_start(n:Nat):AgI c ds (λ_=>False) 0 (oD n) where
 endG:=gr_nil
 endV:=by show(0:Int)<=_;omega
 free:=λ_ h=>by cases h
 laid:=λq h=>by have:=List.eq_of_mem_replicate (show some q∈V4 n (none:Option SpC)from h);cases this
 Y:=λb a h=>by
  have h:(V4 n ([]:List Mono))[b]?=some a:=h;rw[List.getElem?_replicate]at h;split at h
  .cases h;exact⟨gr_nil,eJ _⟩
  .cases h
 low:=λ_ _ _ h=>h.elim
 pair:=λ_ _ _ _ _ _ _ h=>h.elim
theorem bAz{i:Int}: ∀{ys:List LifeC} {l:List (Option SpC)},(∀q,some q∈(relGo i ys l).1->some q∈l)/\(∀q∈(relGo i ys l).2,some q∈l)
 |y::ys,some p::r=>by
  obtain⟨h1,h2⟩:=bAz (i:=i) (ys:=ys) (l:=r);rw[relGo];split
  .refine⟨λq hq=>?_,λq hq=>?_⟩
   .rcases F1.1 hq with hq|hq
    .cases hq
    .exact F3 _ (h1 q hq)
   .have hq:q∈(if p.size=[]then (relGo i ys r).2 else p::(relGo i ys r).2):=hq;split at hq
    .exact F3 _ (h2 q hq)
    .rcases F1.1 hq with rfl|hq
     .exact F9 ..
     .exact F3 _ (h2 q hq)
  .refine⟨λq hq=>?_,λq hq=>F3 _ (h2 q hq)⟩
   rcases F1.1 hq with hq|hq
   .rw[hq];exact F9 ..
   .exact F3 _ (h1 q hq)
 |y::ys,none::r=>by
  obtain⟨h1,h2⟩:=bAz (i:=i) (ys:=ys) (l:=r);rw[relGo];refine⟨λq hq=>?_,λq hq=>F3 _ (h2 q hq)⟩
  rcases F1.1 hq with hq|hq
  .cases hq
  .exact F3 _ (h1 q hq)
 |[],l=>by
  rw[relGo];exact⟨λq hq=>hq,λq hq=>by cases hq⟩
 |y::ys,[]=>by simp[relGo]
theorem AgI.rel{i:Int}{l:List LifeC}(h:AgI c ds L N s):AgI c ds L N (relC i l s) where
 endG:=h.endG
 endV:=h.endV
 free:=λq hq=>by
  rcases F2.1 (show q∈s.free++(relGo i l s.laid).2 from hq)with hq|hq
  .exact h.free q hq
  .exact h.laid q (bAz.2 q hq)
 laid:=λq hq=>h.laid q (bAz.1 q hq)
 Y:=h.Y
 low:=h.low
 pair:=h.pair
theorem freeAt_some{n:List Mono}{l:List SpC}{i:Nat}{q:SpC}(h:oC n again l=some (i,q)):q∈l/\q.size=n/\again=true:=by
 unfold oC at h;split at h
 .rename_i d;split at h
  .cases h
  .rename_i j c;split at h
   .cases h
   .rename_i p a;cases h;obtain⟨hlt,b,_⟩:=eM.1 c;obtain⟨_,e⟩:=G3.1 a;rw[e]at b;exact⟨eN a,of_decide_eq_true b,d.1⟩
 .cases h
theorem AgI.put(h:AgI c ds L N s)(hs:Sized c ds)(hu:c.C[b]?=some u)(hy:(livesC c)[b]?=some y)(hb: ¬L b)(hmax: ∀k z,L k->(livesC c)[k]?=some z->z.from_<=y.from_){at_ e:List Mono}{fr:List SpC}{ld:List (Option SpC)}
  (he:Gr e) (heV:VD ds s.J<=VD ds e) (heN:VD ds e<=65536*(N+1:Nat)) (ha:Gr at_) (haV:VD ds at_+SzV ds u<=VD ds e) (hfr: ∀q∈fr,q∈s.free) (hld: ∀q,some q∈ld->some q∈s.laid\/q.at_=at_/\VD ds q.size=SzV ds u)
  (hend:(fullC c)[b]?=some false->VD ds at_=VD ds s.J):AgI c ds (λk=>L k\/k=b) (N+1) {Y:=s.Y.set b at_,J:=e,free:=fr,laid:=ld}:=by
 obtain⟨B,D,_⟩:=hs.size b u hu
 have g: ∀(k:Nat) a,(s.Y.set b at_)[k]?=some a->k≠b->s.Y[k]?=some a:=λk a d w=>by rwa[R1 (Ne.symm w)]at d
 have new: ∀a,(s.Y.set b at_)[b]?=some a->a=at_:=λa d=>by
  rw[W3]at d;simp only[if_true]at d;split at d
  .cases d;rfl
  .cases d
 refine⟨he,heN,λq hq=>?_,λq hq=>?_,λk a d=>?_,λk a v C d l=>?_,λr k x z a t v p o j m n d l hlt A=>?_⟩
 .obtain⟨h1,h2,h3⟩:=h.free q (hfr q hq);exact⟨h1,by show _<=VD ds e;omega,h3⟩
 .rcases hld q hq with hq|⟨f,i⟩
  .obtain⟨h1,h2,h3⟩:=h.laid q hq;exact⟨h1,by show _<=VD ds e;omega,h3⟩
  .rw[f,i];exact⟨ha,haV,B⟩
 .by_cases f:k=b
  .subst f;rw[new a d];exact⟨ha,by show _<=VD ds e;omega⟩
  .obtain⟨h1,h2⟩:=h.Y k a (g k a d f);exact⟨h1,by show _<=VD ds e;omega⟩
 .show _<=VD ds e
  by_cases f:k=b
  .subst f;rw[new a d];rw[hu]at l;cases l;exact haV
  .have:=h.low k a v (C.resolve_right f) (g k a d f) l;omega
 .by_cases f:r=b
  .subst f;rw[new a n,hend A]
   by_cases i:k=r
   .subst i;rw[j]at m;cases m;omega
   .exact h.low k t v (o.resolve_right i) (g k t d i) l
  .by_cases i:k=b
   .subst i;rw[hy]at m;cases m;have:=hmax r x (p.resolve_right f) j;omega
   .exact h.pair r k x z a t v (p.resolve_right f) (o.resolve_right i) j m (g r a n f) (g k t d i) l hlt A
theorem bGn{l:List (Option SpC)}{p:SpC}{q:SpC}(h:some q∈l.set b (some p)):some q∈l\/q=p:=by
 rcases List.mem_or_eq_of_mem_set h with h|h
 .exact .inl h
 .cases h;exact .inr rfl
theorem AgI.lay(h:AgI c ds L N s)(hs:Sized c ds)(hu:c.C[b]?=some u)(hy:(livesC c)[b]?=some y)(hb: ¬L b)(hmax: ∀k z,L k->(livesC c)[k]?=some z->z.from_<=y.from_)(hag:again=true->(fullC c)[b]?=some true)(hl:layC u.K b again s=some s'):
  AgI c ds (λk=>L k\/k=b) (N+1) s':=by
 obtain⟨w,v,f⟩:=hs.size b u hu;unfold layC at hl;split at hl
 .cases hl
 .rename_i n hn;have d:SzV ds u=VD ds n:=by unfold SzV;rw[hn];rfl
  have e:Gr n:=by rw[hn]at f;exact f
  split at hl
  .rename_i j q hq;cases hl;obtain⟨r,g,o⟩:=freeAt_some hq;obtain⟨t,m,A⟩:=h.free q r;rw[g,<-d]at m;refine h.put hs hu hy hb hmax h.endG (eJ _) (by have:=h.endV;omega) t m (λp a=>List.mem_of_mem_eraseIdx a) (λp a=>?_) (λl=>?_)
   .rcases bGn a with a|rfl
    .exact .inl a
    .exact .inr ⟨rfl,by rw[g,d]⟩
   .rw[hag o]at l;cases l
  .split at hl
   .rename_i h0;cases hl;have i:bothP s.J n 1=((bothP s.J n 1).1,0):=by rw[<-h0]
    have x:VD ds (bothP s.J n 1).1=VD ds s.J+SzV ds u:=by rw[d];exact add_lin (ext_val _) i
    refine h.put hs hu hy hb hmax (add_gr h.endG e i) j5 (by have:=h.endV;omega) h.endG j5 (λp a=>a) (λp a=>?_) (λ_=>rfl)
    rcases bGn a with a|rfl
    .exact .inl a
    .exact .inr ⟨rfl,d.symm⟩
   .cases hl
end
theorem bMq{b:Int}: ∀{r:List cT} {i:Nat} {d:Int},kU b i r d=d\/ ∃j x,kU b i r d=((i+j:Nat):Int)/\r[j]?=some x/\x.I=b
 |[],i,d=> .inl rfl
 |x::r,i,d=>by
  rw[kU];split
  .rename_i e;exact .inr ⟨0,x,rfl,rfl,e⟩
  .rcases bMq (b:=b) (r:=r) (i:=i+1) (d:=d)with h|⟨j,z,h1,h2,h3⟩
   .exact .inl h
   .exact .inr ⟨j+1,z,by rw[show i+(j+1)=i+1+j by omega];exact h1,h2,h3⟩
section
variable {c : dR} {ds : List Int} {N : Nat} {s s' : PlC} {b : Nat} {y : LifeC}
theorem lives_from(hr:dC c=true)(hy:(livesC c)[b]?=some y):y=⟨0,-1⟩\/y.from_= -1\/ ∃(j:Nat) (x:cT),y.from_=(j:Int)/\c.D[j]?=some x/\x.I=b:=by
 rw[lives_eq hr]at hy;unfold vW at hy;rw[List.getElem?_mapIdx]at hy
 cases hu:c.C[b]? with
 |none=>rw[hu]at hy;cases hy
 |some u=>
  rw[hu]at hy;cases hy;unfold pO;split
  .exact .inl rfl
  .right
   rcases bMq (b:=(b:Int)) (r:=c.D) (i:=0) (d:= -1)with h|⟨j,x,h1,h2,h3⟩
   .exact .inl h
   .exact .inr ⟨j,x,by rw[Nat.zero_add]at h1;exact h1,h2,h3⟩
theorem bUc(hr:dC c=true)(hy:(livesC c)[b]?=some y)(h:y.from_<0):y.from_= -1:=by
 rcases lives_from hr hy with rfl|h1|⟨j,x,h1,_⟩
 .cases h
 .exact h1
 .omega
def LB (c:dR)(m k:Nat):Prop:=k<m/\ ∃z,(livesC c)[k]?=some z/\z.from_<0
theorem bPr(hr:dC c=true)(hs:Sized c ds): ∀{m b N:Nat} {s:PlC},b+m=c.C.length->AgI c ds (LB c b) N s->mD c.C (livesC c) m b s=some s'->AgI c ds (LB c c.C.length) (N+m) s'
 |0,b,N,s,hb,h,hq=>by
  cases hq;rw[Nat.add_zero]at hb;rw[<-hb];exact h
 |m+1,b,N,s,hb,h,hq=>by
  unfold mD at hq;split at hq
  .rename_i u y hu j;split at hq
   .rename_i a;split at hq
    .cases hq
    .rename_i t l
     have h1:=h.lay hs hu j (λhl=>by have:=hl.1;omega) (λk z hl i=>by
      obtain⟨_,o,g,d⟩:=hl;rw[i]at g;cases g;have:=bUc hr i d;have:=bUc hr j a
      omega) (λn=>by cases n) l
     have h2:AgI c ds (LB c (b+1)) (N+1) t:=h1.less (λk f=>by
      by_cases e:k=b
      .exact .inr e
      .exact .inl ⟨by have:=f.1;omega,f.2⟩) (B8 _)
     have h3:=bPr hr hs j5 h2 hq
     rwa[show N+1+m=N+(m+1) by omega]at h3
   .rename_i a
    have h2:AgI c ds (LB c (b+1)) (N+1) s:=h.less (λk f=>by
     refine⟨?_,f.2⟩;have:=f.1
     rcases Nat.lt_or_ge k b with h4|h4
     .exact h4
     .obtain rfl:k=b:=j5
      obtain⟨_,z,i,d⟩:=f;rw[j]at i;cases i
      exact absurd d a) j5
    have h3:=bPr hr hs j5 h2 hq
    rwa[show N+1+m=N+(m+1) by omega]at h3
  .cases hq
def LG (c:dR)(i k:Nat):Prop:= ∃z,(livesC c)[k]?=some z/\(z.from_<0\/ ∃(j:Nat) (x:cT),z.from_=(j:Int)/\j<i/\c.D[j]?=some x/\x.I=k)
theorem go_ag(hr:dC c=true)(hs:Sized c ds): ∀{r:List cT} {i N:Nat} {s:PlC},c.D.drop i=r->AgI c ds (LG c i) N s->goC c (livesC c) (fullC c) r i s=some s'->AgI c ds (LG c c.D.length) (N+r.length) s'
 |[],i,N,s,hd,h,hq=>by
  cases hq;refine h.less (λk hk=>?_) m9;obtain⟨z,hz,hk⟩:=hk;refine⟨z,hz,?_⟩
  rcases hk with hk|⟨j,x,h1,h2,h3,h4⟩
  .exact .inl hk
  .have:=eO.1 hd;exact .inr ⟨j,x,h1,j5,h3,h4⟩
 |x::r,i,N,s,hd,h,hq=>by
  have hx:c.D[i]?=some x:=by
   have:=congrArg (λl=>l[0]?) hd
   simpa[I1]using this
  have hd2:c.D.drop (i+1)=r:=by
   have:=congrArg (List.drop 1) hd
   simpa[List.drop_drop,Nat.add_comm]using this
  have hxb:((x.I.toNat:Nat):Int)=x.I:=by have:=(bCy (iP hr).2.2.1 x (f5 hx)).1;omega
  rw[G5];unfold goC at hq;split at hq
  .rename_i u y t hu hy ht;split at hq
   .rename_i hfi;split at hq
    .cases hq
    .rename_i p hp
     have h1:=(h.rel (i:=i) (l:=livesC c)).lay hs hu hy (λhl=>by
      obtain⟨z,hz,hk⟩:=hl;rw[hy]at hz;cases hz
      rcases hk with hk|⟨j,x',h1,h2,_⟩<;>omega) (λk z hl hz=>by
      obtain⟨z',hz',hk⟩:=hl;rw[hz]at hz';cases hz'
      rcases hk with hk|⟨j,x',h1,h2,_⟩<;>omega) (λha=>by rw[ht,ha]) hp
     have h2:AgI c ds (LG c (i+1)) (N+1) p:=h1.less (λk hk=>by
      obtain⟨z,hz,hk⟩:=hk
      rcases hk with hk|⟨j,x',h1,h2,h3,h4⟩
      .exact .inl ⟨z,hz,.inl hk⟩
      .by_cases e:j=i
       .subst e;rw[hx]at h3;cases h3;exact .inr j5
       .exact .inl ⟨z,hz,.inr ⟨j,x',h1,j5,h3,h4⟩⟩) (B8 _)
     have h3:=go_ag hr hs hd2 h2 hq
     rwa[show N+1+r.length=N+(r.length+1) by omega]at h3
   .rename_i hfi
    have h2:AgI c ds (LG c (i+1)) (N+1) s:=h.less (λk hk=>by
     obtain⟨z,hz,hk⟩:=hk;refine⟨z,hz,?_⟩
     rcases hk with hk|⟨j,x',h1,h2,h3,h4⟩
     .exact .inl hk
     .by_cases e:j=i
      .subst e;rw[hx]at h3;cases h3;obtain rfl:x.I.toNat=k:=j5
       rw[hy]at hz;cases hz;exact absurd h1 hfi
      .exact .inr ⟨j,x',h1,j5,h3,h4⟩) j5
    have h3:=go_ag hr hs hd2 h2 hq
    rwa[show N+1+r.length=N+(r.length+1) by omega]at h3
  .cases hq
end
section
variable {c : dR} {ds : List Int}
theorem bDb: ∀{l:List jX} {al r:Int},cellsGo ds l al=(r,0)-> ∀u∈l,∃n,sizeB u.K ds=some n
 |[],_,_,_,u,hu=>by cases hu
 |b::l,al,r,h,u,hu=>by
  unfold cellsGo at h;split at h
  .cases h
  .rename_i n hn;split at h
   .cases h
   .rcases F1.1 hu with rfl|hu
    .exact⟨n,hn⟩
    .exact bDb h u hu
theorem bRf{vars:Int}: ∀{l:List jX} {seen:List Int},sH vars l seen=true-> ∀u∈l,∀p∈u.K,Gr p
 |[],_,_,u,hu=>by cases hu
 |b::l,seen,h,u,hu=>by
  rw[sH,L9,L9,L9]at h
  rcases F1.1 hu with rfl|hu
  .intro p a;have h1:=h.1;unfold iL at h1;rw[L9]at h1;have:=G0.1 h1.1 p a;rw[L9]at this;exact gr_of this.2
  .exact bRf h.2.2.2 u hu
theorem cells_sized{al:Int}(hr:dC c=true)(hc:dH c ds=(al,0)):Sized c ds:=by
 unfold dH at hc;rw[if_pos hr]at hc;split at hc
 .rename_i hd;unfold jP at hd;rw[L9,decide_eq_true_eq,T3,eL]at hd;have i:=(iP hr).1;refine⟨?_,λb u hu=>?_⟩
  .unfold nY;rw[L9,decide_eq_true_eq,G0];refine⟨j5,λn hn=>?_⟩;have:=hd.2 n hn;unfold bKy at this;simp only[M0,decide_eq_true_eq]at this;unfold kL;exact decide_eq_true j5
  .have a:=eN hu;obtain⟨n,hn⟩:=bDb hc u a;have hg:=bRf (iP hr).2.1 u a;obtain⟨g,f⟩:=sizeB_in hn;unfold SzV
   cases h:sizeC u.K with
   |none=>exact⟨eJ _,by show(0:Int)<=65536;omega,gr_nil⟩
   |some q=>
    obtain⟨e,d⟩:=sizeC_is hg hn h;show 0<=VD ds q/\VD ds q<=65536/\Gr q;rw[e];exact⟨g,f,d⟩
 .cases hc
end
end
section
open Go.RowKit Go.Proofs.Tryz
theorem and_tG{a b:Bool}(h:(a&&b)=true):a=true/\b=true:=by simpa using h
theorem opB_inG{vars loops buf:Int}{made:List Bool}{o:OpC}(h:opB vars loops buf made o=true):o.N=4->o.k.toNat<made.length:=λh4=>by
 unfold opB at h;rw[if_neg j5,if_neg j5,if_neg j5,if_pos h4]at h;have a:=(and_tG (and_tG h).2).1;rw[List.getD_eq_getElem?_getD]at a
 cases hg:made[o.k.toNat]? with
 |none=>rw[hg]at a;cases a
 |some z=>exact(G3.1 hg).1
theorem pos_of{p:List Mono}{ds:List Int}(hg:jJ p=true)(h:(bF p ds).2=0):0<=(bF p ds).1:=grows_pos (a:=(bF p ds).1) hg (by rw[<-h])
theorem bGr{vars:Int}{bufs:List jX}: ∀{r:List cT} {made:List Bool},made.length=bufs.length->lQ vars bufs r made=true-> ∀x∈r,∃made',made'.length=bufs.length/\mV vars made' x=true/\0<=x.I/\x.I.toNat<bufs.length
 |[],_,_,_,x,hx=>by cases hx
 |y::r,made,hm,h,x,hx=>by
  rw[lQ,L9,L9,L9]at h;obtain⟨⟨h1,h2⟩,h3,h4⟩:=h
  rcases F1.1 hx with rfl|hx
  .refine⟨made,hm,h3,of_decide_eq_true h1,?_⟩
   cases hb:bufs[x.I.toNat]? with
   |none=>rw[hb]at h2;cases h2
   |some b=>exact(G3.1 hb).1
  .exact bGr (by rw[R0];exact hm) h4 x hx
def OpsG (l:List OpC)(bufs:Nat):Prop:= ∀o∈l,(o.N=3->0<=o.k/\o.k<=1000)/\(o.N=4->0<=o.k/\o.k.toNat<bufs)
structure StepG (x:gA) (ds:List Int) (nb:Nat):Prop where
 hN: ∀p∈polsL x.H.B,(bF p ds).2=0->0<=(bF p ds).1
 hlo:x.ops.B.length<=256
 hL1:1<=x.ops.B.length
 hll:x.H.B.length<=4
 hne:x.N=2->x.H.B≠[]
 hne3:x.N=3->x.H.B≠[]
 hb0:0<=x.I
 hb1:x.I.toNat<nb
 hA:(bF x.at_.B ds).2=0->0<=(bF x.at_.B ds).1
 hh:x.N=1\/x.N=2\/x.N=3
 hO:OpsG (opsL x.ops.B) nb
 hD:Deep (opsL x.ops.B) 0
theorem bHp{c:fX}(hr:dC c.c=true)(ds:List Int){x:gA}(hx:x∈c.D.B):StepG x ds c.C.B.length:=by
 obtain⟨_,_,h3,_⟩:=iP hr;obtain⟨made,t,j,hb0,n⟩:=bGr (rA _) h3 x.c (List.mem_map.2 ⟨x,hx,rfl⟩);have g:c.c.C.length=c.C.B.length:=cQ _;have hD:=deep_step j;unfold mV at j;simp only[L9,G0,decide_eq_true_eq]at j;obtain⟨⟨_,u⟩,hl,a,_,d,l⟩:=j;have a:(opsL x.ops.B).length<=256:=a;rw[fQ]at a;unfold iL at hl;simp only[L9,G0,decide_eq_true_eq]at hl;obtain⟨m,b⟩:=hl;have b:(polsL x.H.B).length<=4:=b;rw[bS]at b
 have f:x.N=2\/x.N=3->x.H.B≠[]:=λe v=>by have i:(if x.N=1 then x.fn==0 else if x.N=2\/x.N=3 then !(polsL x.H.B).isEmpty&&gQ x.fn true else false)=true:=d;rw[if_neg j5,if_pos e,v]at i;cases i
 refine⟨λp s h=>pos_of (m p s).2 h,a,?_,b,λe=>f (.inl e),λe=>f (.inr e),hb0,by rw[<-g];exact n,λh=>pos_of u h,?_,λo ho=>?_,hD⟩
 .cases hl:x.ops.B with
  |nil=>
   have hD:Deep (opsL x.ops.B) 0:=hD;rw[hl]at hD;cases hD
  |cons y r=>simp
 .have i:(if x.N=1 then x.fn==0 else if x.N=2\/x.N=3 then !(polsL x.H.B).isEmpty&&gQ x.fn true else false)=true:=d
  rcases Classical.em (x.N=1)with e|e
  .exact .inl e
  .rcases Classical.em (x.N=2\/x.N=3)with q|q
   .exact .inr q
   .rw[if_neg e,if_neg q]at i;cases i
 .have h1:=l o ho;refine⟨λe=>?_,λe=>?_⟩
  .unfold opB at h1;rw[if_neg j5,if_neg j5,if_pos e]at h1;simp only[L9,decide_eq_true_eq]at h1;have h2:0<=o.k/\o.k<((polsL x.H.B).length:Int):=h1.1;rw[bS]at h2;omega
  .have h2:=opB_inG h1 e;unfold opB at h1;rw[if_neg j5,if_neg j5,if_neg j5,if_pos e]at h1;simp only[L9,decide_eq_true_eq]at h1;rw[t,g]at h2;exact⟨h1.1.1,h2⟩
section
variable {M : GnM} {R t : GnS} {l : List OpC} {i n : Nat} {o : OpC}
theorem xY(h:R=opsG M (l.drop i) n t)(hx:l[i]?=some o):R=opsG M (l.drop (i+1)) (kF o.N n) (opG M o n t):=by obtain⟨hlt,e⟩:=G3.1 hx;rw[h,<-aH hlt,e];rfl
theorem opsG_end(h:R=opsG M (l.drop i) n t)(hi:l.length<=i):R=t:=by rw[h,U8 hi];rfl
theorem zN(h:Deep (l.drop i) n)(hx:l[i]?=some o):0<=cO o.N/\cO o.N<=n/\Deep (l.drop (i+1)) (n+1-(cO o.N).toNat):=by obtain⟨hlt,e⟩:=G3.1 hx;rw[<-aH hlt,e]at h;exact h
theorem bPn(h:Deep (l.drop i) n)(hx:l[i]?=some o):Deep (l.drop (i+1)) (kF o.N n):=by
 obtain⟨h0,h1,h2⟩:=zN h hx
 have e:kF o.N n=n+1-(cO o.N).toNat:=by
  unfold kF
  rcases bWg h0 with e|e|e|e|e|e<;>simp[cO,e]at h1⊢ <;>omega
 rw[e];exact h2
theorem opG1(h:o.N=1):opG M o n t=nC M.frame n (λa=>numG a o.n) t:=if_pos h
theorem opG2(h:o.N=2):opG M o n t=nC M.frame n (λa=>numG a (pM M.U o.p)) (if (bF o.p M.U).2=0 then t else rZ M.fail t):=by unfold opG;rw[if_neg j5,if_pos h]
theorem opG3(h:o.N=3):opG M o n t=nC M.frame n (λa=>vX a (u8m (1+o.k))) t:=by unfold opG;rw[if_neg j5,if_neg j5,if_pos h]
theorem opG4(h:o.N=4):opG M o n t=nC M.frame (n-1) (λa=>gE ⟨5,a,iI (n-1) 14,0,w32 (M.at_.getD o.k.toNat 0)⟩ 0) (oU M.fail (iI (n-1) 14) (M.size.getD o.k.toNat 0) (bCc (iI (n-1) 14) 0 M.fail (oL M.frame (n-1) 14 t))):=by unfold opG;rw[if_neg j5,if_neg j5,if_neg j5,if_pos h]
theorem opG5(h:o.N=5):opG M o n t=nC M.frame (n-1) (λa=>gE ⟨u8m (64+o.fn),a,iI (n-1) 14,0,0⟩ 0) (oL M.frame (n-1) 14 t):=by unfold opG;rw[if_neg j5,if_neg j5,if_neg j5,if_neg j5,if_pos h]
theorem opG6(h:o.N=6):opG M o n t=nC M.frame (n-2) (λa=>gE ⟨u8m (128+o.fn),a,iI (n-2) 14,iI (n-1) 15,0⟩ 0) (oL M.frame (n-1) 15 (oL M.frame (n-2) 14 t)):=by unfold opG;rw[if_neg j5,if_neg j5,if_neg j5,if_neg j5,if_neg j5,if_pos h]
end
theorem zero_op:(prog.info? 172).bind (·.zero)=some (.agg #[j3 0,j3 0,j3 0,.slice none 0 0,j4 0]):=j8
theorem iU:(prog.info? 5).bind (·.zero)=some (j4 0):=j8
def cU (b:Nat)(z:Int):bD:= .obj b (.cells ([.int .u8 z]:List Value).toArray 5)
section
variable {P : Program} {β : dY} {n : Nat} {Γ : Env} {H : List bD} {F : List bC} {Q : Exit -> Act -> World -> Prop} {ι : Type}
def Jx (β:dY)(n:Nat)(G:ι->Env)(HH:ι->List bD)(FF:ι->List bC)(Q:Exit->Act->World->Prop)(e:Exit)(a:Act)(w:World):Prop:=
 match e with
 |.normal=> ∃x S,Fits n (G x) a/\St β (HH x) S w/\All (FF x) S w
 |e=>Q e a w
theorem at_join{c:Code}(Δ:Env)(_hΔ:Γ.Sub Δ)(G:ι->Env)(HH:ι->List bD){H0 Hr:List bD}(_hH:Split H H0 Hr)(FF:ι->List bC)
  (h1:At β n Γ H F (c.wp P (Jx β n (λx=>G x++Δ) (λx=>HH x++Hr) (λx=>FF x++F) Q))) (h2: ∀x,At β n (G x++Δ) (HH x++Hr) (FF x++F) (Q .normal)):At β n Γ H F (c.wp P Q):=λa w S f s k=>
 Code.wp_mono (λe h b q=>by
  cases e with
  |normal=>obtain⟨x,i,g,s',d⟩:=q;exact h2 x h b i g s' d
  |_=>exact q) (h1 a w S f s k)
theorem mK{Δ:Env}{G:ι->Env}{HH:ι->List bD}{Hr:List bD}{FF:ι->List bC}{F0:List bC}(x:ι)(hG:Γ.Sub (G x))(hΔ:Γ.Sub Δ)(hH:Sel H (HH x++Hr))(hF:bA F (FF x))(hF0:bA F F0):
  At β n Γ H F (Jx β n (λx=>G x++Δ) (λx=>HH x++Hr) (λx=>FF x++F0) Q .normal):=λ_ w S f s k=>⟨x,S,f.sub (hG.append hΔ),s.sel hH,(hF.append hF0).all S w k⟩
end
set_option maxHeartbeats 1000000 in
theorem bHy(mb:Nat)(m:MkV)(a:Option Addr×Nat)(s:GnS)(N:Nat)(hB:GnB N s)(l:Sl OpV)(hN:N+12*l.B.length+100<=999000)(hO:OpsG (opsL l.B) m.at_.B.length)(hsz:m.size.B.length=m.at_.B.length)(hD:Deep (opsL l.B) 0)(hdl:m.U.B.length<=140737488355328):cJ prog 69 [.pointer (some ⟨mb,0,none⟩),f9 l] [mkO mb (m.st a s),mkS (m.st a s)] [bRx l,dA.sl (f9 m.U) m.U.B,dA.sl (f9 m.at_) m.at_.B,dA.sl (f9 m.size) m.size.B] (λ(_:Option Addr×Nat)=> .tuple #[]) (λ(x:Option Addr×Nat)=>[mkO mb (m.st x (opsG m.M (opsL l.B) 0 s)),mkS (m.st x (opsG m.M (opsL l.B) 0 s))]) (λ_=>[]):=by
 have hT:=dL
 obtain⟨R,hR⟩: ∃R,opsG m.M (opsL l.B) 0 s=R:=⟨_,rfl⟩
 rw[show(λx:Option Addr×Nat=>[mkO mb (m.st x (opsG m.M (opsL l.B) 0 s)),mkS (m.st x (opsG m.M (opsL l.B) 0 s))])=λx=>[mkO mb (m.st x R),mkS (m.st x R)] by rw[hR]];refine j1 func69 ntmps69 ?_;intro β hM;refine cH<|bK (opE.sl (.slice l.O l.B.length l.cap) l.B) (bHk d7) ?_;refine bK (bC.each l.B opF) (opsF_e d8) ?_;refine one ?_;refine j0 λA=>?_;refine g3 ?_;refine lB .head ?_;refine g12 ?_;refine bT (ι:=(Option Addr×Nat)×GnS×Nat×Nat) [(2,_),(13,_),(14,_)] ⟨rfl,rfl,rfl,e9⟩ (λ⟨a,t,n,i⟩=>[(4,.int .i64 (n:Nat)),(15,.int .i64 (i:Nat))]) (λ⟨a,t,n,i⟩=>[mkO mb (m.st a t),mkS (m.st a t)]) (λ⟨a,t,n,i⟩=>[bC.pure (i<=l.B.length/\n<=i/\Deep ((opsL l.B).drop i) n/\R=opsG m.M ((opsL l.B).drop i) n t/\GnB (N+12*i) t)]) (λ⟨a,t,n,i⟩=>l.B.length-i) (a,s,0,0) ⟨rfl,rfl,e9⟩ (.c0 (.c0 .nil)) ⟨f4 (⟨j5,j5,hD,hR.symm,hB.le j5⟩),e9⟩ ?_;rintro⟨a,t,n,i⟩;dsimp only;refine bG d7 λr=>?_;have hn1:=r.2.1;have hD:=r.2.2.1;have u:=r.2.2.2.1;have hB:=r.2.2.2.2;refine g6 ?_;refine dO (λhc16=>?_) λhc16=>?_
 .refine g6 ?_;obtain⟨d,e⟩:=gx l.B i;refine ss (ixs i) ?_;refine ss (lI e 0) ?_;refine i7 zero_op λJ=>?_;refine g5 ?_;refine lB .head ?_;refine g2 ?_;refine ss (f7 hT (bO (off:=0) d7)) ?_;refine g9 ?_;refine jU (λV=>?_) λV=>?_
  .have q:d.c.N=1:=V;refine one ?_;refine ss (f7 hT (bO (off:=0) d9)) ?_;refine g2 ?_;refine bL func129 (uO mb m a (t) (hB.le j5) (n) j5 _ [.pointer (some ⟨A,0,none⟩),.pointer (some ⟨J,0,none⟩)] _ (λa=>numG a d.n) rY (bJ func130 rfl rfl) (λB D s' j=>ops1_spec mb m D s' j A J d B)) rfl rfl (.c0 (.c0 .nil)) ⟨d9,d7,e9⟩ λy5=>?_;have hB6:=rB (fr:=m.frame) (k:=n) (I:=λa=>numG a d.n) rY hB;refine g3 ?_;have h:opG m.M d.c n t=nC m.frame (n) (λa=>numG a d.n) (t):=opG1 q;have hdp:kF d.N n=n+1:=by show kF d.c.N n=_;rw[q];unfold kF;simp;try omega
   refine g3 ?_;refine inc (n+1) ?_;refine bM (z':=((kF d.N n:Nat):Int)) ad3 ?_;refine g6 ?_;refine inc (i+1) ?_;refine g3 ?_;exact bk2 (y5,nC m.frame (n) (λa=>numG a d.n) (t),kF d.N n,i+1) ⟨f4 (⟨by dsimp only;omega,by dsimp only;omega,bPn hD (iO e),by dsimp only;exact(xY u (iO e)).trans (congrArg (opsG m.M ((opsL l.B).drop (i+1)) (kF d.c.N n)) h),by dsimp only;exact hB6.le j5⟩),e9⟩
  refine g6 ?_;refine jU (λU=>?_) λU=>?_
  .have q:d.c.N=2:=U;refine g2 ?_;refine ss (f7 hT (bO (off:=0) d9)) ?_;refine one ?_;refine ss (f7 hT (bO (off:=3) d7)) ?_;refine bK (opF d) (Has.each e6 (f5 e)) ?_;refine bL func131 (bRg mb m a (t) d.p hdl) rfl rfl (.c0 .nil) ⟨d7,e8,e9⟩ λ_=>?_;refine g3 ?_;refine i7 zero_i64 λb7=>?_;refine g6 ?_;refine lB .head ?_;refine g5 ?_;refine tQ (λG=>?_) λG=>?_
   .refine dK _ _ [j2,u1,u0,u2,(false,4),(false,5)] dJ k7 .nil bA.self ?_;refine stM rfl (f7 hT (bO (off:=0) e7)) ?_;refine stM rfl (f7 hT (bO (off:=0) e7)) ?_;refine g6 ?_;refine bL func132 (wB mb m a _ (hB.le j5) (m.fail)) rfl rfl (.c0 (.c0 .nil)) e9 λy8=>?_;have hB9:=tO (dst:=m.fail) hB;refine g4 ?_;refine ss (f7 hT (bO (off:=0) e7)) ?_;refine g2 ?_;refine bL func129 (uO mb m y8 (rZ (m.fail) (t)) (hB9.le j5) (n) j5 _ [.pointer (some ⟨A,0,none⟩),.pointer (some ⟨b7,0,none⟩)] _ (λa=>numG a (pM m.U.B d.p.B)) rY (bJ func133 rfl rfl) (λB D s' j=>bTl mb m D s' j A b7 (pM m.U.B d.p.B) B)) rfl rfl (.c0 (.c0 .nil)) ⟨e7,d7,e9⟩ λy10=>?_;have hB11:=rB (fr:=m.frame) (k:=n) (I:=λa=>numG a (pM m.U.B d.p.B)) rY hB9;refine g3 ?_;have h:opG m.M d.c n t=nC m.frame (n) (λa=>numG a (pM m.U.B d.p.B)) (rZ (m.fail) (t)):=(opG2 q).trans (congrArg (nC m.frame n (λa=>numG a (pM m.U.B d.p.B))) (if_neg (show ¬(bF d.p.B m.U.B).2=0 by simpa using G)));have hdp:kF d.N n=n+1:=by show kF d.c.N n=_;rw[q];unfold kF;simp;try omega
    refine g3 ?_;refine inc (n+1) ?_;refine bM (z':=((kF d.N n:Nat):Int)) ad3 ?_;refine g6 ?_;refine inc (i+1) ?_;refine g3 ?_;exact bk2 (y10,nC m.frame (n) (λa=>numG a (pM m.U.B d.p.B)) (rZ (m.fail) (t)),kF d.N n,i+1) ⟨f4 (⟨by dsimp only;omega,by dsimp only;omega,bPn hD (iO e),by dsimp only;exact(xY u (iO e)).trans (congrArg (opsG m.M ((opsL l.B).drop (i+1)) (kF d.c.N n)) h),by dsimp only;exact hB11.le j5⟩),e9⟩
   refine g3 ?_;refine ss (f7 hT (bO (off:=0) e7)) ?_;refine g2 ?_;refine bL func129 (uO mb m a (t) (hB.le j5) (n) j5 _ [.pointer (some ⟨A,0,none⟩),.pointer (some ⟨b7,0,none⟩)] _ (λa=>numG a (pM m.U.B d.p.B)) rY (bJ func133 rfl rfl) (λB D s' j=>bTl mb m D s' j A b7 (pM m.U.B d.p.B) B)) rfl rfl (.c0 (.c0 .nil)) ⟨e7,d7,e9⟩ λy12=>?_;have hB13:=rB (fr:=m.frame) (k:=n) (I:=λa=>numG a (pM m.U.B d.p.B)) rY hB;refine g3 ?_;have h:opG m.M d.c n t=nC m.frame (n) (λa=>numG a (pM m.U.B d.p.B)) (t):=(opG2 q).trans (congrArg (nC m.frame n (λa=>numG a (pM m.U.B d.p.B))) (if_pos (show(bF d.p.B m.U.B).2=0 by simpa using G)));have hdp:kF d.N n=n+1:=by show kF d.c.N n=_;rw[q];unfold kF;simp;try omega
   refine g3 ?_;refine inc (n+1) ?_;refine bM (z':=((kF d.N n:Nat):Int)) ad3 ?_;refine g6 ?_;refine inc (i+1) ?_;refine g3 ?_;exact bk2 (y12,nC m.frame (n) (λa=>numG a (pM m.U.B d.p.B)) (t),kF d.N n,i+1) ⟨f4 (⟨by dsimp only;omega,by dsimp only;omega,bPn hD (iO e),by dsimp only;exact(xY u (iO e)).trans (congrArg (opsG m.M ((opsL l.B).drop (i+1)) (kF d.c.N n)) h),by dsimp only;exact hB13.le j5⟩),e9⟩
  refine g6 ?_;refine jU (λQ=>?_) λQ=>?_
  .have q:d.c.N=3:=Q;have hk3:=(hO d.c (f5 (iO e))).1 q;refine one ?_;refine ss (f7 hT (bO (off:=0) d9)) ?_;refine g2 ?_;refine bL func129 (uO mb m a (t) (hB.le j5) (n) j5 _ [.pointer (some ⟨A,0,none⟩),.pointer (some ⟨J,0,none⟩)] _ (λa=>vX a (u8m (1+d.k))) bHf (bJ func134 rfl rfl) (λB D s' j=>ops3_spec mb m D s' j A J d hk3 B)) rfl rfl (.c0 (.c0 .nil)) ⟨d9,d7,e9⟩ λy14=>?_;have hB15:=rB (fr:=m.frame) (k:=n) (I:=λa=>vX a (u8m (1+d.k))) bHf hB;refine g3 ?_;have h:opG m.M d.c n t=nC m.frame (n) (λa=>vX a (u8m (1+d.k))) (t):=opG3 q;have hdp:kF d.N n=n+1:=by show kF d.c.N n=_;rw[q];unfold kF;simp;try omega
   refine g3 ?_;refine inc (n+1) ?_;refine bM (z':=((kF d.N n:Nat):Int)) ad3 ?_;refine g6 ?_;refine inc (i+1) ?_;refine g3 ?_;exact bk2 (y14,nC m.frame (n) (λa=>vX a (u8m (1+d.k))) (t),kF d.N n,i+1) ⟨f4 (⟨by dsimp only;omega,by dsimp only;omega,bPn hD (iO e),by dsimp only;exact(xY u (iO e)).trans (congrArg (opsG m.M ((opsL l.B).drop (i+1)) (kF d.c.N n)) h),by dsimp only;exact hB15.le j5⟩),e9⟩
  refine g6 ?_;refine jU (λP=>?_) λP=>?_
  .have q:d.c.N=4:=P;have C:=zN hD (iO e);have hn4:1<=n:=by have h1:=C.2.1;rw[show cO d.c.N=1 by rw[q];rfl]at h1;omega
   have hk4:=(hO d.c (f5 (iO e))).2 q;have hk4a:d.k.toNat<m.at_.B.length:=hk4.2;refine g4 ?_;refine inc (n-1) ?_;refine g5 ?_;refine ss (f7 hT (bO (off:=0) d9)) ?_;refine one ?_;refine bL func136 (iJ mb m a _ (hB.le j5) (n-1) j5 14) rfl rfl (.c0 (.c0 .nil)) e9 λy16=>?_;have hB17:=jK (fr:=m.frame) (k:=n-1) (sp:=14) hB;refine i7 iU λb18=>?_;refine g4 ?_;refine lB .head ?_;refine dK _ _ [j2,u1,u0,u2,u3,(false,5),A08] dJ k7 .nil bA.self ?_;refine stM rfl (f7 hT (bO (off:=0) e6)) ?_;refine stM rfl (f7 hT (bO (off:=0) d7)) ?_;refine stM rfl (f7 hT (bO (off:=0) e6)) ?_;refine g6 ?_;refine bL func137 (bIi mb m y16 _ (hB17.le j5) (iI (n-1) 14) (0) (m.fail)) rfl rfl (.c0 (.c0 .nil)) e9 λy19=>?_;have hB20:=bAv (a:=iI (n-1) 14) (b:=0) (dst:=m.fail) hB17;refine g4 ?_;refine dK _ _ [j2,u1,u0,u2,u3,u5,u6,(false,5),u7,A14,A19] dJ k7 .nil bA.self ?_;refine stM rfl (f7 hT (bO (off:=0) e6)) ?_;refine stM rfl (f7 hT (bO (off:=0) d7)) ?_;refine stM rfl (f7 hT (bO (off:=0) e6)) ?_;refine g3 ?_;refine stM rfl (f7 hT (bO (off:=1) d8)) ?_;refine g3 ?_;obtain⟨x21,K⟩:=gx m.size.B d.k.toNat (j5);refine stM rfl (bE hT (k:=d.k.toNat) (bH (Has.of mT9)) rfl rfl rfl rfl rfl rfl (eK hk4.1).symm (j5)) ?_;refine one ?_;refine ss (fV K 0) ?_;refine one ?_;refine bM (z':=m.size.B.getD d.k.toNat 0) (vB K).symm ?_;refine one ?_;refine bL func138 (bJx mb m y19 _ (hB20.le j5) (iI (n-1) 14) (m.size.B.getD d.k.toNat 0)) rfl rfl (.c0 (.c0 .nil)) e9 λy23=>?_;have Z:=bBs (f:=m.fail) (a:=iI (n-1) 14) (z:=m.size.B.getD d.k.toNat 0) hB20;refine g4 ?_;refine ss (f7 hT (bO (off:=0) e6)) ?_;refine g2 ?_;refine bL func129 (uO mb m y23 (oU m.fail (iI (n-1) 14) (m.size.B.getD d.k.toNat 0) (bCc (iI (n-1) 14) (0) (m.fail) (oL m.frame (n-1) 14 (t)))) (Z.le j5) (n-1) j5 _ [.pointer (some ⟨A,0,none⟩),.pointer (some ⟨b18,0,none⟩),.pointer (some ⟨J,0,none⟩)] _ (λa=>gE ⟨5,a,iI (n-1) 14,0,w32 (m.at_.B.getD d.k.toNat 0)⟩ 0) (qN (I:=λa=>⟨5,a,iI (n-1) 14,0,w32 (m.at_.B.getD d.k.toNat 0)⟩)) (bJ func139 rfl rfl) (λB D s' j=>ops4_spec mb m D s' j A b18 J (iI (n-1) 14) d hk4.1 hk4a B)) rfl rfl (.c0 (.c0 .nil)) ⟨e6,d7,d8,Has.of mT8,e9⟩ λy25=>?_;have hB26:=rB (fr:=m.frame) (k:=n-1) (I:=λa=>gE ⟨5,a,iI (n-1) 14,0,w32 (m.at_.B.getD d.k.toNat 0)⟩ 0) (qN (I:=λa=>⟨5,a,iI (n-1) 14,0,w32 (m.at_.B.getD d.k.toNat 0)⟩)) Z;refine g3 ?_;have h:opG m.M d.c n t=nC m.frame (n-1) (λa=>gE ⟨5,a,iI (n-1) 14,0,w32 (m.at_.B.getD d.k.toNat 0)⟩ 0) (oU m.fail (iI (n-1) 14) (m.size.B.getD d.k.toNat 0) (bCc (iI (n-1) 14) (0) (m.fail) (oL m.frame (n-1) 14 (t)))):=opG4 q;have hdp:kF d.N n=(n-1)+1:=by show kF d.c.N n=_;rw[q];unfold kF;simp;try omega
   refine g3 ?_;refine inc ((n-1)+1) ?_;refine bM (z':=((kF d.N n:Nat):Int)) ad3 ?_;refine g6 ?_;refine inc (i+1) ?_;refine g3 ?_;exact bk2 (y25,nC m.frame (n-1) (λa=>gE ⟨5,a,iI (n-1) 14,0,w32 (m.at_.B.getD d.k.toNat 0)⟩ 0) (oU m.fail (iI (n-1) 14) (m.size.B.getD d.k.toNat 0) (bCc (iI (n-1) 14) (0) (m.fail) (oL m.frame (n-1) 14 (t)))),kF d.N n,i+1) ⟨f4 (⟨by dsimp only;omega,by dsimp only;omega,bPn hD (iO e),by dsimp only;exact(xY u (iO e)).trans (congrArg (opsG m.M ((opsL l.B).drop (i+1)) (kF d.c.N n)) h),by dsimp only;exact hB26.le j5⟩),e9⟩
  refine g6 ?_;refine jU (λO=>?_) λO=>?_
  .have q:d.c.N=5:=O;have C:=zN hD (iO e);have hn5:1<=n:=by have h1:=C.2.1;rw[show cO d.c.N=1 by rw[q];rfl]at h1;omega
   refine g4 ?_;refine inc (n-1) ?_;refine g5 ?_;refine ss (f7 hT (bO (off:=0) d9)) ?_;refine one ?_;refine bL func136 (iJ mb m a _ (hB.le j5) (n-1) j5 14) rfl rfl (.c0 (.c0 .nil)) e9 λy27=>?_;have Y:=jK (fr:=m.frame) (k:=n-1) (sp:=14) hB;refine i7 iU λb29=>?_;refine g3 ?_;refine lB .head ?_;refine one ?_;refine ss (f7 hT (bO (off:=0) e6)) ?_;refine g2 ?_;refine bL func129 (uO mb m y27 (oL m.frame (n-1) 14 (t)) (Y.le j5) (n-1) j5 _ [.pointer (some ⟨A,0,none⟩),.pointer (some ⟨J,0,none⟩),.pointer (some ⟨b29,0,none⟩)] _ (λa=>gE ⟨u8m (64+d.fn),a,iI (n-1) 14,0,0⟩ 0) (qN (I:=λa=>⟨u8m (64+d.fn),a,iI (n-1) 14,0,0⟩)) (bJ func140 rfl rfl) (λB D s' j=>ops5_spec mb m D s' j A J b29 d (iI (n-1) 14) B)) rfl rfl (.c0 (.c0 .nil)) ⟨e6,d8,d7,e9⟩ λy30=>?_;have hB31:=rB (fr:=m.frame) (k:=n-1) (I:=λa=>gE ⟨u8m (64+d.fn),a,iI (n-1) 14,0,0⟩ 0) (qN (I:=λa=>⟨u8m (64+d.fn),a,iI (n-1) 14,0,0⟩)) Y;refine g3 ?_;have h:opG m.M d.c n t=nC m.frame (n-1) (λa=>gE ⟨u8m (64+d.fn),a,iI (n-1) 14,0,0⟩ 0) (oL m.frame (n-1) 14 (t)):=opG5 q;have hdp:kF d.N n=(n-1)+1:=by show kF d.c.N n=_;rw[q];unfold kF;simp;try omega
   refine g3 ?_;refine inc ((n-1)+1) ?_;refine bM (z':=((kF d.N n:Nat):Int)) ad3 ?_;refine g6 ?_;refine inc (i+1) ?_;refine g3 ?_;exact bk2 (y30,nC m.frame (n-1) (λa=>gE ⟨u8m (64+d.fn),a,iI (n-1) 14,0,0⟩ 0) (oL m.frame (n-1) 14 (t)),kF d.N n,i+1) ⟨f4 (⟨by dsimp only;omega,by dsimp only;omega,bPn hD (iO e),by dsimp only;exact(xY u (iO e)).trans (congrArg (opsG m.M ((opsL l.B).drop (i+1)) (kF d.c.N n)) h),by dsimp only;exact hB31.le j5⟩),e9⟩
  refine g6 ?_;refine jU (λL=>?_) λL=>?_
  .have q:d.c.N=6:=L;have C:=zN hD (iO e);have hn6:2<=n:=by have h1:=C.2.1;rw[show cO d.c.N=2 by rw[q];rfl]at h1;omega
   refine g4 ?_;refine inc (n-2) ?_;refine g4 ?_;refine at_join (ι:=(Option Addr×Nat)×Nat×Nat) [(2,_),(4,_),(6,_),(13,_),(14,_),(15,_)] ⟨rfl,rfl,rfl,rfl,rfl,rfl,e9⟩ (λ⟨y,c11,c12⟩=>[(11,.pointer (some ⟨c11,0,none⟩)),(12,.pointer (some ⟨c12,0,none⟩))]) (λ⟨y,c11,c12⟩=>[mkO mb (m.st y (oL m.frame (n-1) 15 (oL m.frame (n-2) 14 (t)))),mkS (m.st y (oL m.frame (n-1) 15 (oL m.frame (n-2) 14 (t)))),cU c11 (iI (n-2) 14),cU c12 (iI (n-1) 15)]) (.c0 (.c0 .nil)) (λ⟨y,c11,c12⟩=>[bC.pure (True)]) ?_ ?_
   .refine at_mixU _ _ (.fl 0 (.fl 1 (.fl 3 (.fl 4 (.fl 5 (.three 2 7 8 (.three 6 7 8 (.two 7 8 (.op 8 (.op 9 (.op 10 .nil))) (.op 7 (.op 9 (.op 10 .nil)))) (.two 6 8 (.op 8 (.op 9 (.op 10 .nil))) (.op 6 (.op 9 (.op 10 .nil)))) (.two 6 7 (.op 7 (.op 9 (.op 10 .nil))) (.op 6 (.op 9 (.op 10 .nil))))) (.two 2 8 (.two 6 8 (.op 8 (.op 9 (.op 10 .nil))) (.op 6 (.op 9 (.op 10 .nil)))) (.op 2 (.op 6 (.op 9 (.op 10 .nil))))) (.two 2 7 (.two 6 7 (.op 7 (.op 9 (.op 10 .nil))) (.op 6 (.op 9 (.op 10 .nil)))) (.op 2 (.op 6 (.op 9 (.op 10 .nil))))))))))) dJ k7 .nil bA.self ?_;refine bEy rfl rfl rfl rfl (f7 hT (bO (off:=0) d9)) ?_;refine bEy rfl rfl rfl rfl (gD hT rfl) ?_;refine bEy rfl rfl rfl rfl (f7 hT (bO (off:=0) d9)) ?_;refine bEy rfl rfl rfl rfl (gD hT rfl) ?_;refine bEy rfl rfl rfl rfl (gD hT rfl) ?_;refine inc ((n-2)+1) ?_;refine bM (z':=((n-1:Nat):Int)) j5 ?_;refine bTh (o:=_) (o':=_) (o2:=_) rfl rfl rfl ?_ ?_ ?_
    .refine bL func136 (iJ mb m a _ (hB.le j5) (n-2) j5 14) rfl rfl (.c0 (.c0 .nil)) e9 λE=>?_;have g:=jK (fr:=m.frame) (k:=n-2) (sp:=14) hB;refine dD .nil (bA.drop 0) ?_;refine bTh (o:=_) (o':=_) (o2:=_) rfl rfl rfl ?_ ?_ ?_
     .refine bL func136 (iJ mb m E _ (g.le j5) (n-1) j5 15) rfl rfl (.c0 (.c0 .nil)) e9 λy34=>?_;have hB35:=jK (fr:=m.frame) (k:=n-1) (sp:=15) g;refine dD .nil (bA.drop 0) ?_;refine xA (o:=_) (o':=_) rfl rfl ?_ ?_
      .refine i7 iU λb36=>?_;refine dD .nil (bA.drop 0) ?_;refine fZ (o:=_) rfl ?_;refine i7 iU λb37=>?_;refine dD .nil (bA.drop 0) ?_;refine fZ (o:=_) rfl ?_;refine one ?_;refine dD .nil (bA.drop 0) ?_;refine fZ (o:=_) rfl ?_;refine one ?_;refine dD .nil (bA.drop 0) ?_;refine oW ?_;exact mK (y34,b36,b37) ⟨rfl,rfl,e9⟩ ⟨rfl,rfl,rfl,rfl,rfl,rfl,e9⟩ (.c2 (.c2 (.c1 (.c0 .nil)))) ⟨f4 (e9),e9⟩ (bA.drop 0)
      refine i7 iU λb38=>?_;refine dD .nil (bA.drop 0) ?_;refine fZ (o:=_) rfl ?_;refine i7 iU λb39=>?_;refine dD .nil (bA.drop 0) ?_;refine fZ (o:=_) rfl ?_;refine one ?_;refine dD .nil (bA.drop 0) ?_;refine fZ (o:=_) rfl ?_;refine one ?_;refine dD .nil (bA.drop 0) ?_;refine oW ?_;exact mK (y34,b39,b38) ⟨rfl,rfl,e9⟩ ⟨rfl,rfl,rfl,rfl,rfl,rfl,e9⟩ (.c2 (.c2 (.c1 (.c0 .nil)))) ⟨f4 (e9),e9⟩ (bA.drop 0)
     .refine i7 iU λb40=>?_;refine dD .nil (bA.drop 0) ?_;refine xA (o:=_) (o':=_) rfl rfl ?_ ?_
      .refine bL func136 (iJ mb m E _ (g.le j5) (n-1) j5 15) rfl rfl (.c1 (.c1 .nil)) e9 λy41=>?_;have hB42:=jK (fr:=m.frame) (k:=n-1) (sp:=15) g;refine dD .nil (bA.drop 0) ?_;refine fZ (o:=_) rfl ?_;refine i7 iU λb43=>?_;refine dD .nil (bA.drop 0) ?_;refine fZ (o:=_) rfl ?_;refine one ?_;refine dD .nil (bA.drop 0) ?_;refine fZ (o:=_) rfl ?_;refine one ?_;refine dD .nil (bA.drop 0) ?_;refine oW ?_;exact mK (y41,b40,b43) ⟨rfl,rfl,e9⟩ ⟨rfl,rfl,rfl,rfl,rfl,rfl,e9⟩ (.c2 (.c2 (.c1 (.c0 .nil)))) ⟨f4 (e9),e9⟩ (bA.drop 0)
      refine i7 iU λb44=>?_;refine dD .nil (bA.drop 0) ?_;refine fZ (o:=_) rfl ?_;refine bL func136 (iJ mb m E _ (g.le j5) (n-1) j5 15) rfl rfl (.c2 (.c2 .nil)) e9 λy45=>?_;have hB46:=jK (fr:=m.frame) (k:=n-1) (sp:=15) g;refine dD .nil (bA.drop 0) ?_;refine fZ (o:=_) rfl ?_;refine one ?_;refine dD .nil (bA.drop 0) ?_;refine fZ (o:=_) rfl ?_;refine one ?_;refine dD .nil (bA.drop 0) ?_;refine oW ?_;exact mK (y45,b40,b44) ⟨rfl,rfl,e9⟩ ⟨rfl,rfl,rfl,rfl,rfl,rfl,e9⟩ (.c2 (.c2 (.c1 (.c0 .nil)))) ⟨f4 (e9),e9⟩ (bA.drop 0)
     refine i7 iU λb47=>?_;refine dD .nil (bA.drop 0) ?_;refine xA (o:=_) (o':=_) rfl rfl ?_ ?_
     .refine bL func136 (iJ mb m E _ (g.le j5) (n-1) j5 15) rfl rfl (.c1 (.c1 .nil)) e9 λy48=>?_;have hB49:=jK (fr:=m.frame) (k:=n-1) (sp:=15) g;refine dD .nil (bA.drop 0) ?_;refine fZ (o:=_) rfl ?_;refine i7 iU λb50=>?_;refine dD .nil (bA.drop 0) ?_;refine fZ (o:=_) rfl ?_;refine one ?_;refine dD .nil (bA.drop 0) ?_;refine fZ (o:=_) rfl ?_;refine one ?_;refine dD .nil (bA.drop 0) ?_;refine oW ?_;exact mK (y48,b50,b47) ⟨rfl,rfl,e9⟩ ⟨rfl,rfl,rfl,rfl,rfl,rfl,e9⟩ (.c2 (.c2 (.c1 (.c0 .nil)))) ⟨f4 (e9),e9⟩ (bA.drop 0)
     refine i7 iU λb51=>?_;refine dD .nil (bA.drop 0) ?_;refine fZ (o:=_) rfl ?_;refine bL func136 (iJ mb m E _ (g.le j5) (n-1) j5 15) rfl rfl (.c2 (.c2 .nil)) e9 λy52=>?_;have hB53:=jK (fr:=m.frame) (k:=n-1) (sp:=15) g;refine dD .nil (bA.drop 0) ?_;refine fZ (o:=_) rfl ?_;refine one ?_;refine dD .nil (bA.drop 0) ?_;refine fZ (o:=_) rfl ?_;refine one ?_;refine dD .nil (bA.drop 0) ?_;refine oW ?_;exact mK (y52,b51,b47) ⟨rfl,rfl,e9⟩ ⟨rfl,rfl,rfl,rfl,rfl,rfl,e9⟩ (.c2 (.c2 (.c1 (.c0 .nil)))) ⟨f4 (e9),e9⟩ (bA.drop 0)
    .refine i7 iU λb54=>?_;refine dD .nil (bA.drop 0) ?_;refine xA (o:=_) (o':=_) rfl rfl ?_ ?_
     .refine bL func136 (iJ mb m a _ (hB.le j5) (n-2) j5 14) rfl rfl (.c1 (.c1 .nil)) e9 λy55=>?_;have w:=jK (fr:=m.frame) (k:=n-2) (sp:=14) hB;refine dD .nil (bA.drop 0) ?_;refine xA (o:=_) (o':=_) rfl rfl ?_ ?_
      .refine bL func136 (iJ mb m y55 _ (w.le j5) (n-1) j5 15) rfl rfl (.c0 (.c0 .nil)) e9 λy57=>?_;have hB58:=jK (fr:=m.frame) (k:=n-1) (sp:=15) w;refine dD .nil (bA.drop 0) ?_;refine fZ (o:=_) rfl ?_;refine i7 iU λb59=>?_;refine dD .nil (bA.drop 0) ?_;refine fZ (o:=_) rfl ?_;refine one ?_;refine dD .nil (bA.drop 0) ?_;refine fZ (o:=_) rfl ?_;refine one ?_;refine dD .nil (bA.drop 0) ?_;refine oW ?_;exact mK (y57,b54,b59) ⟨rfl,rfl,e9⟩ ⟨rfl,rfl,rfl,rfl,rfl,rfl,e9⟩ (.c2 (.c2 (.c1 (.c0 .nil)))) ⟨f4 (e9),e9⟩ (bA.drop 0)
      refine i7 iU λb60=>?_;refine dD .nil (bA.drop 0) ?_;refine fZ (o:=_) rfl ?_;refine bL func136 (iJ mb m y55 _ (w.le j5) (n-1) j5 15) rfl rfl (.c1 (.c1 .nil)) e9 λy61=>?_;have hB62:=jK (fr:=m.frame) (k:=n-1) (sp:=15) w;refine dD .nil (bA.drop 0) ?_;refine fZ (o:=_) rfl ?_;refine one ?_;refine dD .nil (bA.drop 0) ?_;refine fZ (o:=_) rfl ?_;refine one ?_;refine dD .nil (bA.drop 0) ?_;refine oW ?_;exact mK (y61,b54,b60) ⟨rfl,rfl,e9⟩ ⟨rfl,rfl,rfl,rfl,rfl,rfl,e9⟩ (.c2 (.c2 (.c1 (.c0 .nil)))) ⟨f4 (e9),e9⟩ (bA.drop 0)
     refine i7 iU λb63=>?_;refine dD .nil (bA.drop 0) ?_;refine fZ (o:=_) rfl ?_;refine bL func136 (iJ mb m a _ (hB.le j5) (n-2) j5 14) rfl rfl (.c2 (.c2 .nil)) e9 λy64=>?_;have X:=jK (fr:=m.frame) (k:=n-2) (sp:=14) hB;refine dD .nil (bA.drop 0) ?_;refine fZ (o:=_) rfl ?_;refine bL func136 (iJ mb m y64 _ (X.le j5) (n-1) j5 15) rfl rfl (.c0 (.c0 .nil)) e9 λy66=>?_;have hB67:=jK (fr:=m.frame) (k:=n-1) (sp:=15) X;refine dD .nil (bA.drop 0) ?_;refine fZ (o:=_) rfl ?_;refine one ?_;refine dD .nil (bA.drop 0) ?_;refine fZ (o:=_) rfl ?_;refine one ?_;refine dD .nil (bA.drop 0) ?_;refine oW ?_;exact mK (y66,b54,b63) ⟨rfl,rfl,e9⟩ ⟨rfl,rfl,rfl,rfl,rfl,rfl,e9⟩ (.c2 (.c2 (.c1 (.c0 .nil)))) ⟨f4 (e9),e9⟩ (bA.drop 0)
    refine i7 iU λb68=>?_;refine dD .nil (bA.drop 0) ?_;refine xA (o:=_) (o':=_) rfl rfl ?_ ?_
    .refine bL func136 (iJ mb m a _ (hB.le j5) (n-2) j5 14) rfl rfl (.c1 (.c1 .nil)) e9 λy69=>?_;have v:=jK (fr:=m.frame) (k:=n-2) (sp:=14) hB;refine dD .nil (bA.drop 0) ?_;refine xA (o:=_) (o':=_) rfl rfl ?_ ?_
     .refine bL func136 (iJ mb m y69 _ (v.le j5) (n-1) j5 15) rfl rfl (.c0 (.c0 .nil)) e9 λy71=>?_;have hB72:=jK (fr:=m.frame) (k:=n-1) (sp:=15) v;refine dD .nil (bA.drop 0) ?_;refine fZ (o:=_) rfl ?_;refine i7 iU λb73=>?_;refine dD .nil (bA.drop 0) ?_;refine fZ (o:=_) rfl ?_;refine one ?_;refine dD .nil (bA.drop 0) ?_;refine fZ (o:=_) rfl ?_;refine one ?_;refine dD .nil (bA.drop 0) ?_;refine oW ?_;exact mK (y71,b73,b68) ⟨rfl,rfl,e9⟩ ⟨rfl,rfl,rfl,rfl,rfl,rfl,e9⟩ (.c2 (.c2 (.c1 (.c0 .nil)))) ⟨f4 (e9),e9⟩ (bA.drop 0)
     refine i7 iU λb74=>?_;refine dD .nil (bA.drop 0) ?_;refine fZ (o:=_) rfl ?_;refine bL func136 (iJ mb m y69 _ (v.le j5) (n-1) j5 15) rfl rfl (.c1 (.c1 .nil)) e9 λy75=>?_;have hB76:=jK (fr:=m.frame) (k:=n-1) (sp:=15) v;refine dD .nil (bA.drop 0) ?_;refine fZ (o:=_) rfl ?_;refine one ?_;refine dD .nil (bA.drop 0) ?_;refine fZ (o:=_) rfl ?_;refine one ?_;refine dD .nil (bA.drop 0) ?_;refine oW ?_;exact mK (y75,b74,b68) ⟨rfl,rfl,e9⟩ ⟨rfl,rfl,rfl,rfl,rfl,rfl,e9⟩ (.c2 (.c2 (.c1 (.c0 .nil)))) ⟨f4 (e9),e9⟩ (bA.drop 0)
    refine i7 iU λb77=>?_;refine dD .nil (bA.drop 0) ?_;refine fZ (o:=_) rfl ?_;refine bL func136 (iJ mb m a _ (hB.le j5) (n-2) j5 14) rfl rfl (.c2 (.c2 .nil)) e9 λy78=>?_;have W:=jK (fr:=m.frame) (k:=n-2) (sp:=14) hB;refine dD .nil (bA.drop 0) ?_;refine fZ (o:=_) rfl ?_;refine bL func136 (iJ mb m y78 _ (W.le j5) (n-1) j5 15) rfl rfl (.c0 (.c0 .nil)) e9 λy80=>?_;have hB81:=jK (fr:=m.frame) (k:=n-1) (sp:=15) W;refine dD .nil (bA.drop 0) ?_;refine fZ (o:=_) rfl ?_;refine one ?_;refine dD .nil (bA.drop 0) ?_;refine fZ (o:=_) rfl ?_;refine one ?_;refine dD .nil (bA.drop 0) ?_;refine oW ?_;exact mK (y80,b77,b68) ⟨rfl,rfl,e9⟩ ⟨rfl,rfl,rfl,rfl,rfl,rfl,e9⟩ (.c2 (.c2 (.c1 (.c0 .nil)))) ⟨f4 (e9),e9⟩ (bA.drop 0)
   rintro⟨y,c11,c12⟩;dsimp only;refine bG d7 λhjn=>?_;have hBj:=jK (fr:=m.frame) (k:=n-1) (sp:=15) (jK (fr:=m.frame) (k:=n-2) (sp:=14) hB);refine cZ<|lB kT2 ?_;refine lB kT2 ?_;refine one ?_;refine ss (f7 hT (bO (off:=0) (Has.of mT5))) ?_;refine g2 ?_;refine bL func129 (uO mb m y (oL m.frame (n-1) 15 (oL m.frame (n-2) 14 (t))) (hBj.le j5) (n-2) j5 _ [.pointer (some ⟨A,0,none⟩),.pointer (some ⟨J,0,none⟩),.pointer (some ⟨c11,0,none⟩),.pointer (some ⟨c12,0,none⟩)] _ (λa=>gE ⟨u8m (128+d.fn),a,iI (n-2) 14,iI (n-1) 15,0⟩ 0) (qN (I:=λa=>⟨u8m (128+d.fn),a,iI (n-2) 14,iI (n-1) 15,0⟩)) (bJ func141 rfl rfl) (λB D s' j=>ops6_spec mb m D s' j A J c11 c12 d (iI (n-2) 14) (iI (n-1) 15) B)) rfl rfl (.c0 (.c0 .nil)) ⟨Has.of mT5,e6,d8,d7,e9⟩ λy82=>?_;have hB83:=rB (fr:=m.frame) (k:=n-2) (I:=λa=>gE ⟨u8m (128+d.fn),a,iI (n-2) 14,iI (n-1) 15,0⟩ 0) (qN (I:=λa=>⟨u8m (128+d.fn),a,iI (n-2) 14,iI (n-1) 15,0⟩)) hBj;refine g3 ?_;have h:opG m.M d.c n t=nC m.frame (n-2) (λa=>gE ⟨u8m (128+d.fn),a,iI (n-2) 14,iI (n-1) 15,0⟩ 0) (oL m.frame (n-1) 15 (oL m.frame (n-2) 14 (t))):=opG6 q;have hdp:kF d.N n=(n-2)+1:=by show kF d.c.N n=_;rw[q];unfold kF;simp;try omega
   refine g3 ?_;refine inc ((n-2)+1) ?_;refine bM (z':=((kF d.N n:Nat):Int)) ad3 ?_;refine g6 ?_;refine inc (i+1) ?_;refine g3 ?_;exact bk2 (y82,nC m.frame (n-2) (λa=>gE ⟨u8m (128+d.fn),a,iI (n-2) 14,iI (n-1) 15,0⟩ 0) (oL m.frame (n-1) 15 (oL m.frame (n-2) 14 (t))),kF d.N n,i+1) ⟨f4 (⟨by dsimp only;omega,by dsimp only;omega,bPn hD (iO e),by dsimp only;exact(xY u (iO e)).trans (congrArg (opsG m.M ((opsL l.B).drop (i+1)) (kF d.c.N n)) h),by dsimp only;exact hB83.le j5⟩),e9⟩
  exfalso
  have C:=bWg (zN hD (iO e)).1;have hho:d.c.N=d.N:=rfl;omega
 refine g4 ?_;have he:=opsG_end u (by rw[fQ];omega);subst he;exact dE a rfl (.c0 (.c0 .nil)) e9 rfl
theorem wQ(z0:Int)(z1:Int):prog.built 52 [(0,j4 z0),(1,j4 z1)]=some #[j4 z0,j4 z1,j4 0,j4 0,.int .i32 0]:=j8
theorem bUw(mb:Nat)(m:MkV)(a:Option Addr×Nat)(s:GnS)(hB:GnB 999500 s)(g q:Int):cJ prog 71 [.pointer (some ⟨mb,0,none⟩),j4 g,j4 q] [mkO mb (m.st a s),mkS (m.st a s)] [] (λ(_:Option Addr×Nat)=> .tuple #[]) (λ(x:Option Addr×Nat)=>[mkO mb (m.st x (foldG g q s)),mkS (m.st x (foldG g q s))]) (λ_=>[]):=by have hT:=dL;have C:=hB.l;have B:=hB.m;have A:=hB.x;refine j1 func71 ntmps71 ?_;intro β hM;refine g3 ?_;refine bL func25 (qX mb m a _ (hB.le j5)) rfl rfl (.c0 (.c0 .nil)) e9 λz=>?_;have n:=oT hB;refine one ?_;refine bL func25 (qX mb m z _ (n.le j5)) rfl rfl (.c0 (.c0 .nil)) e9 λy=>?_;have j:=oT n;refine one ?_;refine bM (z':=((s.R+1:Nat):Int)) rfl ?_;refine one ?_;refine bM (z':=((s.R+2:Nat):Int)) rfl ?_;refine g6 ?_;refine ss (bY rfl rfl (wQ _ _)) ?_;refine one ?_;refine bL func28 (gH mb m y _ (j.le j5) (⟨9,q,0,0,0⟩:dU) (s.R+1)) rfl rfl (.c0 (.c0 .nil)) e9 λw=>?_;have h:=gI (i:=(⟨9,q,0,0,0⟩:dU)) (dst:=s.R+1) j;refine g7 ?_;refine bM (z':=u8m (128+g)) (uP _) ?_;refine ss (bY rfl rfl (uV _ _ _ _)) ?_;refine bL func28 (gH mb m w _ (h.le j5) (⟨u8m (128+g),7,7,8,0⟩:dU) 0) rfl rfl (.c0 (.c0 .nil)) e9 λv=>?_;have f:=gI (i:=(⟨u8m (128+g),7,7,8,0⟩:dU)) (dst:=0) h;refine g6 ?_;refine bL func132 (wB mb m v _ (f.le j5) (s.R+2)) rfl rfl (.c0 (.c0 .nil)) e9 λu=>?_;have e:=tO (dst:=s.R+2) f;refine g6 ?_;refine bL func29 (rI mb m u _ (e.le j5) (s.R+1)) rfl rfl (.c0 (.c0 .nil)) e9 λr=>?_;have d:=oN (k:=s.R+1) e j5;refine g5 ?_;refine bL func135 (bMn mb m r _ (d.le j5) (7) (8)) rfl rfl (.c0 (.c0 .nil)) e9 λp=>?_;have c:=bLg (a:=7) (b:=8) d;refine g5 ?_;refine bL func29 (rI mb m p _ (c.le j5) (s.R+2)) rfl rfl (.c0 (.c0 .nil)) e9 λo=>?_;have t:=oN (k:=s.R+2) c j5;refine jL ?_;exact dE o rfl (.c0 (.c0 .nil)) e9 rfl
theorem uA(mb:Nat)(m:MkV)(a:Option Addr×Nat)(s:GnS)(hB:GnB 999500 s)(q z:Int)(dst:Nat):cJ prog 73 [.pointer (some ⟨mb,0,none⟩),j4 q,j3 z,j3 (dst:Nat)] [mkO mb (m.st a s),mkS (m.st a s)] [] (λ(_:Option Addr×Nat)=> .tuple #[]) (λ(x:Option Addr×Nat)=>[mkO mb (m.st x (againG q z dst s)),mkS (m.st x (againG q z dst s))]) (λ_=>[]):=by have hT:=dL;refine j1 func73 ntmps73 ?_;intro β hM;refine g5 ?_;refine ss (bY rfl rfl (uU _ _ _ _)) ?_;refine bL func28 (gH mb m a _ (hB.le j5) (⟨10,q,q,0,1⟩:dU) 0) rfl rfl (.c0 (.c0 .nil)) e9 λg=>?_;have d:=gI (i:=(⟨10,q,q,0,1⟩:dU)) (dst:=0) hB;refine g6 ?_;refine bL func68 (gO mb m g _ (d.le j5) (6) (z)) rfl rfl (.c0 (.c0 .nil)) e9 λf=>?_;have c:=kK (a:=6) (z:=z) d;refine g6 ?_;refine bL func137 (bIi mb m f _ (c.le j5) (q) (6) (dst)) rfl rfl (.c0 (.c0 .nil)) e9 λe=>?_;have h:=bAv (a:=q) (b:=6) (dst:=dst) c;refine jL ?_;exact dE e rfl (.c0 (.c0 .nil)) e9 rfl
theorem wY(mb:Nat)(m:MkV)(a:Option Addr×Nat)(s:GnS)(hB:GnB 999500 s)(x:gA)(p:Int)(hb0:0<=x.I)(hbs:x.I.toNat<m.size.B.length)(hsz:m.size.B.length=m.at_.B.length)(hA:(bF x.at_.B m.U.B).2=0->0<=(bF x.at_.B m.U.B).1)(hS: ∀z∈m.size.B,0<=z/\z<=1000000)(hU: ∀z∈m.at_.B,0<=z/\z<=200000000)(hdl:m.U.B.length<=140737488355328):cJ prog 70 [.pointer (some ⟨mb,0,none⟩),.agg #[j3 x.N,j3 x.I,f9 x.at_,f9 x.H,j4 x.fn,f9 x.ops],j4 p] [mkO mb (m.st a s),mkS (m.st a s)] [mO x,dA.sl (f9 m.U) m.U.B,dA.sl (f9 m.at_) m.at_.B,dA.sl (f9 m.size) m.size.B] (λ(_:Option Addr×Nat)=> .tuple #[]) (λ(y:Option Addr×Nat)=>[mkO mb (m.st y (storeG m.M x.c p s)),mkS (m.st y (storeG m.M x.c p s))]) (λ_=>[]):=by
 have hT:=dL
 obtain⟨z,o⟩: ∃z,m.size.B[x.I.toNat]?=some z:=⟨_,G1 hbs⟩
 obtain⟨u,hu⟩:=gx m.at_.B x.I.toNat;have C:=hS z (f5 o);have D:=hU u (f5 hu);have g:m.size.B.getD x.I.toNat 0=z:=vB o;have r:m.at_.B.getD x.I.toNat 0=u:=vB hu;refine j1 func70 ntmps70 ?_;intro β hM;refine g2 ?_;refine j0 λJ=>?_;refine g7 ?_;refine bK (cR x.at_) (bFk d7) ?_;refine bL func131 (bRg mb m a s x.at_ hdl) rfl rfl (.c1 .nil) ⟨d7,d9,e9⟩ λ_=>?_;refine g9 ?_
 by_cases d:(bF x.at_.B m.U.B).2=0
 .rw[show decide ((bF x.at_.B m.U.B).2=0)=true from decide_eq_true d,show pM m.U.B x.at_.B=(bF x.at_.B m.U.B).1 from if_pos d];have I:=hA d;refine dK _ _ [j2,u1,u0,u2,u3,u4,u5,u6,u7,u9,A00,A01,A02,A03] dJ k7 (.c0 (.c0 (.c0 .nil))) bA.self ?_;refine g10 ?_;refine stM rfl (bE hT (k:=x.I.toNat) (bH e7) rfl rfl rfl rfl rfl rfl (eK hb0).symm (j5)) ?_;refine stM rfl (fV o 0) ?_;refine g4 ?_;refine bOr (λb=>?_) λb=>?_
  .refine g7 ?_;refine bL func132 (wB mb m a _ (hB.le j5) (m.fail)) rfl rfl (.c0 (.c1 .nil)) e9 λB=>?_;have G:=tO (dst:=m.fail) hB;refine g4 ?_;have j:storeG m.M x.c p s=rZ (m.fail) (s):=if_pos (.inr (by show m.M.size.getD x.c.I.toNat 0<=_;rw[show m.M.size.getD x.c.I.toNat 0=z from g];exact b));rw[show(λy:Option Addr×Nat=>[mkO mb (m.st y (storeG m.M x.c p s)),mkS (m.st y (storeG m.M x.c p s))])=λy=>[mkO mb (m.st y (rZ (m.fail) (s))),mkS (m.st y (rZ (m.fail) (s)))] by rw[j]];exact dE B rfl (.c0 (.c0 .nil)) e9 rfl
  refine g3 ?_;refine dK _ _ [j2,u1,u0,u2,u4,u5,u9,(false,4),u6,u7,A00,A12] dJ k7 (.c1 .nil) bA.self ?_;refine g10 ?_;refine stM rfl (bE hT (k:=x.I.toNat) (bH e7) rfl rfl rfl rfl rfl rfl (eK hb0).symm (j5)) ?_;refine stM rfl (fV o 0) ?_;refine one ?_;refine bM (z':=z-(bF x.at_.B m.U.B).1) (jO j5 j5) ?_;refine one ?_;refine bL func138 (bJx mb m a _ (hB.le j5) (5) ((z-(bF x.at_.B m.U.B).1))) rfl rfl (.c0 (.c1 .nil)) e9 λA=>?_;have n:=bBs (f:=m.fail) (a:=5) (z:=(z-(bF x.at_.B m.U.B).1)) hB;refine g4 ?_;refine dK _ _ [j2,u1,u0,u2,u3,u5,u6,A00,(false,5),u7,u9,A01,A02,A03,(false,14)] dJ k7 (.c2 .nil) bA.self ?_;refine g11 ?_;refine stM rfl (bE hT (k:=x.I.toNat) (bH e6) rfl rfl rfl rfl rfl rfl (eK hb0).symm (j5)) ?_;refine stM rfl (fV hu 0) ?_;refine one ?_;refine bM (z':=u+(bF x.at_.B m.U.B).1) (jO j5 j5) ?_;refine one ?_;refine bM (z':=w32 (u+(bF x.at_.B m.U.B).1)) (mQ _) ?_;refine stM rfl (bY rfl rfl (uU _ _ _ _)) ?_;refine one ?_;refine bL func28 (gH mb m A _ (n.le j5) (⟨6,p,5,0,w32 (u+(bF x.at_.B m.U.B).1)⟩:dU) 0) rfl rfl (.c0 (.c0 .nil)) e9 λw=>?_;have l:=gI (i:=(⟨6,p,5,0,w32 (u+(bF x.at_.B m.U.B).1)⟩:dU)) (dst:=0) n;refine g5 ?_;refine ss (bY rfl rfl (uU _ _ _ _)) ?_;refine bL func28 (gH mb m w _ (l.le j5) (⟨10,5,5,0,1⟩:dU) 0) rfl rfl (.c0 (.c0 .nil)) e9 λv=>?_;have E:=gI (i:=(⟨10,5,5,0,1⟩:dU)) (dst:=0) l;refine jL ?_;have j:storeG m.M x.c p s=gE (⟨10,5,5,0,1⟩:dU) 0 (gE (⟨6,p,5,0,w32 (u+(bF x.at_.B m.U.B).1)⟩:dU) 0 (oU m.fail (5) ((z-(bF x.at_.B m.U.B).1)) (s))):=by unfold storeG;rw[show m.M.size.getD x.c.I.toNat 0=z from g,show m.M.at_.getD x.c.I.toNat 0=u from r];exact if_neg (λe=>e.elim (λh=>h d) (λh=>by have h2:z<=(bF x.at_.B m.U.B).1:=h;omega))
  rw[show(λy:Option Addr×Nat=>[mkO mb (m.st y (storeG m.M x.c p s)),mkS (m.st y (storeG m.M x.c p s))])=λy=>[mkO mb (m.st y (gE (⟨10,5,5,0,1⟩:dU) 0 (gE (⟨6,p,5,0,w32 (u+(bF x.at_.B m.U.B).1)⟩:dU) 0 (oU m.fail (5) ((z-(bF x.at_.B m.U.B).1)) (s))))),mkS (m.st y (gE (⟨10,5,5,0,1⟩:dU) 0 (gE (⟨6,p,5,0,w32 (u+(bF x.at_.B m.U.B).1)⟩:dU) 0 (oU m.fail (5) ((z-(bF x.at_.B m.U.B).1)) (s)))))] by rw[j]];exact dE v rfl (.c0 (.c0 .nil)) e9 rfl
 rw[show decide ((bF x.at_.B m.U.B).2=0)=false from decide_eq_false d];refine dK _ _ [j2,u1,u0,u2,u3,u4,u5,u6,u7,u9,A00,A01,A02,A03] dJ k7 (.c0 (.c0 (.c0 .nil))) bA.self ?_;refine g24 ?_;refine bL func132 (wB mb m a _ (hB.le j5) (m.fail)) rfl rfl (.c0 (.c1 .nil)) e9 λq=>?_;have t:=tO (dst:=m.fail) hB;refine g4 ?_;have j:storeG m.M x.c p s=rZ (m.fail) (s):=if_pos (.inl d);rw[show(λy:Option Addr×Nat=>[mkO mb (m.st y (storeG m.M x.c p s)),mkS (m.st y (storeG m.M x.c p s))])=λy=>[mkO mb (m.st y (rZ (m.fail) (s))),mkS (m.st y (rZ (m.fail) (s)))] by rw[j]];exact dE q rfl (.c0 (.c0 .nil)) e9 rfl
section
variable {f a b : Int} {two : Bool}
theorem rT(h:f<1\/17<f):Y6 false= .bool (qF f two):=by rw[qF,if_pos h]
theorem bEw(_h1: ¬f<1)(_h2: ¬17<f)(h:f=16):Y6 (!two)= .bool (qF f two):=by rw[qF,if_neg j5,if_pos h]
theorem bEx(h1: ¬f<1)(h2: ¬17<f)(h:f≠16)(ht:two=true):Y6 true= .bool (qF f two):=by rw[qF,if_neg j5,if_neg h,ht];rfl
theorem bEt(h1: ¬f<1)(h2: ¬17<f)(h:f≠16)(ht:two=false):Y6 (decide (f<=7))= .bool (qF f two):=by rw[qF,if_neg j5,if_neg h,ht];rfl
end
theorem yC(f:Int)(two:Bool):cJ prog 100 [j4 f,.bool two] [] [] (λ(_:Unit)=> .bool (qF f two)) (λ_=>[]) (λ_=>[]):=by
 have hT:=dL;refine j1 func100 ntmps100 ?_;intro β hM;refine g12 ?_;refine nO (λc=>?_) λc=>?_
 .refine g15 ?_;exact rs1 () e9 (he:=l8)
 refine g6 ?_;refine dO (λd=>?_) λd=>?_
 .refine g8 ?_;exact rs1 () e9 (he:=l8)
 refine g7 ?_;refine jU (λb=>?_) λb=>?_
 .refine g10 ?_;exact rs1 () e9 (he:=l8)
 refine g7 ?_;refine cE (λa=>?_) (λa=>?_)
 .refine g7 ?_;exact rs1 () e9 (he:=l8)
 refine g7 ?_;exact rs1 () e9 (he:=l8)
theorem Unit_spec(f:Int):cJ prog 72 [j4 f] [] [] (λ(_:Unit)=> .tuple #[j3 (unitW f).1,.bool (unitW f).2]) (λ_=>[]) (λ_=>[]):=by
 have hT:=dL;refine j1 func72 ntmps72 ?_;intro β hM;refine g19 ?_;refine cD rfl (λo=>?_) (λo=>?_)
 .have s:=o;have o:=eq_of_beq o;refine g9 ?_;exact rs2 () e9 (he:=by simp[unitW, *])
 have s:=o;have o:=beq_eq_false_iff_ne.1 o;refine g6 ?_;refine cD rfl (λn=>?_) (λn=>?_)
 .have r:=n;have n:=eq_of_beq n;refine g9 ?_;exact rs2 () e9 (he:=by simp[unitW, *])
 have r:=n;have n:=beq_eq_false_iff_ne.1 n;refine g7 ?_;refine cD rfl (λm=>?_) (λm=>?_)
 .have p:=m;have m:=eq_of_beq m;refine g2 ?_;refine gT rfl p ?_;refine g9 ?_;exact rs2 () e9 (he:=by simp[unitW, *])
 have p:=m;have m:=beq_eq_false_iff_ne.1 m;refine g6 ?_;refine cD rfl (λg=>?_) (λg=>?_)
 .have l:=g;have g:=eq_of_beq g;refine g2 ?_;refine gT rfl l ?_;refine g9 ?_;exact rs2 () e9 (he:=by simp[unitW, *])
 have l:=g;have g:=beq_eq_false_iff_ne.1 g;refine g6 ?_;refine cD rfl (λe=>?_) (λe=>?_)
 .have k:=e;have e:=eq_of_beq e;refine g2 ?_;refine gT rfl k ?_;refine g9 ?_;exact rs2 () e9 (he:=by simp[unitW, *])
 have k:=e;have e:=beq_eq_false_iff_ne.1 e;refine g6 ?_;refine cD rfl (λd=>?_) (λd=>?_)
 .have j:=d;have d:=eq_of_beq d;refine g2 ?_;refine gT rfl j ?_;refine g9 ?_;exact rs2 () e9 (he:=by simp[unitW, *])
 have j:=d;have d:=beq_eq_false_iff_ne.1 d;refine g6 ?_;refine cD rfl (λc=>?_) (λc=>?_)
 .have i:=c;have c:=eq_of_beq c;refine g2 ?_;refine gT rfl i ?_;refine g9 ?_;exact rs2 () e9 (he:=by simp[unitW, *])
 have i:=c;have c:=beq_eq_false_iff_ne.1 c;refine g6 ?_;refine cD rfl (λb=>?_) (λb=>?_)
 .have h:=b;have b:=eq_of_beq b;refine g2 ?_;refine gT rfl h ?_;refine g9 ?_;exact rs2 () e9 (he:=by simp[unitW, *])
 have h:=b;have b:=beq_eq_false_iff_ne.1 b;refine g5 ?_;refine cD rfl (λa=>?_) (λa=>?_)
 .have q:=a;have a:=eq_of_beq a;refine g9 ?_;exact rs2 () e9 (he:=by simp[unitW, *])
 have q:=a;have a:=beq_eq_false_iff_ne.1 a;refine g6 ?_;refine bL func100 (yC _ _) rfl rfl .nil e9 λ_=>?_;refine g5 ?_;exact rs2 () e9 (he:=by simp[unitW, *])
theorem xF{α β:Type}{f:α->β}{l:List α}{i:Nat}{x:α}(h:l[i]?=some x):(l.take (i+1)).map f=(l.take i).map f++[f x]:=by obtain⟨hlt,e⟩:=G3.1 h;subst e;rw[List.take_succ_eq_append_getElem hlt,P4];rfl
theorem has_takeG{α:Type}{E:Flat α}{F:List bC}{A:Option Addr}{c k:Nat}{xs:List α}(h:Has F (E.sl (.slice A xs.length c) xs))(hk:k<=xs.length):Has F (E.sl (.slice A (xs.take k).length c) (xs.take k)):=by rw[Z4,aB hk];exact bMp h hk
theorem yI{a b:Int}(h:a=b)(h1: -9223372036854775808<=b)(h2:b<9223372036854775808):IntKind.i64.wrap a=b:=by subst h;exact jO h1 h2
theorem lastG{l:List Int}{e:Int}(h:l[l.length-1]?=some e):l.getLastD 0=e:=by rw[List.getLastD_eq_getLast?,List.getLast?_eq_getElem?,h];rfl
section
variable {M : GnM} {x : cT} {s t b e : GnS} {L O : List Int} {n i : Nat} {Z : GnS}
theorem bWj(h:Z=zerosG (n-i) i t)(hi:i<n):Z=zerosG (n-(i+1)) (i+1) (numG ((1+i:Nat):Int) 0 t):=by
 obtain⟨k,rfl⟩: ∃k,n=i+k+1:=⟨n-i-1,j5⟩
 rw[h,show i+k+1-i=k+1 by omega,show i+k+1-(i+1)=k by omega];rfl
theorem bPd(h:Z=zerosG (n-i) i t)(hi:n<=i):Z=t:=by rw[h,show n-i=0 by omega];rfl
theorem bOw(hL:(x.H.map λp=>(bF p M.U).1)=L)(ho:zA x L=O)(hc:O.contains 0=true):qJ M x s=s:=by unfold qJ;dsimp only;rw[hL,ho];exact if_pos hc
theorem bEu(hL:(x.H.map λp=>(bF p M.U).1)=L)(ho:zA x L=O)(hc:O.contains 0=false)(hz:zerosG O.length 0 (numG 5 0 s)=t)(hb:uG M x L (hereG (t.R+1) (markG t))=b)(he:endsG O (t.R+1) O.length b=e):qJ M x s=e:=by unfold qJ;dsimp only;rw[hL,ho,if_neg (by rw[hc];decide),hz];exact(congrArg (endsG O (t.R+1) O.length) hb).trans he
theorem bodyG1(h:x.N=1):uG M x L s=storeG M x 8 (opsG M x.ops 0 s):=if_pos h
theorem bodyG3(h:x.N=3):uG M x L s=storeG M x 7 (foldG x.fn (L.length:Nat) (opsG M x.ops 0 s)):=by unfold uG;rw[if_neg j5,if_pos h]
theorem bodyG0(h:x.N=2)(h0:L.getLastD 0=0):uG M x L s=storeG M x 7 (numG 7 (unitW x.fn).1 s):=by unfold uG;rw[if_neg j5,if_neg j5,if_pos h0]
theorem bodyG2(h:x.N=2)(h0:e=numG (L.length:Nat) 0 s){z:Int}(hz:L.getLastD 0=z)(hz0:z≠0):uG M x L s=storeG M x 7 (againG (L.length:Nat) z (e.R+1) (foldG x.fn (L.length:Nat) (opsG M x.ops 0 (hereG (e.R+1) (markG e))))):=by unfold uG;rw[if_neg j5,if_neg j5,hz,if_neg hz0,h0];rfl
end
set_option maxHeartbeats 2000000 in
theorem stepM_spec(mb:Nat)(m:MkV)(a:Option Addr×Nat)(s:GnS)(N:Nat)(hB:GnB N s)(x:gA)(hNb:N+12*x.ops.B.length+1000<=999000)(hh:x.N=1\/x.N=2\/x.N=3)(hv: ∀p∈polsL x.H.B,(bF p m.U.B).2=0)(hll:x.H.B.length<=4)(hne:x.N=2->x.H.B≠[])(hO:OpsG (opsL x.ops.B) m.at_.B.length)(hD:Deep (opsL x.ops.B) 0)(hb0:0<=x.I)(hbs:x.I.toNat<m.size.B.length)(hsz:m.size.B.length=m.at_.B.length)(hA:(bF x.at_.B m.U.B).2=0->0<=(bF x.at_.B m.U.B).1)(hS: ∀z∈m.size.B,0<=z/\z<=1000000)(hU: ∀z∈m.at_.B,0<=z/\z<=200000000)(hdl:m.U.B.length<=140737488355328):cJ prog 27 [.pointer (some ⟨mb,0,none⟩),.agg #[j3 x.N,j3 x.I,f9 x.at_,f9 x.H,j4 x.fn,f9 x.ops]] [mkO mb (m.st a s),mkS (m.st a s)] [mO x,dA.sl (f9 m.U) m.U.B,dA.sl (f9 m.at_) m.at_.B,dA.sl (f9 m.size) m.size.B] (λ(_:Option Addr×Nat)=> .tuple #[]) (λ(y:Option Addr×Nat)=>[mkO mb (m.st y (qJ m.M x.c s)),mkS (m.st y (qJ m.M x.c s))]) (λ_=>[]):=by
 have hT:=dL;refine j1 func27 ntmps27 ?_;intro β hM;refine g2 ?_;refine j0 λb1=>?_;refine g9 ?_;refine cL (t:=2) dA<|bK (fF.sl (.slice x.H.O x.H.B.length x.H.cap) x.H.B) (mW (nA d7)) ?_;refine g8 ?_;refine bT (ι:=Option Addr×Nat×List Int×Nat) [(0,_),(3,_),(16,_),(17,_)] ⟨rfl,rfl,rfl,rfl,e9⟩ (λ⟨LA,lc,acc,i⟩=>[(4,.slice LA acc.length lc),(18,.int .i64 (i:Nat))]) (λ⟨LA,lc,acc,i⟩=>[dA.row (.slice LA acc.length lc) 2 acc]) (λ⟨LA,lc,acc,i⟩=>[bC.pure (i<=x.H.B.length/\acc.length=i/\acc=((polsL x.H.B).take i).map (λp=>(bF p m.U.B).1))]) (λ⟨LA,lc,acc,i⟩=>x.H.B.length-i) (none,0,[],0) ⟨rfl,rfl,e9⟩ (.c0 .nil) ⟨f4 (⟨j5,rfl,rfl⟩),e9⟩ ?_;rintro⟨LA,lc,acc,i⟩;dsimp only;refine bG d7 λv=>?_;have hal:=v.2.1;refine g6 ?_;refine dO (λhc19=>?_) λhc19=>?_
 .refine g5 ?_;obtain⟨p1,V⟩:=gx x.H.B i;refine bK (cR p1) (Has.each (mY (nA d9)) (f5 V)) ?_;refine one ?_;refine ss (bE hT (k:=i) (bH d9) rfl rfl rfl rfl rfl rfl rfl j5) ?_;refine ss (f7 hT (cF.knows (bH d9) (k:=i) (x:=p1) V 0)) ?_;refine g7 ?_;have hvx:(bF p1.B m.U.B).2=0:=hv p1.B (f5 (cG V));refine bL func65 (rS (λ_=>by unfold zF;exact if_pos hvx) (sD mb m a s p1 hdl)) rfl rfl (.c2 .nil) ⟨d7,e7,e9⟩ λ_=>?_;refine nV (m:=(bF p1.B m.U.B).1) rfl rfl rfl rfl rfl λb2=>?_;refine nP kT2 (fD .head rfl) rfl rfl rfl rfl rfl rfl rfl o8 λA3 c4=>?_;refine g6 ?_;refine inc (i+1) ?_;refine g3 ?_;exact bk2 (A3,c4,acc++[(bF p1.B m.U.B).1],i+1) ⟨f4 (⟨by dsimp only;omega,by dsimp only;rw[G4,List.length_singleton];omega,by dsimp only;rw[v.2.2];exact(xF (f:=(λp=>(bF p m.U.B).1)) (cG V)).symm⟩),e9⟩
 refine g6 ?_;have hL:(polsL x.H.B).map (λp=>(bF p m.U.B).1)=acc:=by rw[v.2.2,List.take_of_length_le p9]
 have hLl:acc.length=x.H.B.length:=j5
 refine bAl .head λhcap=>gP (E:=dA) .head ?_;refine g13 ?_;refine jU (λo=>?_) λo=>?_
 .have hlen:=hne o;have hlen1:1<=acc.length:=by rw[hLl];exact List.length_pos_iff.2 hlen
  have ho:zA x.c acc=acc.take (acc.length-1):=(if_pos o).trans (List.dropLast_eq_take);refine g5 ?_;refine inc (acc.length-1) ?_;refine ss (wP hT (k:=acc.length-1) rfl rfl rfl rfl rfl rfl j5) ?_;refine at_val (v':= .slice LA (acc.take (acc.length-1)).length lc) (by rw[Z4,aB j5])<|bK (dA.sl (.slice LA (acc.take (acc.length-1)).length lc) (acc.take (acc.length-1))) (has_takeG d7 j5) ?_;refine g7 ?_;have hOl:(acc.take (acc.length-1)).length<=4:=by rw[Z4];omega
  refine bL func67 (pY LA lc (acc.take (acc.length-1)) j5 0) rfl rfl .nil ⟨d7,e9⟩ λ_=>?_;refine g2 ?_;refine vN (λh=>?_) λh=>?_
  .refine g2 ?_;have K:qJ m.M x.c s=s:=bOw hL ho h;rw[show(λy:Option Addr×Nat=>[mkO mb (m.st y (qJ m.M x.c s)),mkS (m.st y (qJ m.M x.c s))])=λy=>[mkO mb (m.st y s),mkS (m.st y s)] by rw[K]];exact dE a rfl (.c1 (.c1 .nil)) e9 rfl
  refine g5 ?_;refine bL func68 (gO mb m a _ (hB.le j5) (5) (((0:Nat):Int))) rfl rfl (.c1 (.c1 .nil)) e9 λy5=>?_;have hB6:=kK (a:=5) (z:=((0:Nat):Int)) hB;refine g4 ?_
  obtain⟨Z,hZ⟩: ∃Z,zerosG (acc.take (acc.length-1)).length 0 (numG 5 0 s)=Z:=⟨_,rfl⟩
  refine g7 ?_;refine bT (ι:=(Option Addr×Nat)×GnS×Nat) [(0,_),(3,_),(4,_),(7,_),(43,_)] ⟨rfl,rfl,rfl,rfl,rfl,e9⟩ (λ⟨a1,t,i⟩=>[(44,.int .i64 (i:Nat))]) (λ⟨a1,t,i⟩=>[mkO mb (m.st a1 t),mkS (m.st a1 t)]) (λ⟨a1,t,i⟩=>[bC.pure (i<=(acc.take (acc.length-1)).length/\Z=zerosG ((acc.take (acc.length-1)).length-i) i t/\GnB (N+2+2*i) t)]) (λ⟨a1,t,i⟩=>(acc.take (acc.length-1)).length-i) (y5,numG (5) (((0:Nat):Int)) (s),0) ⟨rfl,e9⟩ (.c0 (.c0 .nil)) ⟨f4 (⟨j5,hZ.symm,hB6.le j5⟩),e9⟩ ?_;rintro⟨a1,t,i⟩;dsimp only;refine bG d7 λd=>?_;have n:=d.2.2;refine g6 ?_;refine dO (λG=>?_) λG=>?_
  .refine g14 ?_;refine inc (1+i) ?_;refine one ?_;refine bM (z':=((1+i:Nat):Int)) (gZ rfl j5) ?_;refine bL func68 (gO mb m a1 _ (n.le j5) ((((1+i):Nat):Int)) (((0:Nat):Int))) rfl rfl (.c0 (.c0 .nil)) e9 λy7=>?_;have hB8:=kK (a:=(((1+i):Nat):Int)) (z:=((0:Nat):Int)) n;refine g5 ?_;refine inc (i+1) ?_;refine g3 ?_;exact bk2 (y7,numG ((((1+i):Nat):Int)) (((0:Nat):Int)) (t),i+1) ⟨f4 (⟨by dsimp only;omega,by dsimp only;exact bWj d.2.1 j5,by dsimp only;exact hB8.le j5⟩),e9⟩
  refine g6 ?_;have J:=hZ.trans (bPd d.2.1 j5);refine g2 ?_;refine bL func25 (qX mb m a1 _ (n.le j5)) rfl rfl (.c0 (.c0 .nil)) e9 λy9=>?_;have U:=oT n;refine g7 ?_;refine bL func29 (rI mb m y9 _ (U.le j5) (t.R+1)) rfl rfl (.c0 (.c0 .nil)) e9 λy11=>?_;have C:=oN (k:=t.R+1) U (aW U.m);refine g7 ?_;refine bM (z':=((acc.length:Nat):Int)) (gZ rfl j5) ?_;refine g10 ?_;refine bR (t':=false) (by rw[o];rfl) ?_;refine g9 ?_;refine bR (t':=false) (by rw[o];rfl) ?_;refine g10 ?_;refine inc (acc.length-1) ?_;obtain⟨r,D⟩:=gx acc (acc.length-1);refine ss (bE hT (k:=(acc.length-1)) (bH d9) rfl rfl rfl rfl rfl rfl rfl j5) ?_;refine ss (f7 hT (cF.knows (bH d9) (k:=(acc.length-1)) (x:=r) D 0)) ?_;have hla:=lastG D;refine g4 ?_;refine jU (λw=>?_) λw=>?_
  .refine g4 ?_;refine bL func72 (Unit_spec x.fn) rfl rfl .nil e9 λ_=>?_;refine g11 ?_;refine bL func68 (gO mb m y11 _ (C.le j5) (7) ((unitW x.fn).1)) rfl rfl (.c0 (.c0 .nil)) e9 λy15=>?_;have hB16:=kK (a:=7) (z:=(unitW x.fn).1) C;refine g5 ?_;refine bL func70 (wY mb m y15 (numG (7) ((unitW x.fn).1) (hereG (t.R+1) (markG (t)))) (hB16.le j5) x 7 hb0 hbs hsz hA hS hU hdl) rfl rfl (.c0 (.c0 .nil)) ⟨(Has.of mT5),(Has.of mT6),e8,(Has.of mT8),e9⟩ λy17=>?_;have hB18:=sJ (M:=m.M) (x:=x.c) (a:=7) hB16;refine g4 ?_;have A:uG m.M x.c acc (hereG (t.R+1) (markG t))=storeG m.M x.c 7 (numG (7) ((unitW x.fn).1) (hereG (t.R+1) (markG (t)))):=bodyG0 o (hla.trans w)
   obtain⟨E,q⟩: ∃E,endsG (acc.take (acc.length-1)) (t.R+1) (acc.take (acc.length-1)).length (storeG m.M x.c 7 (numG (7) ((unitW x.fn).1) (hereG (t.R+1) (markG (t)))))=E:=⟨_,rfl⟩
   refine g4 ?_;refine bM (z':=(((acc.take (acc.length-1)).length:Nat):Int)-1) (yI rfl j5 j5) ?_;refine g4 ?_;refine bT (ι:=(Option Addr×Nat)×GnS×Nat) [(0,_),(7,_),(9,_)] ⟨rfl,rfl,rfl,e9⟩ (λ⟨a2,t2,j⟩=>[(14,.int .i64 ((j:Nat)-1:Int))]) (λ⟨a2,t2,j⟩=>[mkO mb (m.st a2 t2),mkS (m.st a2 t2)]) (λ⟨a2,t2,j⟩=>[bC.pure (j<=(acc.take (acc.length-1)).length/\E=endsG (acc.take (acc.length-1)) (t.R+1) j t2/\GnB (N+12*x.ops.B.length+100+6*((acc.take (acc.length-1)).length-j)) t2)]) (λ⟨a2,t2,j⟩=>j) (y17,storeG m.M x.c 7 (numG (7) ((unitW x.fn).1) (hereG (t.R+1) (markG (t)))),(acc.take (acc.length-1)).length) ⟨rfl,e9⟩ (.c0 (.c0 .nil)) ⟨f4 (⟨j5,q.symm,hB18.le j5⟩),e9⟩ ?_;rintro⟨a2,t2,j⟩;dsimp only;refine bG d7 λb=>?_;have e:=b.2.2;refine g7 ?_;refine bOr (λg=>?_) λg=>?_
   .obtain⟨i,rfl⟩: ∃i,j=i+1:=⟨j-1,j5⟩
    refine g9 ?_;refine inc (1+i) ?_;refine one ?_;refine bM (z':=((1+i:Nat):Int)) (gZ rfl j5) ?_;refine g2 ?_;obtain⟨x19,hx20⟩:=gx (acc.take (acc.length-1)) i (j5);refine ss (bE hT (k:=i) (bH d9) rfl rfl rfl rfl rfl rfl j5 (j5)) ?_;refine ss (f7 hT (cF.knows (bH d9) (k:=i) (x:=x19) hx20 0)) ?_;refine bM (z':=(acc.take (acc.length-1)).getD i 0) (vB hx20).symm ?_;refine one ?_;refine bL func73 (uA mb m a2 _ (e.le j5) ((1+i:Nat):Int) ((acc.take (acc.length-1)).getD i 0) (t.R+1)) rfl rfl (.c0 (.c0 .nil)) e9 λy21=>?_;have hB22:=uD (i:=((1+i:Nat):Int)) (z:=((acc.take (acc.length-1)).getD i 0)) (dst:=t.R+1) e;refine g6 ?_;refine inc (1+i) ?_;refine one ?_;refine bM (z':=((1+i:Nat):Int)) (gZ rfl j5) ?_;refine bL func68 (gO mb m y21 _ (hB22.le j5) ((((1+i):Nat):Int)) (((0:Nat):Int))) rfl rfl (.c0 (.c0 .nil)) e9 λy23=>?_;have hB24:=kK (a:=(((1+i):Nat):Int)) (z:=((0:Nat):Int)) hB22;refine g6 ?_;refine bM (z':=((i:Nat):Int)-1) (yI j5 j5 j5) ?_;refine g3 ?_;exact bk2 (y23,numG ((((1+i):Nat):Int)) (((0:Nat):Int)) (againG ((1+i:Nat):Int) ((acc.take (acc.length-1)).getD i 0) (t.R+1) (t2)),i) ⟨f4 (⟨by dsimp only;omega,by dsimp only;exact b.2.1,by dsimp only;exact hB24.le j5⟩),e9⟩
   refine g4 ?_;have u:j=0:=j5
   subst u;have K:qJ m.M x.c s=t2:=bEu hL ho h J A (q.trans b.2.1);rw[show(λy:Option Addr×Nat=>[mkO mb (m.st y (qJ m.M x.c s)),mkS (m.st y (qJ m.M x.c s))])=λy=>[mkO mb (m.st y t2),mkS (m.st y t2)] by rw[K]];exact dE a2 rfl (.c0 (.c0 .nil)) e9 rfl
  refine g4 ?_;refine bL func68 (gO mb m y11 _ (C.le j5) (((acc.length:Nat):Int)) (((0:Nat):Int))) rfl rfl (.c0 (.c0 .nil)) e9 λy25=>?_;have hB26:=kK (a:=((acc.length:Nat):Int)) (z:=((0:Nat):Int)) C;refine g5 ?_;refine bL func25 (qX mb m y25 _ (hB26.le j5)) rfl rfl (.c0 (.c0 .nil)) e9 λy27=>?_;have R:=oT hB26;refine g7 ?_;refine bL func29 (rI mb m y27 _ (R.le j5) ((numG (((acc.length:Nat):Int)) (((0:Nat):Int)) (hereG (t.R+1) (markG (t)))).R+1)) rfl rfl (.c0 (.c0 .nil)) e9 λy29=>?_;have hB30:=oN (k:=(numG (((acc.length:Nat):Int)) (((0:Nat):Int)) (hereG (t.R+1) (markG (t)))).R+1) R (aW R.m);refine g7 ?_;refine bK (bRx x.ops) (mA (Has.of mT5)) ?_;refine bL func69 (bHy mb m y29 (hereG ((numG (((acc.length:Nat):Int)) (((0:Nat):Int)) (hereG (t.R+1) (markG (t)))).R+1) (markG (numG (((acc.length:Nat):Int)) (((0:Nat):Int)) (hereG (t.R+1) (markG (t)))))) _ hB30 x.ops j5 hO hsz hD hdl) rfl rfl (.c0 (.c0 .nil)) ⟨d7,e8,(Has.of mT8),(Has.of mT9),e9⟩ λy31=>?_;have Q:=bCs (M:=m.M) (l:=opsL x.ops.B) (k:=0) hB30;rw[fQ]at Q;refine g8 ?_;refine bL func71 (bUw mb m y31 _ (Q.le j5) x.fn ((acc.length:Nat):Int)) rfl rfl (.c0 (.c0 .nil)) e9 λy33=>?_;have hB34:=bLi (f:=x.fn) (i:=((acc.length:Nat):Int)) Q;refine g10 ?_;refine inc (acc.length-1) ?_;refine ss (bE hT (k:=(acc.length-1)) (bH e6) rfl rfl rfl rfl rfl rfl rfl j5) ?_;refine ss (f7 hT (cF.knows (bH e6) (k:=(acc.length-1)) (x:=r) D 0)) ?_;refine one ?_;refine bL func73 (uA mb m y33 _ (hB34.le j5) ((acc.length:Nat):Int) r ((numG (((acc.length:Nat):Int)) (((0:Nat):Int)) (hereG (t.R+1) (markG (t)))).R+1)) rfl rfl (.c0 (.c0 .nil)) e9 λy35=>?_;have hB36:=uD (i:=((acc.length:Nat):Int)) (z:=r) (dst:=(numG (((acc.length:Nat):Int)) (((0:Nat):Int)) (hereG (t.R+1) (markG (t)))).R+1) hB34;refine g5 ?_;refine bL func70 (wY mb m y35 (againG ((acc.length:Nat):Int) r ((numG (((acc.length:Nat):Int)) (((0:Nat):Int)) (hereG (t.R+1) (markG (t)))).R+1) (foldG x.fn ((acc.length:Nat):Int) (opsG m.M (opsL x.ops.B) 0 (hereG ((numG (((acc.length:Nat):Int)) (((0:Nat):Int)) (hereG (t.R+1) (markG (t)))).R+1) (markG (numG (((acc.length:Nat):Int)) (((0:Nat):Int)) (hereG (t.R+1) (markG (t))))))))) (hB36.le j5) x 7 hb0 hbs hsz hA hS hU hdl) rfl rfl (.c0 (.c0 .nil)) ⟨(Has.of mT6),e8,(Has.of mT8),(Has.of mT9),e9⟩ λy37=>?_;have hB38:=sJ (M:=m.M) (x:=x.c) (a:=7) hB36;refine g4 ?_;have A:uG m.M x.c acc (hereG (t.R+1) (markG t))=storeG m.M x.c 7 (againG ((acc.length:Nat):Int) r ((numG (((acc.length:Nat):Int)) (((0:Nat):Int)) (hereG (t.R+1) (markG (t)))).R+1) (foldG x.fn ((acc.length:Nat):Int) (opsG m.M (opsL x.ops.B) 0 (hereG ((numG (((acc.length:Nat):Int)) (((0:Nat):Int)) (hereG (t.R+1) (markG (t)))).R+1) (markG (numG (((acc.length:Nat):Int)) (((0:Nat):Int)) (hereG (t.R+1) (markG (t))))))))):=bodyG2 o rfl hla w
  obtain⟨E,q⟩: ∃E,endsG (acc.take (acc.length-1)) (t.R+1) (acc.take (acc.length-1)).length (storeG m.M x.c 7 (againG ((acc.length:Nat):Int) r ((numG (((acc.length:Nat):Int)) (((0:Nat):Int)) (hereG (t.R+1) (markG (t)))).R+1) (foldG x.fn ((acc.length:Nat):Int) (opsG m.M (opsL x.ops.B) 0 (hereG ((numG (((acc.length:Nat):Int)) (((0:Nat):Int)) (hereG (t.R+1) (markG (t)))).R+1) (markG (numG (((acc.length:Nat):Int)) (((0:Nat):Int)) (hereG (t.R+1) (markG (t))))))))))=E:=⟨_,rfl⟩
  refine g4 ?_;refine bM (z':=(((acc.take (acc.length-1)).length:Nat):Int)-1) (yI rfl j5 j5) ?_;refine g4 ?_;refine bT (ι:=(Option Addr×Nat)×GnS×Nat) [(0,_),(7,_),(9,_)] ⟨rfl,rfl,rfl,e9⟩ (λ⟨a2,t2,j⟩=>[(14,.int .i64 ((j:Nat)-1:Int))]) (λ⟨a2,t2,j⟩=>[mkO mb (m.st a2 t2),mkS (m.st a2 t2)]) (λ⟨a2,t2,j⟩=>[bC.pure (j<=(acc.take (acc.length-1)).length/\E=endsG (acc.take (acc.length-1)) (t.R+1) j t2/\GnB (N+12*x.ops.B.length+100+6*((acc.take (acc.length-1)).length-j)) t2)]) (λ⟨a2,t2,j⟩=>j) (y37,storeG m.M x.c 7 (againG ((acc.length:Nat):Int) r ((numG (((acc.length:Nat):Int)) (((0:Nat):Int)) (hereG (t.R+1) (markG (t)))).R+1) (foldG x.fn ((acc.length:Nat):Int) (opsG m.M (opsL x.ops.B) 0 (hereG ((numG (((acc.length:Nat):Int)) (((0:Nat):Int)) (hereG (t.R+1) (markG (t)))).R+1) (markG (numG (((acc.length:Nat):Int)) (((0:Nat):Int)) (hereG (t.R+1) (markG (t))))))))),(acc.take (acc.length-1)).length) ⟨rfl,e9⟩ (.c0 (.c0 .nil)) ⟨f4 (⟨j5,q.symm,hB38.le j5⟩),e9⟩ ?_;rintro⟨a2,t2,j⟩;dsimp only;refine bG d7 λb=>?_;have e:=b.2.2;refine g7 ?_;refine bOr (λg=>?_) λg=>?_
  .obtain⟨i,rfl⟩: ∃i,j=i+1:=⟨j-1,j5⟩
   refine g9 ?_;refine inc (1+i) ?_;refine one ?_;refine bM (z':=((1+i:Nat):Int)) (gZ rfl j5) ?_;refine g2 ?_;obtain⟨x39,Y⟩:=gx (acc.take (acc.length-1)) i (j5);refine ss (bE hT (k:=i) (bH e6) rfl rfl rfl rfl rfl rfl j5 (j5)) ?_;refine ss (f7 hT (cF.knows (bH e6) (k:=i) (x:=x39) Y 0)) ?_;refine bM (z':=(acc.take (acc.length-1)).getD i 0) (vB Y).symm ?_;refine one ?_;refine bL func73 (uA mb m a2 _ (e.le j5) ((1+i:Nat):Int) ((acc.take (acc.length-1)).getD i 0) (t.R+1)) rfl rfl (.c0 (.c0 .nil)) e9 λy41=>?_;have hB42:=uD (i:=((1+i:Nat):Int)) (z:=((acc.take (acc.length-1)).getD i 0)) (dst:=t.R+1) e;refine g6 ?_;refine inc (1+i) ?_;refine one ?_;refine bM (z':=((1+i:Nat):Int)) (gZ rfl j5) ?_;refine bL func68 (gO mb m y41 _ (hB42.le j5) ((((1+i):Nat):Int)) (((0:Nat):Int))) rfl rfl (.c0 (.c0 .nil)) e9 λy43=>?_;have hB44:=kK (a:=(((1+i):Nat):Int)) (z:=((0:Nat):Int)) hB42;refine g6 ?_;refine bM (z':=((i:Nat):Int)-1) (yI j5 j5 j5) ?_;refine g3 ?_;exact bk2 (y43,numG ((((1+i):Nat):Int)) (((0:Nat):Int)) (againG ((1+i:Nat):Int) ((acc.take (acc.length-1)).getD i 0) (t.R+1) (t2)),i) ⟨f4 (⟨by dsimp only;omega,by dsimp only;exact b.2.1,by dsimp only;exact hB44.le j5⟩),e9⟩
  refine g4 ?_;have u:j=0:=j5
  subst u;have K:qJ m.M x.c s=t2:=bEu hL ho h J A (q.trans b.2.1);rw[show(λy:Option Addr×Nat=>[mkO mb (m.st y (qJ m.M x.c s)),mkS (m.st y (qJ m.M x.c s))])=λy=>[mkO mb (m.st y t2),mkS (m.st y t2)] by rw[K]];exact dE a2 rfl (.c0 (.c0 .nil)) e9 rfl
 have ho:zA x.c acc=acc:=if_neg o;refine g6 ?_;have hOl:acc.length<=4:=j5
 refine bL func67 (pY LA lc acc j5 0) rfl rfl .nil ⟨d7,e9⟩ λ_=>?_;refine g2 ?_;refine vN (λh=>?_) λh=>?_
 .refine g2 ?_;have K:qJ m.M x.c s=s:=bOw hL ho h;rw[show(λy:Option Addr×Nat=>[mkO mb (m.st y (qJ m.M x.c s)),mkS (m.st y (qJ m.M x.c s))])=λy=>[mkO mb (m.st y s),mkS (m.st y s)] by rw[K]];exact dE a rfl (.c1 (.c1 .nil)) e9 rfl
 refine g5 ?_;refine bL func68 (gO mb m a _ (hB.le j5) (5) (((0:Nat):Int))) rfl rfl (.c1 (.c1 .nil)) e9 λy45=>?_;have hB46:=kK (a:=5) (z:=((0:Nat):Int)) hB;refine g4 ?_
 obtain⟨Z,hZ⟩: ∃Z,zerosG acc.length 0 (numG 5 0 s)=Z:=⟨_,rfl⟩
 refine g7 ?_;refine bT (ι:=(Option Addr×Nat)×GnS×Nat) [(0,_),(3,_),(4,_),(7,_),(43,_)] ⟨rfl,rfl,rfl,rfl,rfl,e9⟩ (λ⟨a1,t,i⟩=>[(44,.int .i64 (i:Nat))]) (λ⟨a1,t,i⟩=>[mkO mb (m.st a1 t),mkS (m.st a1 t)]) (λ⟨a1,t,i⟩=>[bC.pure (i<=acc.length/\Z=zerosG (acc.length-i) i t/\GnB (N+2+2*i) t)]) (λ⟨a1,t,i⟩=>acc.length-i) (y45,numG (5) (((0:Nat):Int)) (s),0) ⟨rfl,e9⟩ (.c0 (.c0 .nil)) ⟨f4 (⟨j5,hZ.symm,hB46.le j5⟩),e9⟩ ?_;rintro⟨a1,t,i⟩;dsimp only;refine bG d7 λd=>?_;have n:=d.2.2;refine g6 ?_;refine dO (λG=>?_) λG=>?_
 .refine g14 ?_;refine inc (1+i) ?_;refine one ?_;refine bM (z':=((1+i:Nat):Int)) (gZ rfl j5) ?_;refine bL func68 (gO mb m a1 _ (n.le j5) ((((1+i):Nat):Int)) (((0:Nat):Int))) rfl rfl (.c0 (.c0 .nil)) e9 λy47=>?_;have hB48:=kK (a:=(((1+i):Nat):Int)) (z:=((0:Nat):Int)) n;refine g5 ?_;refine inc (i+1) ?_;refine g3 ?_;exact bk2 (y47,numG ((((1+i):Nat):Int)) (((0:Nat):Int)) (t),i+1) ⟨f4 (⟨by dsimp only;omega,by dsimp only;exact bWj d.2.1 j5,by dsimp only;exact hB48.le j5⟩),e9⟩
 refine g6 ?_;have J:=hZ.trans (bPd d.2.1 j5);refine g2 ?_;refine bL func25 (qX mb m a1 _ (n.le j5)) rfl rfl (.c0 (.c0 .nil)) e9 λy49=>?_;have P:=oT n;refine g7 ?_;refine bL func29 (rI mb m y49 _ (P.le j5) (t.R+1)) rfl rfl (.c0 (.c0 .nil)) e9 λy51=>?_;have B:=oN (k:=t.R+1) P (aW P.m);refine g7 ?_;refine bM (z':=((acc.length:Nat):Int)) (gZ rfl j5) ?_;refine g13 ?_;refine jU (λhc91=>?_) λhc91=>?_
 .refine g5 ?_;refine bK (bRx x.ops) (mA e7) ?_;refine bL func69 (bHy mb m y51 (hereG (t.R+1) (markG (t))) _ B x.ops j5 hO hsz hD hdl) rfl rfl (.c0 (.c0 .nil)) ⟨d7,(Has.of mT6),e8,(Has.of mT8),e9⟩ λy53=>?_;have O:=bCs (M:=m.M) (l:=opsL x.ops.B) (k:=0) B;rw[fQ]at O;refine g5 ?_;refine bL func70 (wY mb m y53 (opsG m.M (opsL x.ops.B) 0 (hereG (t.R+1) (markG (t)))) (O.le j5) x 8 hb0 hbs hsz hA hS hU hdl) rfl rfl (.c0 (.c0 .nil)) ⟨(Has.of mT5),(Has.of mT6),e8,(Has.of mT8),e9⟩ λy55=>?_;have hB56:=sJ (M:=m.M) (x:=x.c) (a:=8) O;refine g4 ?_;have A:uG m.M x.c acc (hereG (t.R+1) (markG t))=storeG m.M x.c 8 (opsG m.M (opsL x.ops.B) 0 (hereG (t.R+1) (markG (t)))):=bodyG1 hc91
  obtain⟨E,q⟩: ∃E,endsG acc (t.R+1) acc.length (storeG m.M x.c 8 (opsG m.M (opsL x.ops.B) 0 (hereG (t.R+1) (markG (t)))))=E:=⟨_,rfl⟩
  refine g4 ?_;refine bM (z':=((acc.length:Nat):Int)-1) (yI rfl j5 j5) ?_;refine g4 ?_;refine bT (ι:=(Option Addr×Nat)×GnS×Nat) [(0,_),(7,_),(9,_)] ⟨rfl,rfl,rfl,e9⟩ (λ⟨a2,t2,j⟩=>[(14,.int .i64 ((j:Nat)-1:Int))]) (λ⟨a2,t2,j⟩=>[mkO mb (m.st a2 t2),mkS (m.st a2 t2)]) (λ⟨a2,t2,j⟩=>[bC.pure (j<=acc.length/\E=endsG acc (t.R+1) j t2/\GnB (N+12*x.ops.B.length+100+6*(acc.length-j)) t2)]) (λ⟨a2,t2,j⟩=>j) (y55,storeG m.M x.c 8 (opsG m.M (opsL x.ops.B) 0 (hereG (t.R+1) (markG (t)))),acc.length) ⟨rfl,e9⟩ (.c0 (.c0 .nil)) ⟨f4 (⟨j5,q.symm,hB56.le j5⟩),e9⟩ ?_;rintro⟨a2,t2,j⟩;dsimp only;refine bG d7 λb=>?_;have e:=b.2.2;refine g7 ?_;refine bOr (λg=>?_) λg=>?_
  .obtain⟨i,rfl⟩: ∃i,j=i+1:=⟨j-1,j5⟩
   refine g9 ?_;refine inc (1+i) ?_;refine one ?_;refine bM (z':=((1+i:Nat):Int)) (gZ rfl j5) ?_;refine g2 ?_;obtain⟨x57,X⟩:=gx acc i (j5);refine ss (bE hT (k:=i) (bH e6) rfl rfl rfl rfl rfl rfl j5 (j5)) ?_;refine ss (f7 hT (cF.knows (bH e6) (k:=i) (x:=x57) X 0)) ?_;refine bM (z':=acc.getD i 0) (vB X).symm ?_;refine one ?_;refine bL func73 (uA mb m a2 _ (e.le j5) ((1+i:Nat):Int) (acc.getD i 0) (t.R+1)) rfl rfl (.c0 (.c0 .nil)) e9 λy59=>?_;have hB60:=uD (i:=((1+i:Nat):Int)) (z:=(acc.getD i 0)) (dst:=t.R+1) e;refine g6 ?_;refine inc (1+i) ?_;refine one ?_;refine bM (z':=((1+i:Nat):Int)) (gZ rfl j5) ?_;refine bL func68 (gO mb m y59 _ (hB60.le j5) ((((1+i):Nat):Int)) (((0:Nat):Int))) rfl rfl (.c0 (.c0 .nil)) e9 λy61=>?_;have hB62:=kK (a:=(((1+i):Nat):Int)) (z:=((0:Nat):Int)) hB60;refine g6 ?_;refine bM (z':=((i:Nat):Int)-1) (yI j5 j5 j5) ?_;refine g3 ?_;exact bk2 (y61,numG ((((1+i):Nat):Int)) (((0:Nat):Int)) (againG ((1+i:Nat):Int) (acc.getD i 0) (t.R+1) (t2)),i) ⟨f4 (⟨by dsimp only;omega,by dsimp only;exact b.2.1,by dsimp only;exact hB62.le j5⟩),e9⟩
  refine g4 ?_;have u:j=0:=j5
  subst u;have K:qJ m.M x.c s=t2:=bEu hL ho h J A (q.trans b.2.1);rw[show(λy:Option Addr×Nat=>[mkO mb (m.st y (qJ m.M x.c s)),mkS (m.st y (qJ m.M x.c s))])=λy=>[mkO mb (m.st y t2),mkS (m.st y t2)] by rw[K]];exact dE a2 rfl (.c0 (.c0 .nil)) e9 rfl
 refine g8 ?_;refine jU (λI=>?_) λI=>?_
 .refine g5 ?_;refine bK (bRx x.ops) (mA e7) ?_;refine bL func69 (bHy mb m y51 (hereG (t.R+1) (markG (t))) _ B x.ops j5 hO hsz hD hdl) rfl rfl (.c0 (.c0 .nil)) ⟨d7,(Has.of mT6),e8,(Has.of mT8),e9⟩ λy63=>?_;have L:=bCs (M:=m.M) (l:=opsL x.ops.B) (k:=0) B;rw[fQ]at L;refine g8 ?_;refine bL func71 (bUw mb m y63 _ (L.le j5) x.fn ((acc.length:Nat):Int)) rfl rfl (.c0 (.c0 .nil)) e9 λy65=>?_;have hB66:=bLi (f:=x.fn) (i:=((acc.length:Nat):Int)) L;refine g5 ?_;refine bL func70 (wY mb m y65 (foldG x.fn ((acc.length:Nat):Int) (opsG m.M (opsL x.ops.B) 0 (hereG (t.R+1) (markG (t))))) (hB66.le j5) x 7 hb0 hbs hsz hA hS hU hdl) rfl rfl (.c0 (.c0 .nil)) ⟨(Has.of mT5),(Has.of mT6),e8,(Has.of mT8),e9⟩ λy67=>?_;have hB68:=sJ (M:=m.M) (x:=x.c) (a:=7) hB66;refine g4 ?_;have A:uG m.M x.c acc (hereG (t.R+1) (markG t))=storeG m.M x.c 7 (foldG x.fn ((acc.length:Nat):Int) (opsG m.M (opsL x.ops.B) 0 (hereG (t.R+1) (markG (t))))):=bodyG3 I
  obtain⟨E,q⟩: ∃E,endsG acc (t.R+1) acc.length (storeG m.M x.c 7 (foldG x.fn ((acc.length:Nat):Int) (opsG m.M (opsL x.ops.B) 0 (hereG (t.R+1) (markG (t))))))=E:=⟨_,rfl⟩
  refine g4 ?_;refine bM (z':=((acc.length:Nat):Int)-1) (yI rfl j5 j5) ?_;refine g4 ?_;refine bT (ι:=(Option Addr×Nat)×GnS×Nat) [(0,_),(7,_),(9,_)] ⟨rfl,rfl,rfl,e9⟩ (λ⟨a2,t2,j⟩=>[(14,.int .i64 ((j:Nat)-1:Int))]) (λ⟨a2,t2,j⟩=>[mkO mb (m.st a2 t2),mkS (m.st a2 t2)]) (λ⟨a2,t2,j⟩=>[bC.pure (j<=acc.length/\E=endsG acc (t.R+1) j t2/\GnB (N+12*x.ops.B.length+100+6*(acc.length-j)) t2)]) (λ⟨a2,t2,j⟩=>j) (y67,storeG m.M x.c 7 (foldG x.fn ((acc.length:Nat):Int) (opsG m.M (opsL x.ops.B) 0 (hereG (t.R+1) (markG (t))))),acc.length) ⟨rfl,e9⟩ (.c0 (.c0 .nil)) ⟨f4 (⟨j5,q.symm,hB68.le j5⟩),e9⟩ ?_;rintro⟨a2,t2,j⟩;dsimp only;refine bG d7 λb=>?_;have e:=b.2.2;refine g7 ?_;refine bOr (λg=>?_) λg=>?_
  .obtain⟨i,rfl⟩: ∃i,j=i+1:=⟨j-1,j5⟩
   refine g9 ?_;refine inc (1+i) ?_;refine one ?_;refine bM (z':=((1+i:Nat):Int)) (gZ rfl j5) ?_;refine g2 ?_;obtain⟨x69,W⟩:=gx acc i (j5);refine ss (bE hT (k:=i) (bH e6) rfl rfl rfl rfl rfl rfl j5 (j5)) ?_;refine ss (f7 hT (cF.knows (bH e6) (k:=i) (x:=x69) W 0)) ?_;refine bM (z':=acc.getD i 0) (vB W).symm ?_;refine one ?_;refine bL func73 (uA mb m a2 _ (e.le j5) ((1+i:Nat):Int) (acc.getD i 0) (t.R+1)) rfl rfl (.c0 (.c0 .nil)) e9 λy71=>?_;have hB72:=uD (i:=((1+i:Nat):Int)) (z:=(acc.getD i 0)) (dst:=t.R+1) e;refine g6 ?_;refine inc (1+i) ?_;refine one ?_;refine bM (z':=((1+i:Nat):Int)) (gZ rfl j5) ?_;refine bL func68 (gO mb m y71 _ (hB72.le j5) ((((1+i):Nat):Int)) (((0:Nat):Int))) rfl rfl (.c0 (.c0 .nil)) e9 λy73=>?_;have hB74:=kK (a:=(((1+i):Nat):Int)) (z:=((0:Nat):Int)) hB72;refine g6 ?_;refine bM (z':=((i:Nat):Int)-1) (yI j5 j5 j5) ?_;refine g3 ?_;exact bk2 (y73,numG ((((1+i):Nat):Int)) (((0:Nat):Int)) (againG ((1+i:Nat):Int) (acc.getD i 0) (t.R+1) (t2)),i) ⟨f4 (⟨by dsimp only;omega,by dsimp only;exact b.2.1,by dsimp only;exact hB74.le j5⟩),e9⟩
  refine g4 ?_;have u:j=0:=j5
  subst u;have K:qJ m.M x.c s=t2:=bEu hL ho h J A (q.trans b.2.1);rw[show(λy:Option Addr×Nat=>[mkO mb (m.st y (qJ m.M x.c s)),mkS (m.st y (qJ m.M x.c s))])=λy=>[mkO mb (m.st y t2),mkS (m.st y t2)] by rw[K]];exact dE a2 rfl (.c0 (.c0 .nil)) e9 rfl
 exfalso
 omega
theorem minG{a:Int}:(if (4194304:Int)<a then (4194304:Int)else a)=min a 4194304:=by split<;>omega
theorem mulG{n v:Int}(h0:0<=n)(h1:n<=4194304)(h2:0<=v)(h3:v<=65537):IntKind.i64.wrap (n*v)=n*v:=by have a:=aO h0 h2;have b:n*v<=4194304*65537:=eG h1 h3 h2 j5;exact jO j5 j5
section
variable {f : Bool} {ds : List Int} {l : List (List Mono)} {i : Nat} {n : Int} {T : Option Int} {p : List Mono}
theorem bTz(h:T=turnG f ds (l.drop i) n)(hx:l[i]?=some p)(hb:(bF p ds).2≠0\/65536<(bF p ds).1):T=none:=by obtain⟨hlt,e⟩:=G3.1 hx;rw[h,<-aH hlt,e];exact if_pos hb
theorem wG(h:T=turnG f ds (l.drop i) n)(hx:l[i]?=some p)(h2:(bF p ds).2=0)(h3:(bF p ds).1<=65536){v:Int}(hv:v=if f=true/\i+1=l.length then (bF p ds).1+1 else (bF p ds).1):T=turnG f ds (l.drop (i+1)) (if v=0 then 0 else min (n*v) 4194304):=by
 obtain⟨hlt,e⟩:=G3.1 hx
 have a:(if f=true/\l.drop (i+1)=[]then (bF p ds).1+1 else (bF p ds).1)=v:=by
  rw[hv];have:l.drop (i+1)=[]↔i+1=l.length:=by rw[eO];omega
  simp only[this]
 rw[h,<-aH hlt,e,turnG,if_neg j5,a]
theorem turnG_end(h:T=turnG f ds (l.drop i) n)(hi:l.length<=i):T=some n:=by rw[h,U8 hi];rfl
end
section
variable {ds : List Int} {l : List cT} {i : Nat} {a n : Int} {R : Bool} {x : cT}
theorem bHv(h:R=turnsG ds (l.drop i) a)(hx:l[i]?=some x):R=match turnG (x.N==2) ds x.H (x.ops.length:Nat)with
  |none=>false
  |some n=>if 2097152<a+n then false else turnsG ds (l.drop (i+1)) (a+n):=by obtain⟨hlt,e⟩:=G3.1 hx;rw[h,<-aH hlt,e];rfl
theorem bVr(h:R=turnsG ds (l.drop i) a)(hx:l[i]?=some x)(ht:turnG (x.N==2) ds x.H (x.ops.length:Nat)=none):R=false:=by rw[bHv h hx,ht]
theorem turnsG_many(h:R=turnsG ds (l.drop i) a)(hx:l[i]?=some x)(ht:turnG (x.N==2) ds x.H (x.ops.length:Nat)=some n)(hm:2097152<a+n):R=false:=by rw[bHv h hx,ht];exact if_pos hm
theorem turnsG_go(h:R=turnsG ds (l.drop i) a)(hx:l[i]?=some x)(ht:turnG (x.N==2) ds x.H (x.ops.length:Nat)=some n)(hm: ¬2097152<a+n):R=turnsG ds (l.drop (i+1)) (a+n):=by rw[bHv h hx,ht];exact if_neg hm
theorem turnsG_end(h:R=turnsG ds (l.drop i) a)(hi:l.length<=i):R=true:=by rw[h,U8 hi];rfl
end
set_option maxHeartbeats 1000000 in
theorem turnsF_spec(c:fX)(hr:dC c.c=true)(DA:Option Addr)(dcap:Nat)(dims:List Int)(hdl:dims.length<=140737488355328):cJ prog 24 [.agg #[j3 c.vars,f9 c.C,f9 c.D,f9 c.Q],.slice DA dims.length dcap] [] [lH c,dA.sl (.slice DA dims.length dcap) dims] (λ(_:Unit)=> .bool (turnsG dims c.c.D 0)) (λ_=>[]) (λ_=>[]):=by
 have hT:=dL
 obtain⟨R,y⟩: ∃R,turnsG dims c.c.D 0=R:=⟨_,rfl⟩
 refine j1 func24 ntmps24 ?_;intro β hM;refine g2 ?_;refine j0 λI=>?_;refine g10 ?_;refine bK (pU.sl (.slice c.D.O c.D.B.length c.D.cap) c.D.B) (lM (gS d7))<|bG (stepsF_c (gS d8)) λm=>?_;have D:=m.1;have C:=m.2;refine g8 ?_;refine bT (ι:=Int×Nat) [(1,_),(14,_),(15,_)] ⟨rfl,rfl,rfl,e9⟩ (λ⟨al,i⟩=>[(5,.int .i64 al),(16,.int .i64 (i:Nat))]) (λ_=>[]) (λ⟨al,i⟩=>[bC.pure (i<=c.D.B.length/\(0<=al/\al<=2097152)/\R=turnsG dims (c.c.D.drop i) al)]) (λ⟨al,i⟩=>c.D.B.length-i) (0,0) ⟨rfl,rfl,e9⟩ .nil ⟨f4 (⟨j5,j5,y.symm⟩),e9⟩ ?_;rintro⟨al,i⟩;dsimp only;refine bG d7 λd=>?_;refine g6 ?_;refine dO (λt=>?_) λt=>?_
 .refine g5 ?_;obtain⟨x,hx⟩:=gx c.D.B i;have hg:=bHp hr dims (f5 hx);refine bK (mO x) (Has.each (oM (gS d9)) (f5 hx)) ?_;have hlo:=hg.hlo;have hll:=hg.hll
  obtain⟨T,w⟩: ∃T,turnG (x.N==2) dims (polsL x.H.B) (x.ops.B.length:Nat)=T:=⟨_,rfl⟩
  have k:turnG (x.c.N==2) dims x.c.H (x.c.ops.length:Nat)=T:=by rw[show x.c.ops.length=x.ops.B.length from fQ _];exact w
  refine one ?_;refine ss (ixs i) ?_;refine ss (lI hx 0) ?_;refine i7 xE λG=>?_;refine g13 ?_;refine bK (fF.sl (.slice x.H.O x.H.B.length x.H.cap) x.H.B) (mW (nA d7)) ?_;refine g8 ?_;refine bT (ι:=Int×Nat) [(1,_),(5,_),(7,_),(14,_),(15,_),(16,_),(24,_),(25,_)] ⟨rfl,rfl,rfl,rfl,rfl,rfl,rfl,rfl,e9⟩ (λ⟨n,j⟩=>[(8,.int .i64 n),(26,.int .i64 (j:Nat))]) (λ_=>[]) (λ⟨n,j⟩=>[bC.pure (j<=x.H.B.length/\(0<=n/\n<=4194304)/\T=turnG (x.N==2) dims ((polsL x.H.B).drop j) n)]) (λ⟨n,j⟩=>x.H.B.length-j) ((x.ops.B.length:Nat),0) ⟨rfl,rfl,e9⟩ .nil ⟨f4 (⟨j5,j5,w.symm⟩),e9⟩ ?_;rintro⟨n,j⟩;dsimp only;refine bG d7 λa=>?_;refine g6 ?_;refine dO (λs=>?_) λs=>?_
  .refine g5 ?_;obtain⟨q,hq⟩:=gx x.H.B j;refine bK (cR q) (Has.each (mY (nA d9)) (f5 hq)) ?_;have A:=hg.hN q.B (f5 (cG hq));refine g2 ?_;refine ss (ixs j) ?_;refine ss (fV hq 0) ?_;refine g8 ?_;refine bG (dI d7) λB=>?_;refine bL func15 (bDk q DA dcap dims B hdl) rfl rfl .nil ⟨d7,e8,e9⟩ λ_=>?_;refine g9 ?_
   by_cases g:(bF q.B dims).2=0
   .have E:=A g;refine g3 ?_;refine bR (t':=false) (by rw[g];rfl) ?_;refine g6 ?_;refine dO (λr=>?_) λr=>?_
    .refine g17 ?_;have l:R=false:=bVr d.2.2 (cN hx) (k.trans (bTz a.2.2 (cG hq) (.inr j5)));exact rs1 () e9 (he:=by rw[y,l])
    refine g4 ?_
    by_cases z:x.N=2
    .refine g4 ?_;refine bR (t':=true) (by rw[z];rfl) ?_;refine g6 ?_;refine bM (z':=((x.H.B.length:Nat):Int)-1) (yI rfl j5 j5) ?_;refine g4 ?_;refine jU (λp=>?_) λp=>?_
     .have e:(bF q.B dims).1+1=if (x.N==2)=true/\j+1=(polsL x.H.B).length then (bF q.B dims).1+1 else (bF q.B dims).1:=by rw[bS,if_pos ⟨by rw[z];rfl,j5⟩]
      refine g3 ?_;refine bM (z':=(bF q.B dims).1+1) (jO j5 j5) ?_;refine g8 ?_;refine bM (z':=n*((bF q.B dims).1+1)) (mulG j5 j5 j5 j5) ?_;refine one ?_;refine bM (z':=min (n*((bF q.B dims).1+1)) 4194304) minG ?_;refine g9 ?_;refine jU (λb=>?_) λb=>?_
      .refine g7 ?_;refine inc (j+1) ?_;refine g3 ?_;have f:0<=n*((bF q.B dims).1+1):=aO j5 j5;exact bk2 (0,j+1) ⟨f4 (⟨by dsimp only;omega,by dsimp only;omega,by dsimp only;exact(wG a.2.2 (cG hq) g j5 (v:=((bF q.B dims).1+1)) (e)).trans (by rw[if_pos b])⟩),e9⟩
      refine g5 ?_;refine inc (j+1) ?_;refine g3 ?_;have f:0<=n*((bF q.B dims).1+1):=aO j5 j5;exact bk2 (min (n*((bF q.B dims).1+1)) 4194304,j+1) ⟨f4 (⟨by dsimp only;omega,by dsimp only;omega,by dsimp only;exact(wG a.2.2 (cG hq) g j5 (v:=((bF q.B dims).1+1)) (e)).trans (by rw[if_neg b])⟩),e9⟩
     have e:(bF q.B dims).1=if (x.N==2)=true/\j+1=(polsL x.H.B).length then (bF q.B dims).1+1 else (bF q.B dims).1:=by rw[bS,if_neg (λh=>by have:=h.2;omega)]
     refine g7 ?_;refine bM (z':=n*(bF q.B dims).1) (mulG j5 j5 j5 j5) ?_;refine one ?_;refine bM (z':=min (n*(bF q.B dims).1) 4194304) minG ?_;refine g9 ?_;refine jU (λb=>?_) λb=>?_
     .refine g7 ?_;refine inc (j+1) ?_;refine g3 ?_;have f:0<=n*(bF q.B dims).1:=aO j5 j5;exact bk2 (0,j+1) ⟨f4 (⟨by dsimp only;omega,by dsimp only;omega,by dsimp only;exact(wG a.2.2 (cG hq) g j5 (v:=(bF q.B dims).1) (e)).trans (by rw[if_pos b])⟩),e9⟩
     refine g5 ?_;refine inc (j+1) ?_;refine g3 ?_;have f:0<=n*(bF q.B dims).1:=aO j5 j5;exact bk2 (min (n*(bF q.B dims).1) 4194304,j+1) ⟨f4 (⟨by dsimp only;omega,by dsimp only;omega,by dsimp only;exact(wG a.2.2 (cG hq) g j5 (v:=(bF q.B dims).1) (e)).trans (by rw[if_neg b])⟩),e9⟩
    have e:(bF q.B dims).1=if (x.N==2)=true/\j+1=(polsL x.H.B).length then (bF q.B dims).1+1 else (bF q.B dims).1:=by rw[bS,if_neg (λh=>z (by simpa using h.1))]
    refine g4 ?_;refine bR (t':=false) (by simpa using z) ?_;refine g18 ?_;refine bM (z':=n*(bF q.B dims).1) (mulG j5 j5 j5 j5) ?_;refine one ?_;refine bM (z':=min (n*(bF q.B dims).1) 4194304) minG ?_;refine g9 ?_;refine jU (λb=>?_) λb=>?_
    .refine g7 ?_;refine inc (j+1) ?_;refine g3 ?_;have f:0<=n*(bF q.B dims).1:=aO j5 j5;exact bk2 (0,j+1) ⟨f4 (⟨by dsimp only;omega,by dsimp only;omega,by dsimp only;exact(wG a.2.2 (cG hq) g j5 (v:=(bF q.B dims).1) (e)).trans (by rw[if_pos b])⟩),e9⟩
    refine g5 ?_;refine inc (j+1) ?_;refine g3 ?_;have f:0<=n*(bF q.B dims).1:=aO j5 j5;exact bk2 (min (n*(bF q.B dims).1) 4194304,j+1) ⟨f4 (⟨by dsimp only;omega,by dsimp only;omega,by dsimp only;exact(wG a.2.2 (cG hq) g j5 (v:=(bF q.B dims).1) (e)).trans (by rw[if_neg b])⟩),e9⟩
   refine g3 ?_;refine bR (t':=true) (by simpa using g) ?_;refine g24 ?_;have l:R=false:=bVr d.2.2 (cN hx) (k.trans (bTz a.2.2 (cG hq) (.inl g)));exact rs1 () e9 (he:=by rw[y,l])
  refine g6 ?_;have u:=k.trans (turnG_end a.2.2 p9);refine g4 ?_;refine bM (z':=al+n) (jO j5 j5) ?_;refine g9 ?_;refine dO (λo=>?_) λo=>?_
  .refine g11 ?_;have l:R=false:=turnsG_many d.2.2 (cN hx) u j5;exact rs1 () e9 (he:=by rw[y,l])
  refine g5 ?_;refine inc (i+1) ?_;refine g3 ?_;exact bk2 (al+n,i+1) ⟨f4 (⟨by dsimp only;omega,by dsimp only;omega,by dsimp only;exact turnsG_go d.2.2 (cN hx) u j5⟩),e9⟩
 refine g11 ?_;have l:R=true:=turnsG_end d.2.2 p7;exact rs1 () e9 (he:=by rw[y,l])
theorem bad_a{n:Int}(h:n<0):Y6 true= .bool (bHi n):=by simp[bHi,h]
theorem bad_b{n:Int}(h: ¬n<0):Y6 (decide (65536<n))= .bool (bHi n):=by simp[bHi,h]
section
variable {l : List Int} {n s m : Int} {i : Nat} {r : Int × Int}
theorem size_bad(h:4<l.length\/l.any bHi=true):tA l=(0,61):=by rw[tA,if_pos h]
theorem size_zero(h1: ¬4<l.length)(h2:l.any bHi=false)(h3:l.contains 0=true):tA l=(0,0):=by rw[tA,if_neg (by rw[h2];simp;omega),if_pos h3]
theorem size_prod(h1: ¬4<l.length)(h2:l.any bHi=false)(h3:l.contains 0=false):tA l=rK l 1:=by rw[tA,if_neg (by rw[h2];simp;omega),if_neg (by rw[h3];simp)]
theorem prodA_big(h:r=rK (l.drop i) n)(hx:l[i]?=some s)(hb:65536<w64 (n*s)):r=(0,61):=by rw[kS hx,rK,if_pos hb]at h;exact h
theorem prodA_more(h:r=rK (l.drop i) n)(hx:l[i]?=some s)(hb: ¬65536<w64 (n*s)):r=rK (l.drop (i+1)) (w64 (n*s)):=by rw[kS hx,rK,if_neg hb]at h;exact h
theorem prodA_end(h:r=rK (l.drop i) n)(hi:l.length<=i):r=(n,0):=by rw[U8 hi]at h;exact h
end
theorem sizeBad_spec(n:Int):cJ prog 127 [j3 n] [] [] (λ(_:Unit)=> .bool (bHi n)) (λ_=>[]) (λ_=>[]):=by
 have hT:=dL;refine j1 func127 ntmps127 ?_;intro β hM;refine g10 ?_;refine nO (λa=>?_) λa=>?_
 .refine g7 ?_;exact rs1 () e9 (he:=ab9)
 refine g7 ?_;exact rs1 () e9 (he:=ab9)
theorem size_spec(A:Option Addr)(c:Nat)(l:List Int)(hl:l.length<=140737488355328):cJ prog 66 [.slice A l.length c] [] [dA.sl (.slice A l.length c) l] (λ(_:Unit)=> .tuple #[j3 (tA l).1,j3 (tA l).2]) (λ_=>[]) (λ_=>[]):=by
 have hT:=dL;generalize j:tA l=r;refine j1 func66 ntmps66 ?_;intro β hM;refine g13 ?_;refine nO (λd=>?_) λd=>?_
 .refine g14 ?_;have hr:=j.symm.trans (size_bad ac5);subst hr;exact rs2 () trivial
 refine one ?_;refine bL func61 (yK _ _ _ hl 127 [] [] bHi (bJ func127 rfl rfl) sizeBad_spec) rfl rfl .nil ⟨d7,e9⟩ λ_=>?_;refine g3 ?_;refine vN (λh=>?_) λh=>?_
 .refine g8 ?_;have hr:=j.symm.trans (size_bad ac5);subst hr;exact rs2 () trivial
 refine g6 ?_;refine bL func67 (pY _ _ _ hl _) rfl rfl .nil ⟨d7,e9⟩ λ_=>?_;refine g2 ?_;refine vN (λg=>?_) λg=>?_
 .refine g8 ?_;have hr:=j.symm.trans (size_zero j5 ‹_› ‹_›);subst hr;exact rs2 () trivial
 refine g16 ?_;refine bT (ι:=Nat×Int) [(16,_),(17,_)] ⟨rfl,rfl,e9⟩ (λ⟨i,n⟩=>[(4,.int .i64 n),(18,.int .i64 (i:Nat))]) (λ_=>[]) (λ⟨i,n⟩=>[bC.pure (i<=l.length/\r=rK (l.drop i) n)]) (λ⟨i,n⟩=>l.length-i) (0,1) ⟨rfl,rfl,e9⟩ .nil ⟨f4 (⟨j5,j.symm.trans (size_prod j5 ‹_› ‹_›)⟩),e9⟩ ?_;rintro⟨i,n⟩;dsimp only;refine bG d7 λa=>?_;refine g6 ?_;refine dO (λf=>?_) λf=>?_
 .refine g6 ?_;obtain⟨k,b⟩:=gx l i;refine ss (ixs i) ?_;refine ss (fV b 0) ?_;refine g17 ?_;refine dO (λe=>?_) λe=>?_
  .refine g12 ?_;obtain rfl:=prodA_big a.2 b ‹_›;exact rs2 () trivial
  refine g5 ?_;refine inc (i+1) ?_;refine g3 ?_;exact bk2 (i+1,_) ⟨f4 (⟨by dsimp only;omega,prodA_more a.2 b (Int.not_lt.2 ‹_›)⟩),e9⟩
 refine g13 ?_;have hr:=prodA_end a.2 j5;subst hr;exact rs2 () trivial
end
section
open Go.Proofs.Tryz
section
variable {α : Type} (key : α -> Int)
def tB (l:List α):Prop:= ∀k a b,1<=k->l[(k-1)/2]?=some a->l[k]?=some b->key a<=key b
def bQm (l:List α)(i:Nat):Prop:=(∀k a b,1<=k->(k-1)/2≠i->l[(k-1)/2]?=some a->l[k]?=some b->key a<=key b)/\
 ∀k a b,1<=k->1<=i->(k-1)/2=i->l[(i-1)/2]?=some a->l[k]?=some b->key a<=key b
variable {key} {l : List α} {i j : Nat} {x y z : α}
theorem heap_min(h:tB key l)(h0:l[0]?=some x): ∀(k:Nat) b,l[k]?=some b->key x<=key b:=by
 intro k
 induction k using Nat.strongRecOn with
 |ind k ih=>
  intro b hb
  rcases Nat.eq_zero_or_pos k with rfl|d
  .rw[h0]at hb;cases hb;exact eJ _
  .have hlt:=(G3.1 hb).1
   obtain⟨a,c⟩: ∃a,l[(k-1)/2]?=some a:=⟨_,G1 j5⟩
   exact eH (ih _ j5 a c) (h k a b d c hb)
theorem heap_push(h:tB key l)(hs: ∀b∈l,key b<=key x):tB key (l++[x]):=λk a b d c hb=>by
 rcases Nat.lt_trichotomy k l.length with h1|h1|h1
 .rw[G6 j5]at c hb;exact h k a b d c hb
 .rw[h1,List.getElem?_append_right j5,Nat.sub_self]at hb;cases hb;rw[G6 j5]at c;exact hs a (f5 c)
 .rw[List.getElem?_eq_none o6]at hb;cases hb
theorem sink_start(h:tB key l):bQm key ((l.take j).set 0 x) 0:=by
 refine⟨λk a b d h0 c hb=>?_,λk a b _ h1=>absurd h1 j5⟩;rw[R1 j5]at c hb;rw[List.getElem?_take]at c hb;split at hb
 .split at c
  .exact h k a b d c hb
  .cases c
 .cases hb
theorem bLz(h:bQm key l i)(hx:l[i]?=some x)(hn: ∀k b,1<=k->(k-1)/2=i->l[k]?=some b->key x<=key b):tB key l:=λk a b d c hb=>by
 by_cases e:(k-1)/2=i
 .rw[e,hx]at c;cases c;exact hn k b d e hb
 .exact h.1 k a b d e c hb
theorem bGs(h:bQm key l i)(hx:l[i]?=some x)(hy:l[j]?=some y)(hj:1<=j)(hp:(j-1)/2=i)(hlt:key y<=key x)(hm: ∀k b,1<=k->(k-1)/2=i->l[k]?=some b->key y<=key b):bQm key ((l.set i y).set j x) j:=by
 have p:=(G3.1 hx).1;have n:=(G3.1 hy).1;have o:i≠j:=j5
 have get: ∀k,((l.set i y).set j x)[k]?=if k=j then some x else if k=i then some y else l[k]?:=λk=>by
  by_cases h1:k=j
  .subst h1;rw[if_pos rfl,G8 (by simpa using n)]
  .rw[if_neg h1,R1 (Ne.symm h1)]
   by_cases h2:k=i
   .subst h2;rw[if_pos rfl,G8 p]
   .rw[if_neg h2,R1 (Ne.symm h2)]
 refine⟨λk a b g m d hb=>?_,λk a b g _ c d hb=>?_⟩
 .rw[get]at d hb;rw[if_neg m]at d
  by_cases e:(k-1)/2=i
  .rw[if_pos e]at d;cases d
   by_cases c:k=j
   .rw[if_pos c]at hb;cases hb;exact hlt
   .rw[if_neg c,if_neg j5]at hb;exact hm k b g e hb
  .rw[if_neg e]at d
   by_cases c:k=j
   .omega
   .rw[if_neg c]at hb
    by_cases f:k=i
    .rw[if_pos f]at hb;cases hb;rw[f]at d;exact h.2 j a y hj j5 hp d hy
    .rw[if_neg f]at hb;exact h.1 k a b g e d hb
 .rw[get]at d hb;rw[hp,if_neg o,if_pos rfl]at d;cases d;rw[if_neg j5,if_neg j5]at hb;exact h.1 k y b g j5 (by rw[c];exact hy) hb
end
end
section
open Go.RowKit Go.Proofs.Tryz
section
variable {P : Program} {β : dY} {n : Nat} {Γ : Env} {H : List bD} {F : List bC} {T : Tab} {α : Type} {E : Flat α}
theorem cF.dropE{A:Option Addr}{xs:List α}(h:cF β H F E A xs)(j:Nat){c:Nat}(hc:xs.length<=c)(hj:j<=xs.length):cF β H F E (cutA A j E.size c) (xs.drop j):=λw S s g k x d=>by
 rw[I1]at d;have hlt:=(G3.1 d).1;obtain⟨⟨b,o,rfl⟩,h2⟩:=h w S s g (j+k) x d;have f:(⟨b,o,none⟩:Addr).add (j*E.size)=⟨b,o+j*E.size,none⟩:=Addr.add_mid _ _ _
 have a:cutA (some ⟨b,o,none⟩) j E.size c=some ⟨b,o+j*E.size,none⟩:=by unfold cutA;rw[if_neg j5,Option.map_some,f]
 rw[a];refine⟨⟨b,_,rfl⟩,λi u e=>?_⟩;have:=h2 i u e;rw[Nat.add_mul]at this;simp only[bRd,bNg]at this⊢;rw[<-this]
 congr 2
 omega
end
end
section
open Go.RowKit Go.ChangeShapes Go.WideShapes Go.Proofs.Tryz
structure SpotV where
 at_:PolV
 size:PolV
 T:Int
 deriving Inhabited
def fR:Flat SpotV where
 size:=3
 cells:=λx=>[.slice x.at_.O x.at_.B.length x.at_.cap,.slice x.size.O x.size.B.length x.size.cap,.int .i64 x.T]
 len:=λ_=>rfl
 one:=λx u hu=>by
  simp at hu
  rcases hu with rfl|rfl|rfl<;>rfl
 pos:=l4
structure LayV where
 at_:(Sl PolV)
 size:PolV
 deriving Inhabited
def bKu:Tab:=[(3,⟨.int .i64,1⟩),(2,⟨.int .i64,1⟩),(5,⟨.int .u8,1⟩),(4,⟨.bool,1⟩),(77,⟨.int .u8,1⟩),(32,⟨.int .i64,1⟩),(43,⟨.slice 111,1⟩),(42,⟨.slice 43,1⟩),(172,⟨.struct [(3,0),(3,1),(2,2),(43,3),(77,4)],5⟩),(78,⟨.slice 172,1⟩),(95,⟨.struct [(42,0),(3,1)],2⟩),(22,⟨.slice 95,1⟩),(80,⟨.struct [(3,0),(3,1),(43,2),(42,3),(77,4),(78,5)],6⟩),(23,⟨.slice 80,1⟩),(24,⟨.slice 3,1⟩),(99,⟨.slice 4,1⟩),(26,⟨.struct [(3,0),(22,1),(23,2),(24,3)],4⟩),(114,⟨.struct [(3,0),(3,1)],2⟩),(97,⟨.slice 114,1⟩),(201,⟨.struct [(3,0),(3,1),(3,2),(99,3)],4⟩),(214,⟨.struct [(43,0),(43,1),(3,2)],3⟩),(329,⟨.slice 214,1⟩),(45,⟨.struct [(42,0),(43,1)],2⟩),(198,⟨.array 64 4,64⟩),(111,⟨.struct [(2,0),(109,1)],7⟩),(109,⟨.array 6 5,6⟩),(290,⟨.slice 5,1⟩),(224,⟨.int .u64,1⟩),(199,⟨.other,1⟩),(274,⟨.other,1⟩),(126,⟨.other,1⟩),(105,⟨.struct [(43,0),(103,1),(3,2),(102,3)],4⟩),(102,⟨.map 3 214,1⟩),(330,⟨.slice 214,1⟩),(284,⟨.other,1⟩),(103,⟨.slice 284,1⟩),(101,⟨.other,1⟩)]
theorem gF:fC prog bKu:=uM.ok
 ⟨⟨by rw[underlying3];rfl,j8⟩,
  ⟨by rw[underlying2];rfl,j8⟩,
  ⟨by rw[underlying5];rfl,j8⟩,
  ⟨by rw[underlying4];rfl,j8⟩,
  ⟨by rw[underlying77];rfl,j8⟩,
  ⟨by rw[underlying32];rfl,j8⟩,
  ⟨by rw[underlying43];rfl,j8⟩,
  ⟨by rw[underlying42];rfl,j8⟩,
  ⟨by rw[underlying172];rfl,j8⟩,
  ⟨by rw[underlying78];rfl,j8⟩,
  ⟨by rw[underlying95];rfl,j8⟩,
  ⟨by rw[underlying22];rfl,j8⟩,
  ⟨by rw[underlying80];rfl,j8⟩,
  ⟨by rw[underlying23];rfl,j8⟩,
  ⟨by rw[underlying24];rfl,j8⟩,
  ⟨by rw[underlying99];rfl,j8⟩,
  ⟨by rw[underlying26];rfl,j8⟩,
  ⟨by rw[underlying114];rfl,j8⟩,
  ⟨by rw[underlying97];rfl,j8⟩,
  ⟨by rw[underlying201];rfl,j8⟩,
  ⟨by rw[underlying214];rfl,j8⟩,
  ⟨by rw[underlying329];rfl,j8⟩,
  ⟨by rw[underlying45];rfl,j8⟩,
  ⟨by rw[underlying198];rfl,j8⟩,
  ⟨by rw[underlying111];rfl,j8⟩,
  ⟨by rw[underlying109];rfl,j8⟩,
  ⟨by rw[underlying290];rfl,j8⟩,
  ⟨by rw[underlying224];rfl,j8⟩,
  ⟨by rw[underlying199];rfl,j8⟩,
  ⟨by rw[underlying274];rfl,j8⟩,
  ⟨by rw[underlying126];rfl,j8⟩,
  ⟨by rw[underlying105];rfl,j8⟩,
  ⟨by rw[underlying102];rfl,j8⟩,
  ⟨by rw[underlying330];rfl,j8⟩,
  ⟨by rw[underlying284];rfl,j8⟩,
  ⟨by rw[underlying103];rfl,j8⟩,
  ⟨by rw[underlying101];rfl,j8⟩,e9⟩
theorem zO: ∃i:TypeInfo,prog.info? 214=some i/\i.zero=some (.agg #[.slice none 0 0,.slice none 0 0,j3 0])/\i.size=3/\i.bytes=56:=by
 have h:(prog.info? 214).map (λi=>(i.zero,i.size,i.bytes))=some (some (.agg #[.slice none 0 0,.slice none 0 0,.int .i64 0]),3,56):=j8
 cases a:prog.info? 214 with
 |none=>simp[a]at h
 |some i=>simp[a]at h;exact⟨i,rfl,h.1,h.2.1,h.2.2⟩
theorem bQq{β:dY}{n:Nat}{Γ:Env}{H:List bD}{F:List bC}{Q:Exit->Act->World->Prop}{ops:Array Oper}{rest:List Oper}{o:Oper}{d:Nat}{x:Operand}{m:SpotV}(hw:want ops Γ o=some true)(ho:o.op= .buildSlice 330 1 #[(0,x)])(hd:o.dst=some d)(hn:C2 d n=true)
  (hx:Γ.ev x=some (.agg #[f9 m.at_,f9 m.size,j3 m.T])) (k: ∀b,At β n ((d,.slice (some ⟨b,0,none⟩) 1 1)::Γ) (.obj b (.cells (fR.all [m]).toArray 214)::H) F (wpList prog ops Q rest)):At β n Γ H F (wpList prog ops Q (o::rest)):=by
 obtain⟨i,e,a,c,_⟩:=zO;refine nX hw ho hd hn hx underlying330 e a j5 j5 ?_ k;rw[c]
 kernel_rfl
theorem at_none_row{β:dY}{n:Nat}{Γ:Env}{H:List bD}{F:List bC}{Q:Exit->Act->World->Prop}{ops:Array Oper}{rest:List Oper}{o:Oper}{d:Nat}(hw:want ops Γ o=some true)(ho:o.op= .buildSlice 330 0 #[])(hd:o.dst=some d)(hn:C2 d n=true)
  (k: ∀b,At β n ((d,.slice (some ⟨b,0,none⟩) 0 0)::Γ) (fR.row (.slice (some ⟨b,0,none⟩) 0 0) 214 []::H) F (wpList prog ops Q rest)):At β n Γ H F (wpList prog ops Q (o::rest)):=by obtain⟨i,a,_⟩:=zO;exact bIm fR hw ho hd hn underlying330 a k
theorem at_app_row{β:dY}{n:Nat}{Γ:Env}{H:List bD}{F:List bC}{Q:Exit->Act->World->Prop}{ops:Array Oper}{rest:List Oper}{o:Oper}{d:Nat}{x y:Operand}{c q:Nat}{v:Value}{A:Option Addr}{xs ys:List SpotV}{H':List bD}(hH:bZ H (fR.row v 214 xs) H')(hr:cF β H F fR A ys)(hg:o.guard=none)
  (ho:o.op= .call {callee:= .builtin .append,args:= #[x,y],argTypes:= #[330,330]}) (hd:o.dst=some d) (hn:C2 d n=true)
  (hx:Γ.ev x=some v) (hy:Γ.ev y=some (.slice A q c)) (hq:q=ys.length) (hl:xs.length+ys.length<=2513169434916)
  (k: ∀A' cap',At β n ((d,.slice A' (xs++ys).length cap')::Γ) (fR.row (.slice A' (xs++ys).length cap') 214 (xs++ys)::H') F (wpList prog ops Q rest)):At β n Γ H F (wpList prog ops Q (o::rest)):=by obtain⟨i,e,a,b,hb⟩:=zO;exact jS hH hr hg ho hd hn underlying330 e a b hb rfl hx hy hq j5 l4 k
end
section
open Go.RowKit Go.Proofs.Tryz
structure RowV where
 b:Nat
 A:Option Addr
 c:Nat
 full:Bool
 l:List SpotV
def sz (x:SpotV):List Mono:=x.size.B
def SpotV.c(x:SpotV):SpC:=⟨x.at_.B,x.size.B⟩
def jC (rows:List RowV):List SpotV:=rows.flatMap (·.l)
def bHn (rows:List RowV):Prop:= ∀(i j:Nat) (r q:RowV),rows[i]?=some r->rows[j]?=some q->i≠j-> ∀x∈r.l,∀y∈q.l,sz x≠sz y
def RowOk (r:RowV):Prop:=(r.full=true->r.c=r.l.length)/\r.l.length<=r.c/\tB SpotV.T r.l/\(∀x∈r.l,∀y∈r.l,sz x=sz y)/\ ∀x∈r.l,sz x≠[]
def Rising(fs:List SpotV):Prop:=fs.Pairwise λa b=>a.T<b.T
theorem bGh{rows:List RowV}{x:SpotV}:x∈jC rows↔ ∃(k:Nat) (r:RowV),rows[k]?=some r/\x∈r.l:=by
 unfold jC;rw[List.mem_flatMap];constructor
 .rintro⟨r,hr,hx⟩;obtain⟨k,a⟩:=eP hr;exact⟨k,r,a,hx⟩
 .rintro⟨k,r,a,hx⟩;exact⟨r,eN a,hx⟩
theorem bNx{α:Type}{l:List α}{k:Nat}{x:α}(h:l[k]?=some x):l=l.take k++x::l.drop (k+1):=by obtain⟨hlt,e⟩:=G3.1 h;rw[<-e,aH hlt,List.take_append_drop]
theorem pl_set{α:Type}{l:List α}{k:Nat}{x y:α}(h:l[k]?=some x):l.set k y=l.take k++y::l.drop (k+1):=by have hlt:=(G3.1 h).1;rw[List.set_eq_take_append_cons_drop,if_pos hlt]
theorem pl_erase{α:Type}{l:List α}{k:Nat}{x:α}(_h:l[k]?=some x):l.eraseIdx k=l.take k++l.drop (k+1):=List.eraseIdx_eq_take_drop_succ ..
theorem bHj{rows:List RowV}{k:Nat}{r:RowV}(h:rows[k]?=some r):(jC rows).Perm (r.l++(jC (rows.take k)++jC (rows.drop (k+1)))):=by
 have e:jC rows=jC (rows.take k)++(r.l++jC (rows.drop (k+1))):=by
  conv=>lhs;rw[bNx h]
  simp[jC,eQ,eR]
 rw[e];exact eS _ _ _
theorem plf_set{rows:List RowV}{k:Nat}{r q:RowV}(h:rows[k]?=some r):(jC (rows.set k q)).Perm (q.l++(jC (rows.take k)++jC (rows.drop (k+1)))):=by
 have e:jC (rows.set k q)=jC (rows.take k)++(q.l++jC (rows.drop (k+1))):=by rw[pl_set h];simp[jC,eQ,eR]
 rw[e];exact eS _ _ _
theorem pl_eperm{α:Type}{l:List α}{k:Nat}{x:α}(h:l[k]?=some x):l.Perm (x::l.eraseIdx k):=by
 rw[pl_erase h]
 conv=>lhs;rw[bNx h]
 exact List.perm_middle
theorem pl_take{fs:List SpotV}{rows:List RowV}{k:Nat}{r q:RowV}{x:SpotV}{n:List Mono}(hp:(jC rows).Perm fs)(hasc:Rising fs)(hk:rows[k]?=some r)(ha:bHn rows)(hs: ∀y∈r.l,sz y=n)
  (hx:x∈r.l) (hmin: ∀y∈r.l,x.T<=y.T) (hl:r.l.Perm (x::q.l)): ∃i,fs[i]?=some x/\fs.findIdx? (λy=>decide (sz y=n))=some i/\(jC (rows.set k q)).Perm (fs.eraseIdx i):=by
 have d:x∈fs:=hp.mem_iff.1 (bGh.2 ⟨k,r,hk,hx⟩);obtain⟨i,f⟩:=eP d;obtain⟨hlt,m⟩:=G3.1 f;refine⟨i,f,?_,?_⟩
 .rw[eM];refine⟨hlt,by rw[m];simp[hs x hx],λj s=>?_⟩;have c:j<fs.length:=j5
  have h:fs[j].T<x.T:=by
   have:=(List.pairwise_iff_getElem.1 hasc) j i c hlt s
   rwa[m]at this
  have p:fs[j]∈jC rows:=hp.mem_iff.2 (List.getElem_mem c);obtain⟨g,o,a,b⟩:=bGh.1 p
  by_cases e:k=g
  .subst e;rw[hk]at a;cases a;have:=hmin _ b;omega
  .have h1:=ha k g r o hk a e x hx _ b;simp only[decide_eq_true_eq];intro h2;exact h1 (by rw[hs x hx,h2])
 .have h1:=(bHj hk).symm.trans hp
  have h2:=(h1.trans (pl_eperm f))
  have h3:(x::(q.l++(jC (rows.take k)++jC (rows.drop (k+1))))).Perm (x::fs.eraseIdx i):=((hl.append_right _).symm.trans h2)
  exact(plf_set hk).trans (List.Perm.cons_inv h3)
theorem pl_none{fs:List SpotV}{rows:List RowV}{n:List Mono}(hp:(jC rows).Perm fs)(h: ∀(k:Nat) (r:RowV),rows[k]?=some r-> ∀x∈r.l,sz x≠n):fs.findIdx? (λy=>decide (sz y=n))=none:=by rw[List.findIdx?_eq_none_iff];intro x hx;obtain⟨k,r,b,a⟩:=bGh.1 (hp.mem_iff.2 hx);simp[h k r b x a]
theorem pl_give{fs:List SpotV}{rows:List RowV}{k:Nat}{r q:RowV}{x:SpotV}(hp:(jC rows).Perm fs)(hk:rows[k]?=some r)(hq:q.l=r.l++[x]):(jC (rows.set k q)).Perm (fs++[x]):=by refine(plf_set hk).trans ?_;rw[hq,List.append_assoc];have h1:=(bHj hk).symm.trans hp;have h2:(r.l++([x]++(jC (rows.take k)++jC (rows.drop (k+1))))).Perm ([x]++(r.l++(jC (rows.take k)++jC (rows.drop (k+1))))):=eS _ _ _;exact h2.trans ((h1.append_left [x]).trans List.perm_append_comm)
theorem pl_apset{rows:List RowV}{k:Nat}{r q:RowV}(ha:bHn rows)(hk:rows[k]?=some r)(h: ∀x∈q.l,∀(j:Nat) (p:RowV),rows[j]?=some p->j≠k-> ∀y∈p.l,sz x≠sz y):bHn (rows.set k q):=by
 have o:=(G3.1 hk).1;intro i j a b d c g x hx y f;rw[W3]at d c;split at d<;>split at c
 .omega
 .rename_i n m;simp at d;subst d;exact h x hx j b c (λe=>m e.symm) y f
 .rename_i n m;simp at c;subst c;exact λe=>h y f i a d (λe=>n e.symm) x hx e.symm
 .exact ha i j a b d c g x hx y f
theorem pl_apnew{rows:List RowV}{q:RowV}(ha:bHn rows)(h:q.l=[]):bHn (rows++[q]):=by
 have key: ∀(i:Nat) (a:RowV) (x:SpotV),(rows++[q])[i]?=some a->x∈a.l->rows[i]?=some a:=λi a x c hx=>by
  rw[eT]at c;split at c
  .exact c
  .cases hn:i-rows.length with
   |zero=>
    rw[hn]at c;simp at c;subst c;rw[h]at hx;cases hx
   |succ m=>
    rw[hn]at c;simp at c
 exact λi j a b c f d x hx y e=>ha i j a b (key i a x c hx) (key j b y f e) d x hx y e
theorem plf_new{rows:List RowV}{q:RowV}(h:q.l=[]):jC (rows++[q])=jC rows:=by simp[jC,eQ,h]
structure PSt where
 J:PolV
 fA:Option Addr
 fc:Nat
 rows:List RowV
 T:Int
 kv:List (Int×SpotV)
def tE (k:Int):List (Int×SpotV)->Option SpotV
 |[]=>none
 |p::r=>if k==p.1 then some p.2 else tE k r
def setS (k:Int)(v:SpotV):List (Int×SpotV)->List (Int×SpotV)
 |[]=>[(k,v)]
 |p::r=>if k==p.1 then (k,v)::r else p::setS k v r
def delS (k:Int):List (Int×SpotV)->List (Int×SpotV)
 |[]=>[]
 |p::r=>if k==p.1 then r else p::delS k r
def spV (x:SpotV):Value:= .agg (fR.cells x).toArray
def kvV (kv:List (Int×SpotV)):KV:=kv.map λp=>(p.1,spV p.2)
theorem getS_V(k:Int): ∀kv,bPk k (kvV kv)=(tE k kv).map spV
 |[]=>rfl
 |p::r=>by
  show(if k==p.1 then some (spV p.2)else bPk k (kvV r))=_;unfold tE;split
  .rfl
  .exact getS_V k r
theorem setS_V(k:Int)(v:SpotV): ∀kv,bCu k (spV v) (kvV kv)=kvV (setS k v kv)
 |[]=>rfl
 |p::r=>by
  show(if k==p.1 then (k,spV v)::kvV r else (p.1,spV p.2)::bCu k (spV v) (kvV r))=_;unfold setS;split
  .rfl
  .rw[setS_V k v r];rfl
theorem getS_set(k j:Int)(v:SpotV): ∀kv,tE j (setS k v kv)=if j=k then some v else tE j kv
 |[]=>by simp[setS,tE]
 |p::r=>by
  unfold setS
  by_cases h:k=p.1
  .subst h;simp only[beq_self_eq_true,if_true,tE]
   by_cases a:j=p.1
   .simp[a]
   .simp[a]
  .simp only[beq_iff_eq,h,if_false,tE,getS_set k j v r]
   by_cases a:j=p.1
   .subst a;simp[Ne.symm h]
   .simp[a]
theorem bUd(k:Int)(v:SpotV): ∀kv,∀j,j∈(setS k v kv).map (·.1)->j=k\/j∈kv.map (·.1)
 |[],j,h=>by simp[setS]at h;exact .inl h
 |p::r,j,h=>by
  unfold setS at h;split at h
  .rename_i e;simp at e;simp at h⊢
   rcases h with h|h
   .exact .inl h
   .exact .inr (.inr h)
  .simp only[H6,F1]at h⊢
   rcases h with h|h
   .exact .inr (.inl h)
   .rcases bUd k v r j h with h|h
    .exact .inl h
    .exact .inr (.inr h)
theorem bNd(k:Int)(v:SpotV): ∀kv,(kv.map (·.1)).Nodup->((setS k v kv).map (·.1)).Nodup
 |[],_=>by simp[setS]
 |p::r,h=>by
  simp only[H6,eU]at h;unfold setS;split
  .rename_i e;simp at e;simp only[H6,eU];rw[e];exact h
  .rename_i e;simp only[H6,eU];refine⟨λa=>?_,bNd k v r h.2⟩
   rcases bUd k v r _ a with h1|h1
   .exact e (by simp[h1])
   .exact h.1 h1
theorem setS_mem(k:Int)(v:SpotV): ∀kv,∀p∈setS k v kv,p.2=v\/p∈kv
 |[],p,h=>by simp[setS]at h;exact .inl (by rw[h])
 |q::r,p,h=>by
  unfold setS at h;split at h
  .rcases F1.1 h with rfl|h
   .exact .inl rfl
   .exact .inr (F3 _ h)
  .rcases F1.1 h with rfl|h
   .exact .inr (F9 ..)
   .rcases setS_mem k v r p h with h|h
    .exact .inl h
    .exact .inr (F3 _ h)
theorem bMr(k:Int): ∀kv,(delS k kv).Sublist kv
 |[]=> .slnil
 |p::r=>by
  unfold delS;split
  .exact List.sublist_cons_self ..
  .exact(bMr k r).cons_cons _
theorem delS_nodup(k:Int)(kv)(h:(kv.map (·.1)).Nodup):((delS k kv).map (·.1)).Nodup:=h.sublist ((bMr k kv).map _)
theorem bWc(k:Int): ∀kv,k∉kv.map (·.1)->tE k kv=none
 |[],_=>rfl
 |p::r,h=>by simp only[H6,F1,not_or]at h;unfold tE;rw[if_neg (by simp[h.1]),bWc k r h.2]
theorem getS_del(k j:Int): ∀kv,(kv.map (·.1)).Nodup->tE j (delS k kv)=if j=k then none else tE j kv
 |[],_=>by simp[delS,tE]
 |p::r,h=>by
  simp only[H6,eU]at h;unfold delS
  by_cases e:k=p.1
  .subst e;simp only[beq_self_eq_true,if_true]
   by_cases a:j=p.1
   .subst a;rw[if_pos rfl,bWc _ r h.1]
   .rw[if_neg a];simp[tE,a]
  .simp only[beq_iff_eq,e,if_false,tE,getS_del k j r h.2]
   by_cases a:j=p.1
   .subst a;simp[Ne.symm e]
   .simp[a]
theorem getS_mem{k:Int}{x:SpotV}: ∀{kv},tE k kv=some x-> ∃p∈kv,p.2=x
 |[],h=>by cases h
 |p::r,h=>by
  unfold tE at h;split at h
  .cases h;exact⟨p,F9 ..,rfl⟩
  .obtain⟨q,hq,e⟩:=getS_mem h;exact⟨q,F3 _ hq,e⟩
theorem pl_mape{α β:Type}(f:α->β): ∀(l:List α) (i:Nat),(l.eraseIdx i).map f=(l.map f).eraseIdx i
 |[],_=>rfl
 |_::_,0=>rfl
 |x::l,i+1=>by simp[pl_mape f l i]
structure iG (st:PSt) (pool:List SpotV) (s:PlC) (fs:List SpotV) (M:Nat):Prop where
 J:st.J.B=s.J
 free:fs.map SpotV.c=s.free
 flat:(jC st.rows).Perm fs
 rise:Rising fs
 top: ∀x∈fs,x.T<=st.T
 apart:bHn st.rows
 ok: ∀(k:Nat) (r:RowV),st.rows[k]?=some r->RowOk r
 keys:(st.kv.map (·.1)).Nodup
 laid: ∀b:Nat,(tE b st.kv).map SpotV.c=(s.laid[b]?).bind id
 poolR: ∀x∈fs,x∈pool
 poolL: ∀p∈st.kv,p.2∈pool
 low:0<=st.T
 high:st.T<=M
 many:st.rows.length<=M
 len:fs.length<=M
structure Picked (n:List Mono) (st:PSt) (k:Nat) (r:RowV):Prop where
 at_:st.rows[k]?=some r
 all: ∀x∈r.l,sz x=n
 rest: ∀(j:Nat) (q:RowV),st.rows[j]?=some q->j≠k-> ∀y∈q.l,sz y≠n
section
variable {st : PSt} {pool fs : List SpotV} {s : PlC} {M k : Nat} {r q : RowV} {n : List Mono} {x y : SpotV}
theorem iG.more(h:iG st pool s fs M){M':Nat}(hm:M<=M'):iG st pool s fs M':=⟨h.J,h.free,h.flat,h.rise,h.top,h.apart,h.ok,h.keys,h.laid,h.poolR,h.poolL,h.low,by have:=h.high;omega,Nat.le_trans h.many hm,Nat.le_trans h.len hm⟩
theorem iG.wide(h:iG st pool s fs M)(x:SpotV):iG st (x::pool) s fs M:=⟨h.J,h.free,h.flat,h.rise,h.top,h.apart,h.ok,h.keys,h.laid,λy a=>F3 _ (h.poolR y a),λp b=>F3 _ (h.poolL p b),h.low,h.high,h.many,h.len⟩
theorem iG.later(h:iG st pool s fs M):iG {st with T:=st.T+1} pool s fs (M+1):=⟨h.J,h.free,h.flat,h.rise,λx hx=>by have:=h.top x hx;show x.T<=st.T+1;omega,h.apart,h.ok,h.keys,h.laid,h.poolR,h.poolL,by have:=h.low;show 0<=st.T+1;omega,by have:=h.high;show st.T+1<=_;omega,by have:=h.many;show st.rows.length<=_;omega,by have:=h.len;omega⟩
theorem iG.mem(h:iG st pool s fs M)(hk:st.rows[k]?=some r)(hx:x∈r.l):x∈fs:=h.flat.mem_iff.1 (bGh.2 ⟨k,r,hk,hx⟩)
theorem iG.inPool(h:iG st pool s fs M)(hk:st.rows[k]?=some r)(hx:x∈r.l):x∈pool:=h.poolR x (h.mem hk hx)
theorem iG.rlen(h:iG st pool s fs M)(hk:st.rows[k]?=some r):r.l.length<=M:=by have h1:=(bHj hk).length_eq;have h2:=h.flat.length_eq;have:=h.len;rw[G4]at h1;omega
theorem picked_old(h:iG st pool s fs M)(hk:st.rows[k]?=some r)(h0:r.l[0]?=some x)(hn:sz x=n):Picked n st k r:=by have hx:x∈r.l:=eN h0;have a: ∀y∈r.l,sz y=n:=λy b=>((h.ok k r hk).2.2.2.1 y b x hx).trans hn;exact⟨hk,a,λj q d c y b e=>h.apart j k q r d hk c y b x hx (e.trans hn.symm)⟩
theorem picked_new(h:iG st pool s fs M)(hq:q.l=[])(hno: ∀(j:Nat) (r:RowV) (x:SpotV),st.rows[j]?=some r->r.l[0]?=some x->sz x≠n)(A:Option Addr)(c:Nat)(hf:q.full=false):
  iG {st with rows:=st.rows++[q],fA:=A,fc:=c} pool s fs (M+1)/\Picked n {st with rows:=st.rows++[q],fA:=A,fc:=c} st.rows.length q:=by
 have g: ∀(j:Nat) (r:RowV),st.rows[j]?=some r-> ∀y∈r.l,sz y≠n:=λj r o y f=>by
  cases hl:r.l with
  |nil=>rw[hl]at f;cases f
  |cons z t=>
   have h1:r.l[0]?=some z:=by rw[hl];rfl
   rw[(h.ok j r o).2.2.2.1 y f z (f5 h1)];exact hno j r z o h1
 have key: ∀(i:Nat) (a:RowV),(st.rows++[q])[i]?=some a->i≠st.rows.length->st.rows[i]?=some a:=λi a d w=>by
  rw[eT]at d;split at d
  .exact d
  .cases hn:i-st.rows.length with
   |zero=>omega
   |succ m=>rw[hn]at d;simp at d
 have hl:(st.rows++[q])[st.rows.length]?=some q:=by simp
 refine⟨⟨h.J,h.free,by show(jC (st.rows++[q])).Perm fs;rw[plf_new hq];exact h.flat,h.rise,h.top,pl_apnew h.apart hq,λi a d=>?_,h.keys,h.laid,h.poolR,h.poolL,h.low,by have:=h.high;show st.T<=_;omega,by have:=h.many;show(st.rows++[q]).length<=_;rw[G4];simp;omega,by have:=h.len;omega⟩,hl,λy f=>(by rw[hq]at f;cases f),λj p o u y f=>g j p (key j p o u) y f⟩
 by_cases e:i=st.rows.length
 .subst e;have d:(st.rows++[q])[st.rows.length]?=some a:=d;rw[hl]at d;cases d;refine⟨λe=>(by rw[hf]at e;cases e),by rw[hq];exact Nat.zero_le _,?_,λx hx=>(by rw[hq]at hx;cases hx),λx hx=>(by rw[hq]at hx;cases hx)⟩;intro k a b _ v;rw[hq]at v;simp at v
 .exact h.ok i a (key i a d e)
theorem picked_none(h:iG st pool s fs M)(hp:Picked n st k r)(he:r.l=[]):s.free.findIdx? (λy=>decide (y.size=n))=none:=by
 rw[<-h.free,eV];refine pl_none h.flat λj p a x hx=>?_
 by_cases e:j=k
 .subst e;rw[hp.at_]at a;cases a;rw[he]at hx;cases hx
 .exact hp.rest j p a e x hx
theorem rel_take(h:iG st pool s fs M)(hp:Picked n st k r)(h0:r.l[0]?=some x)(hq:r.l.Perm (x::q.l))(hh:tB SpotV.T q.l)(hc:q.c=q.l.length):
  ∃i,s.free[i]?=some x.c/\s.free.findIdx? (λy=>decide (y.size=n))=some i/\iG {st with rows:=st.rows.set k q} pool {s with free:=s.free.eraseIdx i} (fs.eraseIdx i) M:=by
 have hx:x∈r.l:=eN h0;have g:=h.ok k r hp.at_
 have m: ∀y∈r.l,x.T<=y.T:=λy f=>by obtain⟨j,e⟩:=eP f;exact heap_min g.2.2.1 h0 j y e
 have d: ∀y∈q.l,y∈r.l:=λy f=>hq.mem_iff.2 (F3 _ f);obtain⟨i,h1,h2,h3⟩:=pl_take h.flat h.rise hp.at_ h.apart hp.all hx m hq;have u:=(G3.1 hp.at_).1
 refine⟨i,by rw[<-h.free,List.getElem?_map,h1];rfl,by rw[<-h.free,eV];exact h2,⟨h.J,?_,h3,h.rise.sublist (eW ..),λy f=>h.top y ((eW ..).subset f),pl_apset h.apart hp.at_ λa o j p e t b hb=>h.apart k j r p hp.at_ e (Ne.symm t) a (d a o) b hb,
  λj a e=>?_,h.keys,h.laid,λy f=>h.poolR y ((eW ..).subset f),h.poolL,h.low,h.high,by show(st.rows.set k q).length<=M;rw[R0];exact h.many,by have:=h.len;have:=(eW fs i).length_le;omega⟩⟩
 .show(fs.eraseIdx i).map SpotV.c=s.free.eraseIdx i;rw[<-h.free,pl_mape]
 .have e:(st.rows.set k q)[j]?=some a:=e;rw[W3]at e;split at e
  .simp at e;subst e;exact⟨λ_=>hc,j5,hh,λa o b hb=>g.2.2.2.1 a (d a o) b (d b hb),λa o=>g.2.2.2.2 a (d a o)⟩
  .exact h.ok j a e
theorem rel_give(h:iG st pool s fs M)(hp:Picked (sz x) st k r)(hn:sz x≠[])(hq:q.l=r.l++[x])(hf:q.full=false)(hc:q.l.length<=q.c)(hsi:x.T=st.T)(hst: ∀f∈fs,f.T<x.T)(hxp:x∈pool):
  iG {st with rows:=st.rows.set k q} pool {s with free:=s.free++[x.c]} (fs++[x]) (M+1):=by
 have n:=h.ok k r hp.at_;have u:=(G3.1 hp.at_).1
 have t: ∀y∈q.l,y∈r.l\/y=x:=λy i=>by
  rw[hq]at i
  rcases F2.1 i with h1|h1
  .exact .inl h1
  .exact .inr (by simpa using h1)
 have d: ∀y∈q.l,sz y=sz x:=λy i=>by
  rcases t y i with h1|h1
  .exact hp.all y h1
  .rw[h1]
 refine⟨h.J,by rw[P4,h.free];rfl,pl_give h.flat hp.at_ hq,?_,λy i=>?_,pl_apset h.apart hp.at_ λa m j p g o b hb e=>hp.rest j p g o b hb (e.symm.trans (d a m)),λj a g=>?_,h.keys,h.laid,λy i=>?_,h.poolL,h.low,by have:=h.high;show st.T<=_;omega,
  by show(st.rows.set k q).length<=_;rw[R0];have:=h.many;omega,by have:=h.len;rw[G4];simp;omega⟩
 .refine List.pairwise_append.2 ⟨h.rise,List.pairwise_singleton _ _,λa m b hb=>?_⟩;have e:b=x:=by simpa using hb
  subst e;exact hst a m
 .show y.T<=st.T
  rcases F2.1 i with h1|h1
  .exact h.top y h1
  .have e:y=x:=by simpa using h1
   subst e;omega
 .have g:(st.rows.set k q)[j]?=some a:=g;rw[W3]at g;split at g
  .simp at g;subst g;refine⟨λe=>(by rw[hf]at e;cases e),hc,?_,λa m b hb=>(d a m).trans (d b hb).symm,λa m=>by rw[d a m];exact hn⟩;rw[hq];refine heap_push n.2.2.1 λb hb=>?_;have:=hst b (h.mem hp.at_ hb);omega
  .exact h.ok j a g
 .rcases F2.1 i with h1|h1
  .exact h.poolR y h1
  .have e:y=x:=by simpa using h1
   subst e;exact hxp
theorem rel_laid(h:iG st pool s fs M)(b:Nat)(hb:b<s.laid.length)(hx:x∈pool)(ats:List (List Mono)):iG {st with kv:=setS b x st.kv} pool {s with laid:=s.laid.set b (some x.c),Y:=ats} fs M:=
 ⟨h.J,h.free,h.flat,h.rise,h.top,h.apart,h.ok,bNd _ _ _ h.keys,λj=>by
  show(tE j (setS b x st.kv)).map SpotV.c=((s.laid.set b (some x.c))[j]?).bind id;rw[getS_set,W3]
  by_cases e:j=b
  .subst e;simp[hb]
  .rw[if_neg j5,if_neg j5]
   exact h.laid j,h.poolR,λp a=>by
  rcases setS_mem _ _ _ p a with h1|h1
  .rw[h1];exact hx
  .exact h.poolL p h1,h.low,h.high,h.many,h.len⟩
theorem rel_gone(h:iG st pool s fs M)(b:Nat)(hb:b<s.laid.length):iG {st with kv:=delS b st.kv} pool {s with laid:=s.laid.set b none} fs M:=
 ⟨h.J,h.free,h.flat,h.rise,h.top,h.apart,h.ok,delS_nodup _ _ h.keys,λj=>by
  show(tE j (delS b st.kv)).map SpotV.c=((s.laid.set b none)[j]?).bind id;rw[getS_del _ _ _ h.keys,W3]
  by_cases e:j=b
  .subst e;simp[hb]
  .rw[if_neg j5,if_neg j5]
   exact h.laid j,h.poolR,λp a=>h.poolL p ((bMr _ _).subset a),h.low,h.high,h.many,h.len⟩
theorem rel_end(h:iG st pool s fs M)(e:PolV)(l:List Mono)(he:e.B=l):iG {st with J:=e} pool {s with J:=l} fs M:=
 ⟨he,h.free,h.flat,h.rise,h.top,h.apart,h.ok,h.keys,h.laid,h.poolR,h.poolL,h.low,h.high,h.many,h.len⟩
