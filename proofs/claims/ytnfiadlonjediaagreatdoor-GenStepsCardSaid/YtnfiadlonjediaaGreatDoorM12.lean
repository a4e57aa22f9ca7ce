/- Texts of one proof, one behind the other: GmC, MixU, Alg, Val, Grow, MakesT, PlaceP, AgA, AgB, StpG. -/
import Derived.Test.YtnfiadlonjediaaGreatDoorM7
import Derived.Test.YtnfiadlonjediaaGreatDoorM11
import Derived.Test.YtnfiadlonjediaaGreatDoorM6
import Derived.Test.YtnfiadlonjediaaGreatDoorM10
set_option maxRecDepth 100000
namespace Go.Proofs.YtnfiadlonjediaaGreatDoor
open _root_.List renaming getD_eq_getElem?_getD->U5,pairwise_cons->D2,mem_cons->C9,any_cons->Z6,length_cons->E1,any_eq_false->Z7,replicate->T9,mem_cons_self->D5,mem_cons_of_mem->D1,getElem?_eq_some_iff->D9,mem_of_getElem?->Z8,all_eq_true->D6
open Region renaming ready->E3,noSelect->E5
open _root_.Nat renaming beq->B5,eq_of_beq_eq_true->B7,le_refl->B8
open _root_.Bool renaming and_eq_true->G1,or_eq_true->G6,not_eq_true'->L3,or_eq_false_iff->Z9,and_eq_false_iff->aA
open _root_.Int renaming add_zero->aB,zero_add->aC,mul_comm->aD,mul_assoc->aE,pow_succ->aF,mul_zero->aG,mul_one->aH,mul_nonneg->Y9,mul_le_mul_of_nonneg_left->aI,le_refl->aJ
open _root_.UInt8 renaming add_comm->aK
section
open Go.RowKit Go.Proofs.Tryz
theorem tO{l:List Int}{k:Nat}{x:Int}(h:l[k]?=some x):l.getD k 0=x:=by rw[U5,h];rfl
theorem tL(z0:Int)(z1:Int)(z2:Int)(z4:Int):prog.built 52 [(0,j6 z0),(1,j6 z1),(2,j6 z2),(4,.int .i32 z4)]=some #[j6 z0,j6 z1,j6 z2,j6 0,.int .i32 z4]:=l4
theorem tM(z0:Int)(z1:Int)(z2:Int)(z3:Int):prog.built 52 [(0,j6 z0),(1,j6 z1),(2,j6 z2),(3,j6 z3)]=some #[j6 z0,j6 z1,j6 z2,j6 z3,.int .i32 0]:=l4
theorem ops1_spec(mb:Nat)(m:MkV)(a:Option Addr×Nat)(s:GnS)(hB:GnB 999900 s)(b1 b2:Nat)(o:OpV)(r:Int):bZ prog 130 [j6 r,.pointer (some ⟨b1,0,none⟩),.pointer (some ⟨b2,0,none⟩)] [mkO mb (m.st a s),mkS (m.st a s)] [bE.cells b1 0 [.pointer (some ⟨mb,0,none⟩)],bE.cells b2 0 [j5 o.how,j5 o.k,j5 o.n,j0 o.p,j6 o.fn]] (λ(_:Option Addr×Nat)=> .tuple #[]) (λ(x:Option Addr×Nat)=>[mkO mb (m.st x (numG r o.n s)),mkS (m.st x (numG r o.n s))]) (λ_=>[]):=by
 have hT:=cO;refine i7 func130 ntmps130 ?_;intro β hM;refine one ?_;refine ss (f8 hT (bI (off:=0) d7)) ?_;refine g2 ?_;refine ss (f8 hT (bI (off:=2) d8)) ?_;refine bG func68 (fT mb m a _ (hB.le k9) (r) (o.n)) rfl rfl (.c0 (.c0 .nil)) e8 λb=>?_;have c:=jM (a:=r) (z:=o.n) hB;refine jO ?_;exact cT b rfl (.c0 (.c0 .nil)) e8 rfl
theorem bUw(mb:Nat)(m:MkV)(a:Option Addr×Nat)(s:GnS)(hB:GnB 999900 s)(b1 b2:Nat)(z:Int)(r:Int):bZ prog 133 [j6 r,.pointer (some ⟨b1,0,none⟩),.pointer (some ⟨b2,0,none⟩)] [mkO mb (m.st a s),mkS (m.st a s)] [bE.cells b1 0 [.pointer (some ⟨mb,0,none⟩)],bE.cells b2 0 [j5 z]] (λ(_:Option Addr×Nat)=> .tuple #[]) (λ(x:Option Addr×Nat)=>[mkO mb (m.st x (numG r z s)),mkS (m.st x (numG r z s))]) (λ_=>[]):=by
 have hT:=cO;refine i7 func133 ntmps133 ?_;intro β hM;refine one ?_;refine ss (f8 hT (bI (off:=0) d7)) ?_;refine one ?_;refine ss (f8 hT (bI (off:=0) d8)) ?_;refine bG func68 (fT mb m a _ (hB.le k9) (r) (z)) rfl rfl (.c0 (.c0 .nil)) e8 λb=>?_;have c:=jM (a:=r) (z:=z) hB;refine jO ?_;exact cT b rfl (.c0 (.c0 .nil)) e8 rfl
theorem ops3_spec(mb:Nat)(m:MkV)(a:Option Addr×Nat)(s:GnS)(hB:GnB 999900 s)(b1 b2:Nat)(o:OpV)(hk:0<=o.k/\o.k<=1000)(r:Int):bZ prog 134 [j6 r,.pointer (some ⟨b1,0,none⟩),.pointer (some ⟨b2,0,none⟩)] [mkO mb (m.st a s),mkS (m.st a s)] [bE.cells b1 0 [.pointer (some ⟨mb,0,none⟩)],bE.cells b2 0 [j5 o.how,j5 o.k,j5 o.n,j0 o.p,j6 o.fn]] (λ(_:Option Addr×Nat)=> .tuple #[]) (λ(x:Option Addr×Nat)=>[mkO mb (m.st x (rL r (u8m (1+o.k)) s)),mkS (m.st x (rL r (u8m (1+o.k)) s))]) (λ_=>[]):=by
 have hT:=cO;refine i7 func134 ntmps134 ?_;intro β hM;refine one ?_;refine ss (f8 hT (bI (off:=0) d7)) ?_;refine g2 ?_;refine ss (f8 hT (bI (off:=1) d8)) ?_;refine one ?_;refine bF (z':=1+o.k) (nN k9 k9) ?_;refine one ?_;refine bF (z':=u8m (1+o.k)) (pF _) ?_;refine bG func135 (bOg mb m a _ (hB.le k9) (r) (u8m (1+o.k))) rfl rfl (.c0 (.c0 .nil)) e8 λc=>?_;have d:=bLn (a:=r) (b:=u8m (1+o.k)) hB;refine jO ?_;exact cT c rfl (.c0 (.c0 .nil)) e8 rfl
theorem ops4_spec(mb:Nat)(m:MkV)(a:Option Addr×Nat)(s:GnS)(hB:GnB 999900 s)(b1 b2 b3:Nat)(p:Int)(o:OpV)(hk:0<=o.k)(hk2:o.k.toNat<m.at_.list.length)(r:Int):bZ prog 139 [j6 r,.pointer (some ⟨b1,0,none⟩),.pointer (some ⟨b2,0,none⟩),.pointer (some ⟨b3,0,none⟩)] [mkO mb (m.st a s),mkS (m.st a s)] [bE.cells b1 0 [.pointer (some ⟨mb,0,none⟩)],bE.cells b2 0 [j6 p],bE.cells b3 0 [j5 o.how,j5 o.k,j5 o.n,j0 o.p,j6 o.fn],cK.sl (j0 m.at_) m.at_.list] (λ(_:Option Addr×Nat)=> .tuple #[]) (λ(x:Option Addr×Nat)=>[mkO mb (m.st x (dL ⟨5,r,p,0,w32 (m.at_.list.getD o.k.toNat 0)⟩ 0 s)),mkS (m.st x (dL ⟨5,r,p,0,w32 (m.at_.list.getD o.k.toNat 0)⟩ 0 s))]) (λ_=>[]):=by
 have hT:=cO;refine i7 func139 ntmps139 ?_;intro β hM;refine dC _ _ [(true,0),(true,1),(true,2),(true,3),(true,4),(true,5),(true,7),(true,8),(false,6),(true,9),(true,10),(true,11),(true,12),(false,13)] dJ l8 .nil bA.self ?_;refine stM rfl (f8 hT (bI (off:=0) d7)) ?_;refine one ?_;refine stM rfl (f8 hT (bI (off:=0) d8)) ?_;refine stM rfl (f8 hT (bI (off:=0) d7)) ?_;refine g3 ?_;refine stM rfl (f8 hT (bI (off:=1) d9)) ?_;refine g3 ?_;obtain⟨e,b⟩:=gx m.at_.list o.k.toNat (hk2);refine stM rfl (bJ hT (k:=o.k.toNat) (bV e6) rfl rfl rfl rfl rfl rfl k9 (hk2)) ?_;refine stM rfl (jB b 0) ?_;refine one ?_;refine bF (z':=w32 (m.at_.list.getD o.k.toNat 0)) (by rw[tO b];exact lF _) ?_;refine stM rfl (cC rfl rfl (tL _ _ _ _)) ?_;refine one ?_;refine bG func28 (fN mb m a _ (hB.le k9) (⟨5,r,p,0,w32 (m.at_.list.getD o.k.toNat 0)⟩:cA) 0) rfl rfl (.c0 (.c0 .nil)) e8 λc=>?_;have d:=fO (i:=(⟨5,r,p,0,w32 (m.at_.list.getD o.k.toNat 0)⟩:cA)) (dst:=0) hB;refine g2 ?_;exact cT c rfl (.c0 (.c0 .nil)) e8 rfl
theorem ops5_spec(mb:Nat)(m:MkV)(a:Option Addr×Nat)(s:GnS)(hB:GnB 999900 s)(b1 b2 b3:Nat)(o:OpV)(p:Int)(r:Int):bZ prog 140 [j6 r,.pointer (some ⟨b1,0,none⟩),.pointer (some ⟨b2,0,none⟩),.pointer (some ⟨b3,0,none⟩)] [mkO mb (m.st a s),mkS (m.st a s)] [bE.cells b1 0 [.pointer (some ⟨mb,0,none⟩)],bE.cells b2 0 [j5 o.how,j5 o.k,j5 o.n,j0 o.p,j6 o.fn],bE.cells b3 0 [j6 p]] (λ(_:Option Addr×Nat)=> .tuple #[]) (λ(x:Option Addr×Nat)=>[mkO mb (m.st x (dL ⟨u8m (64+o.fn),r,p,0,0⟩ 0 s)),mkS (m.st x (dL ⟨u8m (64+o.fn),r,p,0,0⟩ 0 s))]) (λ_=>[]):=by
 have hT:=cO;refine i7 func140 ntmps140 ?_;intro β hM;refine one ?_;refine ss (f8 hT (bI (off:=0) d7)) ?_;refine one ?_;refine ss (f8 hT (bI (off:=4) d8)) ?_;refine one ?_;refine bF (z':=u8m (64+o.fn)) (pF _) ?_;refine one ?_;refine ss (f8 hT (bI (off:=0) d9)) ?_;refine ss (cC rfl rfl (oC _ _ _)) ?_;refine bG func28 (fN mb m a _ (hB.le k9) (⟨u8m (64+o.fn),r,p,0,0⟩:cA) 0) rfl rfl (.c0 (.c0 .nil)) e8 λb=>?_;have c:=fO (i:=(⟨u8m (64+o.fn),r,p,0,0⟩:cA)) (dst:=0) hB;refine jO ?_;exact cT b rfl (.c0 (.c0 .nil)) e8 rfl
theorem ops6_spec(mb:Nat)(m:MkV)(a:Option Addr×Nat)(s:GnS)(hB:GnB 999900 s)(b1 b2 b3 b4:Nat)(o:OpV)(p q:Int)(r:Int):bZ prog 141 [j6 r,.pointer (some ⟨b1,0,none⟩),.pointer (some ⟨b2,0,none⟩),.pointer (some ⟨b3,0,none⟩),.pointer (some ⟨b4,0,none⟩)] [mkO mb (m.st a s),mkS (m.st a s)] [bE.cells b1 0 [.pointer (some ⟨mb,0,none⟩)],bE.cells b2 0 [j5 o.how,j5 o.k,j5 o.n,j0 o.p,j6 o.fn],bE.cells b3 0 [j6 p],bE.cells b4 0 [j6 q]] (λ(_:Option Addr×Nat)=> .tuple #[]) (λ(x:Option Addr×Nat)=>[mkO mb (m.st x (dL ⟨u8m (128+o.fn),r,p,q,0⟩ 0 s)),mkS (m.st x (dL ⟨u8m (128+o.fn),r,p,q,0⟩ 0 s))]) (λ_=>[]):=by
 have hT:=cO;refine i7 func141 ntmps141 ?_;intro β hM;refine one ?_;refine ss (f8 hT (bI (off:=0) d7)) ?_;refine one ?_;refine ss (f8 hT (bI (off:=4) d8)) ?_;refine one ?_;refine bF (z':=u8m (128+o.fn)) (pF _) ?_;refine one ?_;refine ss (f8 hT (bI (off:=0) d9)) ?_;refine ss (f8 hT (bI (off:=0) e6)) ?_;refine ss (cC rfl rfl (tM _ _ _ _)) ?_;refine bG func28 (fN mb m a _ (hB.le k9) (⟨u8m (128+o.fn),r,p,q,0⟩:cA) 0) rfl rfl (.c0 (.c0 .nil)) e8 λb=>?_;have c:=fO (i:=(⟨u8m (128+o.fn),r,p,q,0⟩:cA)) (dst:=0) hB;refine jO ?_;exact cT b rfl (.c0 (.c0 .nil)) e8 rfl
inductive Tr3 where
 |nil
 |fl (k:Nat) (r:Tr3)
 |op (k:Nat) (r:Tr3)
 |two (k l:Nat) (r s:Tr3)
 |three (k l m:Nat) (r s t:Tr3)
def Tr3.len:Tr3->Nat
 |.nil=>0
 |.fl _ r=>r.len+1
 |.op _ r=>r.len+1
 |.two _ _ r _=>r.len+1
 |.three _ _ _ r _ _=>r.len+1
section
variable {P : Program} {ops : Array Oper} {md : Region.Mode} {C : World -> Prop} {Q : Exit -> Act -> World -> Prop}
def iX (P:Program)(ops:Array Oper)(C:World->Prop)(Q:Exit->Act->World->Prop):Tr3->Act->World->Prop
 |.nil,a,w=>Q .normal a w
 |.fl k r,a,w=> ∃o v,ops[k]?=some o/\Fl P ops C o v a/\iX P ops C Q r (a.put o.dst v) w
 |.op k r,a,w=>fOp P ops k (λa w=>C w/\iX P ops C Q r a w) a w
 |.two k l r s,a,w=>fOp P ops k (λa w=>C w/\iX P ops C Q r a w) a w/\fOp P ops l (λa w=>C w/\iX P ops C Q s a w) a w
 |.three k l m r s t,a,w=>fOp P ops k (λa w=>C w/\iX P ops C Q r a w) a w/\fOp P ops l (λa w=>C w/\iX P ops C Q s a w) a w/\fOp P ops m (λa w=>C w/\iX P ops C Q t a w) a w
def tR (md:Region.Mode)(ops:Array Oper):Tr3->Array Bool->Bool
 |.nil,listed=>(E3 md ops listed).isEmpty
 |.fl k r,listed=>(E3 md ops listed).contains k&&Region.free md ops listed k&&tR md ops r (listed.setIfInBounds k true)
 |.op k r,listed=>(E3 md ops listed==[k])&&tR md ops r (listed.setIfInBounds k true)
 |.two k l r s,listed=>(E3 md ops listed==[k,l])&&B5 r.len s.len&&tR md ops r (listed.setIfInBounds k true)&&tR md ops s (listed.setIfInBounds l true)
 |.three k l m r s t,listed=>(E3 md ops listed==[k,l,m])&&B5 r.len s.len&&B5 r.len t.len&&tR md ops r (listed.setIfInBounds k true)&&tR md ops s (listed.setIfInBounds l true)&&tR md ops t (listed.setIfInBounds m true)
theorem kI(hs:E5 ops=true): ∀(l:Tr3) (listed:Array Bool) (a:Act) (w:World),tR md ops l listed=true->C w->iX P ops C Q l a w->bBu P md ops C Q l.len listed a w
 |.nil,listed,a,w,hB,hC,h=>⟨hC,by simpa[tR]using hB,h⟩
 |.fl k r,listed,a,w,hB,hC,h=>by
  simp only[tR,G1]at hB;obtain⟨o,v,ho,n,p⟩:=h;exact xH ho (Region.noSelect_spec hs) r.len listed a w (Region.free_spec ho hB.1.2) (by simpa using hB.1.1) n (kI hs r _ _ _ hB.2 hC p)
 |.op k r,listed,a,w,hB,hC,h=>by
  simp only[tR,G1,beq_iff_eq]at hB;refine⟨hC,λh0=>t8,λi c=>?_⟩;rw[hB.1]at c;have:i=k:=by simpa using c
  subst this;exact fQ (λf d b=>kI hs r _ _ _ hB.2 b.1 b.2) h
 |.two k l r s,listed,a,w,hB,hC,h=>by
  simp only[tR,G1,beq_iff_eq]at hB;obtain⟨⟨⟨h1,g⟩,j⟩,h4⟩:=hB;refine⟨hC,λh0=>ab3,λi c=>?_⟩;rw[h1]at c;have c:i=k\/i=l:=by simpa using c
  rcases c with rfl|rfl
  .exact fQ (λf d b=>kI hs r _ _ _ j b.1 b.2) h.1
  .have e:Tr3.len (.two k i r s)=s.len+1:=by simp only[Tr3.len,B7 g]
   have z:r.len=s.len:=B7 g;rw[z];exact fQ (λf d b=>kI hs s _ _ _ h4 b.1 b.2) h.2
 |.three k l m r s t,listed,a,w,hB,hC,h=>by
  simp only[tR,G1,beq_iff_eq]at hB;obtain⟨⟨⟨⟨⟨h1,g⟩,j⟩,h4⟩,u⟩,q⟩:=hB;have y:r.len=s.len:=B7 g;have x:r.len=t.len:=B7 j;refine⟨hC,λh0=>ab3,λi c=>?_⟩;rw[h1]at c;have c:i=k\/i=l\/i=m:=by simpa using c
  rcases c with rfl|rfl|rfl
  .exact fQ (λf d b=>kI hs r _ _ _ h4 b.1 b.2) h.1
  .rw[y];exact fQ (λf d b=>kI hs s _ _ _ u b.1 b.2) h.2.1
  .rw[x];exact fQ (λf d b=>kI hs t _ _ _ q b.1 b.2) h.2.2
def mixUOk(l:Tr3)(ops:Array Oper):Bool:=E5 ops&&B5 l.len ops.size&&tR .any ops l (Array.replicate ops.size false)
end
section
variable {P : Program} {β : dE} {n : Nat} {Γ : Env} {H : List bC} {F : List bE} {Q : Exit -> Act -> World -> Prop} {Hk : List bC} {F0 : List bE} {ops : Array Oper}
theorem at_mixU{id:Nat}{l:List Oper}(Hk:List bC)(F0:List bE)(od:Tr3)(hm:P.follows .mixedOrders=true)(hB:mixUOk od l.toArray=true)(hH:Sel H Hk)(hF:bA F F0)
  (h:At β n Γ H F (iX P l.toArray (StF β Hk F0) Q od)):At β n Γ H F ((Code.region id l.toArray true).wp P Q):=λa w S f s k=>by
 simp only[mixUOk,G1]at hB;have d:=StF.drew ⟨S,s,k⟩;obtain⟨c,s',b⟩:=d;refine wp_region_any hm (qC (C:=StF β Hk F0) _ _ _ _ ?_);have:=kI (P:=P) (md:= .any) (C:=StF β Hk F0) (Q:=Q) hB.1.1 od (Array.replicate l.toArray.size false) a _ hB.2 (StF.sel hH hF ⟨c,s',b⟩) (h a _ c f s' b)
 rwa[B7 hB.1.2]at this
theorem nR{C:World->Prop}(h:At β n Γ H F (Q .normal)):At β n Γ H F (iX P ops C Q .nil):=h
theorem bEp{r:Tr3}{o:Oper}{k d:Nat}{v:Value}(hk:ops[k]?=some o)(hw:want ops Γ o=some true)(hd:o.dst=some d)(hn:Nat.blt d n=true)(h:Sti P β n Γ Hk F0 o v)
  (K:At β n ((d,v)::Γ) H F (iX P ops (StF β Hk F0) Q r)):At β n Γ H F (iX P ops (StF β Hk F0) Q (.fl k r)):=λa w S f s e=>by
 refine⟨o,v,hk,.inl ⟨f.want hw,λb ⟨g,s',c⟩=>h a b g f s' c⟩,?_⟩;rw[hd];exact K _ _ S (f.put m9 v) s e
theorem dY{r:Tr3}{o:Oper}{k:Nat}{C:World->Prop}(hk:ops[k]?=some o)(h:At β n Γ H F (wpList P ops (Nm λa w=>C w/\iX P ops C Q r a w) [o])):At β n Γ H F (iX P ops C Q (.op k r)):=wM hk h
theorem xF{r s:Tr3}{o o':Oper}{k l:Nat}{C:World->Prop}(hk:ops[k]?=some o)(hl:ops[l]?=some o')(h:At β n Γ H F (wpList P ops (Nm λa w=>C w/\iX P ops C Q r a w) [o]))(h':At β n Γ H F (wpList P ops (Nm λa w=>C w/\iX P ops C Q s a w) [o'])):
  At β n Γ H F (iX P ops C Q (.two k l r s)):=λa w S f st b=>⟨wM hk h a w S f st b,wM hl h' a w S f st b⟩
theorem bUb{r s t:Tr3}{o o' o2:Oper}{k l m:Nat}{C:World->Prop}(hk:ops[k]?=some o)(hl:ops[l]?=some o')(hm:ops[m]?=some o2)(h:At β n Γ H F (wpList P ops (Nm λa w=>C w/\iX P ops C Q r a w) [o]))(h':At β n Γ H F (wpList P ops (Nm λa w=>C w/\iX P ops C Q s a w) [o']))(h2:At β n Γ H F (wpList P ops (Nm λa w=>C w/\iX P ops C Q t a w) [o2])):
  At β n Γ H F (iX P ops C Q (.three k l m r s t)):=λa w S f st b=>⟨wM hk h a w S f st b,wM hl h' a w S f st b,wM hm h2 a w S f st b⟩
theorem cS{r:Tr3}(hH:Sel H Hk)(hF:bA F F0)(h:At β n Γ H F (iX P ops (StF β Hk F0) Q r)):At β n Γ H F (wpList P ops (Nm λa w=>StF β Hk F0 w/\iX P ops (StF β Hk F0) Q r a w) []):=λa w S f s k=>
 ⟨rfl,StF.sel hH hF ⟨S,s,k⟩,h a w S f s k⟩
end
end
section
open Go.RowKit Go.Sort Go.Proofs.Tryz
def fW (a b:Int):Prop:=(18446744073709551616:Int)∣a-b
theorem fW.refl(a:Int):fW a a:=by unfold fW;omega
theorem fW.of_eq{a b:Int}(h:a=b):fW a b:=by unfold fW;omega
theorem fW.symm{a b:Int}(h:fW a b):fW b a:=by unfold fW at*;omega
theorem fW.trans{a b c:Int}(h:fW a b)(h2:fW b c):fW a c:=by unfold fW at*;omega
theorem fW.add{a b c d:Int}(h:fW a b)(h2:fW c d):fW (a+c) (b+d):=by unfold fW at*;omega
theorem fW.sub{a b c d:Int}(h:fW a b)(h2:fW c d):fW (a-c) (b-d):=by unfold fW at*;omega
theorem fW.mul{a b:Int}(h:fW a b)(c:Int):fW (a*c) (b*c):=by
 unfold fW at*;rw[<-Int.sub_mul];exact Int.dvd_trans h (Int.dvd_mul_right _ _)
theorem bHf(a:Int):fW (wrap64 a) a:=by unfold fW wrap64;omega
theorem wrap_range(a:Int): -9223372036854775808<=wrap64 a/\wrap64 a<9223372036854775808:=by unfold wrap64;omega
theorem fW.eq{a b:Int}(h:fW a b)(h1: -9223372036854775808<=a/\a<9223372036854775808)(h2: -9223372036854775808<=b/\b<9223372036854775808):a=b:=by
 unfold fW at h;omega
def Ext (F:Mono->Int):Prop:= ∀a b:Mono,a.key=b.key->F a=F b
def dD (f:Mono->Int):List Mono->Int
 |[]=>0
 |m::l=>f m+dD f l
def lin (F:Mono->Int)(L:List Mono):Int:=dD (λm=>m.n*F m) L
theorem sumOf_perm(f:Mono->Int){l m:List Mono}(h:l.Perm m):dD f l=dD f m:=by
 induction h with
 |nil=>rfl
 |cons x _ ih=>simp only[dD,ih]
 |swap x y l=>simp only[dD];omega
 |trans _ _ ih1 ih2=>rw[ih1,ih2]
theorem bRy(f g:Mono->Int): ∀l,dD (λm=>f m+g m) l=dD f l+dD g l
 |[]=>rfl
 |m::l=>by simp only[dD,bRy f g l];omega
theorem bPh: ∀l,dD (λ_=>0) l=0
 |[]=>rfl
 |m::l=>by simp only[dD,bPh l];omega
theorem bAl(f:Mono->Int)(c:Int): ∀l,dD (λm=>f m*c) l=dD f l*c
 |[]=>by simp[dD]
 |m::l=>by simp only[dD,bAl f c l,Int.add_mul]
theorem bPf(f:Mono->Mono->Int)(q:List Mono): ∀p,dD (λa=>dD (λb=>f a b) q) p=dD (λb=>dD (λa=>f a b) p) q
 |[]=>by simp only[dD,bPh]
 |a::p=>by simp only[dD,bPf f q p,bRy]
theorem rE{f g:Mono->Int}: ∀{l:List Mono},(∀m∈l,f m=g m)->dD f l=dD g l
 |[],_=>rfl
 |m::l,h=>by simp only[dD];rw[h m n4,rE λx hx=>h x s8]
theorem bMb{f g:Mono->Int}: ∀{l:List Mono},(∀m∈l,fW (f m) (g m))->fW (dD f l) (dD g l)
 |[],_=>fW.refl _
 |m::l,h=>(h m n4).add (bMb λx hx=>h x s8)
theorem bVc(F:Mono->Int)(L:List Mono):lin F (lZ L)=lin F L:=by
 unfold lin lZ;rw[sumOf_perm _ (List.mergeSort_perm _ _)]
 induction L with
 |nil=>rfl
 |cons m l ih=>
  by_cases h:m.n=0
  .rw[List.filter_cons_of_neg w8,ih];simp[dD,h]
  .rw[List.filter_cons_of_pos w8];simp only[dD,ih]
theorem bGd{F:Mono->Int}(hF:Ext F)(k:Mono)(x:Int): ∀L,lin F (setTo k x L)=lin F L+(x-oO k L)*F k
 |[]=>by
  have:F {k with n:=x}=F k:=hF _ _ rfl;simp only[lin,setTo,oO,dD,this];simp
 |m::L=>by
  have b:F {k with n:=x}=F k:=hF _ _ rfl;have a:=bGd hF k x L;unfold lin at a;unfold setTo oO lin
  by_cases h:k.sameE m=true
  .have c:F m=F k:=hF _ _ (sameE_E.1 h).symm;simp only[if_pos h,dD,b,c,Int.sub_mul];omega
  .simp only[if_neg h,dD,a];omega
theorem bTc{F:Mono->Int}(hF:Ext F)(m:Mono)(v:Int)(L:List Mono):fW (lin F (tD m v L)) (lin F L+v*F m):=by
 unfold tD;rw[bGd hF];refine(fW.refl _).add (fW.mul ?_ _);have:=bHf (oO m L+v);unfold fW at*;omega
theorem bDm{F:Mono->Int}(hF:Ext F)(g:Mono->Int): ∀(p L:List Mono),fW (lin F (fR g L p)) (lin F L+dD (λm=>g m*F m) p)
 |[],L=>by simp only[fR,dD,aB];exact fW.refl _
 |m::p,L=>by
  refine(bDm hF g p (tD m (g m) L)).trans ?_;refine((bTc hF m (g m) L).add (fW.refl _)).trans (fW.of_eq ?_);simp only[dD];omega
theorem bQg{F:Mono->Int}(hF:Ext F)(a:Mono): ∀(q L:List Mono),fW (lin F (kU a L q)) (lin F L+dD (λb=>a.n*b.n*F (mulM a b)) q)
 |[],L=>by simp only[kU,dD,aB];exact fW.refl _
 |b::q,L=>by
  refine(bQg hF a q _).trans ?_;refine(((bTc hF (mulM a b) _ L).trans ((fW.refl _).add ((bHf _).mul _))).add (fW.refl _)).trans (fW.of_eq ?_);simp only[dD];omega
theorem bOm{F:Mono->Int}(hF:Ext F)(q:List Mono): ∀(p L:List Mono),fW (lin F (gU q L p)) (lin F L+dD (λa=>dD (λb=>a.n*b.n*F (mulM a b)) q) p)
 |[],L=>by simp only[gU,dD,aB];exact fW.refl _
 |a::p,L=>by
  refine(bOm hF q p _).trans ?_;refine((bQg hF a q L).add (fW.refl _)).trans (fW.of_eq ?_);simp only[dD];omega
def Fit (L:List Mono):Prop:= ∀m∈L,-9223372036854775808<=m.n/\m.n<9223372036854775808
theorem bUk(m:Mono)(v:Int){L:List Mono}(h:Fit L):Fit (tD m v L):=λy a=>by
 rcases bAh a with rfl|a
 .exact wrap_range _
 .exact h y a
theorem bBv(g:Mono->Int): ∀(p:List Mono) {L:List Mono},Fit L->Fit (fR g L p)
 |[],_,h=>h
 |_::p,_,h=>bBv g p (bUk _ _ h)
theorem bMl(a:Mono): ∀(q:List Mono) {L:List Mono},Fit L->Fit (kU a L q)
 |[],_,h=>h
 |_::q,_,h=>bMl a q (bUk _ _ h)
theorem bPr(q:List Mono): ∀(p:List Mono) {L:List Mono},Fit L->Fit (gU q L p)
 |[],_,h=>h
 |a::p,_,h=>bPr q p (bMl a q h)
theorem fit_nil:Fit []:=λ_ h=>by simp at h
def ind (k:Nat)(m:Mono):Int:=if m.key=k then 1 else 0
theorem ext_ind(k:Nat):Ext (ind k):=λa b h=>by unfold ind;rw[h]
theorem sX(F:Mono->Int)(m:Mono)(L:List Mono):lin F (m::L)=m.n*F m+lin F L:=rfl
theorem ind_ne{k:Nat}{m:Mono}(h:m.key≠k):ind k m=0:=if_neg h
theorem ind_self(m:Mono):ind m.key m=1:=if_pos rfl
theorem wU{k:Nat}: ∀{L:List Mono},(∀y∈L,y.key≠k)->lin (ind k) L=0
 |[],_=>rfl
 |m::L,h=>by
  rw[sX,wU (L:=L) (k:=k) λy a=>h y (by simp[a]),ind_ne (h m n4)];simp
theorem bFg{x:Mono}: ∀{L:List Mono},iR L->x∈L->lin (ind x.key) L=x.n
 |[],_,h=>by simp at h
 |m::L,hA,h=>by
  obtain⟨h1,b⟩:=D2.1 hA;rw[sX]
  rcases C9.1 h with rfl|h
  .rw[wU (L:=L) (k:=x.key) λy a=>Ne.symm (h1 y a),ind_self];simp
  .rw[bFg b h,ind_ne (h1 x h)];simp
theorem bVd{L L':List Mono}(hA:iR L)(hf:Fit L)(hA':iR L')(hf':Fit L')(h: ∀F,Ext F->fW (lin F L) (lin F L')){x:Mono}(hx:x∈lZ L):x∈lZ L':=by
 obtain⟨hx,h0⟩:=bHi.1 hx;have e:=h _ (ext_ind x.key);rw[bFg hA hx]at e;have b:=hf x hx
 by_cases a: ∃y∈L',y.key=x.key
 .obtain⟨y,a,c⟩:=a;rw[<-c,bFg hA' a]at e;have hn:=e.eq b (hf' y a);rw[eq_of_key c.symm hn]at h0⊢;exact bHi.2 ⟨a,h0⟩
 .rw[wU λy h1 d=>a ⟨y,h1,d⟩]at e;exact absurd (e.eq b k9) h0
theorem bPv{L L':List Mono}(hA:iR L)(hf:Fit L)(hA':iR L')(hf':Fit L')(h: ∀F,Ext F->fW (lin F L) (lin F L')):lZ L=lZ L':=
 vO.ext (zE hA) (zE hA') λ_=>⟨bVd hA hf hA' hf' h,bVd hA' hf' hA hf λF a=>(h F a).symm⟩
theorem tZ: ∀{l:List Mono} {o:Option Mono},dN o l=true->vO l/\(∀a,o=some a-> ∀m∈l,m.key<a.key)/\(∀m∈l,gL m=true)
 |[],_,_=>⟨by simp[vO],n4,n4⟩
 |m::l,none,h=>by
  rw[dN,G1]at h;obtain⟨h1,c,d⟩:=tZ h.2;refine⟨D2.2 ⟨λb hb=>c m rfl b hb,h1⟩,n4,?_⟩;intro x hx
  rcases C9.1 hx with rfl|hx
  .exact h.1
  .exact d x hx
 |m::l,some a,h=>by
  rw[dN,G1,G1,decide_eq_true_eq]at h;obtain⟨h1,c,d⟩:=tZ h.2.2;have e:=(ord_lt _ _).1 h.2.1;refine⟨D2.2 ⟨λb hb=>c m rfl b hb,h1⟩,?_,?_⟩
  .intro g f x hx;obtain rfl:a=g:=Option.some.inj f
   rcases C9.1 hx with rfl|hx
   .exact e
   .exact Nat.lt_trans (c m rfl x hx) e
  .intro x hx
   rcases C9.1 hx with rfl|hx
   .exact h.1
   .exact d x hx
theorem pY{p:List Mono}(h:cJ p=true):vO p/\(∀m∈p,gL m=true)/\p.length<=48:=by
 simp only[cJ,G1,decide_eq_true_eq]at h;exact⟨(tZ h.2).1,(tZ h.2).2.2,h.1⟩
theorem bKb{p:List Mono}(h:cJ p=true):iR p:=(pY h).1.apart
def bIz (p q:List Mono)(s:Int):List Mono:=fR (λm=>wrap64 (s*m.n)) (fR Mono.n [] p) q
theorem bVo:iR []:=by simp[iR]
theorem bJv(p q:List Mono)(s:Int):iR (bIz p q s):=kR _ _ (kR _ _ bVo)
theorem bVs(p q:List Mono)(s:Int):Fit (bIz p q s):=bBv _ _ (bBv _ _ fit_nil)
theorem bTq{F:Mono->Int}(hF:Ext F)(p q:List Mono)(s:Int):fW (lin F (bIz p q s)) (lin F p+s*lin F q):=by
 refine(bDm hF _ q _).trans ?_;refine fW.add ((bDm hF _ p _).trans (fW.of_eq ?_)) ?_
 .simp only[lin,dD,aC]
 .unfold lin;rw[aD,<-bAl];refine bMb λm _=>((bHf _).mul _).trans (fW.of_eq ?_);rw[aD s,aE,aD s,aE]
theorem lin_mulL{F:Mono->Int}(hF:Ext F)(p q:List Mono):fW (lin F (gU q [] p)) (dD (λa=>dD (λb=>a.n*b.n*F (mulM a b)) q) p):=by
 refine(bOm hF q p []).trans (fW.of_eq ?_);simp only[lin,dD,aC]
theorem bQm(p q:List Mono):iR (gU q [] p):=rX _ _ bVo
theorem fit_mulL(p q:List Mono):Fit (gU q [] p):=bPr _ _ fit_nil
theorem mulM_comm(a b:Mono):mulM a b=mulM b a:=by
 simp only[mulM,aD a.n,aK a.e0,aK a.e1,aK a.e2,aK a.e3,aK a.e4,aK a.e5]
theorem bothP_L(p q:List Mono)(s:Int):bothP p q s=if cJ p&&cJ q then gM (bIz p q s)else ([],20):=rfl
theorem add_comm(p q:List Mono):bothP p q 1=bothP q p 1:=by
 have h:lZ (bIz p q 1)=lZ (bIz q p 1):=bPv (bJv _ _ _) (bVs _ _ _) (bJv _ _ _) (bVs _ _ _) λF a=>
  (bTq a p q 1).trans ((fW.of_eq k9).trans (bTq a q p 1).symm)
 rw[bothP_L,bothP_L,Bool.and_comm];unfold gM;rw[h]
theorem mul_comm(p q:List Mono):nW p q=nW q p:=by
 have h:lZ (gU q [] p)=lZ (gU p [] q):=bPv (bQm _ _) (fit_mulL _ _) (bQm _ _) (fit_mulL _ _) λF c=>
  (lin_mulL c p q).trans ((fW.of_eq (by
   rw[bPf];refine rE λb _=>rE λa _=>?_
   rw[mulM_comm,aD a.n])).trans (lin_mulL c q p).symm)
 unfold nW;rw[Bool.and_comm];unfold gM;rw[h]
theorem both_ok{p q a:List Mono}{s:Int}(h:bothP p q s=(a,0)):cJ p=true/\cJ q=true/\a=lZ (bIz p q s)/\cJ a=true:=by
 unfold bothP gM at h;split at h
 .rename_i h1;simp only[G1]at h1;split at h
  .rename_i b;injection h with h _
   refine⟨h1.1,h1.2,h.symm,?_⟩;rw[<-h];exact b
  .simp at h
 .simp at h
theorem mul_ok{p q a:List Mono}(h:nW p q=(a,0)):cJ p=true/\cJ q=true/\a=lZ (gU q [] p)/\cJ a=true:=by
 unfold nW gM at h;split at h
 .rename_i h1;simp only[G1]at h1;split at h
  .rename_i b;injection h with h _
   refine⟨h1.1,h1.2,h.symm,?_⟩;rw[<-h];exact b
  .simp at h
 .simp at h
end
section
open Go.RowKit Go.Sort Go.Proofs.Tryz
def kC:List (UInt8×Int)->Int
 |[]=>1
 |x::l=>x.2^x.1.toNat*kC l
def val (D:Nat->Int)(m:Mono):Int:=kC (dM m D)
theorem ext_val(D:Nat->Int):Ext (val D):=λa b h=>by
 have:=key_E.1 h;simp only[Mono.E,List.cons.injEq,and_true]at this;obtain⟨h0,h1,e,d,h4,c⟩:=this;simp only[val,dM,h0,h1,e,d,h4,c]
theorem bSf{d:Int}: ∀{e:Nat} {n r:Int},rD d e n=some r->r=n*d^e
 |0,n,r,h=>by simp only[rD,Option.some.injEq]at h;simp[h]
 |e+1,n,r,h=>by
  unfold rD at h;split at h
  .simp at h
  .rw[bSf h,aF,aE,aD d]
theorem bSg: ∀{l:List (UInt8×Int)} {n r:Int},nV l n=some r->r=n*kC l
 |[],n,r,h=>by simp only[nV,Option.some.injEq]at h;simp[h,kC]
 |x::l,n,r,h=>by
  simp only[nV,Option.bind_eq_some_iff]at h;obtain⟨k,h1,a⟩:=h;rw[bSg a,bSf h1,kC,aE]
theorem bBx: ∀{l:List (UInt8×Int)},fP l=true->kC l=0
 |[],h=>by simp[fP]at h
 |x::l,h=>by
  simp only[fP,Z6,G6,G1,decide_eq_true_eq,beq_iff_eq]at h
  rcases h with ⟨h1,a⟩|h
  .rw[kC,a,Int.zero_pow k9,Int.zero_mul]
  .rw[kC,bBx (l:=l) (by simpa[fP]using h),aG]
theorem value_val{m:Mono}{D:Nat->Int}(h:(cM m D).2=true):(cM m D).1=max m.n (-m.n)*val D m:=by
 unfold cM at*;split
 .rename_i hz;rw[val,bBx hz];simp
 .split
  .rename_i n hn;exact bSg hn
  .rename_i hz _ hn;rw[if_neg hz,hn]at h;simp at h
theorem bPm{D:Nat->Int}(hD: ∀k,0<=D k): ∀{l:List Mono} {size sum r:Int},-size<=sum->sum<=size->size<=gE->iT D l size sum=some r->r=sum+lin (val D) l/\ -gE<=r/\r<=gE
 |[],size,sum,r,h1,h2,h3,h=>by
  simp only[iT,Option.some.injEq]at h;subst h;exact⟨by simp[lin,dD],k9,k9⟩
 |m::l,size,sum,r,h1,h2,h3,h=>by
  unfold iT at h;split at h
  .simp at h
  .rename_i c;rw[not_or]at c;have d:=value_val (m:=m) (D:=D) (by simpa using c.1);have h0:=xE m D hD
   have b:(if m.n<0 then sum-(cM m D).1 else sum+(cM m D).1)=sum+m.n*val D m:=by
    rw[d];split
    .rw[show max m.n (-m.n)= -m.n by omega,Int.neg_mul];omega
    .rw[show max m.n (-m.n)=m.n by omega]
   have a: -(size+(cM m D).1)<=sum+m.n*val D m/\sum+m.n*val D m<=size+(cM m D).1:=by
    rw[<-b];split<;>omega
   rw[b]at h;obtain⟨g,f,e⟩:=bPm hD a.1 a.2 k9 h;exact⟨by rw[g,sX];omega,f,e⟩
theorem eval_ok{p:List Mono}{ds:List Int}{v:Int}(h:bD p ds=(v,0)):cJ p=true/\v=lin (val (cL ds)) p/\ -gE<=v/\v<=gE:=by
 unfold bD at h;split at h
 .rename_i h1;split at h
  .rename_i a;simp only[nD,G1]at a;have hD: ∀k,0<=cL ds k:=λk=>(yI a.2 k).1;split at h
   .rename_i n hn;injection h with h _
    subst h;obtain⟨d,c,b⟩:=bPm hD k9 k9 l5 hn;exact⟨h1,by rw[d];omega,c,b⟩
   .simp at h
  .simp at h
 .simp at h
def Bnd (N:Int)(L:List Mono):Prop:= ∀m∈L,-N<=m.n/\m.n<=N
theorem coef_bnd{N:Int}(hN:0<=N)(k:Mono): ∀{L:List Mono},Bnd N L-> -N<=oO k L/\oO k L<=N
 |[],_=>by simp only[oO];omega
 |m::L,h=>by
  unfold oO;split
  .exact h m n4
  .exact coef_bnd hN k λx hx=>h x s8
theorem bJr{F:Mono->Int}(hF:Ext F){N V:Int}(hN:0<=N)(hV:0<=V)(hNV:N+V<9223372036854775808)(m:Mono){v:Int}(hv: -V<=v/\v<=V){L:List Mono}(h:Bnd N L):
  lin F (tD m v L)=lin F L+v*F m/\Bnd (N+V) (tD m v L):=by
 have c:=coef_bnd hN m h;have b:wrap64 (oO m L+v)=oO m L+v:=by unfold wrap64;omega
 unfold tD;rw[b];constructor
 .rw[bGd hF,show oO m L+v-oO m L=v by omega]
 .intro y a
  rcases bAh a with rfl|a
  .show _<=oO m L+v/\oO m L+v<=_;omega
  .have:=h y a;omega
theorem prod_bnd{x y:Int}(hx: -16777216<=x/\x<=16777216)(hy: -16777216<=y/\y<=16777216): -281474976710656<=x*y/\x*y<=281474976710656:=by
 have h:(x*y).natAbs<=16777216*16777216:=by
  rw[Int.natAbs_mul];exact Nat.mul_le_mul k9 k9
 omega
theorem bLs{m:Mono}(h:gL m=true): -16777216<=m.n/\m.n<=16777216:=by
 simp only[gL,decide_eq_true_eq]at h;omega
theorem bFr{F:Mono->Int}(hF:Ext F)(a:Mono)(ha:gL a=true): ∀{q L:List Mono} {N:Int},0<=N->N+281474976710656*q.length<9223372036854775808->(∀b∈q,gL b=true)->Bnd N L->
  lin F (kU a L q)=lin F L+dD (λb=>a.n*b.n*F (mulM a b)) q/\Bnd (N+281474976710656*q.length) (kU a L q)
 |[],L,N,_,_,_,h=>by
  refine⟨by simp[kU,dD],?_⟩
  simpa[kU]using h
 |b::q,L,N,hN,hl,hq,h=>by
  rw[E1]at hl⊢;have d:=prod_bnd (bLs ha) (bLs (hq b n4));have c:wrap64 (a.n*b.n)=a.n*b.n:=by unfold wrap64;omega
  obtain⟨i,g⟩:=bJr hF (V:=281474976710656) hN k9 k9 (mulM a b) d h;obtain⟨f,e⟩:=bFr hF a ha (q:=q) k9 k9 (λx hx=>hq x s8) g;rw[kU,c];refine⟨?_,?_⟩
  .rw[f,i];simp only[dD];omega
  .rw[show N+281474976710656*((q.length+1:Nat):Int)=N+281474976710656+281474976710656*q.length by omega];exact e
theorem bDs{F:Mono->Int}(hF:Ext F){q:List Mono}(hq: ∀b∈q,gL b=true)(hl:q.length<=48): ∀{p L:List Mono} {N:Int},0<=N->N+13510798882111488*p.length<9223372036854775808->(∀b∈p,gL b=true)->Bnd N L->
  lin F (gU q L p)=lin F L+dD (λa=>dD (λb=>a.n*b.n*F (mulM a b)) q) p
 |[],L,N,_,_,_,h=>by simp[gU,dD]
 |a::p,L,N,hN,hp,hs,h=>by
  rw[E1]at hp;obtain⟨f,e⟩:=bFr hF a (hs a n4) (q:=q) hN k9 hq h;have d:Bnd (N+13510798882111488) (kU a L q):=λx hx=>by have:=e x hx;omega
  have c:=bDs hF hq hl (p:=p) k9 k9 (λx hx=>hs x s8) d;rw[gU,c,f];simp only[dD];omega
theorem sF(x y:UInt8)(d:Int)(h:x.toNat+y.toNat<256):d^(x+y).toNat=d^x.toNat*d^y.toNat:=by
 rw[UInt8.toNat_add,Nat.mod_eq_of_lt h,Int.pow_add]
theorem bVf{m:Mono}(h:gL m=true):m.e0.toNat<=8/\m.e1.toNat<=8/\m.e2.toNat<=8/\m.e3.toNat<=8/\m.e4.toNat<=8/\m.e5.toNat<=8:=by
 simp only[gL,decide_eq_true_eq]at h;have h:=h.2.2.2;unfold Mono.deg at h;omega
theorem val_mul(D:Nat->Int){a b:Mono}(ha:gL a=true)(hb:gL b=true):val D (mulM a b)=val D a*val D b:=by
 obtain⟨n,m,l,k,j,i⟩:=bVf ha;obtain⟨h,g,f,e,d,c⟩:=bVf hb;simp only[val,dM,mulM,kC];rw[sF _ _ _ k9,sF _ _ _ k9,sF _ _ _ k9,sF _ _ _ k9,sF _ _ _ k9,sF _ _ _ k9];simp only[aH]
 ac_rfl
theorem eval_dims{p:List Mono}{ds:List Int}{v:Int}(h:bD p ds=(v,0)):nD ds=true:=by
 unfold bD at h;split at h
 .split at h
  .assumption
  .simp at h
 .simp at h
end
section
open Go.Proofs.Tryz
theorem pow_le{a b:Int}(ha:0<=a)(h:a<=b): ∀e:Nat,0<=a^e/\a^e<=b^e
 |0=>by simp
 |e+1=>by
  obtain⟨h1,c⟩:=pow_le ha h e;rw[aF,aF];exact⟨Y9 h1 ha,Int.mul_le_mul c h ha (Int.le_trans h1 c)⟩
theorem prod_le{D D':Nat->Int}(hD: ∀k,0<=D k)(h: ∀k,D k<=D' k): ∀l:List (UInt8×Nat),0<=kC (l.map λx=>(x.1,D x.2))/\kC (l.map λx=>(x.1,D x.2))<=kC (l.map λx=>(x.1,D' x.2))
 |[]=>by simp[kC]
 |x::l=>by
  obtain⟨h1,b⟩:=prod_le hD h l;obtain⟨a,h4⟩:=pow_le (hD x.2) (h x.2) x.1.toNat;simp only[List.map_cons,kC];exact⟨Y9 a h1,Int.mul_le_mul h4 b h1 (Int.le_trans a h4)⟩
theorem val_le{D D':Nat->Int}(hD: ∀k,0<=D k)(h: ∀k,D k<=D' k)(m:Mono):0<=val D m/\val D m<=val D' m:=
 prod_le hD h [(m.e0,0),(m.e1,1),(m.e2,2),(m.e3,3),(m.e4,4),(m.e5,5)]
theorem lin_le{D D':Nat->Int}(hD: ∀k,0<=D k)(h: ∀k,D k<=D' k): ∀p:List Mono,(∀m∈p,0<=m.n)->0<=lin (val D) p/\lin (val D) p<=lin (val D') p
 |[],_=>by simp[lin,dD]
 |m::p,hp=>by
  obtain⟨h1,d⟩:=lin_le hD h p λx hx=>hp x s8;obtain⟨a,h4⟩:=val_le hD h m;have h0:=hp m n4;have c:=Y9 h0 a;have b:=aI h4 h0;rw[sX,sX];exact⟨k9,k9⟩
theorem grows_n{p:List Mono}(h:nH p=true): ∀m∈p,0<=m.n:=λm a=>by
 simp only[nH,G1,L3,Z7,bHq,decide_eq_true_eq]at h;have:=h.2 m a;omega
theorem eval_pos{p:List Mono}{ds:List Int}{v:Int}(h:bD p ds=(v,0)): ∀k,0<=cL ds k:=λk=>by
 have:=eval_dims h;simp only[nD,G1]at this;exact(yI this.2 k).1
theorem grows_pos{p:List Mono}{ds:List Int}{a:Int}(hg:nH p=true)(ha:bD p ds=(a,0)):0<=a:=by
 obtain⟨_,b,_⟩:=eval_ok ha;rw[b];exact(lin_le (eval_pos ha) (λk=>aJ _) p (grows_n hg)).1
end
section
open Go.RowKit Go.Sort Go.Proofs.Tryz
set_option maxRecDepth 100000
def num0 (n:Int):Mono:=⟨n,0,0,0,0,0,0⟩
def kP (n:Int):List Mono×Int:=if n=0 then ([],0)else if 16777216<n\/n< -16777216 then ([],21)else ([num0 n],0)
theorem bQy(n:Int)(w:World):(Instr.build 111 #[(0,j5 n)]).run prog w= .ok (.agg #[j5 n,j6 0,j6 0,j6 0,j6 0,j6 0,j6 0]) w:=run_build w _ _ _ l4
theorem res_one(w:World)(m:Mono):Res w.heap.size (w.alloc (.cells #[j5 m.n,j6 m.e0.toNat,j6 m.e1.toNat,j6 m.e2.toNat,j6 m.e3.toNat,j6 m.e4.toNat,j6 m.e5.toNat] 111)) (.slice (some ⟨w.heap.size,0,none⟩) 1 1) [m]:=by
 refine⟨_,1,rfl,.inr ⟨w.heap.size,rfl,B8 _,?_⟩⟩
 have h:bRk (w.alloc (.cells #[.int .i64 m.n,.int .u8 m.e0.toNat,.int .u8 m.e1.toNat,.int .u8 m.e2.toNat,.int .u8 m.e3.toNat,.int .u8 m.e4.toNat,.int .u8 m.e5.toNat] 111)) w.heap.size (.slice (some ⟨w.heap.size,0,none⟩) [m].length 1) [m]:=
  ⟨rfl,.inr ⟨w.heap.size,1,#[.int .i64 m.n,.int .u8 m.e0.toNat,.int .u8 m.e1.toNat,.int .u8 m.e2.toNat,.int .u8 m.e3.toNat,.int .u8 m.e4.toNat,.int .u8 m.e5.toNat],rfl,B8 _,heap_alloc_new _ _,B8 _,by simp[maxLen],rfl,rfl⟩⟩
 exact h.row
set_option maxHeartbeats 400000 in
theorem const_any(n:Int)(w:World):Calls prog 93 #[j5 n] w (bJm w (kP n)):=by
 have hbn:=bQy
 by_cases h0:n=0
 .have e:kP n=([],0):=by unfold kP;rw[if_pos h0]
  rw[e];subst h0
  go_enter func93,ntmps93
  go_wp2
  go_ret2
  exact⟨_,rfl,Below.refl _ _,Res.nil _ _ _ _⟩
 .have h01:(n==0)=false:=by simpa using h0
  by_cases h1:16777216<n
  .have e:kP n=([],21):=by unfold kP;rw[if_neg h0,if_pos (.inl h1)]
   rw[e];have h11:decide (16777216<n)=true:=by simpa using h1
   go_enter func93,ntmps93
   go_wp2
   go_ret2
   exact⟨_,rfl,Below.refl _ _,Res.nil _ _ _ _⟩
  .have h11:decide (16777216<n)=false:=by simpa using h1
   by_cases h2:n< -16777216
   .have e:kP n=([],21):=by unfold kP;rw[if_neg h0,if_pos (.inr h2)]
    rw[e];have h21:decide (n< -16777216)=true:=by simpa using h2
    go_enter func93,ntmps93
    go_wp2
    go_ret2
    exact⟨_,rfl,Below.refl _ _,Res.nil _ _ _ _⟩
   .have e:kP n=([num0 n],0):=by unfold kP;rw[if_neg h0,if_neg k9]
    rw[e];have h21:decide (n< -16777216)=false:=by simpa using h2
    go_enter func93,ntmps93
    go_wp2
    go_ret2
    exact⟨_,rfl,by go_grown,res_one w (num0 n)⟩
set_option maxHeartbeats 400000 in
theorem add_any(A B:Option Addr)(c d:Nat)(p q:List Mono)(w:World)(ha:kK w A p)(hb:kK w B q)(hp:p.length<=140737488355328)(hq:q.length<=140737488355328):
  Calls prog 96 #[.slice A p.length c,.slice B q.length d] w (bJm w (bothP p q 1)):=by
 have H:=Lib.hid (both_any A B c d p q 1 w ha hb hp hq);clear ha hb
 go_enter func96,ntmps96
 go_wp2_with fail
 refine H.out.mono ?_;rintro e w1 ⟨v,rfl,hb1,hv⟩;have HB:=Lib.hid hb1;have HV:=Lib.hid hv;clear hb1 hv
 go_wp2
 go_ret2
 exact⟨_,rfl,HB.out,HV.out⟩
end
section
open Go.RowKit Go.Proofs.Tryz
def pI:List (List Mono)->List Mono->Option (List Mono)
 |[],n=>some n
 |p::r,n=>if (nW n p).2=0 then pI r (nW n p).1 else none
def qZ (sides:List (List Mono)):Option (List Mono):=pI sides (kP 1).1
structure SpC where
 at_:List Mono
 size:List Mono
 deriving DecidableEq
structure PlC where
 ats:List (List Mono)
 end_:List Mono
 free:List SpC
 laid:List (Option SpC)
def bDb (n:List Mono)(again:Bool)(l:List SpC):Option (Nat×SpC):=
 if again=true/\n≠[]then match l.findIdx? (λq=>decide (q.size=n))with
  |none=>none
  |some i=>match l[i]? with
   |none=>none
   |some q=>some (i,q)
 else none
def layC (sides:List (List Mono))(b:Nat)(again:Bool)(s:PlC):Option PlC:=match qZ sides with
 |none=>none
 |some n=>match bDb n again s.free with
  |some (i,q)=>some {s with free:=s.free.eraseIdx i,laid:=s.laid.set b (some q),ats:=s.ats.set b q.at_}
  |none=>if (bothP s.end_ n 1).2=0 then some {s with end_:=(bothP s.end_ n 1).1,laid:=s.laid.set b (some ⟨s.end_,n⟩),ats:=s.ats.set b s.end_}else none
def relGo (i:Int):List LifeC->List (Option SpC)->List (Option SpC)×List SpC
 |y::ys,some q::r=>if y.to_<i then (none::(relGo i ys r).1,if q.size=[]then (relGo i ys r).2 else q::(relGo i ys r).2)else (some q::(relGo i ys r).1,(relGo i ys r).2)
 |_::ys,none::r=>(none::(relGo i ys r).1,(relGo i ys r).2)
 |[],l=>(l,[])
 |_,[]=>([],[])
def relC (i:Int)(l:List LifeC)(s:PlC):PlC:={s with laid:=(relGo i l s.laid).1,free:=s.free++(relGo i l s.laid).2}
def kL (bufs:List gP)(l:List LifeC):Nat->Nat->PlC->Option PlC
 |0,_,s=>some s
 |m+1,b,s=>match bufs[b]?,l[b]? with
  |some u,some y=>if y.from_<0 then match layC u.sides b false s with
    |none=>none
    |some s'=>kL bufs l m (b+1) s'
   else kL bufs l m (b+1) s
  |_,_=>none
def goC (c:dA)(l:List LifeC)(w:List Bool):List bX->Nat->PlC->Option PlC
 |[],_,s=>some s
 |x::r,i,s=>match c.bufs[x.buf.toNat]?,l[x.buf.toNat]?,w[x.buf.toNat]? with
  |some u,some y,some t=>if y.from_=(i:Int)then match layC u.sides x.buf.toNat t (relC i l s)with
    |none=>none
    |some s'=>goC c l w r (i+1) s'
   else goC c l w r (i+1) s
  |_,_,_=>none
def tJ (n:Nat):PlC:=⟨T9 n [],[],[],T9 n none⟩
def tS (c:dA):Option (List (List Mono)×List Mono):=match kL c.bufs (cX c) c.bufs.length 0 (tJ c.bufs.length)with
 |none=>none
 |some s=>match goC c (cX c) (nC c) c.steps 0 s with
  |none=>none
  |some s=>some (s.ats,s.end_)
end
section
open Go.RowKit Go.Sort Go.Proofs.Tryz
def Gr (p:List Mono):Prop:=cJ p=true/\ ∀m∈p,0<=m.n
abbrev VD (ds:List Int)(p:List Mono):Int:=lin (val (cL ds)) p
theorem gr_of{p:List Mono}(h:nH p=true):Gr p:=⟨by unfold nH at h;rw[G1]at h;exact h.1,grows_n h⟩
theorem gr_nil:Gr []:=⟨by rfl,λ_ h=>by cases h⟩
theorem vM{f:Mono->Int}: ∀{l:List Mono},(∀m∈l,0<=f m)->0<=dD f l
 |[],_=>by simp[dD]
 |m::l,h=>by
  have h1:=h m (D5 ..);have a:=vM λx hx=>h x (D1 m hx);simp only[dD];omega
theorem ind_pos(k:Nat)(m:Mono):0<=ind k m:=by unfold ind;split<;>omega
section
variable {p q s : List Mono}
theorem mul_lin{F:Mono->Int}(hF:Ext F)(hs:nW p q=(s,0)):lin F s=dD (λa=>dD (λb=>a.n*b.n*F (mulM a b)) q) p:=by
 obtain⟨g,hq,c,_⟩:=mul_ok hs;obtain⟨_,f,i⟩:=pY g;obtain⟨_,e,d⟩:=pY hq;rw[c,bVc,bDs hF e d (N:=0) k9 k9 f (λ_ h=>by simp at h)];simp only[lin,dD,aC]
theorem mul_V{D:Nat->Int}(hs:nW p q=(s,0)):lin (val D) s=lin (val D) p*lin (val D) q:=by
 obtain⟨c,hq,_,_⟩:=mul_ok hs;obtain⟨_,b,_⟩:=pY c;obtain⟨_,a,_⟩:=pY hq;rw[mul_lin (ext_val D) hs];simp only[lin];rw[<-bAl];refine rE λm d=>?_;rw[aD,<-bAl];refine rE λn hn=>?_;rw[val_mul _ (b m d) (a n hn)]
 ac_rfl
theorem mul_gr(hp:Gr p)(hq:Gr q)(hs:nW p q=(s,0)):Gr s:=by
 obtain⟨_,_,_,hr⟩:=mul_ok hs;refine⟨hr,λm c=>?_⟩;rw[<-bFg (bKb hr) c,mul_lin (ext_ind _) hs];exact vM λa d=>vM λb hb=>Y9 (Y9 (hp.2 a d) (hq.2 b hb)) (ind_pos _ _)
theorem xA{F:Mono->Int}(hF:Ext F){g:Mono->Int}: ∀{p L:List Mono} {N:Int},0<=N->N+16777216*p.length<9223372036854775808->(∀m∈p,gL m=true/\g m=m.n)->Bnd N L->lin F (fR g L p)=lin F L+lin F p/\Bnd (N+16777216*p.length) (fR g L p)
 |[],L,N,_,_,_,h=>by
  refine⟨by simp[fR,lin,dD],?_⟩
  simpa[fR]using h
 |m::p,L,N,hN,hl,hp,h=>by
  rw[E1]at hl⊢;obtain⟨h1,a⟩:=hp m (D5 ..);have hb:=bLs h1;obtain⟨e,d⟩:=bJr hF (V:=16777216) hN k9 k9 m hb h;obtain⟨c,b⟩:=xA hF (g:=g) (p:=p) k9 k9 (λx hx=>hp x (D1 _ hx)) d;rw[fR,a];refine⟨?_,?_⟩
  .rw[c,e,sX];omega
  .rw[show N+16777216*((p.length+1:Nat):Int)=N+16777216+16777216*p.length by omega];exact b
theorem add_lin{F:Mono->Int}(hF:Ext F)(hs:bothP p q 1=(s,0)):lin F s=lin F p+lin F q:=by
 obtain⟨e,hq,c,_⟩:=both_ok hs;obtain⟨_,d,l⟩:=pY e;obtain⟨_,b,k⟩:=pY hq;rw[c,bVc];unfold bIz;obtain⟨j,i⟩:=xA hF (g:=Mono.n) (p:=p) (L:=[]) (N:=0) k9 k9 (λm a=>⟨d m a,rfl⟩) (λ_ h=>by simp at h)
 obtain⟨f,_⟩:=xA hF (g:=λm=>wrap64 (1*m.n)) (p:=q) k9 k9 (λm a=>⟨b m a,by
  have:=bLs (b m a);show wrap64 (1*m.n)=m.n;unfold wrap64
  omega⟩) i
 rw[f,j];simp only[lin,dD,aC]
theorem add_gr(hp:Gr p)(hq:Gr q)(hs:bothP p q 1=(s,0)):Gr s:=by
 obtain⟨_,_,_,hr⟩:=both_ok hs;refine⟨hr,λm c=>?_⟩;rw[<-bFg (bKb hr) c,add_lin (ext_ind _) hs];have h1:0<=lin (ind m.key) p:=vM λa b=>Y9 (hp.2 a b) (ind_pos _ _);have d:0<=lin (ind m.key) q:=vM λa b=>Y9 (hq.2 a b) (ind_pos _ _);omega
end
theorem powD_is{d:Int}(hd:1<=d): ∀{e:Nat} {n:Int},0<=n->n*d^e<=gE->rD d e n=some (n*d^e)
 |0,n,_,_=>by simp[rD]
 |e+1,n,hn,h=>by
  have f:1<=d^e:=by
   have:=(pow_le (a:=1) (b:=d) k9 hd e).2
   rwa[Int.one_pow]at this
  have c:0<=n*d:=Y9 hn k9;have i:n*d^(e+1)=n*d*d^e:=by rw[aF,aD (d^e),aE]
  rw[i]at h⊢
  have g:n*d<=gE:=by
   have:n*d*1<=n*d*d^e:=aI f c;omega
  rw[rD,if_neg,powD_is hd c h];intro hlt;have:=Int.le_ediv_of_mul_le k9 g;omega
theorem mulD_is: ∀{l:List (UInt8×Int)} {n:Int},(∀x∈l,0<=x.2)->fP l=false->0<=n->n*kC l<=gE->nV l n=some (n*kC l)
 |[],n,_,_,_,_=>by simp[nV,kC]
 |x::l,n,h0,hz,hn,h=>by
  have a:fP l=false:=by
   unfold fP at hz⊢;rw[Z6,Z9]at hz;exact hz.2
  have hx:x.1.toNat=0\/1<=x.2:=by
   unfold fP at hz;rw[Z6,Z9,aA]at hz;have:=h0 x (D5 ..)
   rcases hz.1 with h1|h1
   .left;have:=of_decide_eq_false h1;omega
   .right;have:x.2≠0:=by simpa using h1
    omega
  have hl:1<=kC l:=prodD_pos (λy c=>h0 y (D1 _ c)) a;have d:0<=x.2^x.1.toNat:=Int.pow_nonneg (h0 x (D5 ..));have g:n*kC (x::l)=n*x.2^x.1.toNat*kC l:=by rw[kC,aE]
  rw[g]at h⊢;have b:0<=n*x.2^x.1.toNat:=Y9 hn d
  have f:n*x.2^x.1.toNat<=gE:=by
   have:n*x.2^x.1.toNat*1<=n*x.2^x.1.toNat*kC l:=aI hl b;omega
  have e:rD x.2 x.1.toNat n=some (n*x.2^x.1.toNat):=by
   rcases hx with hx|hx
   .rw[hx];simp[rD]
   .exact powD_is hx hn f
  rw[nV,e,Option.bind_some];exact mulD_is (λy c=>h0 y (D1 _ c)) a b h
where
 prodD_pos: ∀{l:List (UInt8×Int)},(∀x∈l,0<=x.2)->fP l=false->1<=kC l
  |[],_,_=>by simp[kC]
  |x::l,h0,hz=>by
   unfold fP at hz;rw[Z6,Z9,aA]at hz;have h1:=prodD_pos (l:=l) (λy hy=>h0 y (D1 _ hy)) hz.2;have h2:=h0 x (D5 ..)
   have h3:1<=x.2^x.1.toNat:=by
    rcases hz.1 with h4|h4
    .have:x.1.toNat=0:=by
      have:=of_decide_eq_false h4;omega
     rw[this];simp
    .have:x.2≠0:=by simpa using h4
     have:=(pow_le (a:=1) (b:=x.2) k9 k9 x.1.toNat).2
     rwa[Int.one_pow]at this
   rw[kC];have h5:1*kC l<=x.2^x.1.toNat*kC l:=Int.mul_le_mul_of_nonneg_right h3 k9;omega
section
variable {D : Nat -> Int} (hD : ∀ k, 0 <= D k)
include hD
theorem pairs_pos(m:Mono): ∀x∈dM m D,0<=x.2:=λx hx=>by
 simp only[dM,C9,List.not_mem_nil,or_false]at hx
 rcases hx with rfl|rfl|rfl|rfl|rfl|rfl<;>exact hD _
theorem value_is{m:Mono}(h0:0<=m.n)(h:m.n*val D m<=gE):cM m D=(m.n*val D m,true):=by
 unfold cM
 cases hz:fP (dM m D)with
 |true=>
  rw[if_pos rfl,val,bBx hz,aG]
 |false=>
  have a:max m.n (-m.n)=m.n:=k9
  rw[if_neg n4,a,mulD_is (pairs_pos hD m) hz h0 h];rfl
theorem evalL_is: ∀{l:List Mono} {size sum:Int},(∀m∈l,0<=m.n)->0<=size->size+lin (val D) l<=gE->iT D l size sum=some (sum+lin (val D) l)
 |[],size,sum,_,_,_=>by simp[iT,lin,dD]
 |m::l,size,sum,hn,hs,h=>by
  rw[sX]at h⊢;have h0:=hn m (D5 ..);have h1:=Y9 h0 (val_le hD (λ_=>aJ _) m).1;have b:=(lin_le hD (λ_=>aJ _) l λx hx=>hn x (D1 _ hx)).1;have a:=value_is hD h0 k9
  rw[iT,a,if_neg (by
   show ¬(true=false\/gE-size<m.n*val D m);rintro(h|h)
   .cases h
   .omega),if_neg k9]
  show iT D l (size+m.n*val D m) (sum+m.n*val D m)=_;rw[evalL_is (λx hx=>hn x (D1 _ hx)) k9 k9]
  congr 1
  omega
end
section
variable {ds : List Int}
theorem dims_pos(hd:nD ds=true): ∀k,0<=cL ds k:=λk=>by
 simp only[nD,G1]at hd;exact(yI hd.2 k).1
theorem eval_is{p:List Mono}(hg:Gr p)(hd:nD ds=true)(hv:VD ds p<=gE):bD p ds=(VD ds p,0):=by
 unfold bD;rw[if_pos hg.1,if_pos hd,evalL_is (dims_pos hd) hg.2 k9 (by show 0+VD ds p<=gE;omega)];show(0+VD ds p,(0:Int))=_;rw[aC]
theorem gr_pos{p:List Mono}(hg:Gr p)(hd:nD ds=true):0<=VD ds p:=(lin_le (dims_pos hd) (λ_=>aJ _) p hg.2).1
def yN:List Int->Int
 |[]=>1
 |n::r=>n*yN r
theorem bQb: ∀{l:List Int},l.contains 0=true->yN l=0
 |[],h=>by cases h
 |n::r,h=>by
  rw[List.contains_cons,G6,beq_iff_eq]at h
  rcases h with h|h
  .rw[yN,<-h,Int.zero_mul]
  .rw[yN,bQb h,aG]
theorem bMh: ∀{l:List Int} {a r:Int},prodQ l a=some r->r=a*yN l
 |[],a,r,h=>by cases h;rw[yN,aH]
 |n::l,a,r,h=>by
  unfold prodQ at h;split at h
  .cases h
  .rw[bMh h,yN,aE]
theorem bFf: ∀{l:List (List Mono)} {acc r:List Int},sidesGo ds l acc=some r->r=acc++l.map (VD ds)
 |[],acc,r,h=>by cases h;simp
 |p::l,acc,r,h=>by
  unfold sidesGo at h;split at h
  .rename_i a;simp only[bUt,G1,beq_iff_eq]at a;have c:bD p ds=((bD p ds).1,0):=by rw[<-a.1.1]
   obtain⟨_,b,_⟩:=eval_ok c;rw[bFf h,b];simp
  .cases h
theorem sizeB_prod{sides:List (List Mono)}{n:Int}(h:sizeB sides ds=some n):n=yN (sides.map (VD ds)):=by
 unfold sizeB at h;split at h
 .cases h
 .rename_i l hl;have hl:=bFf hl;rw[List.nil_append]at hl;subst hl;split at h
  .rename_i hz;cases h;rw[bQb hz]
  .rw[bMh h,Int.one_mul]
theorem bIv: ∀{l:List (List Mono)} {n s:List Mono},(∀p∈l,Gr p)->Gr n->pI l n=some s->VD ds s=VD ds n*yN (l.map (VD ds))/\Gr s
 |[],n,s,_,hn,h=>by
  cases h;exact⟨by rw[List.map_nil,yN,aH],hn⟩
 |p::l,n,s,hl,hn,h=>by
  unfold pI at h;split at h
  .rename_i h0;have a:nW n p=((nW n p).1,0):=by rw[<-h0]
   have b:=hl p (D5 ..);obtain⟨h1,c⟩:=bIv (λx hx=>hl x (D1 _ hx)) (mul_gr hn b a) h;refine⟨?_,c⟩;rw[h1,List.map_cons,yN];show lin (val (cL ds)) (nW n p).1*_=_;rw[mul_V a,aE]
  .cases h
theorem const_gr:Gr (kP 1).1:=⟨l5,l5⟩
theorem const_V:VD ds (kP 1).1=1:=by
 show lin (val (cL ds)) [num0 1]=1;simp[lin,dD,val,dM,kC,num0]
theorem sizeC_is{sides:List (List Mono)}{n:Int}{s:List Mono}(hg: ∀p∈sides,Gr p)(hb:sizeB sides ds=some n)(hs:qZ sides=some s):VD ds s=n/\Gr s:=by
 obtain⟨h1,a⟩:=bIv (ds:=ds) hg const_gr hs;exact⟨by rw[h1,const_V,Int.one_mul,sizeB_prod hb],a⟩
end
end
section
open Go.RowKit Go.Sort Go.Proofs.Tryz
def SzV (ds:List Int)(u:gP):Int:=VD ds ((qZ u.sides).getD [])
structure bBj (c:dA) (ds:List Int):Prop where
 dims:nD ds=true
 size: ∀(b:Nat) u,c.bufs[b]?=some u->0<=SzV ds u/\SzV ds u<=65536/\Gr ((qZ u.sides).getD [])
structure AgI (c:dA) (ds:List Int) (L:Nat->Prop) (N:Nat) (s:PlC):Prop where
 endG:Gr s.end_
 endV:VD ds s.end_<=65536*N
 free: ∀q∈s.free,Gr q.at_/\VD ds q.at_+VD ds q.size<=VD ds s.end_/\0<=VD ds q.size
 laid: ∀q,some q∈s.laid->Gr q.at_/\VD ds q.at_+VD ds q.size<=VD ds s.end_/\0<=VD ds q.size
 ats: ∀(b:Nat) a,s.ats[b]?=some a->Gr a/\VD ds a<=VD ds s.end_
 low: ∀(k:Nat) a u,L k->s.ats[k]?=some a->c.bufs[k]?=some u->VD ds a+SzV ds u<=VD ds s.end_
 pair: ∀(b k:Nat) y z a a' u,L b->L k->(cX c)[b]?=some y->(cX c)[k]?=some z->s.ats[b]?=some a->s.ats[k]?=some a'->c.bufs[k]?=some u->z.from_<y.from_->(nC c)[b]?=some false->VD ds a'+SzV ds u<=VD ds a
section
variable {c : dA} {ds : List Int} {L L' : Nat -> Prop} {N N' : Nat} {s s' : PlC} {b : Nat} {u : gP} {y : LifeC} {again : Bool}
theorem AgI.less(h:AgI c ds L N s)(hL: ∀k,L' k->L k)(hN:N<=N'):AgI c ds L' N' s where
 endG:=h.endG
 endV:=by have:=h.endV;omega
 free:=h.free
 laid:=h.laid
 ats:=h.ats
 low:=λk a u d=>h.low k a u (hL k d)
 pair:=λb k y z a e u hb d=>h.pair b k y z a e u (hL b hb) (hL k d)
theorem ag_start(n:Nat):AgI c ds (λ_=>False) 0 (tJ n) where
 endG:=gr_nil
 endV:=by show(0:Int)<=_;omega
 free:=λ_ h=>by cases h
 laid:=λq h=>by
  have:=List.eq_of_mem_replicate (show some q∈T9 n (none:Option SpC)from h);cases this
 ats:=λb a h=>by
  have h:(T9 n ([]:List Mono))[b]?=some a:=h;rw[List.getElem?_replicate]at h;split at h
  .cases h;exact⟨gr_nil,aJ _⟩
  .cases h
 low:=λ_ _ _ h=>h.elim
 pair:=λ_ _ _ _ _ _ _ h=>h.elim
theorem bAo{i:Int}: ∀{ys:List LifeC} {l:List (Option SpC)},(∀q,some q∈(relGo i ys l).1->some q∈l)/\(∀q∈(relGo i ys l).2,some q∈l)
 |y::ys,some p::r=>by
  obtain⟨h1,a⟩:=bAo (i:=i) (ys:=ys) (l:=r);rw[relGo];split
  .refine⟨λq hq=>?_,λq hq=>?_⟩
   .rcases C9.1 hq with hq|hq
    .cases hq
    .exact D1 _ (h1 q hq)
   .have hq:q∈(if p.size=[]then (relGo i ys r).2 else p::(relGo i ys r).2):=hq;split at hq
    .exact D1 _ (a q hq)
    .rcases C9.1 hq with rfl|hq
     .exact D5 ..
     .exact D1 _ (a q hq)
  .refine⟨λq hq=>?_,λq hq=>D1 _ (a q hq)⟩
   rcases C9.1 hq with hq|hq
   .rw[hq];exact D5 ..
   .exact D1 _ (h1 q hq)
 |y::ys,none::r=>by
  obtain⟨h1,a⟩:=bAo (i:=i) (ys:=ys) (l:=r);rw[relGo];refine⟨λq hq=>?_,λq hq=>D1 _ (a q hq)⟩
  rcases C9.1 hq with hq|hq
  .cases hq
  .exact D1 _ (h1 q hq)
 |[],l=>by
  rw[relGo];exact⟨λq hq=>hq,λq hq=>by cases hq⟩
 |y::ys,[]=>by simp[relGo]
theorem AgI.rel{i:Int}{l:List LifeC}(h:AgI c ds L N s):AgI c ds L N (relC i l s) where
 endG:=h.endG
 endV:=h.endV
 free:=λq hq=>by
  rcases List.mem_append.1 (show q∈s.free++(relGo i l s.laid).2 from hq)with hq|hq
  .exact h.free q hq
  .exact h.laid q (bAo.2 q hq)
 laid:=λq hq=>h.laid q (bAo.1 q hq)
 ats:=h.ats
 low:=h.low
 pair:=h.pair
theorem freeAt_some{n:List Mono}{l:List SpC}{i:Nat}{q:SpC}(h:bDb n again l=some (i,q)):q∈l/\q.size=n/\again=true:=by
 unfold bDb at h;split at h
 .rename_i d;split at h
  .cases h
  .rename_i j c;split at h
   .cases h
   .rename_i p a;cases h;obtain⟨hlt,b,_⟩:=List.findIdx?_eq_some_iff_getElem.1 c;obtain⟨_,e⟩:=D9.1 a;rw[e]at b;exact⟨Z8 a,of_decide_eq_true b,d.1⟩
 .cases h
theorem AgI.put(h:AgI c ds L N s)(hs:bBj c ds)(hu:c.bufs[b]?=some u)(hy:(cX c)[b]?=some y)(hb: ¬L b)(hmax: ∀k z,L k->(cX c)[k]?=some z->z.from_<=y.from_){at_ e:List Mono}{fr:List SpC}{ld:List (Option SpC)}
  (he:Gr e) (heV:VD ds s.end_<=VD ds e) (heN:VD ds e<=65536*(N+1:Nat)) (ha:Gr at_) (haV:VD ds at_+SzV ds u<=VD ds e) (hfr: ∀q∈fr,q∈s.free) (hld: ∀q,some q∈ld->some q∈s.laid\/q.at_=at_/\VD ds q.size=SzV ds u)
  (hend:(nC c)[b]?=some false->VD ds at_=VD ds s.end_):AgI c ds (λk=>L k\/k=b) (N+1) {ats:=s.ats.set b at_,end_:=e,free:=fr,laid:=ld}:=by
 obtain⟨C,E,_⟩:=hs.size b u hu
 have g: ∀(k:Nat) a,(s.ats.set b at_)[k]?=some a->k≠b->s.ats[k]?=some a:=λk a d t=>by
  rwa[List.getElem?_set_ne (Ne.symm t)]at d
 have new: ∀a,(s.ats.set b at_)[b]?=some a->a=at_:=λa d=>by
  rw[List.getElem?_set]at d;simp only[if_true]at d;split at d
  .cases d;rfl
  .cases d
 refine⟨he,heN,λq hq=>?_,λq hq=>?_,λk a d=>?_,λk a v D d l=>?_,λp k x z a r v o n j hz m d l hlt A=>?_⟩
 .obtain⟨h1,B,w⟩:=h.free q (hfr q hq);exact⟨h1,by show _<=VD ds e;omega,w⟩
 .rcases hld q hq with hq|⟨f,i⟩
  .obtain⟨h1,B,w⟩:=h.laid q hq;exact⟨h1,by show _<=VD ds e;omega,w⟩
  .rw[f,i];exact⟨ha,haV,C⟩
 .by_cases f:k=b
  .subst f;rw[new a d];exact⟨ha,by show _<=VD ds e;omega⟩
  .obtain⟨h1,B⟩:=h.ats k a (g k a d f);exact⟨h1,by show _<=VD ds e;omega⟩
 .show _<=VD ds e
  by_cases f:k=b
  .subst f;rw[new a d];rw[hu]at l;cases l;exact haV
  .have:=h.low k a v (D.resolve_right f) (g k a d f) l;omega
 .by_cases f:p=b
  .subst f;rw[new a m,hend A]
   by_cases i:k=p
   .subst i;rw[j]at hz;cases hz;omega
   .exact h.low k r v (n.resolve_right i) (g k r d i) l
  .by_cases i:k=b
   .subst i;rw[hy]at hz;cases hz;have:=hmax p x (o.resolve_right f) j;omega
   .exact h.pair p k x z a r v (o.resolve_right f) (n.resolve_right i) j hz (g p a m f) (g k r d i) l hlt A
theorem bFk{l:List (Option SpC)}{p:SpC}{q:SpC}(h:some q∈l.set b (some p)):some q∈l\/q=p:=by
 rcases List.mem_or_eq_of_mem_set h with h|h
 .exact .inl h
 .cases h;exact .inr rfl
theorem AgI.lay(h:AgI c ds L N s)(hs:bBj c ds)(hu:c.bufs[b]?=some u)(hy:(cX c)[b]?=some y)(hb: ¬L b)(hmax: ∀k z,L k->(cX c)[k]?=some z->z.from_<=y.from_)(hag:again=true->(nC c)[b]?=some true)(hl:layC u.sides b again s=some s'):
  AgI c ds (λk=>L k\/k=b) (N+1) s':=by
 obtain⟨v,t,e⟩:=hs.size b u hu;unfold layC at hl;split at hl
 .cases hl
 .rename_i n hn;have hz:SzV ds u=VD ds n:=by unfold SzV;rw[hn];rfl
  have d:Gr n:=by rw[hn]at e;exact e
  split at hl
  .rename_i j q hq;cases hl;obtain⟨o,f,m⟩:=freeAt_some hq;obtain⟨r,l,x⟩:=h.free q o;rw[f,<-hz]at l;refine h.put hs hu hy hb hmax h.endG (aJ _) (by have:=h.endV;omega) r l (λp a=>List.mem_of_mem_eraseIdx a) (λp a=>?_) (λi=>?_)
   .rcases bFk a with a|rfl
    .exact .inl a
    .exact .inr ⟨rfl,by rw[f,hz]⟩
   .rw[hag m]at i;cases i
  .split at hl
   .rename_i h0;cases hl;have g:bothP s.end_ n 1=((bothP s.end_ n 1).1,0):=by rw[<-h0]
    have w:VD ds (bothP s.end_ n 1).1=VD ds s.end_+SzV ds u:=by rw[hz];exact add_lin (ext_val _) g
    refine h.put hs hu hy hb hmax (add_gr h.endG d g) k9 (by have:=h.endV;omega) h.endG k9 (λp a=>a) (λp a=>?_) (λ_=>rfl)
    rcases bFk a with a|rfl
    .exact .inl a
    .exact .inr ⟨rfl,hz.symm⟩
   .cases hl
end
theorem bQd{b:Int}: ∀{r:List bX} {i:Nat} {d:Int},lS b i r d=d\/ ∃j x,lS b i r d=((i+j:Nat):Int)/\r[j]?=some x/\x.buf=b
 |[],i,d=> .inl rfl
 |x::r,i,d=>by
  rw[lS];split
  .rename_i e;exact .inr ⟨0,x,rfl,rfl,e⟩
  .rcases bQd (b:=b) (r:=r) (i:=i+1) (d:=d)with h|⟨j,z,h1,c,a⟩
   .exact .inl h
   .exact .inr ⟨j+1,z,by rw[show i+(j+1)=i+1+j by omega];exact h1,c,a⟩
section
variable {c : dA} {ds : List Int} {N : Nat} {s s' : PlC} {b : Nat} {y : LifeC}
theorem lives_from(hr:cY c=true)(hy:(cX c)[b]?=some y):y=⟨0,-1⟩\/y.from_= -1\/ ∃(j:Nat) (x:bX),y.from_=(j:Int)/\c.steps[j]?=some x/\x.buf=b:=by
 rw[lives_eq hr]at hy;unfold livesR at hy;rw[List.getElem?_mapIdx]at hy
 cases hu:c.bufs[b]? with
 |none=>rw[hu]at hy;cases hy
 |some u=>
  rw[hu]at hy;cases hy;unfold lifeR;split
  .exact .inl rfl
  .right
   rcases bQd (b:=(b:Int)) (r:=c.steps) (i:=0) (d:= -1)with h|⟨j,x,h1,e,a⟩
   .exact .inl h
   .exact .inr ⟨j,x,by rw[Nat.zero_add]at h1;exact h1,e,a⟩
theorem bSt(hr:cY c=true)(hy:(cX c)[b]?=some y)(h:y.from_<0):y.from_= -1:=by
 rcases lives_from hr hy with rfl|h1|⟨j,x,h1,_⟩
 .cases h
 .exact h1
 .omega
def LB (c:dA)(m k:Nat):Prop:=k<m/\ ∃z,(cX c)[k]?=some z/\z.from_<0
theorem bFh(hr:cY c=true)(hs:bBj c ds): ∀{m b N:Nat} {s:PlC},b+m=c.bufs.length->AgI c ds (LB c b) N s->kL c.bufs (cX c) m b s=some s'->AgI c ds (LB c c.bufs.length) (N+m) s'
 |0,b,N,s,hb,h,hq=>by
  cases hq;rw[Nat.add_zero]at hb;rw[<-hb];exact h
 |m+1,b,N,s,hb,h,hq=>by
  unfold kL at hq;split at hq
  .rename_i u y hu i;split at hq
   .rename_i a;split at hq
    .cases hq
    .rename_i t n
     have h1:=h.lay hs hu i (λhl=>by have:=hl.1;omega) (λk z hl hz=>by
      obtain⟨_,p,g,d⟩:=hl;rw[hz]at g;cases g;have:=bSt hr hz d;have:=bSt hr i a
      omega) (λo=>by cases o) n
     have l:AgI c ds (LB c (b+1)) (N+1) t:=h1.less (λk f=>by
      by_cases e:k=b
      .exact .inr e
      .exact .inl ⟨by have:=f.1;omega,f.2⟩) (B8 _)
     have j:=bFh hr hs k9 l hq
     rwa[show N+1+m=N+(m+1) by omega]at j
   .rename_i a
    have l:AgI c ds (LB c (b+1)) (N+1) s:=h.less (λk f=>by
     refine⟨?_,f.2⟩;have:=f.1
     rcases Nat.lt_or_ge k b with h4|h4
     .exact h4
     .obtain rfl:k=b:=k9
      obtain⟨_,z,hz,d⟩:=f;rw[i]at hz;cases hz
      exact absurd d a) k9
    have j:=bFh hr hs k9 l hq
    rwa[show N+1+m=N+(m+1) by omega]at j
  .cases hq
def LG (c:dA)(i k:Nat):Prop:= ∃z,(cX c)[k]?=some z/\(z.from_<0\/ ∃(j:Nat) (x:bX),z.from_=(j:Int)/\j<i/\c.steps[j]?=some x/\x.buf=k)
theorem go_ag(hr:cY c=true)(hs:bBj c ds): ∀{r:List bX} {i N:Nat} {s:PlC},c.steps.drop i=r->AgI c ds (LG c i) N s->goC c (cX c) (nC c) r i s=some s'->AgI c ds (LG c c.steps.length) (N+r.length) s'
 |[],i,N,s,hd,h,hq=>by
  cases hq;refine h.less (λk hk=>?_) n4;obtain⟨z,hz,hk⟩:=hk;refine⟨z,hz,?_⟩
  rcases hk with hk|⟨j,x,h1,h2,h3,h4⟩
  .exact .inl hk
  .have:=List.drop_eq_nil_iff.1 hd;exact .inr ⟨j,x,h1,k9,h3,h4⟩
 |x::r,i,N,s,hd,h,hq=>by
  have hx:c.steps[i]?=some x:=by
   have:=congrArg (λl=>l[0]?) hd
   simpa[List.getElem?_drop]using this
  have hd2:c.steps.drop (i+1)=r:=by
   have:=congrArg (List.drop 1) hd
   simpa[List.drop_drop,Nat.add_comm]using this
  have hxb:((x.buf.toNat:Nat):Int)=x.buf:=by
   have:=(bDi (fL hr).2.2.1 x (f4 hx)).1;omega
  rw[E1];unfold goC at hq;split at hq
  .rename_i u y t hu hy ht;split at hq
   .rename_i hfi;split at hq
    .cases hq
    .rename_i p hp
     have h1:=(h.rel (i:=i) (l:=cX c)).lay hs hu hy (λhl=>by
      obtain⟨z,hz,hk⟩:=hl;rw[hy]at hz;cases hz
      rcases hk with hk|⟨j,x',h1,h2,_⟩<;>omega) (λk z hl hz=>by
      obtain⟨z',hz',hk⟩:=hl;rw[hz]at hz';cases hz'
      rcases hk with hk|⟨j,x',h1,h2,_⟩<;>omega) (λha=>by rw[ht,ha]) hp
     have h2:AgI c ds (LG c (i+1)) (N+1) p:=h1.less (λk hk=>by
      obtain⟨z,hz,hk⟩:=hk
      rcases hk with hk|⟨j,x',h1,h2,h3,h4⟩
      .exact .inl ⟨z,hz,.inl hk⟩
      .by_cases e:j=i
       .subst e;rw[hx]at h3;cases h3;exact .inr k9
       .exact .inl ⟨z,hz,.inr ⟨j,x',h1,k9,h3,h4⟩⟩) (B8 _)
     have h3:=go_ag hr hs hd2 h2 hq
     rwa[show N+1+r.length=N+(r.length+1) by omega]at h3
   .rename_i hfi
    have h2:AgI c ds (LG c (i+1)) (N+1) s:=h.less (λk hk=>by
     obtain⟨z,hz,hk⟩:=hk;refine⟨z,hz,?_⟩
     rcases hk with hk|⟨j,x',h1,h2,h3,h4⟩
     .exact .inl hk
     .by_cases e:j=i
      .subst e;rw[hx]at h3;cases h3;obtain rfl:x.buf.toNat=k:=k9
       rw[hy]at hz;cases hz;exact absurd h1 hfi
      .exact .inr ⟨j,x',h1,k9,h3,h4⟩) k9
    have h3:=go_ag hr hs hd2 h2 hq
    rwa[show N+1+r.length=N+(r.length+1) by omega]at h3
  .cases hq
end
section
variable {c : dA} {ds : List Int}
theorem bCq: ∀{l:List gP} {al r:Int},cellsGo ds l al=(r,0)-> ∀u∈l,∃n,sizeB u.sides ds=some n
 |[],_,_,_,u,hu=>by cases hu
 |b::l,al,r,h,u,hu=>by
  unfold cellsGo at h;split at h
  .cases h
  .rename_i n hn;split at h
   .cases h
   .rcases C9.1 hu with rfl|hu
    .exact⟨n,hn⟩
    .exact bCq h u hu
theorem bCy{vars:Int}: ∀{l:List gP} {seen:List Int},sW vars l seen=true-> ∀u∈l,∀p∈u.sides,Gr p
 |[],_,_,u,hu=>by cases hu
 |b::l,seen,h,u,hu=>by
  rw[sW,G1,G1,G1]at h
  rcases C9.1 hu with rfl|hu
  .intro p a;have h1:=h.1;unfold mN at h1;rw[G1]at h1;have:=D6.1 h1.1 p a;rw[G1]at this;exact gr_of this.2
  .exact bCy h.2.2.2 u hu
theorem bJg{al:Int}(hr:cY c=true)(hc:dX c ds=(al,0)):bBj c ds:=by
 unfold dX at hc;rw[if_pos hr]at hc;split at hc
 .rename_i hd;unfold qQ at hd;rw[G1,decide_eq_true_eq,L3,Z7]at hd;have h:=(fL hr).1;refine⟨?_,λb u hu=>?_⟩
  .unfold nD;rw[G1,decide_eq_true_eq,D6];refine⟨k9,λn hn=>?_⟩;have:=hd.2 n hn;unfold badD at this;simp only[G6,decide_eq_true_eq]at this;unfold jL;exact decide_eq_true k9
  .have a:=Z8 hu;obtain⟨n,hn⟩:=bCq hc u a;have hg:=bCy (fL hr).2.1 u a;obtain⟨g,f⟩:=bNl hn;unfold SzV
   cases hz:qZ u.sides with
   |none=>exact⟨aJ _,by show(0:Int)<=65536;omega,gr_nil⟩
   |some q=>
    obtain⟨e,d⟩:=sizeC_is hg hn hz;show 0<=VD ds q/\VD ds q<=65536/\Gr q;rw[e];exact⟨g,f,d⟩
 .cases hc
end
end
section
open Go.RowKit Go.Proofs.Tryz
theorem bQr{a b:Bool}(h:(a&&b)=true):a=true/\b=true:=by simpa using h
theorem opB_inG{vars loops buf:Int}{made:List Bool}{o:OpC}(h:opB vars loops buf made o=true):o.how=4->o.k.toNat<made.length:=λh4=>by
 unfold opB at h;rw[if_neg k9,if_neg k9,if_neg k9,if_pos h4]at h;have a:=(bQr (bQr h).2).1;rw[U5]at a
 cases hg:made[o.k.toNat]? with
 |none=>rw[hg]at a;cases a
 |some z=>exact(D9.1 hg).1
theorem pos_of{p:List Mono}{ds:List Int}(hg:nH p=true)(h:(bD p ds).2=0):0<=(bD p ds).1:=grows_pos (a:=(bD p ds).1) hg (by rw[<-h])
theorem xB{vars:Int}{bufs:List gP}: ∀{r:List bX} {made:List Bool},made.length=bufs.length->mF vars bufs r made=true-> ∀x∈r,∃made',made'.length=bufs.length/\nB vars made' x=true/\0<=x.buf/\x.buf.toNat<bufs.length
 |[],_,_,_,x,hx=>by cases hx
 |y::r,made,hm,h,x,hx=>by
  rw[mF,G1,G1,G1]at h;obtain⟨⟨h1,a⟩,c,h4⟩:=h
  rcases C9.1 hx with rfl|hx
  .refine⟨made,hm,c,of_decide_eq_true h1,?_⟩
   cases hb:bufs[x.buf.toNat]? with
   |none=>rw[hb]at a;cases a
   |some b=>exact(D9.1 hb).1
  .exact xB (by rw[List.length_set];exact hm) h4 x hx
def OpsG (l:List OpC)(bufs:Nat):Prop:= ∀o∈l,(o.how=3->0<=o.k/\o.k<=1000)/\(o.how=4->0<=o.k/\o.k.toNat<bufs)
structure StepG (x:gV) (ds:List Int) (nb:Nat):Prop where
 hN: ∀p∈polsL x.loops.list,(bD p ds).2=0->0<=(bD p ds).1
 hlo:x.ops.list.length<=256
 hL1:1<=x.ops.list.length
 hll:x.loops.list.length<=4
 hne:x.how=2->x.loops.list≠[]
 hne3:x.how=3->x.loops.list≠[]
 hb0:0<=x.buf
 hb1:x.buf.toNat<nb
 hA:(bD x.at_.list ds).2=0->0<=(bD x.at_.list ds).1
 hh:x.how=1\/x.how=2\/x.how=3
 hO:OpsG (opsL x.ops.list) nb
 hD:Deep (opsL x.ops.list) 0
theorem bDk{c:gD}(hr:cY c.c=true)(ds:List Int){x:gV}(hx:x∈c.steps.list):StepG x ds c.bufs.list.length:=by
 obtain⟨_,_,z,_⟩:=fL hr;obtain⟨made,v,j,s,q⟩:=xB (pX _) z x.c (List.mem_map.2 ⟨x,hx,rfl⟩);have g:c.c.bufs.length=c.bufs.list.length:=cD _;have hD:=deep_step j;unfold nB at j;simp only[G1,D6,decide_eq_true_eq]at j;obtain⟨⟨_,w⟩,hl,a,_,d,m⟩:=j;have a:(opsL x.ops.list).length<=256:=a;rw[dR]at a;unfold mN at hl;simp only[G1,D6,decide_eq_true_eq]at hl;obtain⟨n,b⟩:=hl;have b:(polsL x.loops.list).length<=4:=b;rw[bW]at b
 have f:x.how=2\/x.how=3->x.loops.list≠[]:=λe A=>by
  have i:(if x.how=1 then x.fn==0 else if x.how=2\/x.how=3 then !(polsL x.loops.list).isEmpty&&kG x.fn true else false)=true:=d;rw[if_neg k9,if_pos e,A]at i;cases i
 refine⟨λp u h=>pos_of (n p u).2 h,a,?_,b,λe=>f (.inl e),λe=>f (.inr e),s,by rw[<-g];exact q,λh=>pos_of w h,?_,λo ho=>?_,hD⟩
 .cases hl:x.ops.list with
  |nil=>
   have hD:Deep (opsL x.ops.list) 0:=hD;rw[hl]at hD;cases hD
  |cons y r=>simp
 .have i:(if x.how=1 then x.fn==0 else if x.how=2\/x.how=3 then !(polsL x.loops.list).isEmpty&&kG x.fn true else false)=true:=d
  rcases Classical.em (x.how=1)with e|e
  .exact .inl e
  .rcases Classical.em (x.how=2\/x.how=3)with t|t
   .exact .inr t
   .rw[if_neg e,if_neg t]at i;cases i
 .have h1:=m o ho;refine⟨λe=>?_,λe=>?_⟩
  .unfold opB at h1;rw[if_neg k9,if_neg k9,if_pos e]at h1;simp only[G1,decide_eq_true_eq]at h1;have l:0<=o.k/\o.k<((polsL x.loops.list).length:Int):=h1.1;rw[bW]at l;omega
  .have l:=opB_inG h1 e;unfold opB at h1;rw[if_neg k9,if_neg k9,if_neg k9,if_pos e]at h1;simp only[G1,decide_eq_true_eq]at h1;rw[v,g]at l;exact⟨h1.1.1,l⟩
theorem bufsB_in{vars:Int}: ∀{l:List gP} {seen:List Int},sW vars l seen=true-> ∀u∈l,-1<=u.input/\u.input<64
 |[],_,_,u,hu=>by cases hu
 |v::l,seen,h,u,hu=>by
  obtain⟨_,b⟩:=bQr (show(mN v.sides vars&&(decide (-1<=v.input/\v.input<64)&&(!(seen.contains v.input)&&sW vars l (if 0<=v.input then v.input::seen else seen))))=true from h);obtain⟨a,h4⟩:=bQr b
  rcases C9.1 hu with rfl|hu
  .exact of_decide_eq_true a
  .exact bufsB_in (bQr h4).2 u hu
end
end Go.Proofs.YtnfiadlonjediaaGreatDoor
