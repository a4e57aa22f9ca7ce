/- Texts of one proof, one behind the other: GmC, MixU, Alg, Val, Grow, MakesT, PlaceP, AgA, AgB, StpG. -/
import Derived.Test.YtnfiadlonjediaaGreatDoorM7
import Derived.Test.YtnfiadlonjediaaGreatDoorM11
import Derived.Test.YtnfiadlonjediaaGreatDoorM6
import Derived.Test.YtnfiadlonjediaaGreatDoorM10
set_option maxRecDepth 100000
namespace Go.Proofs.YtnfiadlonjediaaGreatDoor
section
open Go.RowKit Go.Proofs.Tryz
theorem sO{l:List Int}{k:Nat}{x:Int}(h:l[k]?=some x):l.getD k 0=x:=by rw[List.getD_eq_getElem?_getD,h];rfl
theorem sG(z0:Int)(z1:Int)(z2:Int)(z4:Int):prog.built 52 [(0,.int .u8 z0),(1,.int .u8 z1),(2,.int .u8 z2),(4,.int .i32 z4)]=some #[.int .u8 z0,.int .u8 z1,.int .u8 z2,.int .u8 0,.int .i32 z4]:=k8
theorem sF(z0:Int)(z1:Int)(z2:Int)(z3:Int):prog.built 52 [(0,.int .u8 z0),(1,.int .u8 z1),(2,.int .u8 z2),(3,.int .u8 z3)]=some #[.int .u8 z0,.int .u8 z1,.int .u8 z2,.int .u8 z3,.int .i32 0]:=k8
theorem ops1_spec(mb:Nat)(m:MkV)(a:Option Addr×Nat)(s:GnS)(hB:GnB 999900 s)(b1 b2:Nat)(o:OpV)(r:Int):cE prog 130 [.int .u8 r,.pointer (some ⟨b1,0,none⟩),.pointer (some ⟨b2,0,none⟩)] [mkO mb (m.st a s),mkS (m.st a s)] [bC.cells b1 0 [.pointer (some ⟨mb,0,none⟩)],bC.cells b2 0 [.int .i64 o.how,.int .i64 o.k,.int .i64 o.n,.slice o.p.addr o.p.list.length o.p.cap,.int .u8 o.fn]] (λ(_:Option Addr×Nat)=> .tuple #[]) (λ(x:Option Addr×Nat)=>[mkO mb (m.st x (numG r o.n s)),mkS (m.st x (numG r o.n s))]) (λ_=>[]):=by
 have hT:=cT;refine j2 func130 ntmps130 ?_;intro β hM;refine one ?_;refine ss (i6 hT (bI (off:=0) d7)) ?_;refine g2 ?_;refine ss (i6 hT (bI (off:=2) d8)) ?_;refine bF func68 (fU mb m a _ (hB.le k7) (r) (o.n)) rfl rfl (.c0 (.c0 .nil)) e8 λy1=>?_;have hB2:=iX (a:=r) (z:=o.n) hB;refine iY ?_;exact cR y1 rfl (.c0 (.c0 .nil)) e8 rfl
theorem bOk(mb:Nat)(m:MkV)(a:Option Addr×Nat)(s:GnS)(hB:GnB 999900 s)(b1 b2:Nat)(z:Int)(r:Int):cE prog 133 [.int .u8 r,.pointer (some ⟨b1,0,none⟩),.pointer (some ⟨b2,0,none⟩)] [mkO mb (m.st a s),mkS (m.st a s)] [bC.cells b1 0 [.pointer (some ⟨mb,0,none⟩)],bC.cells b2 0 [.int .i64 z]] (λ(_:Option Addr×Nat)=> .tuple #[]) (λ(x:Option Addr×Nat)=>[mkO mb (m.st x (numG r z s)),mkS (m.st x (numG r z s))]) (λ_=>[]):=by
 have hT:=cT;refine j2 func133 ntmps133 ?_;intro β hM;refine one ?_;refine ss (i6 hT (bI (off:=0) d7)) ?_;refine one ?_;refine ss (i6 hT (bI (off:=0) d8)) ?_;refine bF func68 (fU mb m a _ (hB.le k7) (r) (z)) rfl rfl (.c0 (.c0 .nil)) e8 λy1=>?_;have hB2:=iX (a:=r) (z:=z) hB;refine iY ?_;exact cR y1 rfl (.c0 (.c0 .nil)) e8 rfl
theorem ops3_spec(mb:Nat)(m:MkV)(a:Option Addr×Nat)(s:GnS)(hB:GnB 999900 s)(b1 b2:Nat)(o:OpV)(hk:0<=o.k/\o.k<=1000)(r:Int):cE prog 134 [.int .u8 r,.pointer (some ⟨b1,0,none⟩),.pointer (some ⟨b2,0,none⟩)] [mkO mb (m.st a s),mkS (m.st a s)] [bC.cells b1 0 [.pointer (some ⟨mb,0,none⟩)],bC.cells b2 0 [.int .i64 o.how,.int .i64 o.k,.int .i64 o.n,.slice o.p.addr o.p.list.length o.p.cap,.int .u8 o.fn]] (λ(_:Option Addr×Nat)=> .tuple #[]) (λ(x:Option Addr×Nat)=>[mkO mb (m.st x (tN r (u8m (1+o.k)) s)),mkS (m.st x (tN r (u8m (1+o.k)) s))]) (λ_=>[]):=by
 have hT:=cT;refine j2 func134 ntmps134 ?_;intro β hM;refine one ?_;refine ss (i6 hT (bI (off:=0) d7)) ?_;refine g2 ?_;refine ss (i6 hT (bI (off:=1) d8)) ?_;refine one ?_;refine bN (z':=1+o.k) (mF k7 k7) ?_;refine one ?_;refine bN (z':=u8m (1+o.k)) (rS _) ?_;refine bF func135 (bKz mb m a _ (hB.le k7) (r) (u8m (1+o.k))) rfl rfl (.c0 (.c0 .nil)) e8 λy1=>?_;have hB2:=bHo (a:=r) (b:=u8m (1+o.k)) hB;refine iY ?_;exact cR y1 rfl (.c0 (.c0 .nil)) e8 rfl
theorem ops4_spec(mb:Nat)(m:MkV)(a:Option Addr×Nat)(s:GnS)(hB:GnB 999900 s)(b1 b2 b3:Nat)(p:Int)(o:OpV)(hk:0<=o.k)(hk2:o.k.toNat<m.at_.list.length)(r:Int):cE prog 139 [.int .u8 r,.pointer (some ⟨b1,0,none⟩),.pointer (some ⟨b2,0,none⟩),.pointer (some ⟨b3,0,none⟩)] [mkO mb (m.st a s),mkS (m.st a s)] [bC.cells b1 0 [.pointer (some ⟨mb,0,none⟩)],bC.cells b2 0 [.int .u8 p],bC.cells b3 0 [.int .i64 o.how,.int .i64 o.k,.int .i64 o.n,.slice o.p.addr o.p.list.length o.p.cap,.int .u8 o.fn],cF.sl (.slice m.at_.addr m.at_.list.length m.at_.cap) m.at_.list] (λ(_:Option Addr×Nat)=> .tuple #[]) (λ(x:Option Addr×Nat)=>[mkO mb (m.st x (fL ⟨5,r,p,0,w32 (m.at_.list.getD o.k.toNat 0)⟩ 0 s)),mkS (m.st x (fL ⟨5,r,p,0,w32 (m.at_.list.getD o.k.toNat 0)⟩ 0 s))]) (λ_=>[]):=by
 have hT:=cT;refine j2 func139 ntmps139 ?_;intro β hM;refine dS _ _ [(true,0),(true,1),(true,2),(true,3),(true,4),(true,5),(true,7),(true,8),(false,6),(true,9),(true,10),(true,11),(true,12),(false,13)] dW l8 .nil bA.self ?_;refine stM rfl (i6 hT (bI (off:=0) d7)) ?_;refine one ?_;refine stM rfl (i6 hT (bI (off:=0) d8)) ?_;refine stM rfl (i6 hT (bI (off:=0) d7)) ?_;refine g3 ?_;refine stM rfl (i6 hT (bI (off:=1) d9)) ?_;refine g3 ?_;obtain⟨x1,hx2⟩:=gx m.at_.list o.k.toNat (hk2);refine stM rfl (bG hT (k:=o.k.toNat) (bR e6) rfl rfl rfl rfl rfl rfl k7 (hk2)) ?_;refine stM rfl (fJ hx2 0) ?_;refine one ?_;refine bN (z':=w32 (m.at_.list.getD o.k.toNat 0)) (by rw[sO hx2];exact kY _) ?_;refine stM rfl (cK rfl rfl (sG _ _ _ _)) ?_;refine one ?_;refine bF func28 (fQ mb m a _ (hB.le k7) (⟨5,r,p,0,w32 (m.at_.list.getD o.k.toNat 0)⟩:cX) 0) rfl rfl (.c0 (.c0 .nil)) e8 λy3=>?_;have hB4:=fO (i:=(⟨5,r,p,0,w32 (m.at_.list.getD o.k.toNat 0)⟩:cX)) (dst:=0) hB;refine g2 ?_;exact cR y3 rfl (.c0 (.c0 .nil)) e8 rfl
theorem ops5_spec(mb:Nat)(m:MkV)(a:Option Addr×Nat)(s:GnS)(hB:GnB 999900 s)(b1 b2 b3:Nat)(o:OpV)(p:Int)(r:Int):cE prog 140 [.int .u8 r,.pointer (some ⟨b1,0,none⟩),.pointer (some ⟨b2,0,none⟩),.pointer (some ⟨b3,0,none⟩)] [mkO mb (m.st a s),mkS (m.st a s)] [bC.cells b1 0 [.pointer (some ⟨mb,0,none⟩)],bC.cells b2 0 [.int .i64 o.how,.int .i64 o.k,.int .i64 o.n,.slice o.p.addr o.p.list.length o.p.cap,.int .u8 o.fn],bC.cells b3 0 [.int .u8 p]] (λ(_:Option Addr×Nat)=> .tuple #[]) (λ(x:Option Addr×Nat)=>[mkO mb (m.st x (fL ⟨u8m (64+o.fn),r,p,0,0⟩ 0 s)),mkS (m.st x (fL ⟨u8m (64+o.fn),r,p,0,0⟩ 0 s))]) (λ_=>[]):=by
 have hT:=cT;refine j2 func140 ntmps140 ?_;intro β hM;refine one ?_;refine ss (i6 hT (bI (off:=0) d7)) ?_;refine one ?_;refine ss (i6 hT (bI (off:=4) d8)) ?_;refine one ?_;refine bN (z':=u8m (64+o.fn)) (rS _) ?_;refine one ?_;refine ss (i6 hT (bI (off:=0) d9)) ?_;refine ss (cK rfl rfl (nI _ _ _)) ?_;refine bF func28 (fQ mb m a _ (hB.le k7) (⟨u8m (64+o.fn),r,p,0,0⟩:cX) 0) rfl rfl (.c0 (.c0 .nil)) e8 λy1=>?_;have hB2:=fO (i:=(⟨u8m (64+o.fn),r,p,0,0⟩:cX)) (dst:=0) hB;refine iY ?_;exact cR y1 rfl (.c0 (.c0 .nil)) e8 rfl
theorem ops6_spec(mb:Nat)(m:MkV)(a:Option Addr×Nat)(s:GnS)(hB:GnB 999900 s)(b1 b2 b3 b4:Nat)(o:OpV)(p q:Int)(r:Int):cE prog 141 [.int .u8 r,.pointer (some ⟨b1,0,none⟩),.pointer (some ⟨b2,0,none⟩),.pointer (some ⟨b3,0,none⟩),.pointer (some ⟨b4,0,none⟩)] [mkO mb (m.st a s),mkS (m.st a s)] [bC.cells b1 0 [.pointer (some ⟨mb,0,none⟩)],bC.cells b2 0 [.int .i64 o.how,.int .i64 o.k,.int .i64 o.n,.slice o.p.addr o.p.list.length o.p.cap,.int .u8 o.fn],bC.cells b3 0 [.int .u8 p],bC.cells b4 0 [.int .u8 q]] (λ(_:Option Addr×Nat)=> .tuple #[]) (λ(x:Option Addr×Nat)=>[mkO mb (m.st x (fL ⟨u8m (128+o.fn),r,p,q,0⟩ 0 s)),mkS (m.st x (fL ⟨u8m (128+o.fn),r,p,q,0⟩ 0 s))]) (λ_=>[]):=by
 have hT:=cT;refine j2 func141 ntmps141 ?_;intro β hM;refine one ?_;refine ss (i6 hT (bI (off:=0) d7)) ?_;refine one ?_;refine ss (i6 hT (bI (off:=4) d8)) ?_;refine one ?_;refine bN (z':=u8m (128+o.fn)) (rS _) ?_;refine one ?_;refine ss (i6 hT (bI (off:=0) d9)) ?_;refine ss (i6 hT (bI (off:=0) e6)) ?_;refine ss (cK rfl rfl (sF _ _ _ _)) ?_;refine bF func28 (fQ mb m a _ (hB.le k7) (⟨u8m (128+o.fn),r,p,q,0⟩:cX) 0) rfl rfl (.c0 (.c0 .nil)) e8 λy1=>?_;have hB2:=fO (i:=(⟨u8m (128+o.fn),r,p,q,0⟩:cX)) (dst:=0) hB;refine iY ?_;exact cR y1 rfl (.c0 (.c0 .nil)) e8 rfl
inductive Tr3 where
 |nil
 |fl (k:Nat) (r:Tr3)
 |op (k:Nat) (r:Tr3)
 |two (k l:Nat) (r s:Tr3)
 |three (k l m:Nat) (r s t:Tr3)
def Tr3.len:Tr3->Nat
 |.nil=>0
 |.fl _ r=>r.len+1
 |.op _ r=>r.len+1
 |.two _ _ r _=>r.len+1
 |.three _ _ _ r _ _=>r.len+1
section
variable {P : Program} {ops : Array Oper} {md : Region.Mode} {C : World -> Prop} {Q : Exit -> Act -> World -> Prop}
def iO (P:Program)(ops:Array Oper)(C:World->Prop)(Q:Exit->Act->World->Prop):Tr3->Act->World->Prop
 |.nil,a,w=>Q .normal a w
 |.fl k r,a,w=> ∃o v,ops[k]?=some o/\Fl P ops C o v a/\iO P ops C Q r (a.put o.dst v) w
 |.op k r,a,w=>fOp P ops k (λa w=>C w/\iO P ops C Q r a w) a w
 |.two k l r s,a,w=>fOp P ops k (λa w=>C w/\iO P ops C Q r a w) a w/\fOp P ops l (λa w=>C w/\iO P ops C Q s a w) a w
 |.three k l m r s t,a,w=>fOp P ops k (λa w=>C w/\iO P ops C Q r a w) a w/\fOp P ops l (λa w=>C w/\iO P ops C Q s a w) a w/\fOp P ops m (λa w=>C w/\iO P ops C Q t a w) a w
def sI (md:Region.Mode)(ops:Array Oper):Tr3->Array Bool->Bool
 |.nil,listed=>(Region.ready md ops listed).isEmpty
 |.fl k r,listed=>(Region.ready md ops listed).contains k&&Region.free md ops listed k&&sI md ops r (listed.setIfInBounds k true)
 |.op k r,listed=>(Region.ready md ops listed==[k])&&sI md ops r (listed.setIfInBounds k true)
 |.two k l r s,listed=>(Region.ready md ops listed==[k,l])&&Nat.beq r.len s.len&&sI md ops r (listed.setIfInBounds k true)&&sI md ops s (listed.setIfInBounds l true)
 |.three k l m r s t,listed=>(Region.ready md ops listed==[k,l,m])&&Nat.beq r.len s.len&&Nat.beq r.len t.len&&sI md ops r (listed.setIfInBounds k true)&&sI md ops s (listed.setIfInBounds l true)&&sI md ops t (listed.setIfInBounds m true)
theorem jX(hs:Region.noSelect ops=true): ∀(l:Tr3) (listed:Array Bool) (a:Act) (w:World),sI md ops l listed=true->C w->iO P ops C Q l a w->bAh P md ops C Q l.len listed a w
 |.nil,listed,a,w,hB,hC,h=>⟨hC,by simpa[sI]using hB,h⟩
 |.fl k r,listed,a,w,hB,hC,h=>by
  simp only[sI,Bool.and_eq_true]at hB;obtain⟨o,v,ho,hy,hK⟩:=h;exact vP ho (Region.noSelect_spec hs) r.len listed a w (Region.free_spec ho hB.1.2) (by simpa using hB.1.1) hy (jX hs r _ _ _ hB.2 hC hK)
 |.op k r,listed,a,w,hB,hC,h=>by
  simp only[sI,Bool.and_eq_true,beq_iff_eq]at hB;refine⟨hC,λh0=>t6,λi hi=>?_⟩;rw[hB.1]at hi;have:i=k:=by simpa using hi
  subst this;exact fR (λa' w' h'=>jX hs r _ _ _ hB.2 h'.1 h'.2) h
 |.two k l r s,listed,a,w,hB,hC,h=>by
  simp only[sI,Bool.and_eq_true,beq_iff_eq]at hB;obtain⟨⟨⟨h1,h2⟩,h3⟩,h4⟩:=hB;refine⟨hC,λh0=>ab2,λi hi=>?_⟩;rw[h1]at hi;have hi:i=k\/i=l:=by simpa using hi
  rcases hi with rfl|rfl
  .exact fR (λa' w' h'=>jX hs r _ _ _ h3 h'.1 h'.2) h.1
  .have e:Tr3.len (.two k i r s)=s.len+1:=by simp only[Tr3.len,Nat.eq_of_beq_eq_true h2]
   have e':r.len=s.len:=Nat.eq_of_beq_eq_true h2;rw[e'];exact fR (λa' w' h'=>jX hs s _ _ _ h4 h'.1 h'.2) h.2
 |.three k l m r s t,listed,a,w,hB,hC,h=>by
  simp only[sI,Bool.and_eq_true,beq_iff_eq]at hB;obtain⟨⟨⟨⟨⟨h1,h2⟩,h3⟩,h4⟩,h5⟩,h6⟩:=hB;have e2:r.len=s.len:=Nat.eq_of_beq_eq_true h2;have e3:r.len=t.len:=Nat.eq_of_beq_eq_true h3;refine⟨hC,λh0=>ab2,λi hi=>?_⟩;rw[h1]at hi;have hi:i=k\/i=l\/i=m:=by simpa using hi
  rcases hi with rfl|rfl|rfl
  .exact fR (λa' w' h'=>jX hs r _ _ _ h4 h'.1 h'.2) h.1
  .rw[e2];exact fR (λa' w' h'=>jX hs s _ _ _ h5 h'.1 h'.2) h.2.1
  .rw[e3];exact fR (λa' w' h'=>jX hs t _ _ _ h6 h'.1 h'.2) h.2.2
def mixUOk(l:Tr3)(ops:Array Oper):Bool:=Region.noSelect ops&&Nat.beq l.len ops.size&&sI .any ops l (Array.replicate ops.size false)
end
section
variable {P : Program} {β : dC} {n : Nat} {Γ : Env} {H : List bD} {F : List bC} {Q : Exit -> Act -> World -> Prop} {Hk : List bD} {F0 : List bC} {ops : Array Oper}
theorem at_mixU{id:Nat}{l:List Oper}(Hk:List bD)(F0:List bC)(od:Tr3)(hm:P.follows .mixedOrders=true)(hB:mixUOk od l.toArray=true)(hH:Sel H Hk)(hF:bA F F0)
  (h:At β n Γ H F (iO P l.toArray (StF β Hk F0) Q od)):At β n Γ H F ((Code.region id l.toArray true).wp P Q):=λa w S f s k=>by
 simp only[mixUOk,Bool.and_eq_true]at hB;have hw:=StF.drew ⟨S,s,k⟩;obtain⟨S',s',k'⟩:=hw;refine wp_region_any hm (oW (C:=StF β Hk F0) _ _ _ _ ?_);have:=jX (P:=P) (md:= .any) (C:=StF β Hk F0) (Q:=Q) hB.1.1 od (Array.replicate l.toArray.size false) a _ hB.2 (StF.sel hH hF ⟨S',s',k'⟩) (h a _ S' f s' k')
 rwa[Nat.eq_of_beq_eq_true hB.1.2]at this
theorem mN{C:World->Prop}(h:At β n Γ H F (Q .normal)):At β n Γ H F (iO P ops C Q .nil):=h
theorem bCr{r:Tr3}{o:Oper}{k d:Nat}{v:Value}(hk:ops[k]?=some o)(hw:want ops Γ o=some true)(hd:o.dst=some d)(hn:Nat.blt d n=true)(h:Sti P β n Γ Hk F0 o v)
  (K:At β n ((d,v)::Γ) H F (iO P ops (StF β Hk F0) Q r)):At β n Γ H F (iO P ops (StF β Hk F0) Q (.fl k r)):=λa w S f s hF=>by
 refine⟨o,v,hk,.inl ⟨f.want hw,λw' ⟨S',s',k'⟩=>h a w' S' f s' k'⟩,?_⟩;rw[hd];exact K _ _ S (f.put l9 v) s hF
theorem fF{r:Tr3}{o:Oper}{k:Nat}{C:World->Prop}(hk:ops[k]?=some o)(h:At β n Γ H F (wpList P ops (Nm λa w=>C w/\iO P ops C Q r a w) [o])):At β n Γ H F (iO P ops C Q (.op k r)):=vR hk h
theorem vB{r s:Tr3}{o o':Oper}{k l:Nat}{C:World->Prop}(hk:ops[k]?=some o)(hl:ops[l]?=some o')(h:At β n Γ H F (wpList P ops (Nm λa w=>C w/\iO P ops C Q r a w) [o]))(h':At β n Γ H F (wpList P ops (Nm λa w=>C w/\iO P ops C Q s a w) [o'])):
  At β n Γ H F (iO P ops C Q (.two k l r s)):=λa w S f st hF=>⟨vR hk h a w S f st hF,vR hl h' a w S f st hF⟩
theorem bOi{r s t:Tr3}{o o' o2:Oper}{k l m:Nat}{C:World->Prop}(hk:ops[k]?=some o)(hl:ops[l]?=some o')(hm:ops[m]?=some o2)(h:At β n Γ H F (wpList P ops (Nm λa w=>C w/\iO P ops C Q r a w) [o]))(h':At β n Γ H F (wpList P ops (Nm λa w=>C w/\iO P ops C Q s a w) [o']))(h2:At β n Γ H F (wpList P ops (Nm λa w=>C w/\iO P ops C Q t a w) [o2])):
  At β n Γ H F (iO P ops C Q (.three k l m r s t)):=λa w S f st hF=>⟨vR hk h a w S f st hF,vR hl h' a w S f st hF,vR hm h2 a w S f st hF⟩
theorem cQ{r:Tr3}(hH:Sel H Hk)(hF:bA F F0)(h:At β n Γ H F (iO P ops (StF β Hk F0) Q r)):At β n Γ H F (wpList P ops (Nm λa w=>StF β Hk F0 w/\iO P ops (StF β Hk F0) Q r a w) []):=λa w S f s k=>
 ⟨rfl,StF.sel hH hF ⟨S,s,k⟩,h a w S f s k⟩
end
end
section
open Go.RowKit Go.Sort Go.Proofs.Tryz
def fZ (a b:Int):Prop:=(18446744073709551616:Int)∣a-b
theorem fZ.refl(a:Int):fZ a a:=by unfold fZ;omega
theorem fZ.of_eq{a b:Int}(h:a=b):fZ a b:=by unfold fZ;omega
theorem fZ.symm{a b:Int}(h:fZ a b):fZ b a:=by unfold fZ at*;omega
theorem fZ.trans{a b c:Int}(h:fZ a b)(h2:fZ b c):fZ a c:=by unfold fZ at*;omega
theorem fZ.add{a b c d:Int}(h:fZ a b)(h2:fZ c d):fZ (a+c) (b+d):=by unfold fZ at*;omega
theorem fZ.sub{a b c d:Int}(h:fZ a b)(h2:fZ c d):fZ (a-c) (b-d):=by unfold fZ at*;omega
theorem fZ.mul{a b:Int}(h:fZ a b)(c:Int):fZ (a*c) (b*c):=by
 unfold fZ at*;rw[<-Int.sub_mul];exact Int.dvd_trans h (Int.dvd_mul_right _ _)
theorem bDu(a:Int):fZ (wrap64 a) a:=by unfold fZ wrap64;omega
theorem wrap_range(a:Int): -9223372036854775808<=wrap64 a/\wrap64 a<9223372036854775808:=by unfold wrap64;omega
theorem fZ.eq{a b:Int}(h:fZ a b)(h1: -9223372036854775808<=a/\a<9223372036854775808)(h2: -9223372036854775808<=b/\b<9223372036854775808):a=b:=by
 unfold fZ at h;omega
def Ext (F:Mono->Int):Prop:= ∀a b:Mono,a.key=b.key->F a=F b
def cY (f:Mono->Int):List Mono->Int
 |[]=>0
 |m::l=>f m+cY f l
def lin (F:Mono->Int)(L:List Mono):Int:=cY (λm=>m.n*F m) L
theorem sumOf_perm(f:Mono->Int){l m:List Mono}(h:l.Perm m):cY f l=cY f m:=by
 induction h with
 |nil=>rfl
 |cons x _ ih=>simp only[cY,ih]
 |swap x y l=>simp only[cY];omega
 |trans _ _ ih1 ih2=>rw[ih1,ih2]
theorem bOg(f g:Mono->Int): ∀l,cY (λm=>f m+g m) l=cY f l+cY g l
 |[]=>rfl
 |m::l=>by simp only[cY,bOg f g l];omega
theorem bLh: ∀l,cY (λ_=>0) l=0
 |[]=>rfl
 |m::l=>by simp only[cY,bLh l];omega
theorem xK(f:Mono->Int)(c:Int): ∀l,cY (λm=>f m*c) l=cY f l*c
 |[]=>by simp[cY]
 |m::l=>by simp only[cY,xK f c l,Int.add_mul]
theorem bIr(f:Mono->Mono->Int)(q:List Mono): ∀p,cY (λa=>cY (λb=>f a b) q) p=cY (λb=>cY (λa=>f a b) p) q
 |[]=>by simp only[cY,bLh]
 |a::p=>by simp only[cY,bIr f q p,bOg]
theorem pT{f g:Mono->Int}: ∀{l:List Mono},(∀m∈l,f m=g m)->cY f l=cY g l
 |[],_=>rfl
 |m::l,h=>by simp only[cY];rw[h m m9,pT λx hx=>h x s7]
theorem bLi{f g:Mono->Int}: ∀{l:List Mono},(∀m∈l,fZ (f m) (g m))->fZ (cY f l) (cY g l)
 |[],_=>fZ.refl _
 |m::l,h=>(h m m9).add (bLi λx hx=>h x s7)
theorem bRh(F:Mono->Int)(L:List Mono):lin F (lP L)=lin F L:=by
 unfold lin lP;rw[sumOf_perm _ (List.mergeSort_perm _ _)]
 induction L with
 |nil=>rfl
 |cons m l ih=>
  by_cases h:m.n=0
  .rw[List.filter_cons_of_neg u4,ih];simp[cY,h]
  .rw[List.filter_cons_of_pos u4];simp only[cY,ih]
theorem bEw{F:Mono->Int}(hF:Ext F)(k:Mono)(x:Int): ∀L,lin F (setTo k x L)=lin F L+(x-nO k L)*F k
 |[]=>by
  have:F {k with n:=x}=F k:=hF _ _ rfl;simp only[lin,setTo,nO,cY,this];simp
 |m::L=>by
  have hk:F {k with n:=x}=F k:=hF _ _ rfl;have ih:=bEw hF k x L;unfold lin at ih;unfold setTo nO lin
  by_cases h:k.sameE m=true
  .have h2:F m=F k:=hF _ _ (sameE_E.1 h).symm;simp only[if_pos h,cY,hk,h2,Int.sub_mul];omega
  .simp only[if_neg h,cY,ih];omega
theorem bPk{F:Mono->Int}(hF:Ext F)(m:Mono)(v:Int)(L:List Mono):fZ (lin F (sA m v L)) (lin F L+v*F m):=by
 unfold sA;rw[bEw hF];refine(fZ.refl _).add (fZ.mul ?_ _);have:=bDu (nO m L+v);unfold fZ at*;omega
theorem zJ{F:Mono->Int}(hF:Ext F)(g:Mono->Int): ∀(p L:List Mono),fZ (lin F (fS g L p)) (lin F L+cY (λm=>g m*F m) p)
 |[],L=>by simp only[fS,cY,Int.add_zero];exact fZ.refl _
 |m::p,L=>by
  refine(zJ hF g p (sA m (g m) L)).trans ?_;refine((bPk hF m (g m) L).add (fZ.refl _)).trans (fZ.of_eq ?_);simp only[cY];omega
theorem bIt{F:Mono->Int}(hF:Ext F)(a:Mono): ∀(q L:List Mono),fZ (lin F (kG a L q)) (lin F L+cY (λb=>a.n*b.n*F (mulM a b)) q)
 |[],L=>by simp only[kG,cY,Int.add_zero];exact fZ.refl _
 |b::q,L=>by
  refine(bIt hF a q _).trans ?_;refine(((bPk hF (mulM a b) _ L).trans ((fZ.refl _).add ((bDu _).mul _))).add (fZ.refl _)).trans (fZ.of_eq ?_);simp only[cY];omega
theorem bKj{F:Mono->Int}(hF:Ext F)(q:List Mono): ∀(p L:List Mono),fZ (lin F (gV q L p)) (lin F L+cY (λa=>cY (λb=>a.n*b.n*F (mulM a b)) q) p)
 |[],L=>by simp only[gV,cY,Int.add_zero];exact fZ.refl _
 |a::p,L=>by
  refine(bKj hF q p _).trans ?_;refine((bIt hF a q L).add (fZ.refl _)).trans (fZ.of_eq ?_);simp only[cY];omega
def Fit (L:List Mono):Prop:= ∀m∈L,-9223372036854775808<=m.n/\m.n<9223372036854775808
theorem bQk(m:Mono)(v:Int){L:List Mono}(h:Fit L):Fit (sA m v L):=λy hy=>by
 rcases yD hy with rfl|hy
 .exact wrap_range _
 .exact h y hy
theorem bAk(g:Mono->Int): ∀(p:List Mono) {L:List Mono},Fit L->Fit (fS g L p)
 |[],_,h=>h
 |_::p,_,h=>bAk g p (bQk _ _ h)
theorem bJp(a:Mono): ∀(q:List Mono) {L:List Mono},Fit L->Fit (kG a L q)
 |[],_,h=>h
 |_::q,_,h=>bJp a q (bQk _ _ h)
theorem bMd(q:List Mono): ∀(p:List Mono) {L:List Mono},Fit L->Fit (gV q L p)
 |[],_,h=>h
 |a::p,_,h=>bMd q p (bJp a q h)
theorem fit_nil:Fit []:=λ_ h=>by simp at h
def ind (k:Nat)(m:Mono):Int:=if m.key=k then 1 else 0
theorem ext_ind(k:Nat):Ext (ind k):=λa b h=>by unfold ind;rw[h]
theorem rX(F:Mono->Int)(m:Mono)(L:List Mono):lin F (m::L)=m.n*F m+lin F L:=rfl
theorem ind_ne{k:Nat}{m:Mono}(h:m.key≠k):ind k m=0:=if_neg h
theorem ind_self(m:Mono):ind m.key m=1:=if_pos rfl
theorem vG{k:Nat}: ∀{L:List Mono},(∀y∈L,y.key≠k)->lin (ind k) L=0
 |[],_=>rfl
 |m::L,h=>by
  rw[rX,vG (L:=L) (k:=k) λy hy=>h y (by simp[hy]),ind_ne (h m m9)];simp
theorem bCg{x:Mono}: ∀{L:List Mono},iQ L->x∈L->lin (ind x.key) L=x.n
 |[],_,h=>by simp at h
 |m::L,hA,h=>by
  obtain⟨h1,h2⟩:=List.pairwise_cons.1 hA;rw[rX]
  rcases List.mem_cons.1 h with rfl|h
  .rw[vG (L:=L) (k:=x.key) λy hy=>Ne.symm (h1 y hy),ind_self];simp
  .rw[bCg h2 h,ind_ne (h1 x h)];simp
theorem bPu{L L':List Mono}(hA:iQ L)(hf:Fit L)(hA':iQ L')(hf':Fit L')(h: ∀F,Ext F->fZ (lin F L) (lin F L')){x:Mono}(hx:x∈lP L):x∈lP L':=by
 obtain⟨hx,h0⟩:=bDv.1 hx;have e:=h _ (ext_ind x.key);rw[bCg hA hx]at e;have hfx:=hf x hx
 by_cases hy: ∃y∈L',y.key=x.key
 .obtain⟨y,hy,hk⟩:=hy;rw[<-hk,bCg hA' hy]at e;have hn:=e.eq hfx (hf' y hy);rw[eq_of_key hk.symm hn]at h0⊢;exact bDv.2 ⟨hy,h0⟩
 .rw[vG λy h1 h2=>hy ⟨y,h1,h2⟩]at e;exact absurd (e.eq hfx k7) h0
theorem bMh{L L':List Mono}(hA:iQ L)(hf:Fit L)(hA':iQ L')(hf':Fit L')(h: ∀F,Ext F->fZ (lin F L) (lin F L')):lP L=lP L':=
 tY.ext (wX hA) (wX hA') λ_=>⟨bPu hA hf hA' hf' h,bPu hA' hf' hA hf λF hF=>(h F hF).symm⟩
theorem sN: ∀{l:List Mono} {o:Option Mono},dI o l=true->tY l/\(∀a,o=some a-> ∀m∈l,m.key<a.key)/\(∀m∈l,gU m=true)
 |[],_,_=>⟨by simp[tY],m9,m9⟩
 |m::l,none,h=>by
  rw[dI,Bool.and_eq_true]at h;obtain⟨h1,h2,h3⟩:=sN h.2;refine⟨List.pairwise_cons.2 ⟨λb hb=>h2 m rfl b hb,h1⟩,m9,?_⟩;intro x hx
  rcases List.mem_cons.1 hx with rfl|hx
  .exact h.1
  .exact h3 x hx
 |m::l,some a,h=>by
  rw[dI,Bool.and_eq_true,Bool.and_eq_true,decide_eq_true_eq]at h;obtain⟨h1,h2,h3⟩:=sN h.2.2;have hk:=(ord_lt _ _).1 h.2.1;refine⟨List.pairwise_cons.2 ⟨λb hb=>h2 m rfl b hb,h1⟩,?_,?_⟩
  .intro a' ha x hx;obtain rfl:a=a':=Option.some.inj ha
   rcases List.mem_cons.1 hx with rfl|hx
   .exact hk
   .exact Nat.lt_trans (h2 m rfl x hx) hk
  .intro x hx
   rcases List.mem_cons.1 hx with rfl|hx
   .exact h.1
   .exact h3 x hx
theorem pB{p:List Mono}(h:cL p=true):tY p/\(∀m∈p,gU m=true)/\p.length<=48:=by
 simp only[cL,Bool.and_eq_true,decide_eq_true_eq]at h;exact⟨(sN h.2).1,(sN h.2).2.2,h.1⟩
theorem bFj{p:List Mono}(h:cL p=true):iQ p:=(pB h).1.apart
def bFq (p q:List Mono)(s:Int):List Mono:=fS (λm=>wrap64 (s*m.n)) (fS Mono.n [] p) q
theorem bPd:iQ []:=by simp[iQ]
theorem bFo(p q:List Mono)(s:Int):iQ (bFq p q s):=kF _ _ (kF _ _ bPd)
theorem bOm(p q:List Mono)(s:Int):Fit (bFq p q s):=bAk _ _ (bAk _ _ fit_nil)
theorem bQh{F:Mono->Int}(hF:Ext F)(p q:List Mono)(s:Int):fZ (lin F (bFq p q s)) (lin F p+s*lin F q):=by
 refine(zJ hF _ q _).trans ?_;refine fZ.add ((zJ hF _ p _).trans (fZ.of_eq ?_)) ?_
 .simp only[lin,cY,Int.zero_add]
 .unfold lin;rw[Int.mul_comm,<-xK];refine bLi λm _=>((bDu _).mul _).trans (fZ.of_eq ?_);rw[Int.mul_comm s,Int.mul_assoc,Int.mul_comm s,Int.mul_assoc]
theorem lin_mulL{F:Mono->Int}(hF:Ext F)(p q:List Mono):fZ (lin F (gV q [] p)) (cY (λa=>cY (λb=>a.n*b.n*F (mulM a b)) q) p):=by
 refine(bKj hF q p []).trans (fZ.of_eq ?_);simp only[lin,cY,Int.zero_add]
theorem bKc(p q:List Mono):iQ (gV q [] p):=qU _ _ bPd
theorem fit_mulL(p q:List Mono):Fit (gV q [] p):=bMd _ _ fit_nil
theorem mulM_comm(a b:Mono):mulM a b=mulM b a:=by
 simp only[mulM,Int.mul_comm a.n,UInt8.add_comm a.e0,UInt8.add_comm a.e1,UInt8.add_comm a.e2,UInt8.add_comm a.e3,UInt8.add_comm a.e4,UInt8.add_comm a.e5]
theorem bothP_L(p q:List Mono)(s:Int):bothP p q s=if cL p&&cL q then gM (bFq p q s)else ([],20):=rfl
theorem add_comm(p q:List Mono):bothP p q 1=bothP q p 1:=by
 have h:lP (bFq p q 1)=lP (bFq q p 1):=bMh (bFo _ _ _) (bOm _ _ _) (bFo _ _ _) (bOm _ _ _) λF hF=>
  (bQh hF p q 1).trans ((fZ.of_eq k7).trans (bQh hF q p 1).symm)
 rw[bothP_L,bothP_L,Bool.and_comm];unfold gM;rw[h]
theorem mul_comm(p q:List Mono):mW p q=mW q p:=by
 have h:lP (gV q [] p)=lP (gV p [] q):=bMh (bKc _ _) (fit_mulL _ _) (bKc _ _) (fit_mulL _ _) λF hF=>
  (lin_mulL hF p q).trans ((fZ.of_eq (by
   rw[bIr];refine pT λb _=>pT λa _=>?_
   rw[mulM_comm,Int.mul_comm a.n])).trans (lin_mulL hF q p).symm)
 unfold mW;rw[Bool.and_comm];unfold gM;rw[h]
theorem both_ok{p q a:List Mono}{s:Int}(h:bothP p q s=(a,0)):cL p=true/\cL q=true/\a=lP (bFq p q s)/\cL a=true:=by
 unfold bothP gM at h;split at h
 .rename_i h1;simp only[Bool.and_eq_true]at h1;split at h
  .rename_i h2;injection h with h _
   refine⟨h1.1,h1.2,h.symm,?_⟩;rw[<-h];exact h2
  .simp at h
 .simp at h
theorem mul_ok{p q a:List Mono}(h:mW p q=(a,0)):cL p=true/\cL q=true/\a=lP (gV q [] p)/\cL a=true:=by
 unfold mW gM at h;split at h
 .rename_i h1;simp only[Bool.and_eq_true]at h1;split at h
  .rename_i h2;injection h with h _
   refine⟨h1.1,h1.2,h.symm,?_⟩;rw[<-h];exact h2
  .simp at h
 .simp at h
end
section
open Go.RowKit Go.Sort Go.Proofs.Tryz
def jM:List (UInt8×Int)->Int
 |[]=>1
 |x::l=>x.2^x.1.toNat*jM l
def val (D:Nat->Int)(m:Mono):Int:=jM (gN m D)
theorem ext_val(D:Nat->Int):Ext (val D):=λa b h=>by
 have:=key_E.1 h;simp only[Mono.E,List.cons.injEq,and_true]at this;obtain⟨h0,h1,h2,h3,h4,h5⟩:=this;simp only[val,gN,h0,h1,h2,h3,h4,h5]
theorem bRo{d:Int}: ∀{e:Nat} {n r:Int},tW d e n=some r->r=n*d^e
 |0,n,r,h=>by simp only[tW,Option.some.injEq]at h;simp[h]
 |e+1,n,r,h=>by
  unfold tW at h;split at h
  .simp at h
  .rw[bRo h,Int.pow_succ,Int.mul_assoc,Int.mul_comm d]
theorem bRj: ∀{l:List (UInt8×Int)} {n r:Int},sY l n=some r->r=n*jM l
 |[],n,r,h=>by simp only[sY,Option.some.injEq]at h;simp[h,jM]
 |x::l,n,r,h=>by
  simp only[sY,Option.bind_eq_some_iff]at h;obtain⟨k,h1,h2⟩:=h;rw[bRj h2,bRo h1,jM,Int.mul_assoc]
theorem zL: ∀{l:List (UInt8×Int)},iI l=true->jM l=0
 |[],h=>by simp[iI]at h
 |x::l,h=>by
  simp only[iI,List.any_cons,Bool.or_eq_true,Bool.and_eq_true,decide_eq_true_eq,beq_iff_eq]at h
  rcases h with ⟨h1,h2⟩|h
  .rw[jM,h2,Int.zero_pow k7,Int.zero_mul]
  .rw[jM,zL (l:=l) (by simpa[iI]using h),Int.mul_zero]
theorem value_val{m:Mono}{D:Nat->Int}(h:(dF m D).2=true):(dF m D).1=max m.n (-m.n)*val D m:=by
 unfold dF at*;split
 .rename_i hz;rw[val,zL hz];simp
 .split
  .rename_i n hn;exact bRj hn
  .rename_i hz _ hn;rw[if_neg hz,hn]at h;simp at h
theorem bLj{D:Nat->Int}(hD: ∀k,0<=D k): ∀{l:List Mono} {size sum r:Int},-size<=sum->sum<=size->size<=kR->nN D l size sum=some r->r=sum+lin (val D) l/\ -kR<=r/\r<=kR
 |[],size,sum,r,h1,h2,h3,h=>by
  simp only[nN,Option.some.injEq]at h;subst h;exact⟨by simp[lin,cY],k7,k7⟩
 |m::l,size,sum,r,h1,h2,h3,h=>by
  unfold nN at h;split at h
  .simp at h
  .rename_i hc;rw[not_or]at hc;have hv:=value_val (m:=m) (D:=D) (by simpa using hc.1);have h0:=bAv m D hD
   have hs:(if m.n<0 then sum-(dF m D).1 else sum+(dF m D).1)=sum+m.n*val D m:=by
    rw[hv];split
    .rw[show max m.n (-m.n)= -m.n by omega,Int.neg_mul];omega
    .rw[show max m.n (-m.n)=m.n by omega]
   have hs1: -(size+(dF m D).1)<=sum+m.n*val D m/\sum+m.n*val D m<=size+(dF m D).1:=by
    rw[<-hs];split<;>omega
   rw[hs]at h;obtain⟨e1,e2,e3⟩:=bLj hD hs1.1 hs1.2 k7 h;exact⟨by rw[e1,rX];omega,e2,e3⟩
theorem eval_ok{p:List Mono}{ds:List Int}{v:Int}(h:bH p ds=(v,0)):cL p=true/\v=lin (val (mK ds)) p/\ -kR<=v/\v<=kR:=by
 unfold bH at h;split at h
 .rename_i h1;split at h
  .rename_i h2;simp only[qN,Bool.and_eq_true]at h2;have hD: ∀k,0<=mK ds k:=λk=>(bCo h2.2 k).1;split at h
   .rename_i n hn;injection h with h _
    subst h;obtain⟨e1,e2,e3⟩:=bLj hD k7 k7 m7 hn;exact⟨h1,by rw[e1];omega,e2,e3⟩
   .simp at h
  .simp at h
 .simp at h
def Bnd (N:Int)(L:List Mono):Prop:= ∀m∈L,-N<=m.n/\m.n<=N
theorem coef_bnd{N:Int}(hN:0<=N)(k:Mono): ∀{L:List Mono},Bnd N L-> -N<=nO k L/\nO k L<=N
 |[],_=>by simp only[nO];omega
 |m::L,h=>by
  unfold nO;split
  .exact h m m9
  .exact coef_bnd hN k λx hx=>h x s7
theorem bFt{F:Mono->Int}(hF:Ext F){N V:Int}(hN:0<=N)(hV:0<=V)(hNV:N+V<9223372036854775808)(m:Mono){v:Int}(hv: -V<=v/\v<=V){L:List Mono}(h:Bnd N L):
  lin F (sA m v L)=lin F L+v*F m/\Bnd (N+V) (sA m v L):=by
 have hc:=coef_bnd hN m h;have hw:wrap64 (nO m L+v)=nO m L+v:=by unfold wrap64;omega
 unfold sA;rw[hw];constructor
 .rw[bEw hF,show nO m L+v-nO m L=v by omega]
 .intro y hy
  rcases yD hy with rfl|hy
  .show _<=nO m L+v/\nO m L+v<=_;omega
  .have:=h y hy;omega
theorem prod_bnd{x y:Int}(hx: -16777216<=x/\x<=16777216)(hy: -16777216<=y/\y<=16777216): -281474976710656<=x*y/\x*y<=281474976710656:=by
 have h:(x*y).natAbs<=16777216*16777216:=by
  rw[Int.natAbs_mul];exact Nat.mul_le_mul k7 k7
 omega
theorem bHz{m:Mono}(h:gU m=true): -16777216<=m.n/\m.n<=16777216:=by
 simp only[gU,decide_eq_true_eq]at h;omega
theorem bCn{F:Mono->Int}(hF:Ext F)(a:Mono)(ha:gU a=true): ∀{q L:List Mono} {N:Int},0<=N->N+281474976710656*q.length<9223372036854775808->(∀b∈q,gU b=true)->Bnd N L->
  lin F (kG a L q)=lin F L+cY (λb=>a.n*b.n*F (mulM a b)) q/\Bnd (N+281474976710656*q.length) (kG a L q)
 |[],L,N,_,_,_,h=>by
  refine⟨by simp[kG,cY],?_⟩
  simpa[kG]using h
 |b::q,L,N,hN,hl,hq,h=>by
  rw[List.length_cons]at hl⊢;have hp:=prod_bnd (bHz ha) (bHz (hq b m9));have hw:wrap64 (a.n*b.n)=a.n*b.n:=by unfold wrap64;omega
  obtain⟨e1,e2⟩:=bFt hF (V:=281474976710656) hN k7 k7 (mulM a b) hp h;obtain⟨f1,f2⟩:=bCn hF a ha (q:=q) k7 k7 (λx hx=>hq x s7) e2;rw[kG,hw];refine⟨?_,?_⟩
  .rw[f1,e1];simp only[cY];omega
  .rw[show N+281474976710656*((q.length+1:Nat):Int)=N+281474976710656+281474976710656*q.length by omega];exact f2
theorem bCd{F:Mono->Int}(hF:Ext F){q:List Mono}(hq: ∀b∈q,gU b=true)(hl:q.length<=48): ∀{p L:List Mono} {N:Int},0<=N->N+13510798882111488*p.length<9223372036854775808->(∀b∈p,gU b=true)->Bnd N L->
  lin F (gV q L p)=lin F L+cY (λa=>cY (λb=>a.n*b.n*F (mulM a b)) q) p
 |[],L,N,_,_,_,h=>by simp[gV,cY]
 |a::p,L,N,hN,hp,hs,h=>by
  rw[List.length_cons]at hp;obtain⟨e1,e2⟩:=bCn hF a (hs a m9) (q:=q) hN k7 hq h;have e3:Bnd (N+13510798882111488) (kG a L q):=λx hx=>by have:=e2 x hx;omega
  have f1:=bCd hF hq hl (p:=p) k7 k7 (λx hx=>hs x s7) e3;rw[gV,f1,e1];simp only[cY];omega
theorem rF(x y:UInt8)(d:Int)(h:x.toNat+y.toNat<256):d^(x+y).toNat=d^x.toNat*d^y.toNat:=by
 rw[UInt8.toNat_add,Nat.mod_eq_of_lt h,Int.pow_add]
theorem bOl{m:Mono}(h:gU m=true):m.e0.toNat<=8/\m.e1.toNat<=8/\m.e2.toNat<=8/\m.e3.toNat<=8/\m.e4.toNat<=8/\m.e5.toNat<=8:=by
 simp only[gU,decide_eq_true_eq]at h;have h:=h.2.2.2;unfold Mono.deg at h;omega
theorem val_mul(D:Nat->Int){a b:Mono}(ha:gU a=true)(hb:gU b=true):val D (mulM a b)=val D a*val D b:=by
 obtain⟨a0,a1,a2,a3,a4,a5⟩:=bOl ha;obtain⟨b0,b1,b2,b3,b4,b5⟩:=bOl hb;simp only[val,gN,mulM,jM];rw[rF _ _ _ k7,rF _ _ _ k7,rF _ _ _ k7,rF _ _ _ k7,rF _ _ _ k7,rF _ _ _ k7];simp only[Int.mul_one]
 ac_rfl
theorem eval_dims{p:List Mono}{ds:List Int}{v:Int}(h:bH p ds=(v,0)):qN ds=true:=by
 unfold bH at h;split at h
 .split at h
  .assumption
  .simp at h
 .simp at h
end
section
open Go.Proofs.Tryz
theorem pow_le{a b:Int}(ha:0<=a)(h:a<=b): ∀e:Nat,0<=a^e/\a^e<=b^e
 |0=>by simp
 |e+1=>by
  obtain⟨h1,h2⟩:=pow_le ha h e;rw[Int.pow_succ,Int.pow_succ];exact⟨Int.mul_nonneg h1 ha,Int.mul_le_mul h2 h ha (Int.le_trans h1 h2)⟩
theorem prod_le{D D':Nat->Int}(hD: ∀k,0<=D k)(h: ∀k,D k<=D' k): ∀l:List (UInt8×Nat),0<=jM (l.map λx=>(x.1,D x.2))/\jM (l.map λx=>(x.1,D x.2))<=jM (l.map λx=>(x.1,D' x.2))
 |[]=>by simp[jM]
 |x::l=>by
  obtain⟨h1,h2⟩:=prod_le hD h l;obtain⟨h3,h4⟩:=pow_le (hD x.2) (h x.2) x.1.toNat;simp only[List.map_cons,jM];exact⟨Int.mul_nonneg h3 h1,Int.mul_le_mul h4 h2 h1 (Int.le_trans h3 h4)⟩
theorem val_le{D D':Nat->Int}(hD: ∀k,0<=D k)(h: ∀k,D k<=D' k)(m:Mono):0<=val D m/\val D m<=val D' m:=
 prod_le hD h [(m.e0,0),(m.e1,1),(m.e2,2),(m.e3,3),(m.e4,4),(m.e5,5)]
theorem lin_le{D D':Nat->Int}(hD: ∀k,0<=D k)(h: ∀k,D k<=D' k): ∀p:List Mono,(∀m∈p,0<=m.n)->0<=lin (val D) p/\lin (val D) p<=lin (val D') p
 |[],_=>by simp[lin,cY]
 |m::p,hp=>by
  obtain⟨h1,h2⟩:=lin_le hD h p λx hx=>hp x s7;obtain⟨h3,h4⟩:=val_le hD h m;have h0:=hp m m9;have h5:=Int.mul_nonneg h0 h3;have h6:=Int.mul_le_mul_of_nonneg_left h4 h0;rw[rX,rX];exact⟨k7,k7⟩
theorem grows_n{p:List Mono}(h:iE p=true): ∀m∈p,0<=m.n:=λm hm=>by
 simp only[iE,Bool.and_eq_true,Bool.not_eq_true',List.any_eq_false,tC,decide_eq_true_eq]at h;have:=h.2 m hm;omega
theorem eval_pos{p:List Mono}{ds:List Int}{v:Int}(h:bH p ds=(v,0)): ∀k,0<=mK ds k:=λk=>by
 have:=eval_dims h;simp only[qN,Bool.and_eq_true]at this;exact(bCo this.2 k).1
theorem grows_pos{p:List Mono}{ds:List Int}{a:Int}(hg:iE p=true)(ha:bH p ds=(a,0)):0<=a:=by
 obtain⟨_,a1,_⟩:=eval_ok ha;rw[a1];exact(lin_le (eval_pos ha) (λk=>Int.le_refl _) p (grows_n hg)).1
end
section
open Go.RowKit Go.Sort Go.Proofs.Tryz
set_option maxRecDepth 100000
def num0 (n:Int):Mono:=⟨n,0,0,0,0,0,0⟩
def kO (n:Int):List Mono×Int:=if n=0 then ([],0)else if 16777216<n\/n< -16777216 then ([],21)else ([num0 n],0)
theorem bNq(n:Int)(w:World):(Instr.build 111 #[(0,.int .i64 n)]).run prog w= .ok (.agg #[.int .i64 n,.int .u8 0,.int .u8 0,.int .u8 0,.int .u8 0,.int .u8 0,.int .u8 0]) w:=run_build w _ _ _ k8
theorem res_one(w:World)(m:Mono):Res w.heap.size (w.alloc (.cells #[.int .i64 m.n,.int .u8 m.e0.toNat,.int .u8 m.e1.toNat,.int .u8 m.e2.toNat,.int .u8 m.e3.toNat,.int .u8 m.e4.toNat,.int .u8 m.e5.toNat] 111)) (.slice (some ⟨w.heap.size,0,none⟩) 1 1) [m]:=by
 refine⟨_,1,rfl,.inr ⟨w.heap.size,rfl,Nat.le_refl _,?_⟩⟩
 have h:bNj (w.alloc (.cells #[.int .i64 m.n,.int .u8 m.e0.toNat,.int .u8 m.e1.toNat,.int .u8 m.e2.toNat,.int .u8 m.e3.toNat,.int .u8 m.e4.toNat,.int .u8 m.e5.toNat] 111)) w.heap.size (.slice (some ⟨w.heap.size,0,none⟩) [m].length 1) [m]:=
  ⟨rfl,.inr ⟨w.heap.size,1,#[.int .i64 m.n,.int .u8 m.e0.toNat,.int .u8 m.e1.toNat,.int .u8 m.e2.toNat,.int .u8 m.e3.toNat,.int .u8 m.e4.toNat,.int .u8 m.e5.toNat],rfl,Nat.le_refl _,heap_alloc_new _ _,Nat.le_refl _,by simp[maxLen],rfl,rfl⟩⟩
 exact h.row
set_option maxHeartbeats 400000 in
theorem const_any(n:Int)(w:World):Calls prog 93 #[.int .i64 n] w (bGc w (kO n)):=by
 have hbn:=bNq
 by_cases h0:n=0
 .have e:kO n=([],0):=by unfold kO;rw[if_pos h0]
  rw[e];subst h0
  go_enter func93,ntmps93
  go_wp2
  go_ret2
  exact⟨_,rfl,Below.refl _ _,Res.nil _ _ _ _⟩
 .have h01:(n==0)=false:=by simpa using h0
  by_cases h1:16777216<n
  .have e:kO n=([],21):=by unfold kO;rw[if_neg h0,if_pos (.inl h1)]
   rw[e];have h11:decide (16777216<n)=true:=by simpa using h1
   go_enter func93,ntmps93
   go_wp2
   go_ret2
   exact⟨_,rfl,Below.refl _ _,Res.nil _ _ _ _⟩
  .have h11:decide (16777216<n)=false:=by simpa using h1
   by_cases h2:n< -16777216
   .have e:kO n=([],21):=by unfold kO;rw[if_neg h0,if_pos (.inr h2)]
    rw[e];have h21:decide (n< -16777216)=true:=by simpa using h2
    go_enter func93,ntmps93
    go_wp2
    go_ret2
    exact⟨_,rfl,Below.refl _ _,Res.nil _ _ _ _⟩
   .have e:kO n=([num0 n],0):=by unfold kO;rw[if_neg h0,if_neg k7]
    rw[e];have h21:decide (n< -16777216)=false:=by simpa using h2
    go_enter func93,ntmps93
    go_wp2
    go_ret2
    exact⟨_,rfl,by go_grown,res_one w (num0 n)⟩
set_option maxHeartbeats 400000 in
theorem add_any(A B:Option Addr)(c d:Nat)(p q:List Mono)(w:World)(ha:jY w A p)(hb:jY w B q)(hp:p.length<=140737488355328)(hq:q.length<=140737488355328):
  Calls prog 96 #[.slice A p.length c,.slice B q.length d] w (bGc w (bothP p q 1)):=by
 have H:=Lib.hid (both_any A B c d p q 1 w ha hb hp hq);clear ha hb
 go_enter func96,ntmps96
 go_wp2_with fail
 refine H.out.mono ?_;rintro e w1 ⟨v,rfl,hb1,hv⟩;have HB:=Lib.hid hb1;have HV:=Lib.hid hv;clear hb1 hv
 go_wp2
 go_ret2
 exact⟨_,rfl,HB.out,HV.out⟩
end
section
open Go.RowKit Go.Proofs.Tryz
def oD:List (List Mono)->List Mono->Option (List Mono)
 |[],n=>some n
 |p::r,n=>if (mW n p).2=0 then oD r (mW n p).1 else none
def qJ (sides:List (List Mono)):Option (List Mono):=oD sides (kO 1).1
structure SpC where
 at_:List Mono
 size:List Mono
 deriving DecidableEq
structure PlC where
 ats:List (List Mono)
 end_:List Mono
 free:List SpC
 laid:List (Option SpC)
def bAq (n:List Mono)(again:Bool)(l:List SpC):Option (Nat×SpC):=
 if again=true/\n≠[]then match l.findIdx? (λq=>decide (q.size=n))with
  |none=>none
  |some i=>match l[i]? with
   |none=>none
   |some q=>some (i,q)
 else none
def layC (sides:List (List Mono))(b:Nat)(again:Bool)(s:PlC):Option PlC:=match qJ sides with
 |none=>none
 |some n=>match bAq n again s.free with
  |some (i,q)=>some {s with free:=s.free.eraseIdx i,laid:=s.laid.set b (some q),ats:=s.ats.set b q.at_}
  |none=>if (bothP s.end_ n 1).2=0 then some {s with end_:=(bothP s.end_ n 1).1,laid:=s.laid.set b (some ⟨s.end_,n⟩),ats:=s.ats.set b s.end_}else none
def relGo (i:Int):List LifeC->List (Option SpC)->List (Option SpC)×List SpC
 |y::ys,some q::r=>if y.to_<i then (none::(relGo i ys r).1,if q.size=[]then (relGo i ys r).2 else q::(relGo i ys r).2)else (some q::(relGo i ys r).1,(relGo i ys r).2)
 |_::ys,none::r=>(none::(relGo i ys r).1,(relGo i ys r).2)
 |[],l=>(l,[])
 |_,[]=>([],[])
def relC (i:Int)(l:List LifeC)(s:PlC):PlC:={s with laid:=(relGo i l s.laid).1,free:=s.free++(relGo i l s.laid).2}
def lQ (bufs:List gQ)(l:List LifeC):Nat->Nat->PlC->Option PlC
 |0,_,s=>some s
 |m+1,b,s=>match bufs[b]?,l[b]? with
  |some u,some y=>if y.from_<0 then match layC u.sides b false s with
    |none=>none
    |some s'=>lQ bufs l m (b+1) s'
   else lQ bufs l m (b+1) s
  |_,_=>none
def goC (c:dE)(l:List LifeC)(w:List Bool):List cP->Nat->PlC->Option PlC
 |[],_,s=>some s
 |x::r,i,s=>match c.bufs[x.buf.toNat]?,l[x.buf.toNat]?,w[x.buf.toNat]? with
  |some u,some y,some t=>if y.from_=(i:Int)then match layC u.sides x.buf.toNat t (relC i l s)with
    |none=>none
    |some s'=>goC c l w r (i+1) s'
   else goC c l w r (i+1) s
  |_,_,_=>none
def tE (n:Nat):PlC:=⟨List.replicate n [],[],[],List.replicate n none⟩
def zD (c:dE):Option (List (List Mono)×List Mono):=match lQ c.bufs (cW c) c.bufs.length 0 (tE c.bufs.length)with
 |none=>none
 |some s=>match goC c (cW c) (mL c) c.steps 0 s with
  |none=>none
  |some s=>some (s.ats,s.end_)
end
section
open Go.RowKit Go.Sort Go.Proofs.Tryz
def Gr (p:List Mono):Prop:=cL p=true/\ ∀m∈p,0<=m.n
abbrev VD (ds:List Int)(p:List Mono):Int:=lin (val (mK ds)) p
theorem gr_of{p:List Mono}(h:iE p=true):Gr p:=⟨by unfold iE at h;rw[Bool.and_eq_true]at h;exact h.1,grows_n h⟩
theorem gr_nil:Gr []:=⟨by rfl,λ_ h=>by cases h⟩
theorem tQ{f:Mono->Int}: ∀{l:List Mono},(∀m∈l,0<=f m)->0<=cY f l
 |[],_=>by simp[cY]
 |m::l,h=>by
  have h1:=h m (List.mem_cons_self ..);have h2:=tQ λx hx=>h x (List.mem_cons_of_mem m hx);simp only[cY];omega
theorem ind_pos(k:Nat)(m:Mono):0<=ind k m:=by unfold ind;split<;>omega
section
variable {p q s : List Mono}
theorem mul_lin{F:Mono->Int}(hF:Ext F)(hs:mW p q=(s,0)):lin F s=cY (λa=>cY (λb=>a.n*b.n*F (mulM a b)) q) p:=by
 obtain⟨hp,hq,s1,_⟩:=mul_ok hs;obtain⟨_,p2,p3⟩:=pB hp;obtain⟨_,q2,q3⟩:=pB hq;rw[s1,bRh,bCd hF q2 q3 (N:=0) k7 k7 p2 (λ_ h=>by simp at h)];simp only[lin,cY,Int.zero_add]
theorem mul_V{D:Nat->Int}(hs:mW p q=(s,0)):lin (val D) s=lin (val D) p*lin (val D) q:=by
 obtain⟨hp,hq,_,_⟩:=mul_ok hs;obtain⟨_,p2,_⟩:=pB hp;obtain⟨_,q2,_⟩:=pB hq;rw[mul_lin (ext_val D) hs];simp only[lin];rw[<-xK];refine pT λm hm=>?_;rw[Int.mul_comm,<-xK];refine pT λn hn=>?_;rw[val_mul _ (p2 m hm) (q2 n hn)]
 ac_rfl
theorem mul_gr(hp:Gr p)(hq:Gr q)(hs:mW p q=(s,0)):Gr s:=by
 obtain⟨_,_,_,hr⟩:=mul_ok hs;refine⟨hr,λm hm=>?_⟩;rw[<-bCg (bFj hr) hm,mul_lin (ext_ind _) hs];exact tQ λa ha=>tQ λb hb=>Int.mul_nonneg (Int.mul_nonneg (hp.2 a ha) (hq.2 b hb)) (ind_pos _ _)
theorem uM{F:Mono->Int}(hF:Ext F){g:Mono->Int}: ∀{p L:List Mono} {N:Int},0<=N->N+16777216*p.length<9223372036854775808->(∀m∈p,gU m=true/\g m=m.n)->Bnd N L->lin F (fS g L p)=lin F L+lin F p/\Bnd (N+16777216*p.length) (fS g L p)
 |[],L,N,_,_,_,h=>by
  refine⟨by simp[fS,lin,cY],?_⟩
  simpa[fS]using h
 |m::p,L,N,hN,hl,hp,h=>by
  rw[List.length_cons]at hl⊢;obtain⟨h1,h2⟩:=hp m (List.mem_cons_self ..);have hb:=bHz h1;obtain⟨e1,e2⟩:=bFt hF (V:=16777216) hN k7 k7 m hb h;obtain⟨f1,f2⟩:=uM hF (g:=g) (p:=p) k7 k7 (λx hx=>hp x (List.mem_cons_of_mem _ hx)) e2;rw[fS,h2];refine⟨?_,?_⟩
  .rw[f1,e1,rX];omega
  .rw[show N+16777216*((p.length+1:Nat):Int)=N+16777216+16777216*p.length by omega];exact f2
theorem add_lin{F:Mono->Int}(hF:Ext F)(hs:bothP p q 1=(s,0)):lin F s=lin F p+lin F q:=by
 obtain⟨hp,hq,s1,_⟩:=both_ok hs;obtain⟨_,p2,p3⟩:=pB hp;obtain⟨_,q2,q3⟩:=pB hq;rw[s1,bRh];unfold bFq;obtain⟨e1,e2⟩:=uM hF (g:=Mono.n) (p:=p) (L:=[]) (N:=0) k7 k7 (λm hm=>⟨p2 m hm,rfl⟩) (λ_ h=>by simp at h)
 obtain⟨f1,_⟩:=uM hF (g:=λm=>wrap64 (1*m.n)) (p:=q) k7 k7 (λm hm=>⟨q2 m hm,by
  have:=bHz (q2 m hm);show wrap64 (1*m.n)=m.n;unfold wrap64
  omega⟩) e2
 rw[f1,e1];simp only[lin,cY,Int.zero_add]
theorem add_gr(hp:Gr p)(hq:Gr q)(hs:bothP p q 1=(s,0)):Gr s:=by
 obtain⟨_,_,_,hr⟩:=both_ok hs;refine⟨hr,λm hm=>?_⟩;rw[<-bCg (bFj hr) hm,add_lin (ext_ind _) hs];have h1:0<=lin (ind m.key) p:=tQ λa ha=>Int.mul_nonneg (hp.2 a ha) (ind_pos _ _);have h2:0<=lin (ind m.key) q:=tQ λa ha=>Int.mul_nonneg (hq.2 a ha) (ind_pos _ _);omega
end
theorem powD_is{d:Int}(hd:1<=d): ∀{e:Nat} {n:Int},0<=n->n*d^e<=kR->tW d e n=some (n*d^e)
 |0,n,_,_=>by simp[tW]
 |e+1,n,hn,h=>by
  have hp:1<=d^e:=by
   have:=(pow_le (a:=1) (b:=d) k7 hd e).2
   rwa[Int.one_pow]at this
  have hnd:0<=n*d:=Int.mul_nonneg hn k7;have e1:n*d^(e+1)=n*d*d^e:=by rw[Int.pow_succ,Int.mul_comm (d^e),Int.mul_assoc]
  rw[e1]at h⊢
  have h2:n*d<=kR:=by
   have:n*d*1<=n*d*d^e:=Int.mul_le_mul_of_nonneg_left hp hnd;omega
  rw[tW,if_neg,powD_is hd hnd h];intro hlt;have:=Int.le_ediv_of_mul_le k7 h2;omega
theorem mulD_is: ∀{l:List (UInt8×Int)} {n:Int},(∀x∈l,0<=x.2)->iI l=false->0<=n->n*jM l<=kR->sY l n=some (n*jM l)
 |[],n,_,_,_,_=>by simp[sY,jM]
 |x::l,n,h0,hz,hn,h=>by
  have hz2:iI l=false:=by
   unfold iI at hz⊢;rw[List.any_cons,Bool.or_eq_false_iff]at hz;exact hz.2
  have hx:x.1.toNat=0\/1<=x.2:=by
   unfold iI at hz;rw[List.any_cons,Bool.or_eq_false_iff,Bool.and_eq_false_iff]at hz;have:=h0 x (List.mem_cons_self ..)
   rcases hz.1 with h1|h1
   .left;have:=of_decide_eq_false h1;omega
   .right;have:x.2≠0:=by simpa using h1
    omega
  have hl:1<=jM l:=prodD_pos (λy hy=>h0 y (List.mem_cons_of_mem _ hy)) hz2;have hpw:0<=x.2^x.1.toNat:=Int.pow_nonneg (h0 x (List.mem_cons_self ..));have e1:n*jM (x::l)=n*x.2^x.1.toNat*jM l:=by rw[jM,Int.mul_assoc]
  rw[e1]at h⊢;have hnp:0<=n*x.2^x.1.toNat:=Int.mul_nonneg hn hpw
  have h2:n*x.2^x.1.toNat<=kR:=by
   have:n*x.2^x.1.toNat*1<=n*x.2^x.1.toNat*jM l:=Int.mul_le_mul_of_nonneg_left hl hnp;omega
  have hpd:tW x.2 x.1.toNat n=some (n*x.2^x.1.toNat):=by
   rcases hx with hx|hx
   .rw[hx];simp[tW]
   .exact powD_is hx hn h2
  rw[sY,hpd,Option.bind_some];exact mulD_is (λy hy=>h0 y (List.mem_cons_of_mem _ hy)) hz2 hnp h
where
 prodD_pos: ∀{l:List (UInt8×Int)},(∀x∈l,0<=x.2)->iI l=false->1<=jM l
  |[],_,_=>by simp[jM]
  |x::l,h0,hz=>by
   unfold iI at hz;rw[List.any_cons,Bool.or_eq_false_iff,Bool.and_eq_false_iff]at hz;have h1:=prodD_pos (l:=l) (λy hy=>h0 y (List.mem_cons_of_mem _ hy)) hz.2;have h2:=h0 x (List.mem_cons_self ..)
   have h3:1<=x.2^x.1.toNat:=by
    rcases hz.1 with h4|h4
    .have:x.1.toNat=0:=by
      have:=of_decide_eq_false h4;omega
     rw[this];simp
    .have:x.2≠0:=by simpa using h4
     have:=(pow_le (a:=1) (b:=x.2) k7 k7 x.1.toNat).2
     rwa[Int.one_pow]at this
   rw[jM];have h5:1*jM l<=x.2^x.1.toNat*jM l:=Int.mul_le_mul_of_nonneg_right h3 k7;omega
section
variable {D : Nat -> Int} (hD : ∀ k, 0 <= D k)
include hD
theorem pairs_pos(m:Mono): ∀x∈gN m D,0<=x.2:=λx hx=>by
 simp only[gN,List.mem_cons,List.not_mem_nil,or_false]at hx
 rcases hx with rfl|rfl|rfl|rfl|rfl|rfl<;>exact hD _
theorem value_is{m:Mono}(h0:0<=m.n)(h:m.n*val D m<=kR):dF m D=(m.n*val D m,true):=by
 unfold dF
 cases hz:iI (gN m D)with
 |true=>
  rw[if_pos rfl,val,zL hz,Int.mul_zero]
 |false=>
  have hm:max m.n (-m.n)=m.n:=k7
  rw[if_neg m9,hm,mulD_is (pairs_pos hD m) hz h0 h];rfl
theorem evalL_is: ∀{l:List Mono} {size sum:Int},(∀m∈l,0<=m.n)->0<=size->size+lin (val D) l<=kR->nN D l size sum=some (sum+lin (val D) l)
 |[],size,sum,_,_,_=>by simp[nN,lin,cY]
 |m::l,size,sum,hn,hs,h=>by
  rw[rX]at h⊢;have h0:=hn m (List.mem_cons_self ..);have h1:=Int.mul_nonneg h0 (val_le hD (λ_=>Int.le_refl _) m).1;have h2:=(lin_le hD (λ_=>Int.le_refl _) l λx hx=>hn x (List.mem_cons_of_mem _ hx)).1;have hv:=value_is hD h0 k7
  rw[nN,hv,if_neg (by
   show ¬(true=false\/kR-size<m.n*val D m);rintro(h|h)
   .cases h
   .omega),if_neg k7]
  show nN D l (size+m.n*val D m) (sum+m.n*val D m)=_;rw[evalL_is (λx hx=>hn x (List.mem_cons_of_mem _ hx)) k7 k7]
  congr 1
  omega
end
section
variable {ds : List Int}
theorem dims_pos(hd:qN ds=true): ∀k,0<=mK ds k:=λk=>by
 simp only[qN,Bool.and_eq_true]at hd;exact(bCo hd.2 k).1
theorem eval_is{p:List Mono}(hg:Gr p)(hd:qN ds=true)(hv:VD ds p<=kR):bH p ds=(VD ds p,0):=by
 unfold bH;rw[if_pos hg.1,if_pos hd,evalL_is (dims_pos hd) hg.2 k7 (by show 0+VD ds p<=kR;omega)];show(0+VD ds p,(0:Int))=_;rw[Int.zero_add]
theorem gr_pos{p:List Mono}(hg:Gr p)(hd:qN ds=true):0<=VD ds p:=(lin_le (dims_pos hd) (λ_=>Int.le_refl _) p hg.2).1
def wJ:List Int->Int
 |[]=>1
 |n::r=>n*wJ r
theorem bLd: ∀{l:List Int},l.contains 0=true->wJ l=0
 |[],h=>by cases h
 |n::r,h=>by
  rw[List.contains_cons,Bool.or_eq_true,beq_iff_eq]at h
  rcases h with h|h
  .rw[wJ,<-h,Int.zero_mul]
  .rw[wJ,bLd h,Int.mul_zero]
theorem bIz: ∀{l:List Int} {a r:Int},prodQ l a=some r->r=a*wJ l
 |[],a,r,h=>by cases h;rw[wJ,Int.mul_one]
 |n::l,a,r,h=>by
  unfold prodQ at h;split at h
  .cases h
  .rw[bIz h,wJ,Int.mul_assoc]
theorem bAx: ∀{l:List (List Mono)} {acc r:List Int},sidesGo ds l acc=some r->r=acc++l.map (VD ds)
 |[],acc,r,h=>by cases h;simp
 |p::l,acc,r,h=>by
  unfold sidesGo at h;split at h
  .rename_i hs;simp only[bQl,Bool.and_eq_true,beq_iff_eq]at hs;have he:bH p ds=((bH p ds).1,0):=by rw[<-hs.1.1]
   obtain⟨_,hv,_⟩:=eval_ok he;rw[bAx h,hv];simp
  .cases h
theorem sizeB_prod{sides:List (List Mono)}{n:Int}(h:sizeB sides ds=some n):n=wJ (sides.map (VD ds)):=by
 unfold sizeB at h;split at h
 .cases h
 .rename_i l hl;have hl:=bAx hl;rw[List.nil_append]at hl;subst hl;split at h
  .rename_i hz;cases h;rw[bLd hz]
  .rw[bIz h,Int.one_mul]
theorem bFh: ∀{l:List (List Mono)} {n s:List Mono},(∀p∈l,Gr p)->Gr n->oD l n=some s->VD ds s=VD ds n*wJ (l.map (VD ds))/\Gr s
 |[],n,s,_,hn,h=>by
  cases h;exact⟨by rw[List.map_nil,wJ,Int.mul_one],hn⟩
 |p::l,n,s,hl,hn,h=>by
  unfold oD at h;split at h
  .rename_i h0;have hm:mW n p=((mW n p).1,0):=by rw[<-h0]
   have hp:=hl p (List.mem_cons_self ..);obtain⟨h1,h2⟩:=bFh (λx hx=>hl x (List.mem_cons_of_mem _ hx)) (mul_gr hn hp hm) h;refine⟨?_,h2⟩;rw[h1,List.map_cons,wJ];show lin (val (mK ds)) (mW n p).1*_=_;rw[mul_V hm,Int.mul_assoc]
  .cases h
theorem const_gr:Gr (kO 1).1:=⟨m7,m7⟩
theorem const_V:VD ds (kO 1).1=1:=by
 show lin (val (mK ds)) [num0 1]=1;simp[lin,cY,val,gN,jM,num0]
theorem sizeC_is{sides:List (List Mono)}{n:Int}{s:List Mono}(hg: ∀p∈sides,Gr p)(hb:sizeB sides ds=some n)(hs:qJ sides=some s):VD ds s=n/\Gr s:=by
 obtain⟨h1,h2⟩:=bFh (ds:=ds) hg const_gr hs;exact⟨by rw[h1,const_V,Int.one_mul,sizeB_prod hb],h2⟩
end
end
section
open Go.RowKit Go.Sort Go.Proofs.Tryz
def SzV (ds:List Int)(u:gQ):Int:=VD ds ((qJ u.sides).getD [])
structure Sized (c:dE) (ds:List Int):Prop where
 dims:qN ds=true
 size: ∀(b:Nat) u,c.bufs[b]?=some u->0<=SzV ds u/\SzV ds u<=65536/\Gr ((qJ u.sides).getD [])
structure AgI (c:dE) (ds:List Int) (L:Nat->Prop) (N:Nat) (s:PlC):Prop where
 endG:Gr s.end_
 endV:VD ds s.end_<=65536*N
 free: ∀q∈s.free,Gr q.at_/\VD ds q.at_+VD ds q.size<=VD ds s.end_/\0<=VD ds q.size
 laid: ∀q,some q∈s.laid->Gr q.at_/\VD ds q.at_+VD ds q.size<=VD ds s.end_/\0<=VD ds q.size
 ats: ∀(b:Nat) a,s.ats[b]?=some a->Gr a/\VD ds a<=VD ds s.end_
 low: ∀(k:Nat) a u,L k->s.ats[k]?=some a->c.bufs[k]?=some u->VD ds a+SzV ds u<=VD ds s.end_
 pair: ∀(b k:Nat) y z a a' u,L b->L k->(cW c)[b]?=some y->(cW c)[k]?=some z->s.ats[b]?=some a->s.ats[k]?=some a'->c.bufs[k]?=some u->z.from_<y.from_->(mL c)[b]?=some false->VD ds a'+SzV ds u<=VD ds a
section
variable {c : dE} {ds : List Int} {L L' : Nat -> Prop} {N N' : Nat} {s s' : PlC} {b : Nat} {u : gQ} {y : LifeC} {again : Bool}
theorem AgI.less(h:AgI c ds L N s)(hL: ∀k,L' k->L k)(hN:N<=N'):AgI c ds L' N' s where
 endG:=h.endG
 endV:=by have:=h.endV;omega
 free:=h.free
 laid:=h.laid
 ats:=h.ats
 low:=λk a u hk=>h.low k a u (hL k hk)
 pair:=λb k y z a a' u hb hk=>h.pair b k y z a a' u (hL b hb) (hL k hk)
theorem ag_start(n:Nat):AgI c ds (λ_=>False) 0 (tE n) where
 endG:=gr_nil
 endV:=by show(0:Int)<=_;omega
 free:=λ_ h=>by cases h
 laid:=λq h=>by
  have:=List.eq_of_mem_replicate (show some q∈List.replicate n (none:Option SpC)from h);cases this
 ats:=λb a h=>by
  have h:(List.replicate n ([]:List Mono))[b]?=some a:=h;rw[List.getElem?_replicate]at h;split at h
  .cases h;exact⟨gr_nil,Int.le_refl _⟩
  .cases h
 low:=λ_ _ _ h=>h.elim
 pair:=λ_ _ _ _ _ _ _ h=>h.elim
theorem yN{i:Int}: ∀{ys:List LifeC} {l:List (Option SpC)},(∀q,some q∈(relGo i ys l).1->some q∈l)/\(∀q∈(relGo i ys l).2,some q∈l)
 |y::ys,some p::r=>by
  obtain⟨h1,h2⟩:=yN (i:=i) (ys:=ys) (l:=r);rw[relGo];split
  .refine⟨λq hq=>?_,λq hq=>?_⟩
   .rcases List.mem_cons.1 hq with hq|hq
    .cases hq
    .exact List.mem_cons_of_mem _ (h1 q hq)
   .have hq:q∈(if p.size=[]then (relGo i ys r).2 else p::(relGo i ys r).2):=hq;split at hq
    .exact List.mem_cons_of_mem _ (h2 q hq)
    .rcases List.mem_cons.1 hq with rfl|hq
     .exact List.mem_cons_self ..
     .exact List.mem_cons_of_mem _ (h2 q hq)
  .refine⟨λq hq=>?_,λq hq=>List.mem_cons_of_mem _ (h2 q hq)⟩
   rcases List.mem_cons.1 hq with hq|hq
   .rw[hq];exact List.mem_cons_self ..
   .exact List.mem_cons_of_mem _ (h1 q hq)
 |y::ys,none::r=>by
  obtain⟨h1,h2⟩:=yN (i:=i) (ys:=ys) (l:=r);rw[relGo];refine⟨λq hq=>?_,λq hq=>List.mem_cons_of_mem _ (h2 q hq)⟩
  rcases List.mem_cons.1 hq with hq|hq
  .cases hq
  .exact List.mem_cons_of_mem _ (h1 q hq)
 |[],l=>by
  rw[relGo];exact⟨λq hq=>hq,λq hq=>by cases hq⟩
 |y::ys,[]=>by simp[relGo]
theorem AgI.rel{i:Int}{l:List LifeC}(h:AgI c ds L N s):AgI c ds L N (relC i l s) where
 endG:=h.endG
 endV:=h.endV
 free:=λq hq=>by
  rcases List.mem_append.1 (show q∈s.free++(relGo i l s.laid).2 from hq)with hq|hq
  .exact h.free q hq
  .exact h.laid q (yN.2 q hq)
 laid:=λq hq=>h.laid q (yN.1 q hq)
 ats:=h.ats
 low:=h.low
 pair:=h.pair
theorem freeAt_some{n:List Mono}{l:List SpC}{i:Nat}{q:SpC}(h:bAq n again l=some (i,q)):q∈l/\q.size=n/\again=true:=by
 unfold bAq at h;split at h
 .rename_i ha;split at h
  .cases h
  .rename_i j hj;split at h
   .cases h
   .rename_i p hp;cases h;obtain⟨hlt,e1,_⟩:=List.findIdx?_eq_some_iff_getElem.1 hj;obtain⟨_,e2⟩:=List.getElem?_eq_some_iff.1 hp;rw[e2]at e1;exact⟨List.mem_of_getElem? hp,of_decide_eq_true e1,ha.1⟩
 .cases h
theorem AgI.put(h:AgI c ds L N s)(hs:Sized c ds)(hu:c.bufs[b]?=some u)(hy:(cW c)[b]?=some y)(hb: ¬L b)(hmax: ∀k z,L k->(cW c)[k]?=some z->z.from_<=y.from_){at_ e:List Mono}{fr:List SpC}{ld:List (Option SpC)}
  (he:Gr e) (heV:VD ds s.end_<=VD ds e) (heN:VD ds e<=65536*(N+1:Nat)) (ha:Gr at_) (haV:VD ds at_+SzV ds u<=VD ds e) (hfr: ∀q∈fr,q∈s.free) (hld: ∀q,some q∈ld->some q∈s.laid\/q.at_=at_/\VD ds q.size=SzV ds u)
  (hend:(mL c)[b]?=some false->VD ds at_=VD ds s.end_):AgI c ds (λk=>L k\/k=b) (N+1) {ats:=s.ats.set b at_,end_:=e,free:=fr,laid:=ld}:=by
 obtain⟨z1,z2,_⟩:=hs.size b u hu
 have old: ∀(k:Nat) a,(s.ats.set b at_)[k]?=some a->k≠b->s.ats[k]?=some a:=λk a hk hkb=>by
  rwa[List.getElem?_set_ne (Ne.symm hkb)]at hk
 have new: ∀a,(s.ats.set b at_)[b]?=some a->a=at_:=λa hk=>by
  rw[List.getElem?_set]at hk;simp only[if_true]at hk;split at hk
  .cases hk;rfl
  .cases hk
 refine⟨he,heN,λq hq=>?_,λq hq=>?_,λk a hk=>?_,λk a v hL hk hv=>?_,λb' k y' z a a' v hLb hLk hy' hz hb' hk hv hlt hf=>?_⟩
 .obtain⟨h1,h2,h3⟩:=h.free q (hfr q hq);exact⟨h1,by show _<=VD ds e;omega,h3⟩
 .rcases hld q hq with hq|⟨e1,e2⟩
  .obtain⟨h1,h2,h3⟩:=h.laid q hq;exact⟨h1,by show _<=VD ds e;omega,h3⟩
  .rw[e1,e2];exact⟨ha,haV,z1⟩
 .by_cases e1:k=b
  .subst e1;rw[new a hk];exact⟨ha,by show _<=VD ds e;omega⟩
  .obtain⟨h1,h2⟩:=h.ats k a (old k a hk e1);exact⟨h1,by show _<=VD ds e;omega⟩
 .show _<=VD ds e
  by_cases e1:k=b
  .subst e1;rw[new a hk];rw[hu]at hv;cases hv;exact haV
  .have:=h.low k a v (hL.resolve_right e1) (old k a hk e1) hv;omega
 .by_cases e1:b'=b
  .subst e1;rw[new a hb',hend hf]
   by_cases e2:k=b'
   .subst e2;rw[hy']at hz;cases hz;omega
   .exact h.low k a' v (hLk.resolve_right e2) (old k a' hk e2) hv
  .by_cases e2:k=b
   .subst e2;rw[hy]at hz;cases hz;have:=hmax b' y' (hLb.resolve_right e1) hy';omega
   .exact h.pair b' k y' z a a' v (hLb.resolve_right e1) (hLk.resolve_right e2) hy' hz (old b' a hb' e1) (old k a' hk e2) hv hlt hf
theorem bBg{l:List (Option SpC)}{p:SpC}{q:SpC}(h:some q∈l.set b (some p)):some q∈l\/q=p:=by
 rcases List.mem_or_eq_of_mem_set h with h|h
 .exact .inl h
 .cases h;exact .inr rfl
theorem AgI.lay(h:AgI c ds L N s)(hs:Sized c ds)(hu:c.bufs[b]?=some u)(hy:(cW c)[b]?=some y)(hb: ¬L b)(hmax: ∀k z,L k->(cW c)[k]?=some z->z.from_<=y.from_)(hag:again=true->(mL c)[b]?=some true)(hl:layC u.sides b again s=some s'):
  AgI c ds (λk=>L k\/k=b) (N+1) s':=by
 obtain⟨z1,z2,z3⟩:=hs.size b u hu;unfold layC at hl;split at hl
 .cases hl
 .rename_i n hn;have hz:SzV ds u=VD ds n:=by unfold SzV;rw[hn];rfl
  have hgn:Gr n:=by rw[hn]at z3;exact z3
  split at hl
  .rename_i j q hq;cases hl;obtain⟨q1,q2,q3⟩:=freeAt_some hq;obtain⟨f1,f2,f3⟩:=h.free q q1;rw[q2,<-hz]at f2;refine h.put hs hu hy hb hmax h.endG (Int.le_refl _) (by have:=h.endV;omega) f1 f2 (λp hp=>List.mem_of_mem_eraseIdx hp) (λp hp=>?_) (λhf=>?_)
   .rcases bBg hp with hp|rfl
    .exact .inl hp
    .exact .inr ⟨rfl,by rw[q2,hz]⟩
   .rw[hag q3]at hf;cases hf
  .split at hl
   .rename_i h0;cases hl;have hm:bothP s.end_ n 1=((bothP s.end_ n 1).1,0):=by rw[<-h0]
    have hv:VD ds (bothP s.end_ n 1).1=VD ds s.end_+SzV ds u:=by rw[hz];exact add_lin (ext_val _) hm
    refine h.put hs hu hy hb hmax (add_gr h.endG hgn hm) k7 (by have:=h.endV;omega) h.endG k7 (λp hp=>hp) (λp hp=>?_) (λ_=>rfl)
    rcases bBg hp with hp|rfl
    .exact .inl hp
    .exact .inr ⟨rfl,hz.symm⟩
   .cases hl
end
theorem bNc{b:Int}: ∀{r:List cP} {i:Nat} {d:Int},lA b i r d=d\/ ∃j x,lA b i r d=((i+j:Nat):Int)/\r[j]?=some x/\x.buf=b
 |[],i,d=> .inl rfl
 |x::r,i,d=>by
  rw[lA];split
  .rename_i e;exact .inr ⟨0,x,rfl,rfl,e⟩
  .rcases bNc (b:=b) (r:=r) (i:=i+1) (d:=d)with h|⟨j,z,h1,h2,h3⟩
   .exact .inl h
   .exact .inr ⟨j+1,z,by rw[show i+(j+1)=i+1+j by omega];exact h1,h2,h3⟩
section
variable {c : dE} {ds : List Int} {N : Nat} {s s' : PlC} {b : Nat} {y : LifeC}
theorem lives_from(hr:cZ c=true)(hy:(cW c)[b]?=some y):y=⟨0,-1⟩\/y.from_= -1\/ ∃(j:Nat) (x:cP),y.from_=(j:Int)/\c.steps[j]?=some x/\x.buf=b:=by
 rw[lives_eq hr]at hy;unfold livesR at hy;rw[List.getElem?_mapIdx]at hy
 cases hu:c.bufs[b]? with
 |none=>rw[hu]at hy;cases hy
 |some u=>
  rw[hu]at hy;cases hy;unfold lifeR;split
  .exact .inl rfl
  .right
   rcases bNc (b:=(b:Int)) (r:=c.steps) (i:=0) (d:= -1)with h|⟨j,x,h1,h2,h3⟩
   .exact .inl h
   .exact .inr ⟨j,x,by rw[Nat.zero_add]at h1;exact h1,h2,h3⟩
theorem bQy(hr:cZ c=true)(hy:(cW c)[b]?=some y)(h:y.from_<0):y.from_= -1:=by
 rcases lives_from hr hy with rfl|h1|⟨j,x,h1,_⟩
 .cases h
 .exact h1
 .omega
def LB (c:dE)(m k:Nat):Prop:=k<m/\ ∃z,(cW c)[k]?=some z/\z.from_<0
theorem bNf(hr:cZ c=true)(hs:Sized c ds): ∀{m b N:Nat} {s:PlC},b+m=c.bufs.length->AgI c ds (LB c b) N s->lQ c.bufs (cW c) m b s=some s'->AgI c ds (LB c c.bufs.length) (N+m) s'
 |0,b,N,s,hb,h,hq=>by
  cases hq;rw[Nat.add_zero]at hb;rw[<-hb];exact h
 |m+1,b,N,s,hb,h,hq=>by
  unfold lQ at hq;split at hq
  .rename_i u y hu hy;split at hq
   .rename_i hneg;split at hq
    .cases hq
    .rename_i t ht
     have h1:=h.lay hs hu hy (λhl=>by have:=hl.1;omega) (λk z hl hz=>by
      obtain⟨_,z',hz',hzn⟩:=hl;rw[hz]at hz';cases hz';have:=bQy hr hz hzn;have:=bQy hr hy hneg
      omega) (λha=>by cases ha) ht
     have h2:AgI c ds (LB c (b+1)) (N+1) t:=h1.less (λk hk=>by
      by_cases e:k=b
      .exact .inr e
      .exact .inl ⟨by have:=hk.1;omega,hk.2⟩) (Nat.le_refl _)
     have h3:=bNf hr hs k7 h2 hq
     rwa[show N+1+m=N+(m+1) by omega]at h3
   .rename_i hneg
    have h2:AgI c ds (LB c (b+1)) (N+1) s:=h.less (λk hk=>by
     refine⟨?_,hk.2⟩;have:=hk.1
     rcases Nat.lt_or_ge k b with h4|h4
     .exact h4
     .obtain rfl:k=b:=k7
      obtain⟨_,z,hz,hzn⟩:=hk;rw[hy]at hz;cases hz
      exact absurd hzn hneg) k7
    have h3:=bNf hr hs k7 h2 hq
    rwa[show N+1+m=N+(m+1) by omega]at h3
  .cases hq
def LG (c:dE)(i k:Nat):Prop:= ∃z,(cW c)[k]?=some z/\(z.from_<0\/ ∃(j:Nat) (x:cP),z.from_=(j:Int)/\j<i/\c.steps[j]?=some x/\x.buf=k)
theorem go_ag(hr:cZ c=true)(hs:Sized c ds): ∀{r:List cP} {i N:Nat} {s:PlC},c.steps.drop i=r->AgI c ds (LG c i) N s->goC c (cW c) (mL c) r i s=some s'->AgI c ds (LG c c.steps.length) (N+r.length) s'
 |[],i,N,s,hd,h,hq=>by
  cases hq;refine h.less (λk hk=>?_) m9;obtain⟨z,hz,hk⟩:=hk;refine⟨z,hz,?_⟩
  rcases hk with hk|⟨j,x,h1,h2,h3,h4⟩
  .exact .inl hk
  .have:=List.drop_eq_nil_iff.1 hd;exact .inr ⟨j,x,h1,k7,h3,h4⟩
 |x::r,i,N,s,hd,h,hq=>by
  have hx:c.steps[i]?=some x:=by
   have:=congrArg (λl=>l[0]?) hd
   simpa[List.getElem?_drop]using this
  have hd2:c.steps.drop (i+1)=r:=by
   have:=congrArg (List.drop 1) hd
   simpa[List.drop_drop,Nat.add_comm]using this
  have hxb:((x.buf.toNat:Nat):Int)=x.buf:=by
   have:=(zK (gJ hr).2.2.1 x (f5 hx)).1;omega
  rw[List.length_cons];unfold goC at hq;split at hq
  .rename_i u y t hu hy ht;split at hq
   .rename_i hfi;split at hq
    .cases hq
    .rename_i p hp
     have h1:=(h.rel (i:=i) (l:=cW c)).lay hs hu hy (λhl=>by
      obtain⟨z,hz,hk⟩:=hl;rw[hy]at hz;cases hz
      rcases hk with hk|⟨j,x',h1,h2,_⟩<;>omega) (λk z hl hz=>by
      obtain⟨z',hz',hk⟩:=hl;rw[hz]at hz';cases hz'
      rcases hk with hk|⟨j,x',h1,h2,_⟩<;>omega) (λha=>by rw[ht,ha]) hp
     have h2:AgI c ds (LG c (i+1)) (N+1) p:=h1.less (λk hk=>by
      obtain⟨z,hz,hk⟩:=hk
      rcases hk with hk|⟨j,x',h1,h2,h3,h4⟩
      .exact .inl ⟨z,hz,.inl hk⟩
      .by_cases e:j=i
       .subst e;rw[hx]at h3;cases h3;exact .inr k7
       .exact .inl ⟨z,hz,.inr ⟨j,x',h1,k7,h3,h4⟩⟩) (Nat.le_refl _)
     have h3:=go_ag hr hs hd2 h2 hq
     rwa[show N+1+r.length=N+(r.length+1) by omega]at h3
   .rename_i hfi
    have h2:AgI c ds (LG c (i+1)) (N+1) s:=h.less (λk hk=>by
     obtain⟨z,hz,hk⟩:=hk;refine⟨z,hz,?_⟩
     rcases hk with hk|⟨j,x',h1,h2,h3,h4⟩
     .exact .inl hk
     .by_cases e:j=i
      .subst e;rw[hx]at h3;cases h3;obtain rfl:x.buf.toNat=k:=k7
       rw[hy]at hz;cases hz;exact absurd h1 hfi
      .exact .inr ⟨j,x',h1,k7,h3,h4⟩) k7
    have h3:=go_ag hr hs hd2 h2 hq
    rwa[show N+1+r.length=N+(r.length+1) by omega]at h3
  .cases hq
end
section
variable {c : dE} {ds : List Int}
theorem bAb: ∀{l:List gQ} {al r:Int},cellsGo ds l al=(r,0)-> ∀u∈l,∃n,sizeB u.sides ds=some n
 |[],_,_,_,u,hu=>by cases hu
 |b::l,al,r,h,u,hu=>by
  unfold cellsGo at h;split at h
  .cases h
  .rename_i n hn;split at h
   .cases h
   .rcases List.mem_cons.1 hu with rfl|hu
    .exact⟨n,hn⟩
    .exact bAb h u hu
theorem bMf{vars:Int}: ∀{l:List gQ} {seen:List Int},oE vars l seen=true-> ∀u∈l,∀p∈u.sides,Gr p
 |[],_,_,u,hu=>by cases hu
 |b::l,seen,h,u,hu=>by
  rw[oE,Bool.and_eq_true,Bool.and_eq_true,Bool.and_eq_true]at h
  rcases List.mem_cons.1 hu with rfl|hu
  .intro p hp;have h1:=h.1;unfold gK at h1;rw[Bool.and_eq_true]at h1;have:=List.all_eq_true.1 h1.1 p hp;rw[Bool.and_eq_true]at this;exact gr_of this.2
  .exact bMf h.2.2.2 u hu
theorem cells_sized{al:Int}(hr:cZ c=true)(hc:fH c ds=(al,0)):Sized c ds:=by
 unfold fH at hc;rw[if_pos hr]at hc;split at hc
 .rename_i hd;unfold pX at hd;rw[Bool.and_eq_true,decide_eq_true_eq,Bool.not_eq_true',List.any_eq_false]at hd;have hv:=(gJ hr).1;refine⟨?_,λb u hu=>?_⟩
  .unfold qN;rw[Bool.and_eq_true,decide_eq_true_eq,List.all_eq_true];refine⟨k7,λn hn=>?_⟩;have:=hd.2 n hn;unfold badD at this;simp only[Bool.or_eq_true,decide_eq_true_eq]at this;unfold pA;exact decide_eq_true k7
  .have hm:=List.mem_of_getElem? hu;obtain⟨n,hn⟩:=bAb hc u hm;have hg:=bMf (gJ hr).2.1 u hm;obtain⟨n1,n2⟩:=sizeB_in hn;unfold SzV
   cases hz:qJ u.sides with
   |none=>exact⟨Int.le_refl _,by show(0:Int)<=65536;omega,gr_nil⟩
   |some q=>
    obtain⟨q1,q2⟩:=sizeC_is hg hn hz;show 0<=VD ds q/\VD ds q<=65536/\Gr q;rw[q1];exact⟨n1,n2,q2⟩
 .cases hc
end
end
section
open Go.RowKit Go.Proofs.Tryz
theorem bIk{a b:Bool}(h:(a&&b)=true):a=true/\b=true:=by simpa using h
theorem opB_inG{vars loops buf:Int}{made:List Bool}{o:OpC}(h:opB vars loops buf made o=true):o.how=4->o.k.toNat<made.length:=λh4=>by
 unfold opB at h;rw[if_neg k7,if_neg k7,if_neg k7,if_pos h4]at h;have h7:=(bIk (bIk h).2).1;rw[List.getD_eq_getElem?_getD]at h7
 cases hg:made[o.k.toNat]? with
 |none=>rw[hg]at h7;cases h7
 |some z=>exact(List.getElem?_eq_some_iff.1 hg).1
theorem pos_of{p:List Mono}{ds:List Int}(hg:iE p=true)(h:(bH p ds).2=0):0<=(bH p ds).1:=grows_pos (a:=(bH p ds).1) hg (by rw[<-h])
theorem bAu{vars:Int}{bufs:List gQ}: ∀{r:List cP} {made:List Bool},made.length=bufs.length->jV vars bufs r made=true-> ∀x∈r,∃made',made'.length=bufs.length/\lD vars made' x=true/\0<=x.buf/\x.buf.toNat<bufs.length
 |[],_,_,_,x,hx=>by cases hx
 |y::r,made,hm,h,x,hx=>by
  rw[jV,Bool.and_eq_true,Bool.and_eq_true,Bool.and_eq_true]at h;obtain⟨⟨h1,h2⟩,h3,h4⟩:=h
  rcases List.mem_cons.1 hx with rfl|hx
  .refine⟨made,hm,h3,of_decide_eq_true h1,?_⟩
   cases hb:bufs[x.buf.toNat]? with
   |none=>rw[hb]at h2;cases h2
   |some b=>exact(List.getElem?_eq_some_iff.1 hb).1
  .exact bAu (by rw[List.length_set];exact hm) h4 x hx
def OpsG (l:List OpC)(bufs:Nat):Prop:= ∀o∈l,(o.how=3->0<=o.k/\o.k<=1000)/\(o.how=4->0<=o.k/\o.k.toNat<bufs)
structure StepG (x:fW) (ds:List Int) (nb:Nat):Prop where
 hN: ∀p∈polsL x.loops.list,(bH p ds).2=0->0<=(bH p ds).1
 hlo:x.ops.list.length<=256
 hL1:1<=x.ops.list.length
 hll:x.loops.list.length<=4
 hne:x.how=2->x.loops.list≠[]
 hne3:x.how=3->x.loops.list≠[]
 hb0:0<=x.buf
 hb1:x.buf.toNat<nb
 hA:(bH x.at_.list ds).2=0->0<=(bH x.at_.list ds).1
 hh:x.how=1\/x.how=2\/x.how=3
 hO:OpsG (opsL x.ops.list) nb
 hD:Deep (opsL x.ops.list) 0
theorem step_g{c:gF}(hr:cZ c.c=true)(ds:List Int){x:fW}(hx:x∈c.steps.list):StepG x ds c.bufs.list.length:=by
 obtain⟨_,_,h3,_⟩:=gJ hr;obtain⟨made,hm,hs,hb0,hb1⟩:=bAu (pD _) h3 x.c (List.mem_map.2 ⟨x,hx,rfl⟩);have hnb:c.c.bufs.length=c.bufs.list.length:=bY _;have hD:=deep_step hs;unfold lD at hs;simp only[Bool.and_eq_true,List.all_eq_true,decide_eq_true_eq]at hs;obtain⟨⟨_,ha⟩,hl,hops,_,hhow,hop⟩:=hs;have hops:(opsL x.ops.list).length<=256:=hops;rw[fV]at hops;unfold gK at hl;simp only[Bool.and_eq_true,List.all_eq_true,decide_eq_true_eq]at hl;obtain⟨hl1,hl2⟩:=hl;have hl2:(polsL x.loops.list).length<=4:=hl2;rw[cC]at hl2
 have hne:x.how=2\/x.how=3->x.loops.list≠[]:=λe e0=>by
  have hh:(if x.how=1 then x.fn==0 else if x.how=2\/x.how=3 then !(polsL x.loops.list).isEmpty&&fX x.fn true else false)=true:=hhow;rw[if_neg k7,if_pos e,e0]at hh;cases hh
 refine⟨λp hp h=>pos_of (hl1 p hp).2 h,hops,?_,hl2,λe=>hne (.inl e),λe=>hne (.inr e),hb0,by rw[<-hnb];exact hb1,λh=>pos_of ha h,?_,λo ho=>?_,hD⟩
 .cases hl:x.ops.list with
  |nil=>
   have hD:Deep (opsL x.ops.list) 0:=hD;rw[hl]at hD;cases hD
  |cons y r=>simp
 .have hh:(if x.how=1 then x.fn==0 else if x.how=2\/x.how=3 then !(polsL x.loops.list).isEmpty&&fX x.fn true else false)=true:=hhow
  rcases Classical.em (x.how=1)with e|e
  .exact .inl e
  .rcases Classical.em (x.how=2\/x.how=3)with e2|e2
   .exact .inr e2
   .rw[if_neg e,if_neg e2]at hh;cases hh
 .have h1:=hop o ho;refine⟨λe=>?_,λe=>?_⟩
  .unfold opB at h1;rw[if_neg k7,if_neg k7,if_pos e]at h1;simp only[Bool.and_eq_true,decide_eq_true_eq]at h1;have h2:0<=o.k/\o.k<((polsL x.loops.list).length:Int):=h1.1;rw[cC]at h2;omega
  .have h2:=opB_inG h1 e;unfold opB at h1;rw[if_neg k7,if_neg k7,if_neg k7,if_pos e]at h1;simp only[Bool.and_eq_true,decide_eq_true_eq]at h1;rw[hm,hnb]at h2;exact⟨h1.1.1,h2⟩
theorem bIj{vars:Int}: ∀{l:List gQ} {seen:List Int},oE vars l seen=true-> ∀u∈l,-1<=u.input/\u.input<64
 |[],_,_,u,hu=>by cases hu
 |v::l,seen,h,u,hu=>by
  obtain⟨_,h2⟩:=bIk (show(gK v.sides vars&&(decide (-1<=v.input/\v.input<64)&&(!(seen.contains v.input)&&oE vars l (if 0<=v.input then v.input::seen else seen))))=true from h);obtain⟨h3,h4⟩:=bIk h2
  rcases List.mem_cons.1 hu with rfl|hu
  .exact of_decide_eq_true h3
  .exact bIj (bIk h4).2 u hu
end
end Go.Proofs.YtnfiadlonjediaaGreatDoor
