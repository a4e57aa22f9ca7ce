/- Texts of one proof, one behind the other: GmC, MixU, Alg, Val, Grow, MakesT, PlaceP, AgA, AgB, StpG. -/
import Derived.Test.YtnfiadlonjediaaGreatDoorM7
import Derived.Test.YtnfiadlonjediaaGreatDoorM11
import Derived.Test.YtnfiadlonjediaaGreatDoorM6
import Derived.Test.YtnfiadlonjediaaGreatDoorM10
namespace Go.Proofs.YtnfiadlonjediaaGreatDoor
section
open Go.RowKit Go.Proofs.Tryz
set_option maxRecDepth 100000
theorem rW{l:List Int}{k:Nat}{x:Int}(h:l[k]?=some x):l.getD k 0=x:=by rw [List.getD_eq_getElem?_getD,h];rfl
theorem rE(z0:Int)(z1:Int)(z2:Int)(z4:Int):prog.built 52 [(0,.int .u8 z0),(1,.int .u8 z1),(2,.int .u8 z2),(4,.int .i32 z4)]=some #[.int .u8 z0,.int .u8 z1,.int .u8 z2,.int .u8 0,.int .i32 z4]:=k8
theorem rD(z0:Int)(z1:Int)(z2:Int)(z3:Int):prog.built 52 [(0,.int .u8 z0),(1,.int .u8 z1),(2,.int .u8 z2),(3,.int .u8 z3)]=some #[.int .u8 z0,.int .u8 z1,.int .u8 z2,.int .u8 z3,.int .i32 0]:=k8
theorem ops1_spec(mb:Nat)(m:MkV)(a:Option Addr×Nat)(s:GnS)(hB:GnB 999900 s)(b1 b2:Nat)(o:OpV)(r:Int):cA prog 130 [.int .u8 r,.pointer (some ⟨b1,0,none⟩),.pointer (some ⟨b2,0,none⟩)] [mkO mb (m.st a s),mkS (m.st a s)] [bD.cells b1 0 [.pointer (some ⟨mb,0,none⟩)],bD.cells b2 0 [.int .i64 o.how,.int .i64 o.k,.int .i64 o.n,.slice o.p.addr o.p.list.length o.p.cap,.int .u8 o.fn]] (fun(_:Option Addr×Nat)=> .tuple #[]) (fun(x:Option Addr×Nat)=>[mkO mb (m.st x (numG r o.n s)),mkS (m.st x (numG r o.n s))]) (fun _=>[]):=by
 have hT:=cO;refine j1 func130 ntmps130 ?_;intro β hM;refine one ?_;refine ss (i6 hT (bG (off:=0) d7)) ?_;refine g2 ?_;refine ss (i6 hT (bG (off:=2) d8)) ?_;refine bH func68 (fF mb m a _ (hB.le k7) (r) (o.n)) rfl rfl (.c0 (.c0 .nil)) e8 fun y1=>?_;have hB2:=iI (a:=r) (z:=o.n) hB;refine iK ?_;exact cG y1 rfl (.c0 (.c0 .nil)) e8 rfl
theorem bNg(mb:Nat)(m:MkV)(a:Option Addr×Nat)(s:GnS)(hB:GnB 999900 s)(b1 b2:Nat)(z:Int)(r:Int):cA prog 133 [.int .u8 r,.pointer (some ⟨b1,0,none⟩),.pointer (some ⟨b2,0,none⟩)] [mkO mb (m.st a s),mkS (m.st a s)] [bD.cells b1 0 [.pointer (some ⟨mb,0,none⟩)],bD.cells b2 0 [.int .i64 z]] (fun(_:Option Addr×Nat)=> .tuple #[]) (fun(x:Option Addr×Nat)=>[mkO mb (m.st x (numG r z s)),mkS (m.st x (numG r z s))]) (fun _=>[]):=by
 have hT:=cO;refine j1 func133 ntmps133 ?_;intro β hM;refine one ?_;refine ss (i6 hT (bG (off:=0) d7)) ?_;refine one ?_;refine ss (i6 hT (bG (off:=0) d8)) ?_;refine bH func68 (fF mb m a _ (hB.le k7) (r) (z)) rfl rfl (.c0 (.c0 .nil)) e8 fun y1=>?_;have hB2:=iI (a:=r) (z:=z) hB;refine iK ?_;exact cG y1 rfl (.c0 (.c0 .nil)) e8 rfl
theorem ops3_spec(mb:Nat)(m:MkV)(a:Option Addr×Nat)(s:GnS)(hB:GnB 999900 s)(b1 b2:Nat)(o:OpV)(hk:0≤o.k∧o.k≤1000)(r:Int):cA prog 134 [.int .u8 r,.pointer (some ⟨b1,0,none⟩),.pointer (some ⟨b2,0,none⟩)] [mkO mb (m.st a s),mkS (m.st a s)] [bD.cells b1 0 [.pointer (some ⟨mb,0,none⟩)],bD.cells b2 0 [.int .i64 o.how,.int .i64 o.k,.int .i64 o.n,.slice o.p.addr o.p.list.length o.p.cap,.int .u8 o.fn]] (fun(_:Option Addr×Nat)=> .tuple #[]) (fun(x:Option Addr×Nat)=>[mkO mb (m.st x (sI r (u8m (1+o.k)) s)),mkS (m.st x (sI r (u8m (1+o.k)) s))]) (fun _=>[]):=by
 have hT:=cO;refine j1 func134 ntmps134 ?_;intro β hM;refine one ?_;refine ss (i6 hT (bG (off:=0) d7)) ?_;refine g2 ?_;refine ss (i6 hT (bG (off:=1) d8)) ?_;refine one ?_;refine bM (z':=1+o.k) (nQ k7 k7) ?_;refine one ?_;refine bM (z':=u8m (1+o.k)) (qN _) ?_;refine bH func135 (bKm mb m a _ (hB.le k7) (r) (u8m (1+o.k))) rfl rfl (.c0 (.c0 .nil)) e8 fun y1=>?_;have hB2:=bGb (a:=r) (b:=u8m (1+o.k)) hB;refine iK ?_;exact cG y1 rfl (.c0 (.c0 .nil)) e8 rfl
theorem ops4_spec(mb:Nat)(m:MkV)(a:Option Addr×Nat)(s:GnS)(hB:GnB 999900 s)(b1 b2 b3:Nat)(p:Int)(o:OpV)(hk:0≤o.k)(hk2:o.k.toNat<m.at_.list.length)(r:Int):cA prog 139 [.int .u8 r,.pointer (some ⟨b1,0,none⟩),.pointer (some ⟨b2,0,none⟩),.pointer (some ⟨b3,0,none⟩)] [mkO mb (m.st a s),mkS (m.st a s)] [bD.cells b1 0 [.pointer (some ⟨mb,0,none⟩)],bD.cells b2 0 [.int .u8 p],bD.cells b3 0 [.int .i64 o.how,.int .i64 o.k,.int .i64 o.n,.slice o.p.addr o.p.list.length o.p.cap,.int .u8 o.fn],cT.sl (.slice m.at_.addr m.at_.list.length m.at_.cap) m.at_.list] (fun(_:Option Addr×Nat)=> .tuple #[]) (fun(x:Option Addr×Nat)=>[mkO mb (m.st x (dW ⟨5,r,p,0,w32 (m.at_.list.getD o.k.toNat 0)⟩ 0 s)),mkS (m.st x (dW ⟨5,r,p,0,w32 (m.at_.list.getD o.k.toNat 0)⟩ 0 s))]) (fun _=>[]):=by
 have hT:=cO;refine j1 func139 ntmps139 ?_;intro β hM;refine fB _ _ [(true,0),(true,1),(true,2),(true,3),(true,4),(true,5),(true,7),(true,8),(false,6),(true,9),(true,10),(true,11),(true,12),(false,13)] dR l9 .nil bA.self ?_;refine stM rfl (i6 hT (bG (off:=0) d7)) ?_;refine one ?_;refine stM rfl (i6 hT (bG (off:=0) d8)) ?_;refine stM rfl (i6 hT (bG (off:=0) d7)) ?_;refine g3 ?_;refine stM rfl (i6 hT (bG (off:=1) d9)) ?_;refine g3 ?_;obtain⟨x1,hx2⟩:=gx m.at_.list o.k.toNat (hk2);refine stM rfl (bI hT (k:=o.k.toNat) (bV e6) rfl rfl rfl rfl rfl rfl k7 (hk2)) ?_;refine stM rfl (iX hx2 0) ?_;refine one ?_;refine bM (z':=w32 (m.at_.list.getD o.k.toNat 0)) (by rw [rW hx2];exact jU _) ?_;refine stM rfl (bZ rfl rfl (rE _ _ _ _)) ?_;refine one ?_;refine bH func28 (dY mb m a _ (hB.le k7) (⟨5,r,p,0,w32 (m.at_.list.getD o.k.toNat 0)⟩:cP) 0) rfl rfl (.c0 (.c0 .nil)) e8 fun y3=>?_;have hB4:=dZ (i:=(⟨5,r,p,0,w32 (m.at_.list.getD o.k.toNat 0)⟩:cP)) (dst:=0) hB;refine g2 ?_;exact cG y3 rfl (.c0 (.c0 .nil)) e8 rfl
theorem ops5_spec(mb:Nat)(m:MkV)(a:Option Addr×Nat)(s:GnS)(hB:GnB 999900 s)(b1 b2 b3:Nat)(o:OpV)(p:Int)(r:Int):cA prog 140 [.int .u8 r,.pointer (some ⟨b1,0,none⟩),.pointer (some ⟨b2,0,none⟩),.pointer (some ⟨b3,0,none⟩)] [mkO mb (m.st a s),mkS (m.st a s)] [bD.cells b1 0 [.pointer (some ⟨mb,0,none⟩)],bD.cells b2 0 [.int .i64 o.how,.int .i64 o.k,.int .i64 o.n,.slice o.p.addr o.p.list.length o.p.cap,.int .u8 o.fn],bD.cells b3 0 [.int .u8 p]] (fun(_:Option Addr×Nat)=> .tuple #[]) (fun(x:Option Addr×Nat)=>[mkO mb (m.st x (dW ⟨u8m (64+o.fn),r,p,0,0⟩ 0 s)),mkS (m.st x (dW ⟨u8m (64+o.fn),r,p,0,0⟩ 0 s))]) (fun _=>[]):=by
 have hT:=cO;refine j1 func140 ntmps140 ?_;intro β hM;refine one ?_;refine ss (i6 hT (bG (off:=0) d7)) ?_;refine one ?_;refine ss (i6 hT (bG (off:=4) d8)) ?_;refine one ?_;refine bM (z':=u8m (64+o.fn)) (qN _) ?_;refine one ?_;refine ss (i6 hT (bG (off:=0) d9)) ?_;refine ss (bZ rfl rfl (mR _ _ _)) ?_;refine bH func28 (dY mb m a _ (hB.le k7) (⟨u8m (64+o.fn),r,p,0,0⟩:cP) 0) rfl rfl (.c0 (.c0 .nil)) e8 fun y1=>?_;have hB2:=dZ (i:=(⟨u8m (64+o.fn),r,p,0,0⟩:cP)) (dst:=0) hB;refine iK ?_;exact cG y1 rfl (.c0 (.c0 .nil)) e8 rfl
theorem ops6_spec(mb:Nat)(m:MkV)(a:Option Addr×Nat)(s:GnS)(hB:GnB 999900 s)(b1 b2 b3 b4:Nat)(o:OpV)(p q:Int)(r:Int):cA prog 141 [.int .u8 r,.pointer (some ⟨b1,0,none⟩),.pointer (some ⟨b2,0,none⟩),.pointer (some ⟨b3,0,none⟩),.pointer (some ⟨b4,0,none⟩)] [mkO mb (m.st a s),mkS (m.st a s)] [bD.cells b1 0 [.pointer (some ⟨mb,0,none⟩)],bD.cells b2 0 [.int .i64 o.how,.int .i64 o.k,.int .i64 o.n,.slice o.p.addr o.p.list.length o.p.cap,.int .u8 o.fn],bD.cells b3 0 [.int .u8 p],bD.cells b4 0 [.int .u8 q]] (fun(_:Option Addr×Nat)=> .tuple #[]) (fun(x:Option Addr×Nat)=>[mkO mb (m.st x (dW ⟨u8m (128+o.fn),r,p,q,0⟩ 0 s)),mkS (m.st x (dW ⟨u8m (128+o.fn),r,p,q,0⟩ 0 s))]) (fun _=>[]):=by
 have hT:=cO;refine j1 func141 ntmps141 ?_;intro β hM;refine one ?_;refine ss (i6 hT (bG (off:=0) d7)) ?_;refine one ?_;refine ss (i6 hT (bG (off:=4) d8)) ?_;refine one ?_;refine bM (z':=u8m (128+o.fn)) (qN _) ?_;refine one ?_;refine ss (i6 hT (bG (off:=0) d9)) ?_;refine ss (i6 hT (bG (off:=0) e6)) ?_;refine ss (bZ rfl rfl (rD _ _ _ _)) ?_;refine bH func28 (dY mb m a _ (hB.le k7) (⟨u8m (128+o.fn),r,p,q,0⟩:cP) 0) rfl rfl (.c0 (.c0 .nil)) e8 fun y1=>?_;have hB2:=dZ (i:=(⟨u8m (128+o.fn),r,p,q,0⟩:cP)) (dst:=0) hB;refine iK ?_;exact cG y1 rfl (.c0 (.c0 .nil)) e8 rfl
inductive Tr3 where
 | nil
 | fl (k:Nat) (r:Tr3)
 | op (k:Nat) (r:Tr3)
 | two (k l:Nat) (r s:Tr3)
 | three (k l m:Nat) (r s t:Tr3)
def Tr3.len:Tr3→Nat
 | .nil=>0
 | .fl _ r=>r.len+1
 | .op _ r=>r.len+1
 | .two _ _ r _=>r.len+1
 | .three _ _ _ r _ _=>r.len+1
section
variable {P : Program} {ops : Array Oper} {md : Region.Mode} {C : World → Prop} {Q : Exit → Act → World → Prop}
def gW (P:Program)(ops:Array Oper)(C:World→Prop)(Q:Exit→Act→World→Prop):Tr3→Act→World→Prop
 | .nil,a,w=>Q .normal a w
 | .fl k r,a,w=> ∃o v,ops[k]?=some o∧Fl P ops C o v a∧gW P ops C Q r (a.put o.dst v) w
 | .op k r,a,w=>fOp P ops k (fun a w=>C w∧gW P ops C Q r a w) a w
 | .two k l r s,a,w=>fOp P ops k (fun a w=>C w∧gW P ops C Q r a w) a w∧fOp P ops l (fun a w=>C w∧gW P ops C Q s a w) a w
 | .three k l m r s t,a,w=>fOp P ops k (fun a w=>C w∧gW P ops C Q r a w) a w∧fOp P ops l (fun a w=>C w∧gW P ops C Q s a w) a w∧fOp P ops m (fun a w=>C w∧gW P ops C Q t a w) a w
def rU (md:Region.Mode)(ops:Array Oper):Tr3→Array Bool→Bool
 | .nil,listed=>(Region.ready md ops listed).isEmpty
 | .fl k r,listed=>(Region.ready md ops listed).contains k&&Region.free md ops listed k&&rU md ops r (listed.setIfInBounds k true)
 | .op k r,listed=>(Region.ready md ops listed==[k])&&rU md ops r (listed.setIfInBounds k true)
 | .two k l r s,listed=>(Region.ready md ops listed==[k,l])&&Nat.beq r.len s.len&&rU md ops r (listed.setIfInBounds k true)&&rU md ops s (listed.setIfInBounds l true)
 | .three k l m r s t,listed=>(Region.ready md ops listed==[k,l,m])&&Nat.beq r.len s.len&&Nat.beq r.len t.len&&rU md ops r (listed.setIfInBounds k true)&&rU md ops s (listed.setIfInBounds l true)&&rU md ops t (listed.setIfInBounds m true)
theorem jI(hs:Region.noSelect ops=true): ∀(l:Tr3) (listed:Array Bool) (a:Act) (w:World),rU md ops l listed=true→C w→gW P ops C Q l a w→yF P md ops C Q l.len listed a w
 | .nil,listed,a,w,hB,hC,h=>⟨hC,by simpa [rU] using hB,h⟩
 | .fl k r,listed,a,w,hB,hC,h=>by
  simp only [rU,Bool.and_eq_true] at hB;obtain⟨o,v,ho,hy,hK⟩:=h;exact tQ ho (Region.noSelect_spec hs) r.len listed a w (Region.free_spec ho hB.1.2) (by simpa using hB.1.1) hy (jI hs r _ _ _ hB.2 hC hK)
 | .op k r,listed,a,w,hB,hC,h=>by
  simp only [rU,Bool.and_eq_true,beq_iff_eq] at hB;refine⟨hC,fun h0=>q7,fun i hi=>?_⟩;rw [hB.1] at hi;have:i=k:=by simpa using hi
  subst this;exact fD (fun a' w' h'=>jI hs r _ _ _ hB.2 h'.1 h'.2) h
 | .two k l r s,listed,a,w,hB,hC,h=>by
  simp only [rU,Bool.and_eq_true,beq_iff_eq] at hB;obtain⟨⟨⟨h1,h2⟩,h3⟩,h4⟩:=hB;refine⟨hC,fun h0=>v8,fun i hi=>?_⟩;rw [h1] at hi;have hi:i=k∨i=l:=by simpa using hi
  rcases hi with rfl | rfl
  ·exact fD (fun a' w' h'=>jI hs r _ _ _ h3 h'.1 h'.2) h.1
  ·have e:Tr3.len (.two k i r s)=s.len+1:=by simp only [Tr3.len,Nat.eq_of_beq_eq_true h2]
   have e':r.len=s.len:=Nat.eq_of_beq_eq_true h2;rw [e'];exact fD (fun a' w' h'=>jI hs s _ _ _ h4 h'.1 h'.2) h.2
 | .three k l m r s t,listed,a,w,hB,hC,h=>by
  simp only [rU,Bool.and_eq_true,beq_iff_eq] at hB;obtain⟨⟨⟨⟨⟨h1,h2⟩,h3⟩,h4⟩,h5⟩,h6⟩:=hB;have e2:r.len=s.len:=Nat.eq_of_beq_eq_true h2;have e3:r.len=t.len:=Nat.eq_of_beq_eq_true h3;refine⟨hC,fun h0=>v8,fun i hi=>?_⟩;rw [h1] at hi;have hi:i=k∨i=l∨i=m:=by simpa using hi
  rcases hi with rfl | rfl | rfl
  ·exact fD (fun a' w' h'=>jI hs r _ _ _ h4 h'.1 h'.2) h.1
  ·rw [e2];exact fD (fun a' w' h'=>jI hs s _ _ _ h5 h'.1 h'.2) h.2.1
  ·rw [e3];exact fD (fun a' w' h'=>jI hs t _ _ _ h6 h'.1 h'.2) h.2.2
def mixUOk(l:Tr3)(ops:Array Oper):Bool:=Region.noSelect ops&&Nat.beq l.len ops.size&&rU .any ops l (Array.replicate ops.size false)
end
section
variable {P : Program} {β : cX} {n : Nat} {Γ : Env} {H : List bC} {F : List bD} {Q : Exit → Act → World → Prop} {Hk : List bC} {F0 : List bD} {ops : Array Oper}
theorem at_mixU{id:Nat}{l:List Oper}(Hk:List bC)(F0:List bD)(od:Tr3)(hm:P.follows .mixedOrders=true)(hB:mixUOk od l.toArray=true)(hH:Sel H Hk)(hF:bA F F0)
  (h:At β n Γ H F (gW P l.toArray (StF β Hk F0) Q od)):At β n Γ H F ((Code.region id l.toArray true).wp P Q):=fun a w S f s k=>by
 simp only [mixUOk,Bool.and_eq_true] at hB;have hw:=StF.drew ⟨S,s,k⟩;obtain⟨S',s',k'⟩:=hw;refine wp_region_any hm (nX (C:=StF β Hk F0) _ _ _ _ ?_);have:=jI (P:=P) (md:= .any) (C:=StF β Hk F0) (Q:=Q) hB.1.1 od (Array.replicate l.toArray.size false) a _ hB.2 (StF.sel hH hF ⟨S',s',k'⟩) (h a _ S' f s' k')
 rwa [Nat.eq_of_beq_eq_true hB.1.2] at this
theorem lW{C:World→Prop}(h:At β n Γ H F (Q .normal)):At β n Γ H F (gW P ops C Q .nil):=h
theorem bAo{r:Tr3}{o:Oper}{k d:Nat}{v:Value}(hk:ops[k]?=some o)(hw:want ops Γ o=some true)(hd:o.dst=some d)(hn:Nat.blt d n=true)(h:Sti P β n Γ Hk F0 o v)
  (K:At β n ((d,v)::Γ) H F (gW P ops (StF β Hk F0) Q r)):At β n Γ H F (gW P ops (StF β Hk F0) Q (.fl k r)):=fun a w S f s hF=>by
 refine⟨o,v,hk,.inl ⟨f.want hw,fun w' ⟨S',s',k'⟩=>h a w' S' f s' k'⟩,?_⟩;rw [hd];exact K _ _ S (f.put l8 v) s hF
theorem dL{r:Tr3}{o:Oper}{k:Nat}{C:World→Prop}(hk:ops[k]?=some o)(h:At β n Γ H F (wpList P ops (Nm fun a w=>C w∧gW P ops C Q r a w) [o])):At β n Γ H F (gW P ops C Q (.op k r)):=uE hk h
theorem uM{r s:Tr3}{o o':Oper}{k l:Nat}{C:World→Prop}(hk:ops[k]?=some o)(hl:ops[l]?=some o')(h:At β n Γ H F (wpList P ops (Nm fun a w=>C w∧gW P ops C Q r a w) [o]))(h':At β n Γ H F (wpList P ops (Nm fun a w=>C w∧gW P ops C Q s a w) [o'])):
  At β n Γ H F (gW P ops C Q (.two k l r s)):=fun a w S f st hF=>⟨uE hk h a w S f st hF,uE hl h' a w S f st hF⟩
theorem bOj{r s t:Tr3}{o o' o2:Oper}{k l m:Nat}{C:World→Prop}(hk:ops[k]?=some o)(hl:ops[l]?=some o')(hm:ops[m]?=some o2)(h:At β n Γ H F (wpList P ops (Nm fun a w=>C w∧gW P ops C Q r a w) [o]))(h':At β n Γ H F (wpList P ops (Nm fun a w=>C w∧gW P ops C Q s a w) [o']))(h2:At β n Γ H F (wpList P ops (Nm fun a w=>C w∧gW P ops C Q t a w) [o2])):
  At β n Γ H F (gW P ops C Q (.three k l m r s t)):=fun a w S f st hF=>⟨uE hk h a w S f st hF,uE hl h' a w S f st hF,uE hm h2 a w S f st hF⟩
theorem cF{r:Tr3}(hH:Sel H Hk)(hF:bA F F0)(h:At β n Γ H F (gW P ops (StF β Hk F0) Q r)):At β n Γ H F (wpList P ops (Nm fun a w=>StF β Hk F0 w∧gW P ops (StF β Hk F0) Q r a w) []):=fun a w S f s k=>
 ⟨rfl,StF.sel hH hF ⟨S,s,k⟩,h a w S f s k⟩
end
end
section
open Go.RowKit Go.Sort Go.Proofs.Tryz
def fG (a b:Int):Prop:=(18446744073709551616:Int)∣a-b
theorem fG.refl(a:Int):fG a a:=by unfold fG;omega
theorem fG.of_eq{a b:Int}(h:a=b):fG a b:=by unfold fG;omega
theorem fG.symm{a b:Int}(h:fG a b):fG b a:=by unfold fG at*;omega
theorem fG.trans{a b c:Int}(h:fG a b)(h2:fG b c):fG a c:=by unfold fG at*;omega
theorem fG.add{a b c d:Int}(h:fG a b)(h2:fG c d):fG (a+c) (b+d):=by unfold fG at*;omega
theorem fG.sub{a b c d:Int}(h:fG a b)(h2:fG c d):fG (a-c) (b-d):=by unfold fG at*;omega
theorem fG.mul{a b:Int}(h:fG a b)(c:Int):fG (a*c) (b*c):=by
 unfold fG at*;rw [←Int.sub_mul];exact Int.dvd_trans h (Int.dvd_mul_right _ _)
theorem bCj(a:Int):fG (wrap64 a) a:=by unfold fG wrap64;omega
theorem wrap_range(a:Int): -9223372036854775808≤wrap64 a∧wrap64 a<9223372036854775808:=by unfold wrap64;omega
theorem fG.eq{a b:Int}(h:fG a b)(h1: -9223372036854775808≤a∧a<9223372036854775808)(h2: -9223372036854775808≤b∧b<9223372036854775808):a=b:=by
 unfold fG at h;omega
def Ext (F:Mono→Int):Prop:= ∀a b:Mono,a.key=b.key→F a=F b
def cS (f:Mono→Int):List Mono→Int
 | []=>0
 | m::l=>f m+cS f l
def lin (F:Mono→Int)(L:List Mono):Int:=cS (fun m=>m.n*F m) L
theorem sumOf_perm(f:Mono→Int){l m:List Mono}(h:l.Perm m):cS f l=cS f m:=by
 induction h with
 | nil=>rfl
 | cons x _ ih=>simp only [cS,ih]
 | swap x y l=>simp only [cS];omega
 | trans _ _ ih1 ih2=>rw [ih1,ih2]
theorem bNf(f g:Mono→Int): ∀l,cS (fun m=>f m+g m) l=cS f l+cS g l
 | []=>rfl
 | m::l=>by simp only [cS,bNf f g l];omega
theorem bJs: ∀l,cS (fun _=>0) l=0
 | []=>rfl
 | m::l=>by simp only [cS,bJs l];omega
theorem wQ(f:Mono→Int)(c:Int): ∀l,cS (fun m=>f m*c) l=cS f l*c
 | []=>by simp [cS]
 | m::l=>by simp only [cS,wQ f c l,Int.add_mul]
theorem bKk(f:Mono→Mono→Int)(q:List Mono): ∀p,cS (fun a=>cS (fun b=>f a b) q) p=cS (fun b=>cS (fun a=>f a b) p) q
 | []=>by simp only [cS,bJs]
 | a::p=>by simp only [cS,bKk f q p,bNf]
theorem oU{f g:Mono→Int}: ∀{l:List Mono},(∀m∈l,f m=g m)→cS f l=cS g l
 | [],_=>rfl
 | m::l,h=>by simp only [cS];rw [h m m8,oU fun x hx=>h x p8]
theorem bGr{f g:Mono→Int}: ∀{l:List Mono},(∀m∈l,fG (f m) (g m))→fG (cS f l) (cS g l)
 | [],_=>fG.refl _
 | m::l,h=>(h m m8).add (bGr fun x hx=>h x p8)
theorem bNd(F:Mono→Int)(L:List Mono):lin F (kO L)=lin F L:=by
 unfold lin kO;rw [sumOf_perm _ (List.mergeSort_perm _ _)]
 induction L with
 | nil=>rfl
 | cons m l ih=>
  by_cases h:m.n=0
  ·rw [List.filter_cons_of_neg s8,ih];simp [cS,h]
  ·rw [List.filter_cons_of_pos s8];simp only [cS,ih]
theorem bCs{F:Mono→Int}(hF:Ext F)(k:Mono)(x:Int): ∀L,lin F (setTo k x L)=lin F L+(x-mS k L)*F k
 | []=>by
  have:F {k with n:=x}=F k:=hF _ _ rfl;simp only [lin,setTo,mS,cS,this];simp
 | m::L=>by
  have hk:F {k with n:=x}=F k:=hF _ _ rfl;have ih:=bCs hF k x L;unfold lin at ih;unfold setTo mS lin
  by_cases h:k.sameE m=true
  ·have h2:F m=F k:=hF _ _ (sameE_E.1 h).symm;simp only [if_pos h,cS,hk,h2,Int.sub_mul];omega
  ·simp only [if_neg h,cS,ih];omega
theorem bMr{F:Mono→Int}(hF:Ext F)(m:Mono)(v:Int)(L:List Mono):fG (lin F (qH m v L)) (lin F L+v*F m):=by
 unfold qH;rw [bCs hF];refine(fG.refl _).add (fG.mul ?_ _);have:=bCj (mS m L+v);unfold fG at*;omega
theorem zE{F:Mono→Int}(hF:Ext F)(g:Mono→Int): ∀(p L:List Mono),fG (lin F (fE g L p)) (lin F L+cS (fun m=>g m*F m) p)
 | [],L=>by simp only [fE,cS,Int.add_zero];exact fG.refl _
 | m::p,L=>by
  refine(zE hF g p (qH m (g m) L)).trans ?_;refine((bMr hF m (g m) L).add (fG.refl _)).trans (fG.of_eq ?_);simp only [cS];omega
theorem bHd{F:Mono→Int}(hF:Ext F)(a:Mono): ∀(q L:List Mono),fG (lin F (jO a L q)) (lin F L+cS (fun b=>a.n*b.n*F (mulM a b)) q)
 | [],L=>by simp only [jO,cS,Int.add_zero];exact fG.refl _
 | b::q,L=>by
  refine(bHd hF a q _).trans ?_;refine(((bMr hF (mulM a b) _ L).trans ((fG.refl _).add ((bCj _).mul _))).add (fG.refl _)).trans (fG.of_eq ?_);simp only [cS];omega
theorem bHg{F:Mono→Int}(hF:Ext F)(q:List Mono): ∀(p L:List Mono),fG (lin F (gD q L p)) (lin F L+cS (fun a=>cS (fun b=>a.n*b.n*F (mulM a b)) q) p)
 | [],L=>by simp only [gD,cS,Int.add_zero];exact fG.refl _
 | a::p,L=>by
  refine(bHg hF q p _).trans ?_;refine((bHd hF a q L).add (fG.refl _)).trans (fG.of_eq ?_);simp only [cS];omega
def Fit (L:List Mono):Prop:= ∀m∈L,-9223372036854775808≤m.n∧m.n<9223372036854775808
theorem bNv(m:Mono)(v:Int){L:List Mono}(h:Fit L):Fit (qH m v L):=fun y hy=>by
 rcases wY hy with rfl | hy
 ·exact wrap_range _
 ·exact h y hy
theorem zF(g:Mono→Int): ∀(p:List Mono) {L:List Mono},Fit L→Fit (fE g L p)
 | [],_,h=>h
 | _::p,_,h=>zF g p (bNv _ _ h)
theorem bIq(a:Mono): ∀(q:List Mono) {L:List Mono},Fit L→Fit (jO a L q)
 | [],_,h=>h
 | _::q,_,h=>bIq a q (bNv _ _ h)
theorem bIu(q:List Mono): ∀(p:List Mono) {L:List Mono},Fit L→Fit (gD q L p)
 | [],_,h=>h
 | a::p,_,h=>bIu q p (bIq a q h)
theorem fit_nil:Fit []:=fun _ h=>by simp at h
def ind (k:Nat)(m:Mono):Int:=if m.key=k then 1 else 0
theorem ext_ind(k:Nat):Ext (ind k):=fun a b h=>by unfold ind;rw [h]
theorem qU(F:Mono→Int)(m:Mono)(L:List Mono):lin F (m::L)=m.n*F m+lin F L:=rfl
theorem ind_ne{k:Nat}{m:Mono}(h:m.key≠k):ind k m=0:=if_neg h
theorem ind_self(m:Mono):ind m.key m=1:=if_pos rfl
theorem uQ{k:Nat}: ∀{L:List Mono},(∀y∈L,y.key≠k)→lin (ind k) L=0
 | [],_=>rfl
 | m::L,h=>by
  rw [qU,uQ (L:=L) (k:=k) fun y hy=>h y (by simp [hy]),ind_ne (h m m8)];simp
theorem bAi{x:Mono}: ∀{L:List Mono},gY L→x∈L→lin (ind x.key) L=x.n
 | [],_,h=>by simp at h
 | m::L,hA,h=>by
  obtain⟨h1,h2⟩:=List.pairwise_cons.1 hA;rw [qU]
  rcases List.mem_cons.1 h with rfl | h
  ·rw [uQ (L:=L) (k:=x.key) fun y hy=>Ne.symm (h1 y hy),ind_self];simp
  ·rw [bAi h2 h,ind_ne (h1 x h)];simp
theorem bNn{L L':List Mono}(hA:gY L)(hf:Fit L)(hA':gY L')(hf':Fit L')(h: ∀F,Ext F→fG (lin F L) (lin F L')){x:Mono}(hx:x∈kO L):x∈kO L':=by
 obtain⟨hx,h0⟩:=bBt.1 hx;have e:=h _ (ext_ind x.key);rw [bAi hA hx] at e;have hfx:=hf x hx
 by_cases hy: ∃y∈L',y.key=x.key
 ·obtain⟨y,hy,hk⟩:=hy;rw [←hk,bAi hA' hy] at e;have hn:=e.eq hfx (hf' y hy);rw [eq_of_key hk.symm hn] at h0⊢;exact bBt.2 ⟨hy,h0⟩
 ·rw [uQ fun y h1 h2=>hy ⟨y,h1,h2⟩] at e;exact absurd (e.eq hfx k7) h0
theorem bGw{L L':List Mono}(hA:gY L)(hf:Fit L)(hA':gY L')(hf':Fit L')(h: ∀F,Ext F→fG (lin F L) (lin F L')):kO L=kO L':=
 tG.ext (wI hA) (wI hA') fun _=>⟨bNn hA hf hA' hf' h,bNn hA' hf' hA hf fun F hF=>(h F hF).symm⟩
theorem rF: ∀{l:List Mono} {o:Option Mono},fL o l=true→tG l∧(∀a,o=some a→ ∀m∈l,m.key<a.key)∧(∀m∈l,iM m=true)
 | [],_,_=>⟨by simp [tG],m8,m8⟩
 | m::l,none,h=>by
  rw [fL,Bool.and_eq_true] at h;obtain⟨h1,h2,h3⟩:=rF h.2;refine⟨List.pairwise_cons.2 ⟨fun b hb=>h2 m rfl b hb,h1⟩,m8,?_⟩;intro x hx
  rcases List.mem_cons.1 hx with rfl | hx
  ·exact h.1
  ·exact h3 x hx
 | m::l,some a,h=>by
  rw [fL,Bool.and_eq_true,Bool.and_eq_true,decide_eq_true_eq] at h;obtain⟨h1,h2,h3⟩:=rF h.2.2;have hk:=(ord_lt _ _).1 h.2.1;refine⟨List.pairwise_cons.2 ⟨fun b hb=>h2 m rfl b hb,h1⟩,?_,?_⟩
  ·intro a' ha x hx;obtain rfl:a=a':=Option.some.inj ha
   rcases List.mem_cons.1 hx with rfl | hx
   ·exact hk
   ·exact Nat.lt_trans (h2 m rfl x hx) hk
  ·intro x hx
   rcases List.mem_cons.1 hx with rfl | hx
   ·exact h.1
   ·exact h3 x hx
theorem oC{p:List Mono}(h:cK p=true):tG p∧(∀m∈p,iM m=true)∧p.length≤48:=by
 simp only [cK,Bool.and_eq_true,decide_eq_true_eq] at h;exact⟨(rF h.2).1,(rF h.2).2.2,h.1⟩
theorem bFc{p:List Mono}(h:cK p=true):gY p:=(oC h).1.apart
def bDu (p q:List Mono)(s:Int):List Mono:=fE (fun m=>wrap64 (s*m.n)) (fE Mono.n [] p) q
theorem bOd:gY []:=by simp [gY]
theorem bEj(p q:List Mono)(s:Int):gY (bDu p q s):=jM _ _ (jM _ _ bOd)
theorem bNp(p q:List Mono)(s:Int):Fit (bDu p q s):=zF _ _ (zF _ _ fit_nil)
theorem bMd{F:Mono→Int}(hF:Ext F)(p q:List Mono)(s:Int):fG (lin F (bDu p q s)) (lin F p+s*lin F q):=by
 refine(zE hF _ q _).trans ?_;refine fG.add ((zE hF _ p _).trans (fG.of_eq ?_)) ?_
 ·simp only [lin,cS,Int.zero_add]
 ·unfold lin;rw [Int.mul_comm,←wQ];refine bGr fun m _=>((bCj _).mul _).trans (fG.of_eq ?_);rw [Int.mul_comm s,Int.mul_assoc,Int.mul_comm s,Int.mul_assoc]
theorem lin_mulL{F:Mono→Int}(hF:Ext F)(p q:List Mono):fG (lin F (gD q [] p)) (cS (fun a=>cS (fun b=>a.n*b.n*F (mulM a b)) q) p):=by
 refine(bHg hF q p []).trans (fG.of_eq ?_);simp only [lin,cS,Int.zero_add]
theorem bHx(p q:List Mono):gY (gD q [] p):=pT _ _ bOd
theorem fit_mulL(p q:List Mono):Fit (gD q [] p):=bIu _ _ fit_nil
theorem mulM_comm(a b:Mono):mulM a b=mulM b a:=by
 simp only [mulM,Int.mul_comm a.n,UInt8.add_comm a.e0,UInt8.add_comm a.e1,UInt8.add_comm a.e2,UInt8.add_comm a.e3,UInt8.add_comm a.e4,UInt8.add_comm a.e5]
theorem bothP_L(p q:List Mono)(s:Int):bothP p q s=if cK p&&cK q then fV (bDu p q s) else ([],20):=rfl
theorem add_comm(p q:List Mono):bothP p q 1=bothP q p 1:=by
 have h:kO (bDu p q 1)=kO (bDu q p 1):=bGw (bEj _ _ _) (bNp _ _ _) (bEj _ _ _) (bNp _ _ _) fun F hF=>
  (bMd hF p q 1).trans ((fG.of_eq k7).trans (bMd hF q p 1).symm)
 rw [bothP_L,bothP_L,Bool.and_comm];unfold fV;rw [h]
theorem mul_comm(p q:List Mono):mE p q=mE q p:=by
 have h:kO (gD q [] p)=kO (gD p [] q):=bGw (bHx _ _) (fit_mulL _ _) (bHx _ _) (fit_mulL _ _) fun F hF=>
  (lin_mulL hF p q).trans ((fG.of_eq (by
   rw [bKk];refine oU fun b _=>oU fun a _=>?_
   rw [mulM_comm,Int.mul_comm a.n])).trans (lin_mulL hF q p).symm)
 unfold mE;rw [Bool.and_comm];unfold fV;rw [h]
theorem both_ok{p q a:List Mono}{s:Int}(h:bothP p q s=(a,0)):cK p=true∧cK q=true∧a=kO (bDu p q s)∧cK a=true:=by
 unfold bothP fV at h;split at h
 ·rename_i h1;simp only [Bool.and_eq_true] at h1;split at h
  ·rename_i h2;injection h with h _
   refine⟨h1.1,h1.2,h.symm,?_⟩;rw [←h];exact h2
  ·simp at h
 ·simp at h
theorem mul_ok{p q a:List Mono}(h:mE p q=(a,0)):cK p=true∧cK q=true∧a=kO (gD q [] p)∧cK a=true:=by
 unfold mE fV at h;split at h
 ·rename_i h1;simp only [Bool.and_eq_true] at h1;split at h
  ·rename_i h2;injection h with h _
   refine⟨h1.1,h1.2,h.symm,?_⟩;rw [←h];exact h2
  ·simp at h
 ·simp at h
end
section
open Go.RowKit Go.Sort Go.Proofs.Tryz
def jA:List (UInt8×Int)→Int
 | []=>1
 | x::l=>x.2^x.1.toNat*jA l
def val (D:Nat→Int)(m:Mono):Int:=jA (fW m D)
theorem ext_val(D:Nat→Int):Ext (val D):=fun a b h=>by
 have:=key_E.1 h;simp only [Mono.E,List.cons.injEq,and_true] at this;obtain⟨h0,h1,h2,h3,h4,h5⟩:=this;simp only [val,fW,h0,h1,h2,h3,h4,h5]
theorem bLo{d:Int}: ∀{e:Nat} {n r:Int},tE d e n=some r→r=n*d^e
 | 0,n,r,h=>by simp only [tE,Option.some.injEq] at h;simp [h]
 | e+1,n,r,h=>by
  unfold tE at h;split at h
  ·simp at h
  ·rw [bLo h,Int.pow_succ,Int.mul_assoc,Int.mul_comm d]
theorem bNj: ∀{l:List (UInt8×Int)} {n r:Int},sE l n=some r→r=n*jA l
 | [],n,r,h=>by simp only [sE,Option.some.injEq] at h;simp [h,jA]
 | x::l,n,r,h=>by
  simp only [sE,Option.bind_eq_some_iff] at h;obtain⟨k,h1,h2⟩:=h;rw [bNj h2,bLo h1,jA,Int.mul_assoc]
theorem yG: ∀{l:List (UInt8×Int)},gQ l=true→jA l=0
 | [],h=>by simp [gQ] at h
 | x::l,h=>by
  simp only [gQ,List.any_cons,Bool.or_eq_true,Bool.and_eq_true,decide_eq_true_eq,beq_iff_eq] at h
  rcases h with ⟨h1,h2⟩ | h
  ·rw [jA,h2,Int.zero_pow k7,Int.zero_mul]
  ·rw [jA,yG (l:=l) (by simpa [gQ] using h),Int.mul_zero]
theorem value_val{m:Mono}{D:Nat→Int}(h:(cZ m D).2=true):(cZ m D).1=max m.n (-m.n)*val D m:=by
 unfold cZ at*;split
 ·rename_i hz;rw [val,yG hz];simp
 ·split
  ·rename_i n hn;exact bNj hn
  ·rename_i hz _ hn;rw [if_neg hz,hn] at h;simp at h
theorem bGi{D:Nat→Int}(hD: ∀k,0≤D k): ∀{l:List Mono} {size sum r:Int},-size≤sum→sum≤size→size≤jV→mM D l size sum=some r→r=sum+lin (val D) l∧ -jV≤r∧r≤jV
 | [],size,sum,r,h1,h2,h3,h=>by
  simp only [mM,Option.some.injEq] at h;subst h;exact⟨by simp [lin,cS],k7,k7⟩
 | m::l,size,sum,r,h1,h2,h3,h=>by
  unfold mM at h;split at h
  ·simp at h
  ·rename_i hc;rw [not_or] at hc;have hv:=value_val (m:=m) (D:=D) (by simpa using hc.1);have h0:=zL m D hD
   have hs:(if m.n<0 then sum-(cZ m D).1 else sum+(cZ m D).1)=sum+m.n*val D m:=by
    rw [hv];split
    ·rw [show max m.n (-m.n)= -m.n by omega,Int.neg_mul];omega
    ·rw [show max m.n (-m.n)=m.n by omega]
   have hs1: -(size+(cZ m D).1)≤sum+m.n*val D m∧sum+m.n*val D m≤size+(cZ m D).1:=by
    rw [←hs];split<;>omega
   rw [hs] at h;obtain⟨e1,e2,e3⟩:=bGi hD hs1.1 hs1.2 k7 h;exact⟨by rw [e1,qU];omega,e2,e3⟩
theorem eval_ok{p:List Mono}{ds:List Int}{v:Int}(h:bF p ds=(v,0)):cK p=true∧v=lin (val (lP ds)) p∧ -jV≤v∧v≤jV:=by
 unfold bF at h;split at h
 ·rename_i h1;split at h
  ·rename_i h2;simp only [pP,Bool.and_eq_true] at h2;have hD: ∀k,0≤lP ds k:=fun k=>(bAs h2.2 k).1;split at h
   ·rename_i n hn;injection h with h _
    subst h;obtain⟨e1,e2,e3⟩:=bGi hD k7 k7 m7 hn;exact⟨h1,by rw [e1];omega,e2,e3⟩
   ·simp at h
  ·simp at h
 ·simp at h
def Bnd (N:Int)(L:List Mono):Prop:= ∀m∈L,-N≤m.n∧m.n≤N
theorem coef_bnd{N:Int}(hN:0≤N)(k:Mono): ∀{L:List Mono},Bnd N L→ -N≤mS k L∧mS k L≤N
 | [],_=>by simp only [mS];omega
 | m::L,h=>by
  unfold mS;split
  ·exact h m m8
  ·exact coef_bnd hN k fun x hx=>h x p8
theorem bEz{F:Mono→Int}(hF:Ext F){N V:Int}(hN:0≤N)(hV:0≤V)(hNV:N+V<9223372036854775808)(m:Mono){v:Int}(hv: -V≤v∧v≤V){L:List Mono}(h:Bnd N L):
  lin F (qH m v L)=lin F L+v*F m∧Bnd (N+V) (qH m v L):=by
 have hc:=coef_bnd hN m h;have hw:wrap64 (mS m L+v)=mS m L+v:=by unfold wrap64;omega
 unfold qH;rw [hw];constructor
 ·rw [bCs hF,show mS m L+v-mS m L=v by omega]
 ·intro y hy
  rcases wY hy with rfl | hy
  ·show _≤mS m L+v∧mS m L+v≤_;omega
  ·have:=h y hy;omega
theorem prod_bnd{x y:Int}(hx: -16777216≤x∧x≤16777216)(hy: -16777216≤y∧y≤16777216): -281474976710656≤x*y∧x*y≤281474976710656:=by
 have h:(x*y).natAbs≤16777216*16777216:=by
  rw [Int.natAbs_mul];exact Nat.mul_le_mul k7 k7
 omega
theorem bFo{m:Mono}(h:iM m=true): -16777216≤m.n∧m.n≤16777216:=by
 simp only [iM,decide_eq_true_eq] at h;omega
theorem zR{F:Mono→Int}(hF:Ext F)(a:Mono)(ha:iM a=true): ∀{q L:List Mono} {N:Int},0≤N→N+281474976710656*q.length<9223372036854775808→(∀b∈q,iM b=true)→Bnd N L→
  lin F (jO a L q)=lin F L+cS (fun b=>a.n*b.n*F (mulM a b)) q∧Bnd (N+281474976710656*q.length) (jO a L q)
 | [],L,N,_,_,_,h=>by
  refine⟨by simp [jO,cS],?_⟩
  simpa [jO] using h
 | b::q,L,N,hN,hl,hq,h=>by
  rw [List.length_cons] at hl⊢;have hp:=prod_bnd (bFo ha) (bFo (hq b m8));have hw:wrap64 (a.n*b.n)=a.n*b.n:=by unfold wrap64;omega
  obtain⟨e1,e2⟩:=bEz hF (V:=281474976710656) hN k7 k7 (mulM a b) hp h;obtain⟨f1,f2⟩:=zR hF a ha (q:=q) k7 k7 (fun x hx=>hq x p8) e2;rw [jO,hw];refine⟨?_,?_⟩
  ·rw [f1,e1];simp only [cS];omega
  ·rw [show N+281474976710656*((q.length+1:Nat):Int)=N+281474976710656+281474976710656*q.length by omega];exact f2
theorem bAu{F:Mono→Int}(hF:Ext F){q:List Mono}(hq: ∀b∈q,iM b=true)(hl:q.length≤48): ∀{p L:List Mono} {N:Int},0≤N→N+13510798882111488*p.length<9223372036854775808→(∀b∈p,iM b=true)→Bnd N L→
  lin F (gD q L p)=lin F L+cS (fun a=>cS (fun b=>a.n*b.n*F (mulM a b)) q) p
 | [],L,N,_,_,_,h=>by simp [gD,cS]
 | a::p,L,N,hN,hp,hs,h=>by
  rw [List.length_cons] at hp;obtain⟨e1,e2⟩:=zR hF a (hs a m8) (q:=q) hN k7 hq h;have e3:Bnd (N+13510798882111488) (jO a L q):=fun x hx=>by have:=e2 x hx;omega
  have f1:=bAu hF hq hl (p:=p) k7 k7 (fun x hx=>hs x p8) e3;rw [gD,f1,e1];simp only [cS];omega
theorem qF(x y:UInt8)(d:Int)(h:x.toNat+y.toNat<256):d^(x+y).toNat=d^x.toNat*d^y.toNat:=by
 rw [UInt8.toNat_add,Nat.mod_eq_of_lt h,Int.pow_add]
theorem bNb{m:Mono}(h:iM m=true):m.e0.toNat≤8∧m.e1.toNat≤8∧m.e2.toNat≤8∧m.e3.toNat≤8∧m.e4.toNat≤8∧m.e5.toNat≤8:=by
 simp only [iM,decide_eq_true_eq] at h;have h:=h.2.2.2;unfold Mono.deg at h;omega
theorem val_mul(D:Nat→Int){a b:Mono}(ha:iM a=true)(hb:iM b=true):val D (mulM a b)=val D a*val D b:=by
 obtain⟨a0,a1,a2,a3,a4,a5⟩:=bNb ha;obtain⟨b0,b1,b2,b3,b4,b5⟩:=bNb hb;simp only [val,fW,mulM,jA];rw [qF _ _ _ k7,qF _ _ _ k7,qF _ _ _ k7,qF _ _ _ k7,qF _ _ _ k7,qF _ _ _ k7];simp only [Int.mul_one]
 ac_rfl
theorem eval_dims{p:List Mono}{ds:List Int}{v:Int}(h:bF p ds=(v,0)):pP ds=true:=by
 unfold bF at h;split at h
 ·split at h
  ·assumption
  ·simp at h
 ·simp at h
end
section
open Go.Proofs.Tryz
theorem pow_le{a b:Int}(ha:0≤a)(h:a≤b): ∀e:Nat,0≤a^e∧a^e≤b^e
 | 0=>by simp
 | e+1=>by
  obtain⟨h1,h2⟩:=pow_le ha h e;rw [Int.pow_succ,Int.pow_succ];exact⟨Int.mul_nonneg h1 ha,Int.mul_le_mul h2 h ha (Int.le_trans h1 h2)⟩
theorem prod_le{D D':Nat→Int}(hD: ∀k,0≤D k)(h: ∀k,D k≤D' k): ∀l:List (UInt8×Nat),0≤jA (l.map fun x=>(x.1,D x.2))∧jA (l.map fun x=>(x.1,D x.2))≤jA (l.map fun x=>(x.1,D' x.2))
 | []=>by simp [jA]
 | x::l=>by
  obtain⟨h1,h2⟩:=prod_le hD h l;obtain⟨h3,h4⟩:=pow_le (hD x.2) (h x.2) x.1.toNat;simp only [List.map_cons,jA];exact⟨Int.mul_nonneg h3 h1,Int.mul_le_mul h4 h2 h1 (Int.le_trans h3 h4)⟩
theorem val_le{D D':Nat→Int}(hD: ∀k,0≤D k)(h: ∀k,D k≤D' k)(m:Mono):0≤val D m∧val D m≤val D' m:=
 prod_le hD h [(m.e0,0),(m.e1,1),(m.e2,2),(m.e3,3),(m.e4,4),(m.e5,5)]
theorem lin_le{D D':Nat→Int}(hD: ∀k,0≤D k)(h: ∀k,D k≤D' k): ∀p:List Mono,(∀m∈p,0≤m.n)→0≤lin (val D) p∧lin (val D) p≤lin (val D') p
 | [],_=>by simp [lin,cS]
 | m::p,hp=>by
  obtain⟨h1,h2⟩:=lin_le hD h p fun x hx=>hp x p8;obtain⟨h3,h4⟩:=val_le hD h m;have h0:=hp m m8;have h5:=Int.mul_nonneg h0 h3;have h6:=Int.mul_le_mul_of_nonneg_left h4 h0;rw [qU,qU];exact⟨k7,k7⟩
theorem grows_n{p:List Mono}(h:lM p=true): ∀m∈p,0≤m.n:=fun m hm=>by
 simp only [lM,Bool.and_eq_true,Bool.not_eq_true',List.any_eq_false,bCn,decide_eq_true_eq] at h;have:=h.2 m hm;omega
theorem eval_pos{p:List Mono}{ds:List Int}{v:Int}(h:bF p ds=(v,0)): ∀k,0≤lP ds k:=fun k=>by
 have:=eval_dims h;simp only [pP,Bool.and_eq_true] at this;exact(bAs this.2 k).1
theorem grows_pos{p:List Mono}{ds:List Int}{a:Int}(hg:lM p=true)(ha:bF p ds=(a,0)):0≤a:=by
 obtain⟨_,a1,_⟩:=eval_ok ha;rw [a1];exact(lin_le (eval_pos ha) (fun k=>Int.le_refl _) p (grows_n hg)).1
end
section
open Go.RowKit Go.Sort Go.Proofs.Tryz
set_option maxRecDepth 100000
def num0 (n:Int):Mono:=⟨n,0,0,0,0,0,0⟩
def jJ (n:Int):List Mono×Int:=if n=0 then ([],0) else if 16777216<n∨n< -16777216 then ([],21) else ([num0 n],0)
theorem bLg(n:Int)(w:World):(Instr.build 111 #[(0,.int .i64 n)]).run prog w= .ok (.agg #[.int .i64 n,.int .u8 0,.int .u8 0,.int .u8 0,.int .u8 0,.int .u8 0,.int .u8 0]) w:=run_build w _ _ _ k8
theorem res_one(w:World)(m:Mono):Res w.heap.size (w.alloc (.cells #[.int .i64 m.n,.int .u8 m.e0.toNat,.int .u8 m.e1.toNat,.int .u8 m.e2.toNat,.int .u8 m.e3.toNat,.int .u8 m.e4.toNat,.int .u8 m.e5.toNat] 111)) (.slice (some ⟨w.heap.size,0,none⟩) 1 1) [m]:=by
 refine⟨_,1,rfl,.inr ⟨w.heap.size,rfl,Nat.le_refl _,?_⟩⟩
 have h:bLl (w.alloc (.cells #[.int .i64 m.n,.int .u8 m.e0.toNat,.int .u8 m.e1.toNat,.int .u8 m.e2.toNat,.int .u8 m.e3.toNat,.int .u8 m.e4.toNat,.int .u8 m.e5.toNat] 111)) w.heap.size (.slice (some ⟨w.heap.size,0,none⟩) [m].length 1) [m]:=
  ⟨rfl,.inr ⟨w.heap.size,1,#[.int .i64 m.n,.int .u8 m.e0.toNat,.int .u8 m.e1.toNat,.int .u8 m.e2.toNat,.int .u8 m.e3.toNat,.int .u8 m.e4.toNat,.int .u8 m.e5.toNat],rfl,Nat.le_refl _,heap_alloc_new _ _,Nat.le_refl _,by simp [maxLen],rfl,rfl⟩⟩
 exact h.row
set_option maxHeartbeats 400000 in
theorem const_any(n:Int)(w:World):Calls prog 93 #[.int .i64 n] w (bDr w (jJ n)):=by
 have hbn:=bLg
 by_cases h0:n=0
 ·have e:jJ n=([],0):=by unfold jJ;rw [if_pos h0]
  rw [e];subst h0
  go_enter func93,ntmps93
  go_wp2
  go_ret2
  exact⟨_,rfl,Below.refl _ _,Res.nil _ _ _ _⟩
 ·have h01:(n==0)=false:=by simpa using h0
  by_cases h1:16777216<n
  ·have e:jJ n=([],21):=by unfold jJ;rw [if_neg h0,if_pos (.inl h1)]
   rw [e];have h11:decide (16777216<n)=true:=by simpa using h1
   go_enter func93,ntmps93
   go_wp2
   go_ret2
   exact⟨_,rfl,Below.refl _ _,Res.nil _ _ _ _⟩
  ·have h11:decide (16777216<n)=false:=by simpa using h1
   by_cases h2:n< -16777216
   ·have e:jJ n=([],21):=by unfold jJ;rw [if_neg h0,if_pos (.inr h2)]
    rw [e];have h21:decide (n< -16777216)=true:=by simpa using h2
    go_enter func93,ntmps93
    go_wp2
    go_ret2
    exact⟨_,rfl,Below.refl _ _,Res.nil _ _ _ _⟩
   ·have e:jJ n=([num0 n],0):=by unfold jJ;rw [if_neg h0,if_neg k7]
    rw [e];have h21:decide (n< -16777216)=false:=by simpa using h2
    go_enter func93,ntmps93
    go_wp2
    go_ret2
    exact⟨_,rfl,by go_grown,res_one w (num0 n)⟩
set_option maxHeartbeats 400000 in
theorem add_any(A B:Option Addr)(c d:Nat)(p q:List Mono)(w:World)(ha:kF w A p)(hb:kF w B q)(hp:p.length≤140737488355328)(hq:q.length≤140737488355328):
  Calls prog 96 #[.slice A p.length c,.slice B q.length d] w (bDr w (bothP p q 1)):=by
 have H:=Lib.hid (both_any A B c d p q 1 w ha hb hp hq);clear ha hb
 go_enter func96,ntmps96
 go_wp2_with fail
 refine H.out.mono ?_;rintro e w1 ⟨v,rfl,hb1,hv⟩;have HB:=Lib.hid hb1;have HV:=Lib.hid hv;clear hb1 hv
 go_wp2
 go_ret2
 exact⟨_,rfl,HB.out,HV.out⟩
end
section
open Go.RowKit Go.Proofs.Tryz
def nE:List (List Mono)→List Mono→Option (List Mono)
 | [],n=>some n
 | p::r,n=>if (mE n p).2=0 then nE r (mE n p).1 else none
def pL (sides:List (List Mono)):Option (List Mono):=nE sides (jJ 1).1
structure SpC where
 at_:List Mono
 size:List Mono
 deriving DecidableEq
structure PlC where
 ats:List (List Mono)
 end_:List Mono
 free:List SpC
 laid:List (Option SpC)
def yO (n:List Mono)(again:Bool)(l:List SpC):Option (Nat×SpC):=
 if again=true∧n≠[] then match l.findIdx? (fun q=>decide (q.size=n)) with
  | none=>none
  | some i=>match l[i]? with
   | none=>none
   | some q=>some (i,q)
 else none
def layC (sides:List (List Mono))(b:Nat)(again:Bool)(s:PlC):Option PlC:=match pL sides with
 | none=>none
 | some n=>match yO n again s.free with
  | some (i,q)=>some {s with free:=s.free.eraseIdx i,laid:=s.laid.set b (some q),ats:=s.ats.set b q.at_}
  | none=>if (bothP s.end_ n 1).2=0 then some {s with end_:=(bothP s.end_ n 1).1,laid:=s.laid.set b (some ⟨s.end_,n⟩),ats:=s.ats.set b s.end_} else none
def relGo (i:Int):List LifeC→List (Option SpC)→List (Option SpC)×List SpC
 | y::ys,some q::r=>if y.to_<i then (none::(relGo i ys r).1,if q.size=[] then (relGo i ys r).2 else q::(relGo i ys r).2) else (some q::(relGo i ys r).1,(relGo i ys r).2)
 | _::ys,none::r=>(none::(relGo i ys r).1,(relGo i ys r).2)
 | [],l=>(l,[])
 | _,[]=>([],[])
def relC (i:Int)(l:List LifeC)(s:PlC):PlC:={s with laid:=(relGo i l s.laid).1,free:=s.free++(relGo i l s.laid).2}
def kK (bufs:List iO)(l:List LifeC):Nat→Nat→PlC→Option PlC
 | 0,_,s=>some s
 | m+1,b,s=>match bufs[b]?,l[b]? with
  | some u,some y=>if y.from_<0 then match layC u.sides b false s with
    | none=>none
    | some s'=>kK bufs l m (b+1) s'
   else kK bufs l m (b+1) s
  | _,_=>none
def goC (c:dB)(l:List LifeC)(w:List Bool):List cJ→Nat→PlC→Option PlC
 | [],_,s=>some s
 | x::r,i,s=>match c.bufs[x.buf.toNat]?,l[x.buf.toNat]?,w[x.buf.toNat]? with
  | some u,some y,some t=>if y.from_=(i:Int) then match layC u.sides x.buf.toNat t (relC i l s) with
    | none=>none
    | some s'=>goC c l w r (i+1) s'
   else goC c l w r (i+1) s
  | _,_,_=>none
def sG (n:Nat):PlC:=⟨List.replicate n [],[],[],List.replicate n none⟩
def xO (c:dB):Option (List (List Mono)×List Mono):=match kK c.bufs (cR c) c.bufs.length 0 (sG c.bufs.length) with
 | none=>none
 | some s=>match goC c (cR c) (lO c) c.steps 0 s with
  | none=>none
  | some s=>some (s.ats,s.end_)
end
section
open Go.RowKit Go.Sort Go.Proofs.Tryz
def Gr (p:List Mono):Prop:=cK p=true∧ ∀m∈p,0≤m.n
abbrev VD (ds:List Int)(p:List Mono):Int:=lin (val (lP ds)) p
theorem gr_of{p:List Mono}(h:lM p=true):Gr p:=⟨by unfold lM at h;rw [Bool.and_eq_true] at h;exact h.1,grows_n h⟩
theorem gr_nil:Gr []:=⟨by rfl,fun _ h=>by cases h⟩
theorem sM{f:Mono→Int}: ∀{l:List Mono},(∀m∈l,0≤f m)→0≤cS f l
 | [],_=>by simp [cS]
 | m::l,h=>by
  have h1:=h m (List.mem_cons_self ..);have h2:=sM fun x hx=>h x (List.mem_cons_of_mem m hx);simp only [cS];omega
theorem ind_pos(k:Nat)(m:Mono):0≤ind k m:=by unfold ind;split<;>omega
section
variable {p q s : List Mono}
theorem mul_lin{F:Mono→Int}(hF:Ext F)(hs:mE p q=(s,0)):lin F s=cS (fun a=>cS (fun b=>a.n*b.n*F (mulM a b)) q) p:=by
 obtain⟨hp,hq,s1,_⟩:=mul_ok hs;obtain⟨_,p2,p3⟩:=oC hp;obtain⟨_,q2,q3⟩:=oC hq;rw [s1,bNd,bAu hF q2 q3 (N:=0) k7 k7 p2 (fun _ h=>by simp at h)];simp only [lin,cS,Int.zero_add]
theorem mul_V{D:Nat→Int}(hs:mE p q=(s,0)):lin (val D) s=lin (val D) p*lin (val D) q:=by
 obtain⟨hp,hq,_,_⟩:=mul_ok hs;obtain⟨_,p2,_⟩:=oC hp;obtain⟨_,q2,_⟩:=oC hq;rw [mul_lin (ext_val D) hs];simp only [lin];rw [←wQ];refine oU fun m hm=>?_;rw [Int.mul_comm,←wQ];refine oU fun n hn=>?_;rw [val_mul _ (p2 m hm) (q2 n hn)]
 ac_rfl
theorem mul_gr(hp:Gr p)(hq:Gr q)(hs:mE p q=(s,0)):Gr s:=by
 obtain⟨_,_,_,hr⟩:=mul_ok hs;refine⟨hr,fun m hm=>?_⟩;rw [←bAi (bFc hr) hm,mul_lin (ext_ind _) hs];exact sM fun a ha=>sM fun b hb=>Int.mul_nonneg (Int.mul_nonneg (hp.2 a ha) (hq.2 b hb)) (ind_pos _ _)
theorem tT{F:Mono→Int}(hF:Ext F){g:Mono→Int}: ∀{p L:List Mono} {N:Int},0≤N→N+16777216*p.length<9223372036854775808→(∀m∈p,iM m=true∧g m=m.n)→Bnd N L→lin F (fE g L p)=lin F L+lin F p∧Bnd (N+16777216*p.length) (fE g L p)
 | [],L,N,_,_,_,h=>by
  refine⟨by simp [fE,lin,cS],?_⟩
  simpa [fE] using h
 | m::p,L,N,hN,hl,hp,h=>by
  rw [List.length_cons] at hl⊢;obtain⟨h1,h2⟩:=hp m (List.mem_cons_self ..);have hb:=bFo h1;obtain⟨e1,e2⟩:=bEz hF (V:=16777216) hN k7 k7 m hb h;obtain⟨f1,f2⟩:=tT hF (g:=g) (p:=p) k7 k7 (fun x hx=>hp x (List.mem_cons_of_mem _ hx)) e2;rw [fE,h2];refine⟨?_,?_⟩
  ·rw [f1,e1,qU];omega
  ·rw [show N+16777216*((p.length+1:Nat):Int)=N+16777216+16777216*p.length by omega];exact f2
theorem add_lin{F:Mono→Int}(hF:Ext F)(hs:bothP p q 1=(s,0)):lin F s=lin F p+lin F q:=by
 obtain⟨hp,hq,s1,_⟩:=both_ok hs;obtain⟨_,p2,p3⟩:=oC hp;obtain⟨_,q2,q3⟩:=oC hq;rw [s1,bNd];unfold bDu;obtain⟨e1,e2⟩:=tT hF (g:=Mono.n) (p:=p) (L:=[]) (N:=0) k7 k7 (fun m hm=>⟨p2 m hm,rfl⟩) (fun _ h=>by simp at h)
 obtain⟨f1,_⟩:=tT hF (g:=fun m=>wrap64 (1*m.n)) (p:=q) k7 k7 (fun m hm=>⟨q2 m hm,by
  have:=bFo (q2 m hm);show wrap64 (1*m.n)=m.n;unfold wrap64
  omega⟩) e2
 rw [f1,e1];simp only [lin,cS,Int.zero_add]
theorem add_gr(hp:Gr p)(hq:Gr q)(hs:bothP p q 1=(s,0)):Gr s:=by
 obtain⟨_,_,_,hr⟩:=both_ok hs;refine⟨hr,fun m hm=>?_⟩;rw [←bAi (bFc hr) hm,add_lin (ext_ind _) hs];have h1:0≤lin (ind m.key) p:=sM fun a ha=>Int.mul_nonneg (hp.2 a ha) (ind_pos _ _);have h2:0≤lin (ind m.key) q:=sM fun a ha=>Int.mul_nonneg (hq.2 a ha) (ind_pos _ _);omega
end
theorem powD_is{d:Int}(hd:1≤d): ∀{e:Nat} {n:Int},0≤n→n*d^e≤jV→tE d e n=some (n*d^e)
 | 0,n,_,_=>by simp [tE]
 | e+1,n,hn,h=>by
  have hp:1≤d^e:=by
   have:=(pow_le (a:=1) (b:=d) k7 hd e).2
   rwa [Int.one_pow] at this
  have hnd:0≤n*d:=Int.mul_nonneg hn k7;have e1:n*d^(e+1)=n*d*d^e:=by rw [Int.pow_succ,Int.mul_comm (d^e),Int.mul_assoc]
  rw [e1] at h⊢
  have h2:n*d≤jV:=by
   have:n*d*1≤n*d*d^e:=Int.mul_le_mul_of_nonneg_left hp hnd;omega
  rw [tE,if_neg,powD_is hd hnd h];intro hlt;have:=Int.le_ediv_of_mul_le k7 h2;omega
theorem mulD_is: ∀{l:List (UInt8×Int)} {n:Int},(∀x∈l,0≤x.2)→gQ l=false→0≤n→n*jA l≤jV→sE l n=some (n*jA l)
 | [],n,_,_,_,_=>by simp [sE,jA]
 | x::l,n,h0,hz,hn,h=>by
  have hz2:gQ l=false:=by
   unfold gQ at hz⊢;rw [List.any_cons,Bool.or_eq_false_iff] at hz;exact hz.2
  have hx:x.1.toNat=0∨1≤x.2:=by
   unfold gQ at hz;rw [List.any_cons,Bool.or_eq_false_iff,Bool.and_eq_false_iff] at hz;have:=h0 x (List.mem_cons_self ..)
   rcases hz.1 with h1 | h1
   ·left;have:=of_decide_eq_false h1;omega
   ·right;have:x.2≠0:=by simpa using h1
    omega
  have hl:1≤jA l:=prodD_pos (fun y hy=>h0 y (List.mem_cons_of_mem _ hy)) hz2;have hpw:0≤x.2^x.1.toNat:=Int.pow_nonneg (h0 x (List.mem_cons_self ..));have e1:n*jA (x::l)=n*x.2^x.1.toNat*jA l:=by rw [jA,Int.mul_assoc]
  rw [e1] at h⊢;have hnp:0≤n*x.2^x.1.toNat:=Int.mul_nonneg hn hpw
  have h2:n*x.2^x.1.toNat≤jV:=by
   have:n*x.2^x.1.toNat*1≤n*x.2^x.1.toNat*jA l:=Int.mul_le_mul_of_nonneg_left hl hnp;omega
  have hpd:tE x.2 x.1.toNat n=some (n*x.2^x.1.toNat):=by
   rcases hx with hx | hx
   ·rw [hx];simp [tE]
   ·exact powD_is hx hn h2
  rw [sE,hpd,Option.bind_some];exact mulD_is (fun y hy=>h0 y (List.mem_cons_of_mem _ hy)) hz2 hnp h
where
 prodD_pos: ∀{l:List (UInt8×Int)},(∀x∈l,0≤x.2)→gQ l=false→1≤jA l
  | [],_,_=>by simp [jA]
  | x::l,h0,hz=>by
   unfold gQ at hz;rw [List.any_cons,Bool.or_eq_false_iff,Bool.and_eq_false_iff] at hz;have h1:=prodD_pos (l:=l) (fun y hy=>h0 y (List.mem_cons_of_mem _ hy)) hz.2;have h2:=h0 x (List.mem_cons_self ..)
   have h3:1≤x.2^x.1.toNat:=by
    rcases hz.1 with h4 | h4
    ·have:x.1.toNat=0:=by
      have:=of_decide_eq_false h4;omega
     rw [this];simp
    ·have:x.2≠0:=by simpa using h4
     have:=(pow_le (a:=1) (b:=x.2) k7 k7 x.1.toNat).2
     rwa [Int.one_pow] at this
   rw [jA];have h5:1*jA l≤x.2^x.1.toNat*jA l:=Int.mul_le_mul_of_nonneg_right h3 k7;omega
section
variable {D : Nat → Int} (hD : ∀ k, 0 ≤ D k)
include hD
theorem pairs_pos(m:Mono): ∀x∈fW m D,0≤x.2:=fun x hx=>by
 simp only [fW,List.mem_cons,List.not_mem_nil,or_false] at hx
 rcases hx with rfl | rfl | rfl | rfl | rfl | rfl<;>exact hD _
theorem value_is{m:Mono}(h0:0≤m.n)(h:m.n*val D m≤jV):cZ m D=(m.n*val D m,true):=by
 unfold cZ
 cases hz:gQ (fW m D) with
 | true=>
  rw [if_pos rfl,val,yG hz,Int.mul_zero]
 | false=>
  have hm:max m.n (-m.n)=m.n:=k7
  rw [if_neg m8,hm,mulD_is (pairs_pos hD m) hz h0 h];rfl
theorem evalL_is: ∀{l:List Mono} {size sum:Int},(∀m∈l,0≤m.n)→0≤size→size+lin (val D) l≤jV→mM D l size sum=some (sum+lin (val D) l)
 | [],size,sum,_,_,_=>by simp [mM,lin,cS]
 | m::l,size,sum,hn,hs,h=>by
  rw [qU] at h⊢;have h0:=hn m (List.mem_cons_self ..);have h1:=Int.mul_nonneg h0 (val_le hD (fun _=>Int.le_refl _) m).1;have h2:=(lin_le hD (fun _=>Int.le_refl _) l fun x hx=>hn x (List.mem_cons_of_mem _ hx)).1;have hv:=value_is hD h0 k7
  rw [mM,hv,if_neg (by
   show ¬(true=false∨jV-size<m.n*val D m);rintro(h | h)
   ·cases h
   ·omega),if_neg k7]
  show mM D l (size+m.n*val D m) (sum+m.n*val D m)=_;rw [evalL_is (fun x hx=>hn x (List.mem_cons_of_mem _ hx)) k7 k7]
  congr 1
  omega
end
section
variable {ds : List Int}
theorem dims_pos(hd:pP ds=true): ∀k,0≤lP ds k:=fun k=>by
 simp only [pP,Bool.and_eq_true] at hd;exact(bAs hd.2 k).1
theorem eval_is{p:List Mono}(hg:Gr p)(hd:pP ds=true)(hv:VD ds p≤jV):bF p ds=(VD ds p,0):=by
 unfold bF;rw [if_pos hg.1,if_pos hd,evalL_is (dims_pos hd) hg.2 k7 (by show 0+VD ds p≤jV;omega)];show(0+VD ds p,(0:Int))=_;rw [Int.zero_add]
theorem gr_pos{p:List Mono}(hg:Gr p)(hd:pP ds=true):0≤VD ds p:=(lin_le (dims_pos hd) (fun _=>Int.le_refl _) p hg.2).1
def vH:List Int→Int
 | []=>1
 | n::r=>n*vH r
theorem bHu: ∀{l:List Int},l.contains 0=true→vH l=0
 | [],h=>by cases h
 | n::r,h=>by
  rw [List.contains_cons,Bool.or_eq_true,beq_iff_eq] at h
  rcases h with h | h
  ·rw [vH,←h,Int.zero_mul]
  ·rw [vH,bHu h,Int.mul_zero]
theorem bHc: ∀{l:List Int} {a r:Int},prodQ l a=some r→r=a*vH l
 | [],a,r,h=>by cases h;rw [vH,Int.mul_one]
 | n::l,a,r,h=>by
  unfold prodQ at h;split at h
  ·cases h
  ·rw [bHc h,vH,Int.mul_assoc]
theorem bAb: ∀{l:List (List Mono)} {acc r:List Int},sidesGo ds l acc=some r→r=acc++l.map (VD ds)
 | [],acc,r,h=>by cases h;simp
 | p::l,acc,r,h=>by
  unfold sidesGo at h;split at h
  ·rename_i hs;simp only [bOh,Bool.and_eq_true,beq_iff_eq] at hs;have he:bF p ds=((bF p ds).1,0):=by rw [←hs.1.1]
   obtain⟨_,hv,_⟩:=eval_ok he;rw [bAb h,hv];simp
  ·cases h
theorem sizeB_prod{sides:List (List Mono)}{n:Int}(h:sizeB sides ds=some n):n=vH (sides.map (VD ds)):=by
 unfold sizeB at h;split at h
 ·cases h
 ·rename_i l hl;have hl:=bAb hl;rw [List.nil_append] at hl;subst hl;split at h
  ·rename_i hz;cases h;rw [bHu hz]
  ·rw [bHc h,Int.one_mul]
theorem bEg: ∀{l:List (List Mono)} {n s:List Mono},(∀p∈l,Gr p)→Gr n→nE l n=some s→VD ds s=VD ds n*vH (l.map (VD ds))∧Gr s
 | [],n,s,_,hn,h=>by
  cases h;exact⟨by rw [List.map_nil,vH,Int.mul_one],hn⟩
 | p::l,n,s,hl,hn,h=>by
  unfold nE at h;split at h
  ·rename_i h0;have hm:mE n p=((mE n p).1,0):=by rw [←h0]
   have hp:=hl p (List.mem_cons_self ..);obtain⟨h1,h2⟩:=bEg (fun x hx=>hl x (List.mem_cons_of_mem _ hx)) (mul_gr hn hp hm) h;refine⟨?_,h2⟩;rw [h1,List.map_cons,vH];show lin (val (lP ds)) (mE n p).1*_=_;rw [mul_V hm,Int.mul_assoc]
  ·cases h
theorem const_gr:Gr (jJ 1).1:=⟨m7,m7⟩
theorem const_V:VD ds (jJ 1).1=1:=by
 show lin (val (lP ds)) [num0 1]=1;simp [lin,cS,val,fW,jA,num0]
theorem sizeC_is{sides:List (List Mono)}{n:Int}{s:List Mono}(hg: ∀p∈sides,Gr p)(hb:sizeB sides ds=some n)(hs:pL sides=some s):VD ds s=n∧Gr s:=by
 obtain⟨h1,h2⟩:=bEg (ds:=ds) hg const_gr hs;exact⟨by rw [h1,const_V,Int.one_mul,sizeB_prod hb],h2⟩
end
end
section
open Go.RowKit Go.Sort Go.Proofs.Tryz
def SzV (ds:List Int)(u:iO):Int:=VD ds ((pL u.sides).getD [])
structure Sized (c:dB) (ds:List Int):Prop where
 dims:pP ds=true
 size: ∀(b:Nat) u,c.bufs[b]?=some u→0≤SzV ds u∧SzV ds u≤65536∧Gr ((pL u.sides).getD [])
structure AgI (c:dB) (ds:List Int) (L:Nat→Prop) (N:Nat) (s:PlC):Prop where
 endG:Gr s.end_
 endV:VD ds s.end_≤65536*N
 free: ∀q∈s.free,Gr q.at_∧VD ds q.at_+VD ds q.size≤VD ds s.end_∧0≤VD ds q.size
 laid: ∀q,some q∈s.laid→Gr q.at_∧VD ds q.at_+VD ds q.size≤VD ds s.end_∧0≤VD ds q.size
 ats: ∀(b:Nat) a,s.ats[b]?=some a→Gr a∧VD ds a≤VD ds s.end_
 low: ∀(k:Nat) a u,L k→s.ats[k]?=some a→c.bufs[k]?=some u→VD ds a+SzV ds u≤VD ds s.end_
 pair: ∀(b k:Nat) y z a a' u,L b→L k→(cR c)[b]?=some y→(cR c)[k]?=some z→s.ats[b]?=some a→s.ats[k]?=some a'→c.bufs[k]?=some u→z.from_<y.from_→(lO c)[b]?=some false→VD ds a'+SzV ds u≤VD ds a
section
variable {c : dB} {ds : List Int} {L L' : Nat → Prop} {N N' : Nat} {s s' : PlC} {b : Nat} {u : iO} {y : LifeC} {again : Bool}
theorem AgI.less(h:AgI c ds L N s)(hL: ∀k,L' k→L k)(hN:N≤N'):AgI c ds L' N' s where
 endG:=h.endG
 endV:=by have:=h.endV;omega
 free:=h.free
 laid:=h.laid
 ats:=h.ats
 low:=fun k a u hk=>h.low k a u (hL k hk)
 pair:=fun b k y z a a' u hb hk=>h.pair b k y z a a' u (hL b hb) (hL k hk)
theorem ag_start(n:Nat):AgI c ds (fun _=>False) 0 (sG n) where
 endG:=gr_nil
 endV:=by show(0:Int)≤_;omega
 free:=fun _ h=>by cases h
 laid:=fun q h=>by
  have:=List.eq_of_mem_replicate (show some q∈List.replicate n (none:Option SpC) from h);cases this
 ats:=fun b a h=>by
  have h:(List.replicate n ([]:List Mono))[b]?=some a:=h;rw [List.getElem?_replicate] at h;split at h
  ·cases h;exact⟨gr_nil,Int.le_refl _⟩
  ·cases h
 low:=fun _ _ _ h=>h.elim
 pair:=fun _ _ _ _ _ _ _ h=>h.elim
theorem wL{i:Int}: ∀{ys:List LifeC} {l:List (Option SpC)},(∀q,some q∈(relGo i ys l).1→some q∈l)∧(∀q∈(relGo i ys l).2,some q∈l)
 | y::ys,some p::r=>by
  obtain⟨h1,h2⟩:=wL (i:=i) (ys:=ys) (l:=r);rw [relGo];split
  ·refine⟨fun q hq=>?_,fun q hq=>?_⟩
   ·rcases List.mem_cons.1 hq with hq | hq
    ·cases hq
    ·exact List.mem_cons_of_mem _ (h1 q hq)
   ·have hq:q∈(if p.size=[] then (relGo i ys r).2 else p::(relGo i ys r).2):=hq;split at hq
    ·exact List.mem_cons_of_mem _ (h2 q hq)
    ·rcases List.mem_cons.1 hq with rfl | hq
     ·exact List.mem_cons_self ..
     ·exact List.mem_cons_of_mem _ (h2 q hq)
  ·refine⟨fun q hq=>?_,fun q hq=>List.mem_cons_of_mem _ (h2 q hq)⟩
   rcases List.mem_cons.1 hq with hq | hq
   ·rw [hq];exact List.mem_cons_self ..
   ·exact List.mem_cons_of_mem _ (h1 q hq)
 | y::ys,none::r=>by
  obtain⟨h1,h2⟩:=wL (i:=i) (ys:=ys) (l:=r);rw [relGo];refine⟨fun q hq=>?_,fun q hq=>List.mem_cons_of_mem _ (h2 q hq)⟩
  rcases List.mem_cons.1 hq with hq | hq
  ·cases hq
  ·exact List.mem_cons_of_mem _ (h1 q hq)
 | [],l=>by
  rw [relGo];exact⟨fun q hq=>hq,fun q hq=>by cases hq⟩
 | y::ys,[]=>by simp [relGo]
theorem AgI.rel{i:Int}{l:List LifeC}(h:AgI c ds L N s):AgI c ds L N (relC i l s) where
 endG:=h.endG
 endV:=h.endV
 free:=fun q hq=>by
  rcases List.mem_append.1 (show q∈s.free++(relGo i l s.laid).2 from hq) with hq | hq
  ·exact h.free q hq
  ·exact h.laid q (wL.2 q hq)
 laid:=fun q hq=>h.laid q (wL.1 q hq)
 ats:=h.ats
 low:=h.low
 pair:=h.pair
theorem freeAt_some{n:List Mono}{l:List SpC}{i:Nat}{q:SpC}(h:yO n again l=some (i,q)):q∈l∧q.size=n∧again=true:=by
 unfold yO at h;split at h
 ·rename_i ha;split at h
  ·cases h
  ·rename_i j hj;split at h
   ·cases h
   ·rename_i p hp;cases h;obtain⟨hlt,e1,_⟩:=List.findIdx?_eq_some_iff_getElem.1 hj;obtain⟨_,e2⟩:=List.getElem?_eq_some_iff.1 hp;rw [e2] at e1;exact⟨List.mem_of_getElem? hp,of_decide_eq_true e1,ha.1⟩
 ·cases h
theorem AgI.put(h:AgI c ds L N s)(hs:Sized c ds)(hu:c.bufs[b]?=some u)(hy:(cR c)[b]?=some y)(hb: ¬L b)(hmax: ∀k z,L k→(cR c)[k]?=some z→z.from_≤y.from_){at_ e:List Mono}{fr:List SpC}{ld:List (Option SpC)}
  (he:Gr e) (heV:VD ds s.end_≤VD ds e) (heN:VD ds e≤65536*(N+1:Nat)) (ha:Gr at_) (haV:VD ds at_+SzV ds u≤VD ds e) (hfr: ∀q∈fr,q∈s.free) (hld: ∀q,some q∈ld→some q∈s.laid∨q.at_=at_∧VD ds q.size=SzV ds u)
  (hend:(lO c)[b]?=some false→VD ds at_=VD ds s.end_):AgI c ds (fun k=>L k∨k=b) (N+1) {ats:=s.ats.set b at_,end_:=e,free:=fr,laid:=ld}:=by
 obtain⟨z1,z2,_⟩:=hs.size b u hu
 have old: ∀(k:Nat) a,(s.ats.set b at_)[k]?=some a→k≠b→s.ats[k]?=some a:=fun k a hk hkb=>by
  rwa [List.getElem?_set_ne (Ne.symm hkb)] at hk
 have new: ∀a,(s.ats.set b at_)[b]?=some a→a=at_:=fun a hk=>by
  rw [List.getElem?_set] at hk;simp only [if_true] at hk;split at hk
  ·cases hk;rfl
  ·cases hk
 refine⟨he,heN,fun q hq=>?_,fun q hq=>?_,fun k a hk=>?_,fun k a v hL hk hv=>?_,fun b' k y' z a a' v hLb hLk hy' hz hb' hk hv hlt hf=>?_⟩
 ·obtain⟨h1,h2,h3⟩:=h.free q (hfr q hq);exact⟨h1,by show _≤VD ds e;omega,h3⟩
 ·rcases hld q hq with hq | ⟨e1,e2⟩
  ·obtain⟨h1,h2,h3⟩:=h.laid q hq;exact⟨h1,by show _≤VD ds e;omega,h3⟩
  ·rw [e1,e2];exact⟨ha,haV,z1⟩
 ·by_cases e1:k=b
  ·subst e1;rw [new a hk];exact⟨ha,by show _≤VD ds e;omega⟩
  ·obtain⟨h1,h2⟩:=h.ats k a (old k a hk e1);exact⟨h1,by show _≤VD ds e;omega⟩
 ·show _≤VD ds e
  by_cases e1:k=b
  ·subst e1;rw [new a hk];rw [hu] at hv;cases hv;exact haV
  ·have:=h.low k a v (hL.resolve_right e1) (old k a hk e1) hv;omega
 ·by_cases e1:b'=b
  ·subst e1;rw [new a hb',hend hf]
   by_cases e2:k=b'
   ·subst e2;rw [hy'] at hz;cases hz;omega
   ·exact h.low k a' v (hLk.resolve_right e2) (old k a' hk e2) hv
  ·by_cases e2:k=b
   ·subst e2;rw [hy] at hz;cases hz;have:=hmax b' y' (hLb.resolve_right e1) hy';omega
   ·exact h.pair b' k y' z a a' v (hLb.resolve_right e1) (hLk.resolve_right e2) hy' hz (old b' a hb' e1) (old k a' hk e2) hv hlt hf
theorem bAw{l:List (Option SpC)}{p:SpC}{q:SpC}(h:some q∈l.set b (some p)):some q∈l∨q=p:=by
 rcases List.mem_or_eq_of_mem_set h with h | h
 ·exact .inl h
 ·cases h;exact .inr rfl
theorem AgI.lay(h:AgI c ds L N s)(hs:Sized c ds)(hu:c.bufs[b]?=some u)(hy:(cR c)[b]?=some y)(hb: ¬L b)(hmax: ∀k z,L k→(cR c)[k]?=some z→z.from_≤y.from_)(hag:again=true→(lO c)[b]?=some true)(hl:layC u.sides b again s=some s'):
  AgI c ds (fun k=>L k∨k=b) (N+1) s':=by
 obtain⟨z1,z2,z3⟩:=hs.size b u hu;unfold layC at hl;split at hl
 ·cases hl
 ·rename_i n hn;have hz:SzV ds u=VD ds n:=by unfold SzV;rw [hn];rfl
  have hgn:Gr n:=by rw [hn] at z3;exact z3
  split at hl
  ·rename_i j q hq;cases hl;obtain⟨q1,q2,q3⟩:=freeAt_some hq;obtain⟨f1,f2,f3⟩:=h.free q q1;rw [q2,←hz] at f2;refine h.put hs hu hy hb hmax h.endG (Int.le_refl _) (by have:=h.endV;omega) f1 f2 (fun p hp=>List.mem_of_mem_eraseIdx hp) (fun p hp=>?_) (fun hf=>?_)
   ·rcases bAw hp with hp | rfl
    ·exact .inl hp
    ·exact .inr ⟨rfl,by rw [q2,hz]⟩
   ·rw [hag q3] at hf;cases hf
  ·split at hl
   ·rename_i h0;cases hl;have hm:bothP s.end_ n 1=((bothP s.end_ n 1).1,0):=by rw [←h0]
    have hv:VD ds (bothP s.end_ n 1).1=VD ds s.end_+SzV ds u:=by rw [hz];exact add_lin (ext_val _) hm
    refine h.put hs hu hy hb hmax (add_gr h.endG hgn hm) k7 (by have:=h.endV;omega) h.endG k7 (fun p hp=>hp) (fun p hp=>?_) (fun _=>rfl)
    rcases bAw hp with hp | rfl
    ·exact .inl hp
    ·exact .inr ⟨rfl,hz.symm⟩
   ·cases hl
end
theorem bKb{b:Int}: ∀{r:List cJ} {i:Nat} {d:Int},jZ b i r d=d∨ ∃j x,jZ b i r d=((i+j:Nat):Int)∧r[j]?=some x∧x.buf=b
 | [],i,d=> .inl rfl
 | x::r,i,d=>by
  rw [jZ];split
  ·rename_i e;exact .inr ⟨0,x,rfl,rfl,e⟩
  ·rcases bKb (b:=b) (r:=r) (i:=i+1) (d:=d) with h | ⟨j,z,h1,h2,h3⟩
   ·exact .inl h
   ·exact .inr ⟨j+1,z,by rw [show i+(j+1)=i+1+j by omega];exact h1,h2,h3⟩
section
variable {c : dB} {ds : List Int} {N : Nat} {s s' : PlC} {b : Nat} {y : LifeC}
theorem lives_from(hr:dM c=true)(hy:(cR c)[b]?=some y):y=⟨0,-1⟩∨y.from_= -1∨ ∃(j:Nat) (x:cJ),y.from_=(j:Int)∧c.steps[j]?=some x∧x.buf=b:=by
 rw [lives_eq hr] at hy;unfold livesR at hy;rw [List.getElem?_mapIdx] at hy
 cases hu:c.bufs[b]? with
 | none=>rw [hu] at hy;cases hy
 | some u=>
  rw [hu] at hy;cases hy;unfold lifeR;split
  ·exact .inl rfl
  ·right
   rcases bKb (b:=(b:Int)) (r:=c.steps) (i:=0) (d:= -1) with h | ⟨j,x,h1,h2,h3⟩
   ·exact .inl h
   ·exact .inr ⟨j,x,by rw [Nat.zero_add] at h1;exact h1,h2,h3⟩
theorem bMo(hr:dM c=true)(hy:(cR c)[b]?=some y)(h:y.from_<0):y.from_= -1:=by
 rcases lives_from hr hy with rfl | h1 | ⟨j,x,h1,_⟩
 ·cases h
 ·exact h1
 ·omega
def LB (c:dB)(m k:Nat):Prop:=k<m∧ ∃z,(cR c)[k]?=some z∧z.from_<0
theorem bJr(hr:dM c=true)(hs:Sized c ds): ∀{m b N:Nat} {s:PlC},b+m=c.bufs.length→AgI c ds (LB c b) N s→kK c.bufs (cR c) m b s=some s'→AgI c ds (LB c c.bufs.length) (N+m) s'
 | 0,b,N,s,hb,h,hq=>by
  cases hq;rw [Nat.add_zero] at hb;rw [←hb];exact h
 | m+1,b,N,s,hb,h,hq=>by
  unfold kK at hq;split at hq
  ·rename_i u y hu hy;split at hq
   ·rename_i hneg;split at hq
    ·cases hq
    ·rename_i t ht
     have h1:=h.lay hs hu hy (fun hl=>by have:=hl.1;omega) (fun k z hl hz=>by
      obtain⟨_,z',hz',hzn⟩:=hl;rw [hz] at hz';cases hz';have:=bMo hr hz hzn;have:=bMo hr hy hneg
      omega) (fun ha=>by cases ha) ht
     have h2:AgI c ds (LB c (b+1)) (N+1) t:=h1.less (fun k hk=>by
      by_cases e:k=b
      ·exact .inr e
      ·exact .inl ⟨by have:=hk.1;omega,hk.2⟩) (Nat.le_refl _)
     have h3:=bJr hr hs k7 h2 hq
     rwa [show N+1+m=N+(m+1) by omega] at h3
   ·rename_i hneg
    have h2:AgI c ds (LB c (b+1)) (N+1) s:=h.less (fun k hk=>by
     refine⟨?_,hk.2⟩;have:=hk.1
     rcases Nat.lt_or_ge k b with h4 | h4
     ·exact h4
     ·obtain rfl:k=b:=k7
      obtain⟨_,z,hz,hzn⟩:=hk;rw [hy] at hz;cases hz
      exact absurd hzn hneg) k7
    have h3:=bJr hr hs k7 h2 hq
    rwa [show N+1+m=N+(m+1) by omega] at h3
  ·cases hq
def LG (c:dB)(i k:Nat):Prop:= ∃z,(cR c)[k]?=some z∧(z.from_<0∨ ∃(j:Nat) (x:cJ),z.from_=(j:Int)∧j<i∧c.steps[j]?=some x∧x.buf=k)
theorem go_ag(hr:dM c=true)(hs:Sized c ds): ∀{r:List cJ} {i N:Nat} {s:PlC},c.steps.drop i=r→AgI c ds (LG c i) N s→goC c (cR c) (lO c) r i s=some s'→AgI c ds (LG c c.steps.length) (N+r.length) s'
 | [],i,N,s,hd,h,hq=>by
  cases hq;refine h.less (fun k hk=>?_) m8;obtain⟨z,hz,hk⟩:=hk;refine⟨z,hz,?_⟩
  rcases hk with hk | ⟨j,x,h1,h2,h3,h4⟩
  ·exact .inl hk
  ·have:=List.drop_eq_nil_iff.1 hd;exact .inr ⟨j,x,h1,k7,h3,h4⟩
 | x::r,i,N,s,hd,h,hq=>by
  have hx:c.steps[i]?=some x:=by
   have:=congrArg (fun l=>l[0]?) hd
   simpa [List.getElem?_drop] using this
  have hd2:c.steps.drop (i+1)=r:=by
   have:=congrArg (List.drop 1) hd
   simpa [List.drop_drop,Nat.add_comm] using this
  have hxb:((x.buf.toNat:Nat):Int)=x.buf:=by
   have:=(yZ (gR hr).2.2.1 x (f4 hx)).1;omega
  rw [List.length_cons];unfold goC at hq;split at hq
  ·rename_i u y t hu hy ht;split at hq
   ·rename_i hfi;split at hq
    ·cases hq
    ·rename_i p hp
     have h1:=(h.rel (i:=i) (l:=cR c)).lay hs hu hy (fun hl=>by
      obtain⟨z,hz,hk⟩:=hl;rw [hy] at hz;cases hz
      rcases hk with hk | ⟨j,x',h1,h2,_⟩<;>omega) (fun k z hl hz=>by
      obtain⟨z',hz',hk⟩:=hl;rw [hz] at hz';cases hz'
      rcases hk with hk | ⟨j,x',h1,h2,_⟩<;>omega) (fun ha=>by rw [ht,ha]) hp
     have h2:AgI c ds (LG c (i+1)) (N+1) p:=h1.less (fun k hk=>by
      obtain⟨z,hz,hk⟩:=hk
      rcases hk with hk | ⟨j,x',h1,h2,h3,h4⟩
      ·exact .inl ⟨z,hz,.inl hk⟩
      ·by_cases e:j=i
       ·subst e;rw [hx] at h3;cases h3;exact .inr k7
       ·exact .inl ⟨z,hz,.inr ⟨j,x',h1,k7,h3,h4⟩⟩) (Nat.le_refl _)
     have h3:=go_ag hr hs hd2 h2 hq
     rwa [show N+1+r.length=N+(r.length+1) by omega] at h3
   ·rename_i hfi
    have h2:AgI c ds (LG c (i+1)) (N+1) s:=h.less (fun k hk=>by
     obtain⟨z,hz,hk⟩:=hk;refine⟨z,hz,?_⟩
     rcases hk with hk | ⟨j,x',h1,h2,h3,h4⟩
     ·exact .inl hk
     ·by_cases e:j=i
      ·subst e;rw [hx] at h3;cases h3;obtain rfl:x.buf.toNat=k:=k7
       rw [hy] at hz;cases hz;exact absurd h1 hfi
      ·exact .inr ⟨j,x',h1,k7,h3,h4⟩) k7
    have h3:=go_ag hr hs hd2 h2 hq
    rwa [show N+1+r.length=N+(r.length+1) by omega] at h3
  ·cases hq
end
section
variable {c : dB} {ds : List Int}
theorem yU: ∀{l:List iO} {al r:Int},cellsGo ds l al=(r,0)→ ∀u∈l,∃n,sizeB u.sides ds=some n
 | [],_,_,_,u,hu=>by cases hu
 | b::l,al,r,h,u,hu=>by
  unfold cellsGo at h;split at h
  ·cases h
  ·rename_i n hn;split at h
   ·cases h
   ·rcases List.mem_cons.1 hu with rfl | hu
    ·exact⟨n,hn⟩
    ·exact yU h u hu
theorem bHq{vars:Int}: ∀{l:List iO} {seen:List Int},tJ vars l seen=true→ ∀u∈l,∀p∈u.sides,Gr p
 | [],_,_,u,hu=>by cases hu
 | b::l,seen,h,u,hu=>by
  rw [tJ,Bool.and_eq_true,Bool.and_eq_true,Bool.and_eq_true] at h
  rcases List.mem_cons.1 hu with rfl | hu
  ·intro p hp;have h1:=h.1;unfold lK at h1;rw [Bool.and_eq_true] at h1;have:=List.all_eq_true.1 h1.1 p hp;rw [Bool.and_eq_true] at this;exact gr_of this.2
  ·exact bHq h.2.2.2 u hu
theorem cells_sized{al:Int}(hr:dM c=true)(hc:dP c ds=(al,0)):Sized c ds:=by
 unfold dP at hc;rw [if_pos hr] at hc;split at hc
 ·rename_i hd;unfold oY at hd;rw [Bool.and_eq_true,decide_eq_true_eq,Bool.not_eq_true',List.any_eq_false] at hd;have hv:=(gR hr).1;refine⟨?_,fun b u hu=>?_⟩
  ·unfold pP;rw [Bool.and_eq_true,decide_eq_true_eq,List.all_eq_true];refine⟨k7,fun n hn=>?_⟩;have:=hd.2 n hn;unfold badD at this;simp only [Bool.or_eq_true,decide_eq_true_eq] at this;unfold nZ;exact decide_eq_true k7
  ·have hm:=List.mem_of_getElem? hu;obtain⟨n,hn⟩:=yU hc u hm;have hg:=bHq (gR hr).2.1 u hm;obtain⟨n1,n2⟩:=sizeB_in hn;unfold SzV
   cases hz:pL u.sides with
   | none=>exact⟨Int.le_refl _,by show(0:Int)≤65536;omega,gr_nil⟩
   | some q=>
    obtain⟨q1,q2⟩:=sizeC_is hg hn hz;show 0≤VD ds q∧VD ds q≤65536∧Gr q;rw [q1];exact⟨n1,n2,q2⟩
 ·cases hc
end
end
section
open Go.RowKit Go.Proofs.Tryz
theorem and_tG{a b:Bool}(h:(a&&b)=true):a=true∧b=true:=by simpa using h
theorem opB_inG{vars loops buf:Int}{made:List Bool}{o:OpC}(h:opB vars loops buf made o=true):o.how=4→o.k.toNat<made.length:=fun h4=>by
 unfold opB at h;rw [if_neg k7,if_neg k7,if_neg k7,if_pos h4] at h;have h7:=(and_tG (and_tG h).2).1;rw [List.getD_eq_getElem?_getD] at h7
 cases hg:made[o.k.toNat]? with
 | none=>rw [hg] at h7;cases h7
 | some z=>exact(List.getElem?_eq_some_iff.1 hg).1
theorem pos_of{p:List Mono}{ds:List Int}(hg:lM p=true)(h:(bF p ds).2=0):0≤(bF p ds).1:=grows_pos (a:=(bF p ds).1) hg (by rw [←h])
theorem bAf{vars:Int}{bufs:List iO}: ∀{r:List cJ} {made:List Bool},made.length=bufs.length→kQ vars bufs r made=true→ ∀x∈r,∃made',made'.length=bufs.length∧lU vars made' x=true∧0≤x.buf∧x.buf.toNat<bufs.length
 | [],_,_,_,x,hx=>by cases hx
 | y::r,made,hm,h,x,hx=>by
  rw [kQ,Bool.and_eq_true,Bool.and_eq_true,Bool.and_eq_true] at h;obtain⟨⟨h1,h2⟩,h3,h4⟩:=h
  rcases List.mem_cons.1 hx with rfl | hx
  ·refine⟨made,hm,h3,of_decide_eq_true h1,?_⟩
   cases hb:bufs[x.buf.toNat]? with
   | none=>rw [hb] at h2;cases h2
   | some b=>exact(List.getElem?_eq_some_iff.1 hb).1
  ·exact bAf (by rw [List.length_set];exact hm) h4 x hx
def OpsG (l:List OpC)(bufs:Nat):Prop:= ∀o∈l,(o.how=3→0≤o.k∧o.k≤1000)∧(o.how=4→0≤o.k∧o.k.toNat<bufs)
structure StepG (x:gC) (ds:List Int) (nb:Nat):Prop where
 hN: ∀p∈polsL x.loops.list,(bF p ds).2=0→0≤(bF p ds).1
 hlo:x.ops.list.length≤256
 hL1:1≤x.ops.list.length
 hll:x.loops.list.length≤4
 hne:x.how=2→x.loops.list≠[]
 hne3:x.how=3→x.loops.list≠[]
 hb0:0≤x.buf
 hb1:x.buf.toNat<nb
 hA:(bF x.at_.list ds).2=0→0≤(bF x.at_.list ds).1
 hh:x.how=1∨x.how=2∨x.how=3
 hO:OpsG (opsL x.ops.list) nb
 hD:Deep (opsL x.ops.list) 0
theorem step_g{c:iD}(hr:dM c.c=true)(ds:List Int){x:gC}(hx:x∈c.steps.list):StepG x ds c.bufs.list.length:=by
 obtain⟨_,_,h3,_⟩:=gR hr;obtain⟨made,hm,hs,hb0,hb1⟩:=bAf (qB _) h3 x.c (List.mem_map.2 ⟨x,hx,rfl⟩);have hnb:c.c.bufs.length=c.bufs.list.length:=cQ _;have hD:=deep_step hs;unfold lU at hs;simp only [Bool.and_eq_true,List.all_eq_true,decide_eq_true_eq] at hs;obtain⟨⟨_,ha⟩,hl,hops,_,hhow,hop⟩:=hs;have hops:(opsL x.ops.list).length≤256:=hops;rw [fK] at hops;unfold lK at hl;simp only [Bool.and_eq_true,List.all_eq_true,decide_eq_true_eq] at hl;obtain⟨hl1,hl2⟩:=hl;have hl2:(polsL x.loops.list).length≤4:=hl2;rw [bW] at hl2
 have hne:x.how=2∨x.how=3→x.loops.list≠[]:=fun e e0=>by
  have hh:(if x.how=1 then x.fn==0 else if x.how=2∨x.how=3 then !(polsL x.loops.list).isEmpty&&jY x.fn true else false)=true:=hhow;rw [if_neg k7,if_pos e,e0] at hh;cases hh
 refine⟨fun p hp h=>pos_of (hl1 p hp).2 h,hops,?_,hl2,fun e=>hne (.inl e),fun e=>hne (.inr e),hb0,by rw [←hnb];exact hb1,fun h=>pos_of ha h,?_,fun o ho=>?_,hD⟩
 ·cases hl:x.ops.list with
  | nil=>
   have hD:Deep (opsL x.ops.list) 0:=hD;rw [hl] at hD;cases hD
  | cons y r=>simp
 ·have hh:(if x.how=1 then x.fn==0 else if x.how=2∨x.how=3 then !(polsL x.loops.list).isEmpty&&jY x.fn true else false)=true:=hhow
  rcases Classical.em (x.how=1) with e | e
  ·exact .inl e
  ·rcases Classical.em (x.how=2∨x.how=3) with e2 | e2
   ·exact .inr e2
   ·rw [if_neg e,if_neg e2] at hh;cases hh
 ·have h1:=hop o ho;refine⟨fun e=>?_,fun e=>?_⟩
  ·unfold opB at h1;rw [if_neg k7,if_neg k7,if_pos e] at h1;simp only [Bool.and_eq_true,decide_eq_true_eq] at h1;have h2:0≤o.k∧o.k<((polsL x.loops.list).length:Int):=h1.1;rw [bW] at h2;omega
  ·have h2:=opB_inG h1 e;unfold opB at h1;rw [if_neg k7,if_neg k7,if_neg k7,if_pos e] at h1;simp only [Bool.and_eq_true,decide_eq_true_eq] at h1;rw [hm,hnb] at h2;exact⟨h1.1.1,h2⟩
end
end Go.Proofs.YtnfiadlonjediaaGreatDoor
