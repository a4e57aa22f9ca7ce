/- Texts of one proof, one behind the other: GmD, GmE, UA, UB, GmF, GmG, UC, HeapP. -/
import Derived.Test.YtnfiadlonjediaaGreatDoorM7
import Derived.Test.YtnfiadlonjediaaGreatDoorM12
import Derived.Test.YtnfiadlonjediaaGreatDoorM11
import Derived.Test.YtnfiadlonjediaaGreatDoorM6
set_option maxRecDepth 100000
namespace Go.Proofs.YtnfiadlonjediaaGreatDoor
open _root_.List renaming getElem?_eq_some_iff->D9,getElem_cons_drop->Y2,drop_of_length_le->R5,getElem?_eq_getElem->D7,length_take->W8,getElem?_append_left->aL,getElem?_set_ne->P8,getElem?_set_self->P7
open _root_.Int renaming toNat_of_nonneg->aM,not_lt->V8,mul_nonneg->Y9
open Value renaming bool->V6,int->V9,tuple->aN
open _root_.Nat renaming min_eq_left->X6,le_succ_of_le->aO
section
open Go.RowKit Go.Proofs.Tryz
section
variable {M : GnM} {R t : GnS} {l : List OpC} {i n : Nat} {o : OpC}
theorem wJ(h:R=opsG M (l.drop i) n t)(hx:l[i]?=some o):R=opsG M (l.drop (i+1)) (iO o.how n) (opG M o n t):=by
 obtain⟨hlt,e⟩:=D9.1 hx;rw[h,<-Y2 hlt,e];rfl
theorem opsG_end(h:R=opsG M (l.drop i) n t)(hi:l.length<=i):R=t:=by
 rw[h,R5 hi];rfl
theorem yP(h:Deep (l.drop i) n)(hx:l[i]?=some o):0<=cV o.how/\cV o.how<=n/\Deep (l.drop (i+1)) (n+1-(cV o.how).toNat):=by
 obtain⟨hlt,e⟩:=D9.1 hx;rw[<-Y2 hlt,e]at h;exact h
theorem bPq(h:Deep (l.drop i) n)(hx:l[i]?=some o):Deep (l.drop (i+1)) (iO o.how n):=by
 obtain⟨h0,h1,a⟩:=yP h hx
 have e:iO o.how n=n+1-(cV o.how).toNat:=by
  unfold iO
  rcases bSq h0 with e|e|e|e|e|e<;>simp[cV,e]at h1⊢ <;>omega
 rw[e];exact a
theorem opG1(h:o.how=1):opG M o n t=jU M.frame n (λa=>numG a o.n) t:=if_pos h
theorem opG2(h:o.how=2):opG M o n t=jU M.frame n (λa=>numG a (oB M.dims o.p)) (if (bD o.p M.dims).2=0 then t else mJ M.fail t):=by
 unfold opG;rw[if_neg k9,if_pos h]
theorem opG3(h:o.how=3):opG M o n t=jU M.frame n (λa=>rL a (u8m (1+o.k))) t:=by
 unfold opG;rw[if_neg k9,if_neg k9,if_pos h]
theorem opG4(h:o.how=4):opG M o n t=jU M.frame (n-1) (λa=>dL ⟨5,a,gG (n-1) 14,0,w32 (M.at_.getD o.k.toNat 0)⟩ 0) (jS M.fail (gG (n-1) 14) (M.size.getD o.k.toNat 0) (pL (gG (n-1) 14) 0 M.fail (kT M.frame (n-1) 14 t))):=by
 unfold opG;rw[if_neg k9,if_neg k9,if_neg k9,if_pos h]
theorem opG5(h:o.how=5):opG M o n t=jU M.frame (n-1) (λa=>dL ⟨u8m (64+o.fn),a,gG (n-1) 14,0,0⟩ 0) (kT M.frame (n-1) 14 t):=by
 unfold opG;rw[if_neg k9,if_neg k9,if_neg k9,if_neg k9,if_pos h]
theorem opG6(h:o.how=6):opG M o n t=jU M.frame (n-2) (λa=>dL ⟨u8m (128+o.fn),a,gG (n-2) 14,gG (n-1) 15,0⟩ 0) (kT M.frame (n-1) 15 (kT M.frame (n-2) 14 t)):=by
 unfold opG;rw[if_neg k9,if_neg k9,if_neg k9,if_neg k9,if_neg k9,if_pos h]
end
theorem zero_op:(prog.info? 172).bind (·.zero)=some (.agg #[j5 0,j5 0,j5 0,.slice none 0 0,j6 0]):=l4
theorem gZ:(prog.info? 5).bind (·.zero)=some (j6 0):=l4
def cU (b:Nat)(z:Int):bC:= .obj b (.cells ([.int .u8 z]:List Value).toArray 5)
section
variable {P : Program} {β : dE} {n : Nat} {Γ : Env} {H : List bC} {F : List bE} {Q : Exit -> Act -> World -> Prop} {ι : Type}
def Jx (β:dE)(n:Nat)(G:ι->Env)(HH:ι->List bC)(FF:ι->List bE)(Q:Exit->Act->World->Prop)(e:Exit)(a:Act)(w:World):Prop:=
 match e with
 |.normal=> ∃x S,Fits n (G x) a/\St β (HH x) S w/\All (FF x) S w
 |e=>Q e a w
theorem at_join{c:Code}(Δ:Env)(_hΔ:Γ.Sub Δ)(G:ι->Env)(HH:ι->List bC){H0 Hr:List bC}(_hH:Split H H0 Hr)(FF:ι->List bE)
  (h1:At β n Γ H F (c.wp P (Jx β n (λx=>G x++Δ) (λx=>HH x++Hr) (λx=>FF x++F) Q))) (h2: ∀x,At β n (G x++Δ) (HH x++Hr) (FF x++F) (Q .normal)):At β n Γ H F (c.wp P Q):=λa w S f s k=>
 Code.wp_mono (λe i b q=>by
  cases e with
  |normal=>obtain⟨x,j,h,d,g⟩:=q;exact h2 x i b j h d g
  |_=>exact q) (h1 a w S f s k)
theorem lE{Δ:Env}{G:ι->Env}{HH:ι->List bC}{Hr:List bC}{FF:ι->List bE}{F0:List bE}(x:ι)(hG:Γ.Sub (G x))(hΔ:Γ.Sub Δ)(hH:Sel H (HH x++Hr))(hF:bA F (FF x))(hF0:bA F F0):
  At β n Γ H F (Jx β n (λx=>G x++Δ) (λx=>HH x++Hr) (λx=>FF x++F0) Q .normal):=λ_ w S f s k=>⟨x,S,f.sub (hG.append hΔ),s.sel hH,(hF.append hF0).all S w k⟩
end
set_option maxHeartbeats 1000000 in
theorem bHd(mb:Nat)(m:MkV)(a:Option Addr×Nat)(s:GnS)(N:Nat)(hB:GnB N s)(l:Sl OpV)(hN:N+12*l.list.length+100<=999000)(hO:OpsG (opsL l.list) m.at_.list.length)(hsz:m.size.list.length=m.at_.list.length)(hD:Deep (opsL l.list) 0)(hdl:m.dims.list.length<=140737488355328):bZ prog 69 [.pointer (some ⟨mb,0,none⟩),j0 l] [mkO mb (m.st a s),mkS (m.st a s)] [bRl l,cK.sl (j0 m.dims) m.dims.list,cK.sl (j0 m.at_) m.at_.list,cK.sl (j0 m.size) m.size.list] (λ(_:Option Addr×Nat)=> .tuple #[]) (λ(x:Option Addr×Nat)=>[mkO mb (m.st x (opsG m.M (opsL l.list) 0 s)),mkS (m.st x (opsG m.M (opsL l.list) 0 s))]) (λ_=>[]):=by
 have hT:=cO
 obtain⟨R,hR⟩: ∃R,opsG m.M (opsL l.list) 0 s=R:=⟨_,rfl⟩
 rw[show(λx:Option Addr×Nat=>[mkO mb (m.st x (opsG m.M (opsL l.list) 0 s)),mkS (m.st x (opsG m.M (opsL l.list) 0 s))])=λx=>[mkO mb (m.st x R),mkS (m.st x R)] by rw[hR]];refine i7 func69 ntmps69 ?_;intro β hM;refine fS<|bP (opE.sl (.slice l.addr l.list.length l.cap) l.list) (opsF_s d7) ?_;refine bP (bE.each l.list opF) (opsF_e d8) ?_;refine one ?_;refine i6 λA=>?_;refine g3 ?_;refine jV .head ?_;refine g12 ?_;refine bY (ι:=(Option Addr×Nat)×GnS×Nat×Nat) [(2,_),(13,_),(14,_)] ⟨rfl,rfl,rfl,e8⟩ (λ⟨a,t,n,i⟩=>[(4,.int .i64 (n:Nat)),(15,.int .i64 (i:Nat))]) (λ⟨a,t,n,i⟩=>[mkO mb (m.st a t),mkS (m.st a t)]) (λ⟨a,t,n,i⟩=>[bE.pure (i<=l.list.length/\n<=i/\Deep ((opsL l.list).drop i) n/\R=opsG m.M ((opsL l.list).drop i) n t/\GnB (N+12*i) t)]) (λ⟨a,t,n,i⟩=>l.list.length-i) (a,s,0,0) ⟨rfl,rfl,e8⟩ (.c0 (.c0 .nil)) ⟨e9 (⟨k9,k9,hD,hR.symm,hB.le k9⟩),e8⟩ ?_;rintro⟨a,t,n,i⟩;dsimp only;refine bM d7 λr=>?_;have hn1:=r.2.1;have hD:=r.2.2.1;have u:=r.2.2.2.1;have hB:=r.2.2.2.2;refine g6 ?_;refine fD (λhc16=>?_) λhc16=>?_
 .refine g6 ?_;obtain⟨d,e⟩:=gx l.list i;refine ss (ixs i) ?_;refine ss (kV e 0) ?_;refine f9 zero_op λK=>?_;refine g5 ?_;refine jV .head ?_;refine g2 ?_;refine ss (f8 hT (bI (off:=0) d7)) ?_;refine g9 ?_;refine fG (λW=>?_) λW=>?_
  .have q:d.c.how=1:=W;refine one ?_;refine ss (f8 hT (bI (off:=0) d9)) ?_;refine g2 ?_;refine bG func129 (sK mb m a (t) (hB.le k9) (n) k9 _ [.pointer (some ⟨A,0,none⟩),.pointer (some ⟨K,0,none⟩)] _ (λa=>numG a d.n) rA (j4 func130) (λC E B j=>ops1_spec mb m E B j A K d C)) rfl rfl (.c0 (.c0 .nil)) ⟨d9,d7,e8⟩ λy5=>?_;have hB6:=pT (fr:=m.frame) (k:=n) (I:=λa=>numG a d.n) rA hB;refine g3 ?_;have h:opG m.M d.c n t=jU m.frame (n) (λa=>numG a d.n) (t):=opG1 q;have hdp:iO d.how n=n+1:=by show iO d.c.how n=_;rw[q];unfold iO;simp;try omega
   refine g3 ?_;refine inc (n+1) ?_;refine bF (z':=((iO d.how n:Nat):Int)) aa9 ?_;refine g6 ?_;refine inc (i+1) ?_;refine g3 ?_;exact bk2 (y5,jU m.frame (n) (λa=>numG a d.n) (t),iO d.how n,i+1) ⟨e9 (⟨by dsimp only;omega,by dsimp only;omega,bPq hD (gR e),by dsimp only;exact(wJ u (gR e)).trans (congrArg (opsG m.M ((opsL l.list).drop (i+1)) (iO d.c.how n)) h),by dsimp only;exact hB6.le k9⟩),e8⟩
  refine g6 ?_;refine fG (λV=>?_) λV=>?_
  .have q:d.c.how=2:=V;refine g2 ?_;refine ss (f8 hT (bI (off:=0) d9)) ?_;refine one ?_;refine ss (f8 hT (bI (off:=3) d7)) ?_;refine bP (opF d) (Has.each e6 (f4 e)) ?_;refine f7 func131 (bMp mb m a (t) d.p hdl) (.c0 .nil) ⟨d7,(Has.of mT7),e8⟩ λ_=>?_;refine g3 ?_;refine f9 zero_i64 λb7=>?_;refine g6 ?_;refine jV .head ?_;refine g5 ?_;refine bBd (λJ=>?_) λJ=>?_
   .refine dC _ _ [(true,0),(true,1),(true,2),(true,3),(false,4),(false,5)] dJ l8 .nil bA.self ?_;refine stM rfl (f8 hT (bI (off:=0) e7)) ?_;refine stM rfl (f8 hT (bI (off:=0) e7)) ?_;refine g6 ?_;refine bG func132 (vL mb m a _ (hB.le k9) (m.fail)) rfl rfl (.c0 (.c0 .nil)) e8 λy8=>?_;have hB9:=sA (dst:=m.fail) hB;refine g4 ?_;refine ss (f8 hT (bI (off:=0) e7)) ?_;refine g2 ?_;refine bG func129 (sK mb m y8 (mJ (m.fail) (t)) (hB9.le k9) (n) k9 _ [.pointer (some ⟨A,0,none⟩),.pointer (some ⟨b7,0,none⟩)] _ (λa=>numG a (oB m.dims.list d.p.list)) rA (j4 func133) (λC E B j=>bUw mb m E B j A b7 (oB m.dims.list d.p.list) C)) rfl rfl (.c0 (.c0 .nil)) ⟨e7,d7,e8⟩ λy10=>?_;have hB11:=pT (fr:=m.frame) (k:=n) (I:=λa=>numG a (oB m.dims.list d.p.list)) rA hB9;refine g3 ?_;have h:opG m.M d.c n t=jU m.frame (n) (λa=>numG a (oB m.dims.list d.p.list)) (mJ (m.fail) (t)):=(opG2 q).trans (congrArg (jU m.frame n (λa=>numG a (oB m.dims.list d.p.list))) (if_neg (show ¬(bD d.p.list m.dims.list).2=0 by simpa using J)));have hdp:iO d.how n=n+1:=by show iO d.c.how n=_;rw[q];unfold iO;simp;try omega
    refine g3 ?_;refine inc (n+1) ?_;refine bF (z':=((iO d.how n:Nat):Int)) aa9 ?_;refine g6 ?_;refine inc (i+1) ?_;refine g3 ?_;exact bk2 (y10,jU m.frame (n) (λa=>numG a (oB m.dims.list d.p.list)) (mJ (m.fail) (t)),iO d.how n,i+1) ⟨e9 (⟨by dsimp only;omega,by dsimp only;omega,bPq hD (gR e),by dsimp only;exact(wJ u (gR e)).trans (congrArg (opsG m.M ((opsL l.list).drop (i+1)) (iO d.c.how n)) h),by dsimp only;exact hB11.le k9⟩),e8⟩
   refine g3 ?_;refine ss (f8 hT (bI (off:=0) e7)) ?_;refine g2 ?_;refine bG func129 (sK mb m a (t) (hB.le k9) (n) k9 _ [.pointer (some ⟨A,0,none⟩),.pointer (some ⟨b7,0,none⟩)] _ (λa=>numG a (oB m.dims.list d.p.list)) rA (j4 func133) (λC E B j=>bUw mb m E B j A b7 (oB m.dims.list d.p.list) C)) rfl rfl (.c0 (.c0 .nil)) ⟨e7,d7,e8⟩ λy12=>?_;have hB13:=pT (fr:=m.frame) (k:=n) (I:=λa=>numG a (oB m.dims.list d.p.list)) rA hB;refine g3 ?_;have h:opG m.M d.c n t=jU m.frame (n) (λa=>numG a (oB m.dims.list d.p.list)) (t):=(opG2 q).trans (congrArg (jU m.frame n (λa=>numG a (oB m.dims.list d.p.list))) (if_pos (show(bD d.p.list m.dims.list).2=0 by simpa using J)));have hdp:iO d.how n=n+1:=by show iO d.c.how n=_;rw[q];unfold iO;simp;try omega
   refine g3 ?_;refine inc (n+1) ?_;refine bF (z':=((iO d.how n:Nat):Int)) aa9 ?_;refine g6 ?_;refine inc (i+1) ?_;refine g3 ?_;exact bk2 (y12,jU m.frame (n) (λa=>numG a (oB m.dims.list d.p.list)) (t),iO d.how n,i+1) ⟨e9 (⟨by dsimp only;omega,by dsimp only;omega,bPq hD (gR e),by dsimp only;exact(wJ u (gR e)).trans (congrArg (opsG m.M ((opsL l.list).drop (i+1)) (iO d.c.how n)) h),by dsimp only;exact hB13.le k9⟩),e8⟩
  refine g6 ?_;refine fG (λU=>?_) λU=>?_
  .have q:d.c.how=3:=U;have hk3:=(hO d.c (f4 (gR e))).1 q;refine one ?_;refine ss (f8 hT (bI (off:=0) d9)) ?_;refine g2 ?_;refine bG func129 (sK mb m a (t) (hB.le k9) (n) k9 _ [.pointer (some ⟨A,0,none⟩),.pointer (some ⟨K,0,none⟩)] _ (λa=>rL a (u8m (1+d.k))) bIh (j4 func134) (λC E B j=>ops3_spec mb m E B j A K d hk3 C)) rfl rfl (.c0 (.c0 .nil)) ⟨d9,d7,e8⟩ λy14=>?_;have hB15:=pT (fr:=m.frame) (k:=n) (I:=λa=>rL a (u8m (1+d.k))) bIh hB;refine g3 ?_;have h:opG m.M d.c n t=jU m.frame (n) (λa=>rL a (u8m (1+d.k))) (t):=opG3 q;have hdp:iO d.how n=n+1:=by show iO d.c.how n=_;rw[q];unfold iO;simp;try omega
   refine g3 ?_;refine inc (n+1) ?_;refine bF (z':=((iO d.how n:Nat):Int)) aa9 ?_;refine g6 ?_;refine inc (i+1) ?_;refine g3 ?_;exact bk2 (y14,jU m.frame (n) (λa=>rL a (u8m (1+d.k))) (t),iO d.how n,i+1) ⟨e9 (⟨by dsimp only;omega,by dsimp only;omega,bPq hD (gR e),by dsimp only;exact(wJ u (gR e)).trans (congrArg (opsG m.M ((opsL l.list).drop (i+1)) (iO d.c.how n)) h),by dsimp only;exact hB15.le k9⟩),e8⟩
  refine g6 ?_;refine fG (λQ=>?_) λQ=>?_
  .have q:d.c.how=4:=Q;have D:=yP hD (gR e);have hn4:1<=n:=by have h1:=D.2.1;rw[show cV d.c.how=1 by rw[q];rfl]at h1;omega
   have hk4:=(hO d.c (f4 (gR e))).2 q;have hk4a:d.k.toNat<m.at_.list.length:=hk4.2;refine g4 ?_;refine inc (n-1) ?_;refine g5 ?_;refine ss (f8 hT (bI (off:=0) d9)) ?_;refine one ?_;refine bG func136 (gO mb m a _ (hB.le k9) (n-1) k9 14) rfl rfl (.c0 (.c0 .nil)) e8 λy16=>?_;have hB17:=iI (fr:=m.frame) (k:=n-1) (sp:=14) hB;refine f9 gZ λb18=>?_;refine g4 ?_;refine jV .head ?_;refine dC _ _ [(true,0),(true,1),(true,2),(true,3),(true,4),(false,5),(false,6)] dJ l8 .nil bA.self ?_;refine stM rfl (f8 hT (bI (off:=0) e6)) ?_;refine stM rfl (f8 hT (bI (off:=0) d7)) ?_;refine stM rfl (f8 hT (bI (off:=0) e6)) ?_;refine g6 ?_;refine bG func137 (bIn mb m y16 _ (hB17.le k9) (gG (n-1) 14) (0) (m.fail)) rfl rfl (.c0 (.c0 .nil)) e8 λy19=>?_;have hB20:=zX (a:=gG (n-1) 14) (b:=0) (dst:=m.fail) hB17;refine g4 ?_;refine dC _ _ [(true,0),(true,1),(true,2),(true,3),(true,4),(true,6),(true,7),(false,5),(true,8),(false,9),(false,10)] dJ l8 .nil bA.self ?_;refine stM rfl (f8 hT (bI (off:=0) e6)) ?_;refine stM rfl (f8 hT (bI (off:=0) d7)) ?_;refine stM rfl (f8 hT (bI (off:=0) e6)) ?_;refine g3 ?_;refine stM rfl (f8 hT (bI (off:=1) d8)) ?_;refine g3 ?_;obtain⟨x21,L⟩:=gx m.size.list d.k.toNat (k9);refine stM rfl (bJ hT (k:=d.k.toNat) (bV (Has.of mT9)) rfl rfl rfl rfl rfl rfl (aM hk4.1).symm (k9)) ?_;refine one ?_;refine ss (jB L 0) ?_;refine one ?_;refine bF (z':=m.size.list.getD d.k.toNat 0) (tO L).symm ?_;refine one ?_;refine bG func138 (bJz mb m y19 _ (hB20.le k9) (gG (n-1) 14) (m.size.list.getD d.k.toNat 0)) rfl rfl (.c0 (.c0 .nil)) e8 λy23=>?_;have hB24:=bAk (f:=m.fail) (a:=gG (n-1) 14) (z:=m.size.list.getD d.k.toNat 0) hB20;refine g4 ?_;refine ss (f8 hT (bI (off:=0) e6)) ?_;refine g2 ?_;refine bG func129 (sK mb m y23 (jS m.fail (gG (n-1) 14) (m.size.list.getD d.k.toNat 0) (pL (gG (n-1) 14) (0) (m.fail) (kT m.frame (n-1) 14 (t)))) (hB24.le k9) (n-1) k9 _ [.pointer (some ⟨A,0,none⟩),.pointer (some ⟨b18,0,none⟩),.pointer (some ⟨K,0,none⟩)] _ (λa=>dL ⟨5,a,gG (n-1) 14,0,w32 (m.at_.list.getD d.k.toNat 0)⟩ 0) (pG (I:=λa=>⟨5,a,gG (n-1) 14,0,w32 (m.at_.list.getD d.k.toNat 0)⟩)) (j4 func139) (λC E B j=>ops4_spec mb m E B j A b18 K (gG (n-1) 14) d hk4.1 hk4a C)) rfl rfl (.c0 (.c0 .nil)) ⟨e6,d7,d8,Has.of mT8,e8⟩ λy25=>?_;have hB26:=pT (fr:=m.frame) (k:=n-1) (I:=λa=>dL ⟨5,a,gG (n-1) 14,0,w32 (m.at_.list.getD d.k.toNat 0)⟩ 0) (pG (I:=λa=>⟨5,a,gG (n-1) 14,0,w32 (m.at_.list.getD d.k.toNat 0)⟩)) hB24;refine g3 ?_;have h:opG m.M d.c n t=jU m.frame (n-1) (λa=>dL ⟨5,a,gG (n-1) 14,0,w32 (m.at_.list.getD d.k.toNat 0)⟩ 0) (jS m.fail (gG (n-1) 14) (m.size.list.getD d.k.toNat 0) (pL (gG (n-1) 14) (0) (m.fail) (kT m.frame (n-1) 14 (t)))):=opG4 q;have hdp:iO d.how n=(n-1)+1:=by show iO d.c.how n=_;rw[q];unfold iO;simp;try omega
   refine g3 ?_;refine inc ((n-1)+1) ?_;refine bF (z':=((iO d.how n:Nat):Int)) aa9 ?_;refine g6 ?_;refine inc (i+1) ?_;refine g3 ?_;exact bk2 (y25,jU m.frame (n-1) (λa=>dL ⟨5,a,gG (n-1) 14,0,w32 (m.at_.list.getD d.k.toNat 0)⟩ 0) (jS m.fail (gG (n-1) 14) (m.size.list.getD d.k.toNat 0) (pL (gG (n-1) 14) (0) (m.fail) (kT m.frame (n-1) 14 (t)))),iO d.how n,i+1) ⟨e9 (⟨by dsimp only;omega,by dsimp only;omega,bPq hD (gR e),by dsimp only;exact(wJ u (gR e)).trans (congrArg (opsG m.M ((opsL l.list).drop (i+1)) (iO d.c.how n)) h),by dsimp only;exact hB26.le k9⟩),e8⟩
  refine g6 ?_;refine fG (λP=>?_) λP=>?_
  .have q:d.c.how=5:=P;have D:=yP hD (gR e);have hn5:1<=n:=by have h1:=D.2.1;rw[show cV d.c.how=1 by rw[q];rfl]at h1;omega
   refine g4 ?_;refine inc (n-1) ?_;refine g5 ?_;refine ss (f8 hT (bI (off:=0) d9)) ?_;refine one ?_;refine bG func136 (gO mb m a _ (hB.le k9) (n-1) k9 14) rfl rfl (.c0 (.c0 .nil)) e8 λy27=>?_;have Z:=iI (fr:=m.frame) (k:=n-1) (sp:=14) hB;refine f9 gZ λb29=>?_;refine g3 ?_;refine jV .head ?_;refine one ?_;refine ss (f8 hT (bI (off:=0) e6)) ?_;refine g2 ?_;refine bG func129 (sK mb m y27 (kT m.frame (n-1) 14 (t)) (Z.le k9) (n-1) k9 _ [.pointer (some ⟨A,0,none⟩),.pointer (some ⟨K,0,none⟩),.pointer (some ⟨b29,0,none⟩)] _ (λa=>dL ⟨u8m (64+d.fn),a,gG (n-1) 14,0,0⟩ 0) (pG (I:=λa=>⟨u8m (64+d.fn),a,gG (n-1) 14,0,0⟩)) (j4 func140) (λC E B j=>ops5_spec mb m E B j A K b29 d (gG (n-1) 14) C)) rfl rfl (.c0 (.c0 .nil)) ⟨e6,d8,d7,e8⟩ λy30=>?_;have hB31:=pT (fr:=m.frame) (k:=n-1) (I:=λa=>dL ⟨u8m (64+d.fn),a,gG (n-1) 14,0,0⟩ 0) (pG (I:=λa=>⟨u8m (64+d.fn),a,gG (n-1) 14,0,0⟩)) Z;refine g3 ?_;have h:opG m.M d.c n t=jU m.frame (n-1) (λa=>dL ⟨u8m (64+d.fn),a,gG (n-1) 14,0,0⟩ 0) (kT m.frame (n-1) 14 (t)):=opG5 q;have hdp:iO d.how n=(n-1)+1:=by show iO d.c.how n=_;rw[q];unfold iO;simp;try omega
   refine g3 ?_;refine inc ((n-1)+1) ?_;refine bF (z':=((iO d.how n:Nat):Int)) aa9 ?_;refine g6 ?_;refine inc (i+1) ?_;refine g3 ?_;exact bk2 (y30,jU m.frame (n-1) (λa=>dL ⟨u8m (64+d.fn),a,gG (n-1) 14,0,0⟩ 0) (kT m.frame (n-1) 14 (t)),iO d.how n,i+1) ⟨e9 (⟨by dsimp only;omega,by dsimp only;omega,bPq hD (gR e),by dsimp only;exact(wJ u (gR e)).trans (congrArg (opsG m.M ((opsL l.list).drop (i+1)) (iO d.c.how n)) h),by dsimp only;exact hB31.le k9⟩),e8⟩
  refine g6 ?_;refine fG (λO=>?_) λO=>?_
  .have q:d.c.how=6:=O;have D:=yP hD (gR e);have hn6:2<=n:=by have h1:=D.2.1;rw[show cV d.c.how=2 by rw[q];rfl]at h1;omega
   refine g4 ?_;refine inc (n-2) ?_;refine g4 ?_;refine at_join (ι:=(Option Addr×Nat)×Nat×Nat) [(2,_),(4,_),(6,_),(13,_),(14,_),(15,_)] ⟨rfl,rfl,rfl,rfl,rfl,rfl,e8⟩ (λ⟨y,c11,c12⟩=>[(11,.pointer (some ⟨c11,0,none⟩)),(12,.pointer (some ⟨c12,0,none⟩))]) (λ⟨y,c11,c12⟩=>[mkO mb (m.st y (kT m.frame (n-1) 15 (kT m.frame (n-2) 14 (t)))),mkS (m.st y (kT m.frame (n-1) 15 (kT m.frame (n-2) 14 (t)))),cU c11 (gG (n-2) 14),cU c12 (gG (n-1) 15)]) (.c0 (.c0 .nil)) (λ⟨y,c11,c12⟩=>[bE.pure (True)]) ?_ ?_
   .refine at_mixU _ _ (.fl 0 (.fl 1 (.fl 3 (.fl 4 (.fl 5 (.three 2 7 8 (.three 6 7 8 (.two 7 8 (.op 8 (.op 9 (.op 10 .nil))) (.op 7 (.op 9 (.op 10 .nil)))) (.two 6 8 (.op 8 (.op 9 (.op 10 .nil))) (.op 6 (.op 9 (.op 10 .nil)))) (.two 6 7 (.op 7 (.op 9 (.op 10 .nil))) (.op 6 (.op 9 (.op 10 .nil))))) (.two 2 8 (.two 6 8 (.op 8 (.op 9 (.op 10 .nil))) (.op 6 (.op 9 (.op 10 .nil)))) (.op 2 (.op 6 (.op 9 (.op 10 .nil))))) (.two 2 7 (.two 6 7 (.op 7 (.op 9 (.op 10 .nil))) (.op 6 (.op 9 (.op 10 .nil)))) (.op 2 (.op 6 (.op 9 (.op 10 .nil))))))))))) dJ l8 .nil bA.self ?_;refine bEp rfl rfl rfl rfl (f8 hT (bI (off:=0) d9)) ?_;refine bEp rfl rfl rfl rfl (fJ hT rfl) ?_;refine bEp rfl rfl rfl rfl (f8 hT (bI (off:=0) d9)) ?_;refine bEp rfl rfl rfl rfl (fJ hT rfl) ?_;refine bEp rfl rfl rfl rfl (fJ hT rfl) ?_;refine inc ((n-2)+1) ?_;refine bF (z':=((n-1:Nat):Int)) k9 ?_;refine bUb (o:=_) (o':=_) (o2:=_) rfl rfl rfl ?_ ?_ ?_
    .refine bG func136 (gO mb m a _ (hB.le k9) (n-2) k9 14) rfl rfl (.c0 (.c0 .nil)) e8 λG=>?_;have g:=iI (fr:=m.frame) (k:=n-2) (sp:=14) hB;refine cS .nil (bA.drop 0) ?_;refine bUb (o:=_) (o':=_) (o2:=_) rfl rfl rfl ?_ ?_ ?_
     .refine bG func136 (gO mb m G _ (g.le k9) (n-1) k9 15) rfl rfl (.c0 (.c0 .nil)) e8 λy34=>?_;have hB35:=iI (fr:=m.frame) (k:=n-1) (sp:=15) g;refine cS .nil (bA.drop 0) ?_;refine xF (o:=_) (o':=_) rfl rfl ?_ ?_
      .refine f9 gZ λb36=>?_;refine cS .nil (bA.drop 0) ?_;refine dY (o:=_) rfl ?_;refine f9 gZ λb37=>?_;refine cS .nil (bA.drop 0) ?_;refine dY (o:=_) rfl ?_;refine one ?_;refine cS .nil (bA.drop 0) ?_;refine dY (o:=_) rfl ?_;refine one ?_;refine cS .nil (bA.drop 0) ?_;refine nR ?_;exact lE (y34,b36,b37) ⟨rfl,rfl,e8⟩ ⟨rfl,rfl,rfl,rfl,rfl,rfl,e8⟩ (.c2 (.c2 (.c1 (.c0 .nil)))) ⟨e9 (e8),e8⟩ (bA.drop 0)
      refine f9 gZ λb38=>?_;refine cS .nil (bA.drop 0) ?_;refine dY (o:=_) rfl ?_;refine f9 gZ λb39=>?_;refine cS .nil (bA.drop 0) ?_;refine dY (o:=_) rfl ?_;refine one ?_;refine cS .nil (bA.drop 0) ?_;refine dY (o:=_) rfl ?_;refine one ?_;refine cS .nil (bA.drop 0) ?_;refine nR ?_;exact lE (y34,b39,b38) ⟨rfl,rfl,e8⟩ ⟨rfl,rfl,rfl,rfl,rfl,rfl,e8⟩ (.c2 (.c2 (.c1 (.c0 .nil)))) ⟨e9 (e8),e8⟩ (bA.drop 0)
     .refine f9 gZ λb40=>?_;refine cS .nil (bA.drop 0) ?_;refine xF (o:=_) (o':=_) rfl rfl ?_ ?_
      .refine bG func136 (gO mb m G _ (g.le k9) (n-1) k9 15) rfl rfl (.c1 (.c1 .nil)) e8 λy41=>?_;have hB42:=iI (fr:=m.frame) (k:=n-1) (sp:=15) g;refine cS .nil (bA.drop 0) ?_;refine dY (o:=_) rfl ?_;refine f9 gZ λb43=>?_;refine cS .nil (bA.drop 0) ?_;refine dY (o:=_) rfl ?_;refine one ?_;refine cS .nil (bA.drop 0) ?_;refine dY (o:=_) rfl ?_;refine one ?_;refine cS .nil (bA.drop 0) ?_;refine nR ?_;exact lE (y41,b40,b43) ⟨rfl,rfl,e8⟩ ⟨rfl,rfl,rfl,rfl,rfl,rfl,e8⟩ (.c2 (.c2 (.c1 (.c0 .nil)))) ⟨e9 (e8),e8⟩ (bA.drop 0)
      refine f9 gZ λb44=>?_;refine cS .nil (bA.drop 0) ?_;refine dY (o:=_) rfl ?_;refine bG func136 (gO mb m G _ (g.le k9) (n-1) k9 15) rfl rfl (.c2 (.c2 .nil)) e8 λy45=>?_;have hB46:=iI (fr:=m.frame) (k:=n-1) (sp:=15) g;refine cS .nil (bA.drop 0) ?_;refine dY (o:=_) rfl ?_;refine one ?_;refine cS .nil (bA.drop 0) ?_;refine dY (o:=_) rfl ?_;refine one ?_;refine cS .nil (bA.drop 0) ?_;refine nR ?_;exact lE (y45,b40,b44) ⟨rfl,rfl,e8⟩ ⟨rfl,rfl,rfl,rfl,rfl,rfl,e8⟩ (.c2 (.c2 (.c1 (.c0 .nil)))) ⟨e9 (e8),e8⟩ (bA.drop 0)
     refine f9 gZ λb47=>?_;refine cS .nil (bA.drop 0) ?_;refine xF (o:=_) (o':=_) rfl rfl ?_ ?_
     .refine bG func136 (gO mb m G _ (g.le k9) (n-1) k9 15) rfl rfl (.c1 (.c1 .nil)) e8 λy48=>?_;have hB49:=iI (fr:=m.frame) (k:=n-1) (sp:=15) g;refine cS .nil (bA.drop 0) ?_;refine dY (o:=_) rfl ?_;refine f9 gZ λb50=>?_;refine cS .nil (bA.drop 0) ?_;refine dY (o:=_) rfl ?_;refine one ?_;refine cS .nil (bA.drop 0) ?_;refine dY (o:=_) rfl ?_;refine one ?_;refine cS .nil (bA.drop 0) ?_;refine nR ?_;exact lE (y48,b50,b47) ⟨rfl,rfl,e8⟩ ⟨rfl,rfl,rfl,rfl,rfl,rfl,e8⟩ (.c2 (.c2 (.c1 (.c0 .nil)))) ⟨e9 (e8),e8⟩ (bA.drop 0)
     refine f9 gZ λb51=>?_;refine cS .nil (bA.drop 0) ?_;refine dY (o:=_) rfl ?_;refine bG func136 (gO mb m G _ (g.le k9) (n-1) k9 15) rfl rfl (.c2 (.c2 .nil)) e8 λy52=>?_;have hB53:=iI (fr:=m.frame) (k:=n-1) (sp:=15) g;refine cS .nil (bA.drop 0) ?_;refine dY (o:=_) rfl ?_;refine one ?_;refine cS .nil (bA.drop 0) ?_;refine dY (o:=_) rfl ?_;refine one ?_;refine cS .nil (bA.drop 0) ?_;refine nR ?_;exact lE (y52,b51,b47) ⟨rfl,rfl,e8⟩ ⟨rfl,rfl,rfl,rfl,rfl,rfl,e8⟩ (.c2 (.c2 (.c1 (.c0 .nil)))) ⟨e9 (e8),e8⟩ (bA.drop 0)
    .refine f9 gZ λb54=>?_;refine cS .nil (bA.drop 0) ?_;refine xF (o:=_) (o':=_) rfl rfl ?_ ?_
     .refine bG func136 (gO mb m a _ (hB.le k9) (n-2) k9 14) rfl rfl (.c1 (.c1 .nil)) e8 λy55=>?_;have w:=iI (fr:=m.frame) (k:=n-2) (sp:=14) hB;refine cS .nil (bA.drop 0) ?_;refine xF (o:=_) (o':=_) rfl rfl ?_ ?_
      .refine bG func136 (gO mb m y55 _ (w.le k9) (n-1) k9 15) rfl rfl (.c0 (.c0 .nil)) e8 λy57=>?_;have hB58:=iI (fr:=m.frame) (k:=n-1) (sp:=15) w;refine cS .nil (bA.drop 0) ?_;refine dY (o:=_) rfl ?_;refine f9 gZ λb59=>?_;refine cS .nil (bA.drop 0) ?_;refine dY (o:=_) rfl ?_;refine one ?_;refine cS .nil (bA.drop 0) ?_;refine dY (o:=_) rfl ?_;refine one ?_;refine cS .nil (bA.drop 0) ?_;refine nR ?_;exact lE (y57,b54,b59) ⟨rfl,rfl,e8⟩ ⟨rfl,rfl,rfl,rfl,rfl,rfl,e8⟩ (.c2 (.c2 (.c1 (.c0 .nil)))) ⟨e9 (e8),e8⟩ (bA.drop 0)
      refine f9 gZ λb60=>?_;refine cS .nil (bA.drop 0) ?_;refine dY (o:=_) rfl ?_;refine bG func136 (gO mb m y55 _ (w.le k9) (n-1) k9 15) rfl rfl (.c1 (.c1 .nil)) e8 λy61=>?_;have hB62:=iI (fr:=m.frame) (k:=n-1) (sp:=15) w;refine cS .nil (bA.drop 0) ?_;refine dY (o:=_) rfl ?_;refine one ?_;refine cS .nil (bA.drop 0) ?_;refine dY (o:=_) rfl ?_;refine one ?_;refine cS .nil (bA.drop 0) ?_;refine nR ?_;exact lE (y61,b54,b60) ⟨rfl,rfl,e8⟩ ⟨rfl,rfl,rfl,rfl,rfl,rfl,e8⟩ (.c2 (.c2 (.c1 (.c0 .nil)))) ⟨e9 (e8),e8⟩ (bA.drop 0)
     refine f9 gZ λb63=>?_;refine cS .nil (bA.drop 0) ?_;refine dY (o:=_) rfl ?_;refine bG func136 (gO mb m a _ (hB.le k9) (n-2) k9 14) rfl rfl (.c2 (.c2 .nil)) e8 λy64=>?_;have Y:=iI (fr:=m.frame) (k:=n-2) (sp:=14) hB;refine cS .nil (bA.drop 0) ?_;refine dY (o:=_) rfl ?_;refine bG func136 (gO mb m y64 _ (Y.le k9) (n-1) k9 15) rfl rfl (.c0 (.c0 .nil)) e8 λy66=>?_;have hB67:=iI (fr:=m.frame) (k:=n-1) (sp:=15) Y;refine cS .nil (bA.drop 0) ?_;refine dY (o:=_) rfl ?_;refine one ?_;refine cS .nil (bA.drop 0) ?_;refine dY (o:=_) rfl ?_;refine one ?_;refine cS .nil (bA.drop 0) ?_;refine nR ?_;exact lE (y66,b54,b63) ⟨rfl,rfl,e8⟩ ⟨rfl,rfl,rfl,rfl,rfl,rfl,e8⟩ (.c2 (.c2 (.c1 (.c0 .nil)))) ⟨e9 (e8),e8⟩ (bA.drop 0)
    refine f9 gZ λb68=>?_;refine cS .nil (bA.drop 0) ?_;refine xF (o:=_) (o':=_) rfl rfl ?_ ?_
    .refine bG func136 (gO mb m a _ (hB.le k9) (n-2) k9 14) rfl rfl (.c1 (.c1 .nil)) e8 λy69=>?_;have v:=iI (fr:=m.frame) (k:=n-2) (sp:=14) hB;refine cS .nil (bA.drop 0) ?_;refine xF (o:=_) (o':=_) rfl rfl ?_ ?_
     .refine bG func136 (gO mb m y69 _ (v.le k9) (n-1) k9 15) rfl rfl (.c0 (.c0 .nil)) e8 λy71=>?_;have hB72:=iI (fr:=m.frame) (k:=n-1) (sp:=15) v;refine cS .nil (bA.drop 0) ?_;refine dY (o:=_) rfl ?_;refine f9 gZ λb73=>?_;refine cS .nil (bA.drop 0) ?_;refine dY (o:=_) rfl ?_;refine one ?_;refine cS .nil (bA.drop 0) ?_;refine dY (o:=_) rfl ?_;refine one ?_;refine cS .nil (bA.drop 0) ?_;refine nR ?_;exact lE (y71,b73,b68) ⟨rfl,rfl,e8⟩ ⟨rfl,rfl,rfl,rfl,rfl,rfl,e8⟩ (.c2 (.c2 (.c1 (.c0 .nil)))) ⟨e9 (e8),e8⟩ (bA.drop 0)
     refine f9 gZ λb74=>?_;refine cS .nil (bA.drop 0) ?_;refine dY (o:=_) rfl ?_;refine bG func136 (gO mb m y69 _ (v.le k9) (n-1) k9 15) rfl rfl (.c1 (.c1 .nil)) e8 λy75=>?_;have hB76:=iI (fr:=m.frame) (k:=n-1) (sp:=15) v;refine cS .nil (bA.drop 0) ?_;refine dY (o:=_) rfl ?_;refine one ?_;refine cS .nil (bA.drop 0) ?_;refine dY (o:=_) rfl ?_;refine one ?_;refine cS .nil (bA.drop 0) ?_;refine nR ?_;exact lE (y75,b74,b68) ⟨rfl,rfl,e8⟩ ⟨rfl,rfl,rfl,rfl,rfl,rfl,e8⟩ (.c2 (.c2 (.c1 (.c0 .nil)))) ⟨e9 (e8),e8⟩ (bA.drop 0)
    refine f9 gZ λb77=>?_;refine cS .nil (bA.drop 0) ?_;refine dY (o:=_) rfl ?_;refine bG func136 (gO mb m a _ (hB.le k9) (n-2) k9 14) rfl rfl (.c2 (.c2 .nil)) e8 λy78=>?_;have X:=iI (fr:=m.frame) (k:=n-2) (sp:=14) hB;refine cS .nil (bA.drop 0) ?_;refine dY (o:=_) rfl ?_;refine bG func136 (gO mb m y78 _ (X.le k9) (n-1) k9 15) rfl rfl (.c0 (.c0 .nil)) e8 λy80=>?_;have hB81:=iI (fr:=m.frame) (k:=n-1) (sp:=15) X;refine cS .nil (bA.drop 0) ?_;refine dY (o:=_) rfl ?_;refine one ?_;refine cS .nil (bA.drop 0) ?_;refine dY (o:=_) rfl ?_;refine one ?_;refine cS .nil (bA.drop 0) ?_;refine nR ?_;exact lE (y80,b77,b68) ⟨rfl,rfl,e8⟩ ⟨rfl,rfl,rfl,rfl,rfl,rfl,e8⟩ (.c2 (.c2 (.c1 (.c0 .nil)))) ⟨e9 (e8),e8⟩ (bA.drop 0)
   rintro⟨y,c11,c12⟩;dsimp only;refine bM d7 λhjn=>?_;have hBj:=iI (fr:=m.frame) (k:=n-1) (sp:=15) (iI (fr:=m.frame) (k:=n-2) (sp:=14) hB);refine mG<|jV kT2 ?_;refine jV kT2 ?_;refine one ?_;refine ss (f8 hT (bI (off:=0) (Has.of mT5))) ?_;refine g2 ?_;refine bG func129 (sK mb m y (kT m.frame (n-1) 15 (kT m.frame (n-2) 14 (t))) (hBj.le k9) (n-2) k9 _ [.pointer (some ⟨A,0,none⟩),.pointer (some ⟨K,0,none⟩),.pointer (some ⟨c11,0,none⟩),.pointer (some ⟨c12,0,none⟩)] _ (λa=>dL ⟨u8m (128+d.fn),a,gG (n-2) 14,gG (n-1) 15,0⟩ 0) (pG (I:=λa=>⟨u8m (128+d.fn),a,gG (n-2) 14,gG (n-1) 15,0⟩)) (j4 func141) (λC E B j=>ops6_spec mb m E B j A K c11 c12 d (gG (n-2) 14) (gG (n-1) 15) C)) rfl rfl (.c0 (.c0 .nil)) ⟨Has.of mT5,e6,d8,d7,e8⟩ λy82=>?_;have hB83:=pT (fr:=m.frame) (k:=n-2) (I:=λa=>dL ⟨u8m (128+d.fn),a,gG (n-2) 14,gG (n-1) 15,0⟩ 0) (pG (I:=λa=>⟨u8m (128+d.fn),a,gG (n-2) 14,gG (n-1) 15,0⟩)) hBj;refine g3 ?_;have h:opG m.M d.c n t=jU m.frame (n-2) (λa=>dL ⟨u8m (128+d.fn),a,gG (n-2) 14,gG (n-1) 15,0⟩ 0) (kT m.frame (n-1) 15 (kT m.frame (n-2) 14 (t))):=opG6 q;have hdp:iO d.how n=(n-2)+1:=by show iO d.c.how n=_;rw[q];unfold iO;simp;try omega
   refine g3 ?_;refine inc ((n-2)+1) ?_;refine bF (z':=((iO d.how n:Nat):Int)) aa9 ?_;refine g6 ?_;refine inc (i+1) ?_;refine g3 ?_;exact bk2 (y82,jU m.frame (n-2) (λa=>dL ⟨u8m (128+d.fn),a,gG (n-2) 14,gG (n-1) 15,0⟩ 0) (kT m.frame (n-1) 15 (kT m.frame (n-2) 14 (t))),iO d.how n,i+1) ⟨e9 (⟨by dsimp only;omega,by dsimp only;omega,bPq hD (gR e),by dsimp only;exact(wJ u (gR e)).trans (congrArg (opsG m.M ((opsL l.list).drop (i+1)) (iO d.c.how n)) h),by dsimp only;exact hB83.le k9⟩),e8⟩
  exfalso
  have D:=bSq (yP hD (gR e)).1;have hho:d.c.how=d.how:=rfl;omega
 refine g4 ?_;have he:=opsG_end u (by rw[dR];omega);subst he;exact cT a rfl (.c0 (.c0 .nil)) e8 rfl
theorem vC(z0:Int)(z1:Int):prog.built 52 [(0,j6 z0),(1,j6 z1)]=some #[j6 z0,j6 z1,j6 0,j6 0,.int .i32 0]:=l4
theorem bUo(mb:Nat)(m:MkV)(a:Option Addr×Nat)(s:GnS)(hB:GnB 999500 s)(g q:Int):bZ prog 71 [.pointer (some ⟨mb,0,none⟩),j6 g,j6 q] [mkO mb (m.st a s),mkS (m.st a s)] [] (λ(_:Option Addr×Nat)=> .tuple #[]) (λ(x:Option Addr×Nat)=>[mkO mb (m.st x (foldG g q s)),mkS (m.st x (foldG g q s))]) (λ_=>[]):=by
 have hT:=cO;have C:=hB.l;have B:=hB.m;have A:=hB.x;refine i7 func71 ntmps71 ?_;intro β hM;refine g3 ?_;refine bG func25 (pQ mb m a _ (hB.le k9)) rfl rfl (.c0 (.c0 .nil)) e8 λz=>?_;have n:=nO hB;refine one ?_;refine bG func25 (pQ mb m z _ (n.le k9)) rfl rfl (.c0 (.c0 .nil)) e8 λy=>?_;have j:=nO n;refine one ?_;refine bF (z':=((s.marks+1:Nat):Int)) rfl ?_;refine one ?_;refine bF (z':=((s.marks+2:Nat):Int)) rfl ?_;refine g6 ?_;refine ss (cC rfl rfl (vC _ _)) ?_;refine one ?_;refine bG func28 (fN mb m y _ (j.le k9) (⟨9,q,0,0,0⟩:cA) (s.marks+1)) rfl rfl (.c0 (.c0 .nil)) e8 λw=>?_;have h:=fO (i:=(⟨9,q,0,0,0⟩:cA)) (dst:=s.marks+1) j;refine g7 ?_;refine bF (z':=u8m (128+g)) (pF _) ?_;refine ss (cC rfl rfl (tM _ _ _ _)) ?_;refine bG func28 (fN mb m w _ (h.le k9) (⟨u8m (128+g),7,7,8,0⟩:cA) 0) rfl rfl (.c0 (.c0 .nil)) e8 λv=>?_;have f:=fO (i:=(⟨u8m (128+g),7,7,8,0⟩:cA)) (dst:=0) h;refine g6 ?_;refine bG func132 (vL mb m v _ (f.le k9) (s.marks+2)) rfl rfl (.c0 (.c0 .nil)) e8 λu=>?_;have e:=sA (dst:=s.marks+2) f;refine g6 ?_;refine bG func29 (pS mb m u _ (e.le k9) (s.marks+1)) rfl rfl (.c0 (.c0 .nil)) e8 λr=>?_;have d:=nQ (k:=s.marks+1) e k9;refine g5 ?_;refine bG func135 (bOg mb m r _ (d.le k9) (7) (8)) rfl rfl (.c0 (.c0 .nil)) e8 λp=>?_;have c:=bLn (a:=7) (b:=8) d;refine g5 ?_;refine bG func29 (pS mb m p _ (c.le k9) (s.marks+2)) rfl rfl (.c0 (.c0 .nil)) e8 λo=>?_;have t:=nQ (k:=s.marks+2) c k9;refine jO ?_;exact cT o rfl (.c0 (.c0 .nil)) e8 rfl
theorem tF(mb:Nat)(m:MkV)(a:Option Addr×Nat)(s:GnS)(hB:GnB 999500 s)(q z:Int)(dst:Nat):bZ prog 73 [.pointer (some ⟨mb,0,none⟩),j6 q,j5 z,j5 (dst:Nat)] [mkO mb (m.st a s),mkS (m.st a s)] [] (λ(_:Option Addr×Nat)=> .tuple #[]) (λ(x:Option Addr×Nat)=>[mkO mb (m.st x (againG q z dst s)),mkS (m.st x (againG q z dst s))]) (λ_=>[]):=by
 have hT:=cO;refine i7 func73 ntmps73 ?_;intro β hM;refine g5 ?_;refine ss (cC rfl rfl (tL _ _ _ _)) ?_;refine bG func28 (fN mb m a _ (hB.le k9) (⟨10,q,q,0,1⟩:cA) 0) rfl rfl (.c0 (.c0 .nil)) e8 λg=>?_;have d:=fO (i:=(⟨10,q,q,0,1⟩:cA)) (dst:=0) hB;refine g6 ?_;refine bG func68 (fT mb m g _ (d.le k9) (6) (z)) rfl rfl (.c0 (.c0 .nil)) e8 λf=>?_;have c:=jM (a:=6) (z:=z) d;refine g6 ?_;refine bG func137 (bIn mb m f _ (c.le k9) (q) (6) (dst)) rfl rfl (.c0 (.c0 .nil)) e8 λe=>?_;have h:=zX (a:=q) (b:=6) (dst:=dst) c;refine jO ?_;exact cT e rfl (.c0 (.c0 .nil)) e8 rfl
theorem vZ(mb:Nat)(m:MkV)(a:Option Addr×Nat)(s:GnS)(hB:GnB 999500 s)(x:gV)(p:Int)(hb0:0<=x.buf)(hbs:x.buf.toNat<m.size.list.length)(hsz:m.size.list.length=m.at_.list.length)(hA:(bD x.at_.list m.dims.list).2=0->0<=(bD x.at_.list m.dims.list).1)(hS: ∀z∈m.size.list,0<=z/\z<=1000000)(hU: ∀z∈m.at_.list,0<=z/\z<=200000000)(hdl:m.dims.list.length<=140737488355328):bZ prog 70 [.pointer (some ⟨mb,0,none⟩),.agg #[j5 x.how,j5 x.buf,j0 x.at_,j0 x.loops,j6 x.fn,j0 x.ops],j6 p] [mkO mb (m.st a s),mkS (m.st a s)] [oL x,cK.sl (j0 m.dims) m.dims.list,cK.sl (j0 m.at_) m.at_.list,cK.sl (j0 m.size) m.size.list] (λ(_:Option Addr×Nat)=> .tuple #[]) (λ(y:Option Addr×Nat)=>[mkO mb (m.st y (storeG m.M x.c p s)),mkS (m.st y (storeG m.M x.c p s))]) (λ_=>[]):=by
 have hT:=cO
 obtain⟨z,hz⟩: ∃z,m.size.list[x.buf.toNat]?=some z:=⟨_,D7 hbs⟩
 obtain⟨u,hu⟩:=gx m.at_.list x.buf.toNat;have B:=hS z (f4 hz);have C:=hU u (f4 hu);have g:m.size.list.getD x.buf.toNat 0=z:=tO hz;have q:m.at_.list.getD x.buf.toNat 0=u:=tO hu;refine i7 func70 ntmps70 ?_;intro β hM;refine g2 ?_;refine i6 λJ=>?_;refine g7 ?_;refine bP (fB x.at_) (stepF_a d7) ?_;refine f7 func131 (bMp mb m a s x.at_ hdl) (.c1 .nil) ⟨d7,d9,e8⟩ λ_=>?_;refine g9 ?_
 by_cases d:(bD x.at_.list m.dims.list).2=0
 .rw[show decide ((bD x.at_.list m.dims.list).2=0)=true from decide_eq_true d,show oB m.dims.list x.at_.list=(bD x.at_.list m.dims.list).1 from if_pos d];have G:=hA d;refine dC _ _ [(true,0),(true,1),(true,2),(true,3),(true,4),(true,5),(true,6),(true,7),(true,8),(true,9),(true,10),(true,11),(true,12),(true,13)] dJ l8 (.c0 (.c0 (.c0 .nil))) bA.self ?_;refine g10 ?_;refine stM rfl (bJ hT (k:=x.buf.toNat) (bV e7) rfl rfl rfl rfl rfl rfl (aM hb0).symm (k9)) ?_;refine stM rfl (jB hz 0) ?_;refine g4 ?_;refine bRd (λb=>?_) λb=>?_
  .refine g7 ?_;refine bG func132 (vL mb m a _ (hB.le k9) (m.fail)) rfl rfl (.c0 (.c1 .nil)) e8 λA=>?_;have E:=sA (dst:=m.fail) hB;refine g4 ?_;have j:storeG m.M x.c p s=mJ (m.fail) (s):=if_pos (.inr (by show m.M.size.getD x.c.buf.toNat 0<=_;rw[show m.M.size.getD x.c.buf.toNat 0=z from g];exact b));rw[show(λy:Option Addr×Nat=>[mkO mb (m.st y (storeG m.M x.c p s)),mkS (m.st y (storeG m.M x.c p s))])=λy=>[mkO mb (m.st y (mJ (m.fail) (s))),mkS (m.st y (mJ (m.fail) (s)))] by rw[j]];exact cT A rfl (.c0 (.c0 .nil)) e8 rfl
  refine g3 ?_;refine dC _ _ [(true,0),(true,1),(true,2),(true,3),(true,5),(true,6),(true,9),(false,4),(true,7),(true,8),(true,10),(false,11)] dJ l8 (.c1 .nil) bA.self ?_;refine g10 ?_;refine stM rfl (bJ hT (k:=x.buf.toNat) (bV e7) rfl rfl rfl rfl rfl rfl (aM hb0).symm (k9)) ?_;refine stM rfl (jB hz 0) ?_;refine one ?_;refine bF (z':=z-(bD x.at_.list m.dims.list).1) (nN k9 k9) ?_;refine one ?_;refine bG func138 (bJz mb m a _ (hB.le k9) (5) ((z-(bD x.at_.list m.dims.list).1))) rfl rfl (.c0 (.c1 .nil)) e8 λw=>?_;have n:=bAk (f:=m.fail) (a:=5) (z:=(z-(bD x.at_.list m.dims.list).1)) hB;refine g4 ?_;refine dC _ _ [(true,0),(true,1),(true,2),(true,3),(true,4),(true,6),(true,7),(true,10),(false,5),(true,8),(true,9),(true,11),(true,12),(true,13),(false,14)] dJ l8 (.c2 .nil) bA.self ?_;refine g11 ?_;refine stM rfl (bJ hT (k:=x.buf.toNat) (bV e6) rfl rfl rfl rfl rfl rfl (aM hb0).symm (k9)) ?_;refine stM rfl (jB hu 0) ?_;refine one ?_;refine bF (z':=u+(bD x.at_.list m.dims.list).1) (nN k9 k9) ?_;refine one ?_;refine bF (z':=w32 (u+(bD x.at_.list m.dims.list).1)) (lF _) ?_;refine stM rfl (cC rfl rfl (tL _ _ _ _)) ?_;refine one ?_;refine bG func28 (fN mb m w _ (n.le k9) (⟨6,p,5,0,w32 (u+(bD x.at_.list m.dims.list).1)⟩:cA) 0) rfl rfl (.c0 (.c0 .nil)) e8 λv=>?_;have l:=fO (i:=(⟨6,p,5,0,w32 (u+(bD x.at_.list m.dims.list).1)⟩:cA)) (dst:=0) n;refine g5 ?_;refine ss (cC rfl rfl (tL _ _ _ _)) ?_;refine bG func28 (fN mb m v _ (l.le k9) (⟨10,5,5,0,1⟩:cA) 0) rfl rfl (.c0 (.c0 .nil)) e8 λt=>?_;have D:=fO (i:=(⟨10,5,5,0,1⟩:cA)) (dst:=0) l;refine jO ?_;have j:storeG m.M x.c p s=dL (⟨10,5,5,0,1⟩:cA) 0 (dL (⟨6,p,5,0,w32 (u+(bD x.at_.list m.dims.list).1)⟩:cA) 0 (jS m.fail (5) ((z-(bD x.at_.list m.dims.list).1)) (s))):=by unfold storeG;rw[show m.M.size.getD x.c.buf.toNat 0=z from g,show m.M.at_.getD x.c.buf.toNat 0=u from q];exact if_neg (λe=>e.elim (λh=>h d) (λh=>by have I:z<=(bD x.at_.list m.dims.list).1:=h;omega))
  rw[show(λy:Option Addr×Nat=>[mkO mb (m.st y (storeG m.M x.c p s)),mkS (m.st y (storeG m.M x.c p s))])=λy=>[mkO mb (m.st y (dL (⟨10,5,5,0,1⟩:cA) 0 (dL (⟨6,p,5,0,w32 (u+(bD x.at_.list m.dims.list).1)⟩:cA) 0 (jS m.fail (5) ((z-(bD x.at_.list m.dims.list).1)) (s))))),mkS (m.st y (dL (⟨10,5,5,0,1⟩:cA) 0 (dL (⟨6,p,5,0,w32 (u+(bD x.at_.list m.dims.list).1)⟩:cA) 0 (jS m.fail (5) ((z-(bD x.at_.list m.dims.list).1)) (s)))))] by rw[j]];exact cT t rfl (.c0 (.c0 .nil)) e8 rfl
 rw[show decide ((bD x.at_.list m.dims.list).2=0)=false from decide_eq_false d];refine dC _ _ [(true,0),(true,1),(true,2),(true,3),(true,4),(true,5),(true,6),(true,7),(true,8),(true,9),(true,10),(true,11),(true,12),(true,13)] dJ l8 (.c0 (.c0 (.c0 .nil))) bA.self ?_;refine g24 ?_;refine bG func132 (vL mb m a _ (hB.le k9) (m.fail)) rfl rfl (.c0 (.c1 .nil)) e8 λo=>?_;have r:=sA (dst:=m.fail) hB;refine g4 ?_;have j:storeG m.M x.c p s=mJ (m.fail) (s):=if_pos (.inl d);rw[show(λy:Option Addr×Nat=>[mkO mb (m.st y (storeG m.M x.c p s)),mkS (m.st y (storeG m.M x.c p s))])=λy=>[mkO mb (m.st y (mJ (m.fail) (s))),mkS (m.st y (mJ (m.fail) (s)))] by rw[j]];exact cT o rfl (.c0 (.c0 .nil)) e8 rfl
section
variable {P : Program} {β : dE} {n : Nat} {Γ : Env} {H : List bC} {F : List bE} {o : Oper} {x : Operand} {t tt e : TypeId} {A : Option Addr} {q c : Nat}
theorem sti_isnil(ht:P.underlying t=some (.slice e))(ho:o.op= .binOp .eql t x (.const (.slice none 0 0)) tt)(hx:Γ.ev x=some (.slice A q c)):Sti P β n Γ H F o (.bool A.isNone):=λa w S f s k=>by
 have h1: ∀d,(Op.equalIn (d+1) t (.slice A q c) (.slice none 0 0)).run P w= .ok A.isNone w:=λd=>by cases A<;>simp[Op.equalIn,run_underlying ht]
 unfold execOp;have e:a.eval (.const (.slice none 0 0))= .slice none 0 0:=rfl;simp only[ho,f.ev hx,e]
 have hb:(binOp .eql t (.slice A q c) (.slice none 0 0)).run P w= .ok (.bool A.isNone) w:=by
  simp only[binOp];have b:(Op.equal t (.slice A q c) (.slice none 0 0)).run P w= .ok A.isNone w:=h1 9999;rw[Sem.run_bind,b];rfl
 have hg:(eqGuard .eql t x (.const (.slice none 0 0)) (.slice A q c) (.slice none 0 0)).run P w= .ok () w:=by
  unfold eqGuard;simp
 rw[Sem.run_bind,Sem.run_bind,hg,Result.andThen_ok,hb];rfl
end
theorem has_isnil{α:Type}{E:Flat α}{F:List bE}{A:Option Addr}{m c:Nat}{l:List α}(h:Has F (E.sl (.slice A m c) l)):Has F (bE.pure (A.isNone=true->l=[])):=λS w k a=>by
 obtain⟨i,g,e,h⟩:=h S w k
 cases l with
 |nil=>rfl
 |cons x r=>
  obtain⟨b,o,f,d,_⟩:=h 0 x rfl;injection e with e
  subst e;subst d;cases a
theorem clone_spec(A:Option Addr)(c:Nat)(l:List Int)(hl:l.length<=17592186044416):bZ prog 49 [.slice A l.length c] [] [cK.sl (.slice A l.length c) l] (λ(x:Option Addr×Nat)=> .slice x.1 l.length x.2) (λ(x:Option Addr×Nat)=>[cK.row (.slice x.1 l.length x.2) 2 l]) (λ_=>[]):=by
 have hT:=cO;refine i7 func49 ntmps49 ?_;intro β hM;refine g9 ?_;refine ss (sti_isnil underlying27 rfl rfl) ?_;refine g2 ?_;refine uY (λd=>?_) λd=>?_
 .refine fS<|bP (bE.pure (A.isNone=true->l=[])) (has_isnil d7) ?_;refine bM d7 λa=>?_;have b:=a ‹_›;subst b;refine cG (t:=2) cK ?_;refine g6 ?_;exact rs1 (_,_) trivial
 refine g4 ?_;refine bRq rfl rfl rfl rfl λe=>?_;refine one ?_;refine mP .head (bV d7) rfl rfl rfl rfl rfl rfl rfl n9 λf c3=>?_;rw[List.nil_append];refine g4 ?_;exact rs1 (_,_) trivial
section
variable {f a b : Int} {two : Bool}
theorem qI(h:f<1\/17<f):V6 false= .bool (nG f two):=by rw[nG,if_pos h]
theorem bEu(_h1: ¬f<1)(_h2: ¬17<f)(h:f=16):V6 (!two)= .bool (nG f two):=by rw[nG,if_neg k9,if_pos h]
theorem bFy(h1: ¬f<1)(h2: ¬17<f)(h:f≠16)(ht:two=true):V6 true= .bool (nG f two):=by rw[nG,if_neg k9,if_neg h,ht];rfl
theorem bEh(h1: ¬f<1)(h2: ¬17<f)(h:f≠16)(ht:two=false):V6 (decide (f<=7))= .bool (nG f two):=by rw[nG,if_neg k9,if_neg h,ht];rfl
theorem rest_a(h:a.tmod b≠0)(h2:decide (a.tmod b<0)≠decide (b<0)):V9 .i64 (w64 (a.tmod b+b))= j5 (vI a b):=by rw[vI,if_pos ⟨h,h2⟩]
theorem rest_b(h2:decide (a.tmod b<0)=decide (b<0)):V9 .i64 (a.tmod b)= j5 (vI a b):=by rw[vI,if_neg (λh=>h.2 h2)]
theorem rest_c(h:a.tmod b=0):V9 .i64 (a.tmod b)= j5 (vI a b):=by rw[vI,if_neg (λc=>c.1 h)]
theorem nz4(hr:fU f a b=false)(h:f=4):b≠0:=by
 rw[fU,if_pos h]at hr
 simpa using hr
theorem nn17(hr:fU f a b=false)(h:f=17):0<=b:=by
 rw[fU,if_neg k9,if_pos h]at hr
 simpa using hr
theorem big1_t(h:1<IntKind.u64.wrap a):big1 a=true:=decide_eq_true h
theorem big1_g(h:IntKind.u64.wrap a<=1):big1 a=false:=decide_eq_false k9
theorem dy1(h:f=1):V9 .i64 (w64 (a+b))= j5 (rO f a b):=by subst h;rfl
theorem dy2(h:f=2):V9 .i64 (w64 (a-b))= j5 (rO f a b):=by subst h;rfl
theorem dy3(h:f=3):V9 .i64 (w64 (a*b))= j5 (rO f a b):=by subst h;rfl
theorem dy4a(h:f=4)(hn:vI a b≠a.tmod b):V9 .i64 (w64 (w64 (a.tdiv b)-1))= j5 (rO f a b):=by
 subst h;show _=V9 .i64 (divW a b);rw[divW,if_pos hn]
theorem dy4b(h:f=4)(hn:vI a b=a.tmod b):V9 .i64 (w64 (a.tdiv b))= j5 (rO f a b):=by
 subst h;show _=V9 .i64 (divW a b);rw[divW,if_neg (λe=>e hn)]
theorem dy5a(h:f=5)(h0:a=0):V9 .i64 b= j5 (rO f a b):=by subst h h0;rfl
theorem dy5b(h:f=5)(h0:a≠0):V9 .i64 (vI b a)= j5 (rO f a b):=by
 subst h;show _=V9 .i64 (if a=0 then b else vI b a);rw[if_neg h0]
theorem dy6(h:f=6):V9 .i64 (if b<a then b else a)= j5 (rO f a b):=by subst h;rfl
theorem dy7(h:f=7):V9 .i64 (if b>a then b else a)= j5 (rO f a b):=by subst h;rfl
theorem dy14(h:f=14):V9 .i64 (andW a b)= j5 (rO f a b):=by subst h;rfl
theorem dy15(h:f=15):V9 .i64 (orW a b)= j5 (rO f a b):=by subst h;rfl
theorem dy17(h:f=17):V9 .i64 (bEt a b)= j5 (rO f a b):=by subst h;rfl
theorem dyE(h1:f≠1)(h2:f≠2)(h3:f≠3)(h4:f≠4)(h5:f≠5)(h6:f≠6)(h7:f≠7)(h8:f≠14)(h9:f≠15)(h10:f≠17):V9 .i64 (vT (vU f a b))= j5 (rO f a b):=by
 simp only[rO,h1,h2,h3,h4,h5,h6,h7,h8,h9,h10,if_false]
theorem mo1(h:nG f false=false):aN #[j5 0,j5 10]= .tuple #[j5 (gC f a).1,j5 (gC f a).2]:=by simp[gC,h]
theorem mo2(h:f=2):aN #[j5 (w64 (0-a)),j5 0]= .tuple #[j5 (gC f a).1,j5 (gC f a).2]:=by subst h;rfl
theorem mo3(h:f=3):aN #[j5 (w64 (vT (decide (0<a))-vT (decide (a<0)))),j5 0]= .tuple #[j5 (gC f a).1,j5 (gC f a).2]:=by subst h;rfl
theorem mo4(h:f=4):aN #[j5 (vJ f 1 a).1,j5 (vJ f 1 a).2]= .tuple #[j5 (gC f a).1,j5 (gC f a).2]:=by subst h;rfl
theorem mo5(h:f=5):aN #[j5 (if w64 (0-a)>a then w64 (0-a)else a),j5 0]= .tuple #[j5 (gC f a).1,j5 (gC f a).2]:=by subst h;rfl
theorem mo16a(h:f=16)(hb:big1 a=true):aN #[j5 0,j5 11]= .tuple #[j5 (gC f a).1,j5 (gC f a).2]:=by
 subst h;have e:gC 16 a=if big1 a=true then (0,11)else (xorW a 1,0):=rfl
 rw[e,if_pos hb]
theorem mo16b(h:f=16)(hb:big1 a=false):aN #[j5 (xorW a 1),j5 0]= .tuple #[j5 (gC f a).1,j5 (gC f a).2]:=by
 subst h;have e:gC 16 a=if big1 a=true then (0,11)else (xorW a 1,0):=rfl
 rw[e,if_neg (by rw[hb];simp)]
theorem moE(ht:nG f false=true)(h2:f≠2)(h3:f≠3)(h4:f≠4)(h5:f≠5)(h6:f≠16):aN #[j5 a,j5 0]= .tuple #[j5 (gC f a).1,j5 (gC f a).2]:=by
 simp only[gC,ht,h2,h3,h4,h5,h6,if_false,Bool.true_eq_false]
end
theorem and_one(m:Nat):w64 (((BitVec.ofInt 64 (m:Int))&&&(BitVec.ofInt 64 1)).toNat:Nat)=((m%2:Nat):Int):=by
 have d:(BitVec.ofInt 64 (m:Int))=BitVec.ofNat 64 m:=by simp
 have c:(BitVec.ofInt 64 1)=BitVec.ofNat 64 1:=l5
 rw[d,c,BitVec.toNat_and,BitVec.toNat_ofNat,BitVec.toNat_ofNat];have b:(m%2^64)&&&(1%2^64)=(m%2^64)%2:=Nat.and_one_is_mod _;rw[b];have a:(m%2^64)%2=m%2:=k9
 rw[a];exact rn_w64 k9 k9
section
variable {k m : Nat} {p a r : Int}
theorem raised_end(h:lI k p a m=r)(hm:m=0):r=p:=by
 cases k with
 |zero=>exact h.symm
 |succ k=>
  rw[lI,if_pos hm]at h;exact h.symm
theorem bJk(h:lI k p a m=r)(hk:m<k)(hm:0<m):lI (k-1) (if m%2=1 then w64 (p*a)else p) (w64 (a*a)) (m/2)=r:=by
 obtain⟨k,rfl⟩: ∃j,k=j+1:=⟨k-1,k9⟩
 rw[lI,if_neg k9]at h;exact h
theorem bOu(h:lI k p a m=r)(hk:m<k)(hm:0<m)(h1:m%2=1):lI (k-1) (w64 (p*a)) (w64 (a*a)) (m/2)=r:=by
 have:=bJk h hk hm;rw[if_pos h1]at this;exact this
theorem bJl(h:lI k p a m=r)(hk:m<k)(hm:0<m)(h1: ¬m%2=1):lI (k-1) p (w64 (a*a)) (m/2)=r:=by
 have:=bJk h hk hm;rw[if_neg h1]at this;exact this
end
theorem oX(f:Int)(two:Bool):bZ prog 100 [j6 f,.bool two] [] [] (λ(_:Unit)=> .bool (nG f two)) (λ_=>[]) (λ_=>[]):=by
 have hT:=cO;refine i7 func100 ntmps100 ?_;intro β hM;refine g12 ?_;refine vP (λc=>?_) λc=>?_
 .refine g15 ?_;exact rs1 () e8 (he:=by first|exact qI (.inl k9)|exact qI (.inr k9)|exact bEu k9 k9 k9|exact bFy k9 k9 k9 ‹_›|exact bEh k9 k9 k9 ‹_›)
 refine g6 ?_;refine fD (λd=>?_) λd=>?_
 .refine g8 ?_;exact rs1 () e8 (he:=by first|exact qI (.inl k9)|exact qI (.inr k9)|exact bEu k9 k9 k9|exact bFy k9 k9 k9 ‹_›|exact bEh k9 k9 k9 ‹_›)
 refine g7 ?_;refine fG (λb=>?_) λb=>?_
 .refine g10 ?_;exact rs1 () e8 (he:=by first|exact qI (.inl k9)|exact qI (.inr k9)|exact bEu k9 k9 k9|exact bFy k9 k9 k9 ‹_›|exact bEh k9 k9 k9 ‹_›)
 refine g7 ?_;refine dB (λa=>?_) (λa=>?_)
 .refine g7 ?_;exact rs1 () e8 (he:=by first|exact qI (.inl k9)|exact qI (.inr k9)|exact bEu k9 k9 k9|exact bFy k9 k9 k9 ‹_›|exact bEh k9 k9 k9 ‹_›)
 refine g7 ?_;exact rs1 () e8 (he:=by first|exact qI (.inl k9)|exact qI (.inr k9)|exact bEu k9 k9 k9|exact bFy k9 k9 k9 ‹_›|exact bEh k9 k9 k9 ‹_›)
theorem bTm(a b:Int)(hb:b≠0):bZ prog 260 [j5 a,j5 b] [] [] (λ(_:Unit)=> j5 (vI a b)) (λ_=>[]) (λ_=>[]):=by
 have hT:=cO;refine i7 func260 ntmps260 ?_;intro β hM;refine g9 ?_;refine ss (sti_remI rfl rfl rfl (hb)) ?_;refine g9 ?_;refine k_ne (λc=>?_) λc=>?_
 .refine g8 ?_;refine bEw (λd=>?_) λd=>?_
  .refine g14 ?_;exact rs1 () e8 (he:=by first|exact rest_a ‹_› ‹_›|exact rest_b ‹_›|exact rest_c ‹_›)
  refine g9 ?_;exact rs1 () e8 (he:=by first|exact rest_a ‹_› ‹_›|exact rest_b ‹_›|exact rest_c ‹_›)
 refine g18 ?_;exact rs1 () e8 (he:=by first|exact rest_a ‹_› ‹_›|exact rest_b ‹_›|exact rest_c ‹_›)
theorem bCw(t:Bool):bZ prog 226 [.bool t] [] [] (λ(_:Unit)=> j5 (vT t)) (λ_=>[]) (λ_=>[]):=by
 have hT:=cO;refine i7 func226 ntmps226 ?_;intro β hM;refine g11 ?_;refine uY (λa=>?_) λa=>?_
 .refine g7 ?_;exact rs1 () e8 (he:=by simp[vT, *])
 refine g8 ?_;exact rs1 () e8 (he:=by simp[vT, *])
theorem refuses_spec(f a b:Int):bZ prog 224 [j6 f,j5 a,j5 b] [] [] (λ(_:Unit)=> .bool (fU f a b)) (λ_=>[]) (λ_=>[]):=by
 have hT:=cO;refine i7 func224 ntmps224 ?_;intro β hM;refine g18 ?_;refine cR rfl (λh=>?_) (λh=>?_)
 .have l:=h;have h:=eq_of_beq h;refine g10 ?_;exact rs1 () e8 (he:=by first|(simp[fU, *];done)|(simp[fU, *];rfl))
 have l:=h;have h:=beq_eq_false_iff_ne.1 h;refine g6 ?_;refine cR rfl (λg=>?_) (λg=>?_)
 .have k:=g;have g:=eq_of_beq g;refine g10 ?_;exact rs1 () e8 (he:=by first|(simp[fU, *];done)|(simp[fU, *];rfl))
 have k:=g;have g:=beq_eq_false_iff_ne.1 g;refine g7 ?_;refine cR rfl (λe=>?_) (λe=>?_)
 .have i:=e;have e:=eq_of_beq e;refine g2 ?_;refine mT rfl i ?_;refine g6 ?_;refine dB (λd=>?_) (λd=>?_)
  .have d:=of_decide_eq_true d;have m:=big1_t (a:=a) ‹_›;refine g10 ?_;exact rs1 () e8 (he:=by first|(simp[fU, *];done)|(simp[fU, *];rfl))
  have d:=V8.1 (of_decide_eq_false d);have m:=big1_g (a:=a) ‹_›;refine g10 ?_;exact rs1 () e8 (he:=by first|(simp[fU, *];done)|(simp[fU, *];rfl))
 have i:=e;have e:=beq_eq_false_iff_ne.1 e;refine g5 ?_;refine cR rfl (λc=>?_) (λc=>?_)
 .have j:=c;have c:=eq_of_beq c;refine g6 ?_;refine dB (λd=>?_) (λd=>?_)
  .have d:=of_decide_eq_true d;have m:=big1_t (a:=a) ‹_›;refine g10 ?_;exact rs1 () e8 (he:=by first|(simp[fU, *];done)|(simp[fU, *];rfl))
  have d:=V8.1 (of_decide_eq_false d);have m:=big1_g (a:=a) ‹_›;refine g10 ?_;exact rs1 () e8 (he:=by first|(simp[fU, *];done)|(simp[fU, *];rfl))
 have j:=c;have c:=beq_eq_false_iff_ne.1 c;refine g9 ?_;exact rs1 () e8 (he:=by first|(simp[fU, *];done)|(simp[fU, *];rfl))
theorem raised_spec(a:Int)(m:Nat):bZ prog 261 [j5 a,j5 (m:Nat)] [] [] (λ(_:Unit)=> j5 (bEt a (m:Nat))) (λ_=>[]) (λ_=>[]):=by
 have hT:=cO;generalize e:bEt a (m:Nat)=r;refine i7 func261 ntmps261 ?_;intro β hM;refine g12 ?_;refine bY (ι:=Nat×Int×Int×Nat) [] e8 (λ⟨k,p,a,m⟩=>[(0,.int .i64 a),(1,.int .i64 (m:Nat)),(5,.int .i64 p)]) (λ_=>[]) (λ⟨k,p,a,m⟩=>[bE.pure (m<k/\lI k p a m=r)]) (λ⟨k,p,a,m⟩=>m) (m+1,1,a,m) ⟨rfl,rfl,rfl,e8⟩ .nil ⟨e9 (⟨k9,by rw[<-e,bEt,Int.toNat_natCast]⟩),e8⟩ ?_;rintro⟨k,p,a,m⟩;dsimp only;refine bM d7 λb=>?_;refine g7 ?_;refine fD (λd=>?_) λd=>?_
 .refine g9 ?_;refine bF (z':=((m%2:Nat):Int)) (and_one m) ?_;refine g3 ?_;refine fG (λc=>?_) λc=>?_
  .refine g17 ?_;refine ss (sti_half rfl rfl rfl l5) ?_;refine bF (z':=((m/2:Nat):Int)) (halfN m) ?_;refine g3 ?_;exact iC (k-1,_,_,m/2) n3 ⟨rfl,rfl,rfl,e8⟩ e8 .nil ⟨e9 (⟨by dsimp only;omega,by first|exact bOu b.2 b.1 k9 k9|exact bJl b.2 b.1 k9 k9⟩),e8⟩ (bA.drop 1)
  refine g12 ?_;refine ss (sti_half rfl rfl rfl l5) ?_;refine bF (z':=((m/2:Nat):Int)) (halfN m) ?_;refine g3 ?_;exact iC (k-1,_,_,m/2) n3 ⟨rfl,rfl,rfl,e8⟩ e8 .nil ⟨e9 (⟨by dsimp only;omega,by first|exact bOu b.2 b.1 k9 k9|exact bJl b.2 b.1 k9 k9⟩),e8⟩ (bA.drop 1)
 refine g12 ?_;have hr:=raised_end b.2 k9;subst hr;exact rs1 () trivial
theorem holds_spec(f a b:Int):bZ prog 262 [j6 f,j5 a,j5 b] [] [] (λ(_:Unit)=> .bool (vU f a b)) (λ_=>[]) (λ_=>[]):=by
 have hT:=cO;refine i7 func262 ntmps262 ?_;intro β hM;refine g18 ?_;refine fG (λh=>?_) λh=>?_
 .refine g11 ?_;exact rs1 () e8 (he:=by simp[vU, *])
 refine g6 ?_;refine fG (λg=>?_) λg=>?_
 .refine g11 ?_;exact rs1 () e8 (he:=by simp[vU, *])
 refine g6 ?_;refine fG (λe=>?_) λe=>?_
 .refine g11 ?_;exact rs1 () e8 (he:=by simp[vU, *])
 refine g6 ?_;refine fG (λd=>?_) λd=>?_
 .refine g11 ?_;exact rs1 () e8 (he:=by simp[vU, *])
 refine g6 ?_;refine fG (λc=>?_) λc=>?_
 .refine g11 ?_;exact rs1 () e8 (he:=by simp[vU, *])
 refine g12 ?_;exact rs1 () e8 (he:=by simp[vU, *])
theorem dyad_spec(f a b:Int)(hr:fU f a b=false):bZ prog 225 [j6 f,j5 a,j5 b] [] [] (λ(_:Unit)=> j5 (rO f a b)) (λ_=>[]) (λ_=>[]):=by
 have hT:=cO;refine i7 func225 ntmps225 ?_;intro β hM;refine g18 ?_;refine fG (λp=>?_) λp=>?_
 .refine g11 ?_;exact rs1 () e8 (he:=dy1 ‹_›)
 refine g6 ?_;refine fG (λo=>?_) λo=>?_
 .refine g11 ?_;exact rs1 () e8 (he:=dy2 ‹_›)
 refine g6 ?_;refine fG (λn=>?_) λn=>?_
 .refine g11 ?_;exact rs1 () e8 (he:=dy3 ‹_›)
 refine g6 ?_;refine fG (λl=>?_) λl=>?_
 .refine g4 ?_;refine ss (bNq rfl rfl rfl (nz4 hr ‹_›)) ?_;refine g5 ?_;refine dC _ _ [(true,0),(true,1),(true,3),(true,4),(true,5),(false,2),(true,6)] dJ l8 .nil bA.self ?_;refine g4 ?_;refine stM rfl (sti_remI rfl rfl rfl (nz4 hr ‹_›)) ?_;refine one ?_;refine bG func260 (bTm _ _ (nz4 hr ‹_›)) rfl rfl .nil e8 λ_=>?_;refine g4 ?_;refine bEw (λk=>?_) λk=>?_
  .refine g15 ?_;exact rs1 () e8 (he:=dy4a ‹_› ‹_›)
  refine g11 ?_;exact rs1 () e8 (he:=dy4b ‹_› ‹_›)
 refine g6 ?_;refine fG (λj=>?_) λj=>?_
 .refine g7 ?_;refine fG (λi=>?_) λi=>?_
  .refine g10 ?_;exact rs1 () e8 (he:=dy5a ‹_› ‹_›)
  refine g6 ?_;refine bG func260 (bTm _ _ ‹_›) rfl rfl .nil e8 λ_=>?_;refine g6 ?_;exact rs1 () e8 (he:=dy5b ‹_› ‹_›)
 refine g6 ?_;refine fG (λh=>?_) λh=>?_
 .refine g11 ?_;exact rs1 () e8 (he:=dy6 ‹_›)
 refine g6 ?_;refine fG (λg=>?_) λg=>?_
 .refine g11 ?_;exact rs1 () e8 (he:=dy7 ‹_›)
 refine g6 ?_;refine fG (λe=>?_) λe=>?_
 .refine g11 ?_;exact rs1 () e8 (he:=dy14 ‹_›)
 refine g6 ?_;refine fG (λd=>?_) λd=>?_
 .refine g11 ?_;exact rs1 () e8 (he:=dy15 ‹_›)
 refine g6 ?_;refine fG (λc=>?_) λc=>?_
 .refine fS ?_
  obtain⟨m,q⟩: ∃m:Nat,b=(m:Int):=⟨b.toNat,by have:=nn17 hr ‹_›;omega⟩
  subst q;refine g3 ?_;refine f7 func261 (raised_spec a m) .nil e8 λ_=>?_;refine g6 ?_;exact rs1 () e8 (he:=dy17 ‹_›)
 refine g8 ?_;refine f7 func262 (holds_spec _ _ _) .nil e8 λ_=>?_;refine f7 func226 (bCw _) .nil e8 λ_=>?_;refine g4 ?_;exact rs1 () e8 (he:=dyE ‹_› ‹_› ‹_› ‹_› ‹_› ‹_› ‹_› ‹_› ‹_› ‹_›)
theorem bVq(f a b:Int):bZ prog 173 [j6 f,j5 a,j5 b] [] [] (λ(_:Unit)=> .tuple #[j5 (vJ f a b).1,j5 (vJ f a b).2]) (λ_=>[]) (λ_=>[]):=by
 have hT:=cO;refine i7 func173 ntmps173 ?_;intro β hM;refine g10 ?_;refine f7 func100 (oX _ _) .nil e8 λ_=>?_;refine g3 ?_;refine bBd (λd=>?_) λd=>?_
 .refine g8 ?_;exact rs2 () e8 (he:=by simp[vJ, *])
 refine g8 ?_;refine f7 func224 (refuses_spec _ _ _) .nil e8 λ_=>?_;refine g2 ?_;refine uY (λc=>?_) λc=>?_
 .refine g8 ?_;exact rs2 () e8 (he:=by simp[vJ, *])
 refine g7 ?_;refine bG func225 (dyad_spec _ _ _ ‹_›) rfl rfl .nil e8 λ_=>?_;refine g5 ?_;exact rs2 () e8 (he:=by simp[vJ, *])
theorem Monad_spec(f a:Int):bZ prog 174 [j6 f,j5 a] [] [] (λ(_:Unit)=> .tuple #[j5 (gC f a).1,j5 (gC f a).2]) (λ_=>[]) (λ_=>[]):=by
 have hT:=cO;refine i7 func174 ntmps174 ?_;intro β hM;refine g10 ?_;refine f7 func100 (oX _ _) .nil e8 λ_=>?_;refine g3 ?_;refine bBd (λi=>?_) λi=>?_
 .refine g8 ?_;exact rs2 () e8 (he:=mo1 ‹_›)
 refine g15 ?_;refine fG (λh=>?_) λh=>?_
 .refine g11 ?_;exact rs2 () e8 (he:=mo2 ‹_›)
 refine g6 ?_;refine fG (λg=>?_) λg=>?_
 .refine g4 ?_;refine f7 func226 (bCw _) .nil e8 λ_=>?_;refine g2 ?_;refine f7 func226 (bCw _) .nil e8 λ_=>?_;refine g8 ?_;exact rs2 () e8 (he:=mo3 ‹_›)
 refine g6 ?_;refine fG (λe=>?_) λe=>?_
 .refine g4 ?_;refine f7 func173 (bVq _ _ _) .nil e8 λ_=>?_;refine g9 ?_;exact rs2 () e8 (he:=mo4 ‹_›)
 refine g6 ?_;refine fG (λd=>?_) λd=>?_
 .refine g13 ?_;exact rs2 () e8 (he:=mo5 ‹_›)
 refine g6 ?_;refine fG (λc=>?_) λc=>?_
 .refine g8 ?_;refine fD (λb=>?_) λb=>?_
  .have j:=big1_t (a:=a) ‹_›;refine g10 ?_;exact rs2 () e8 (he:=mo16a ‹_› ‹_›)
  have j:=big1_g (a:=a) ‹_›;refine g5 ?_;refine ss (sti_xorI rfl rfl rfl) ?_;refine g7 ?_;exact rs2 () e8 (he:=mo16b ‹_› ‹_›)
 refine g11 ?_;exact rs2 () e8 (he:=moE ‹_› ‹_› ‹_› ‹_› ‹_› ‹_›)
theorem Unit_spec(f:Int):bZ prog 72 [j6 f] [] [] (λ(_:Unit)=> .tuple #[j5 (unitW f).1,.bool (unitW f).2]) (λ_=>[]) (λ_=>[]):=by
 have hT:=cO;refine i7 func72 ntmps72 ?_;intro β hM;refine g19 ?_;refine cR rfl (λo=>?_) (λo=>?_)
 .have s:=o;have o:=eq_of_beq o;refine g9 ?_;exact rs2 () e8 (he:=by simp[unitW, *])
 have s:=o;have o:=beq_eq_false_iff_ne.1 o;refine g6 ?_;refine cR rfl (λn=>?_) (λn=>?_)
 .have r:=n;have n:=eq_of_beq n;refine g9 ?_;exact rs2 () e8 (he:=by simp[unitW, *])
 have r:=n;have n:=beq_eq_false_iff_ne.1 n;refine g7 ?_;refine cR rfl (λm=>?_) (λm=>?_)
 .have p:=m;have m:=eq_of_beq m;refine g2 ?_;refine mT rfl p ?_;refine g9 ?_;exact rs2 () e8 (he:=by simp[unitW, *])
 have p:=m;have m:=beq_eq_false_iff_ne.1 m;refine g6 ?_;refine cR rfl (λg=>?_) (λg=>?_)
 .have l:=g;have g:=eq_of_beq g;refine g2 ?_;refine mT rfl l ?_;refine g9 ?_;exact rs2 () e8 (he:=by simp[unitW, *])
 have l:=g;have g:=beq_eq_false_iff_ne.1 g;refine g6 ?_;refine cR rfl (λe=>?_) (λe=>?_)
 .have k:=e;have e:=eq_of_beq e;refine g2 ?_;refine mT rfl k ?_;refine g9 ?_;exact rs2 () e8 (he:=by simp[unitW, *])
 have k:=e;have e:=beq_eq_false_iff_ne.1 e;refine g6 ?_;refine cR rfl (λd=>?_) (λd=>?_)
 .have j:=d;have d:=eq_of_beq d;refine g2 ?_;refine mT rfl j ?_;refine g9 ?_;exact rs2 () e8 (he:=by simp[unitW, *])
 have j:=d;have d:=beq_eq_false_iff_ne.1 d;refine g6 ?_;refine cR rfl (λc=>?_) (λc=>?_)
 .have i:=c;have c:=eq_of_beq c;refine g2 ?_;refine mT rfl i ?_;refine g9 ?_;exact rs2 () e8 (he:=by simp[unitW, *])
 have i:=c;have c:=beq_eq_false_iff_ne.1 c;refine g6 ?_;refine cR rfl (λb=>?_) (λb=>?_)
 .have h:=b;have b:=eq_of_beq b;refine g2 ?_;refine mT rfl h ?_;refine g9 ?_;exact rs2 () e8 (he:=by simp[unitW, *])
 have h:=b;have b:=beq_eq_false_iff_ne.1 b;refine g5 ?_;refine cR rfl (λa=>?_) (λa=>?_)
 .have q:=a;have a:=eq_of_beq a;refine g9 ?_;exact rs2 () e8 (he:=by simp[unitW, *])
 have q:=a;have a:=beq_eq_false_iff_ne.1 a;refine g6 ?_;refine f7 func100 (oX _ _) .nil e8 λ_=>?_;refine g5 ?_;exact rs2 () e8 (he:=by simp[unitW, *])
theorem wQ{α β:Type}{f:α->β}{l:List α}{i:Nat}{x:α}(h:l[i]?=some x):(l.take (i+1)).map f=(l.take i).map f++[f x]:=by
 obtain⟨hlt,e⟩:=D9.1 h;subst e;rw[List.take_succ_eq_append_getElem hlt,List.map_append];rfl
theorem has_takeG{α:Type}{E:Flat α}{F:List bE}{A:Option Addr}{c k:Nat}{xs:List α}(h:Has F (E.sl (.slice A xs.length c) xs))(hk:k<=xs.length):Has F (E.sl (.slice A (xs.take k).length c) (xs.take k)):=by
 rw[W8,X6 hk];exact has_take h hk
theorem jJ{a b:Int}(h:a=b)(h1: -9223372036854775808<=b)(h2:b<9223372036854775808):IntKind.i64.wrap a=b:=by
 subst h;exact nN h1 h2
theorem lastG{l:List Int}{e:Int}(h:l[l.length-1]?=some e):l.getLastD 0=e:=by
 rw[List.getLastD_eq_getLast?,List.getLast?_eq_getElem?,h];rfl
section
variable {M : GnM} {x : bX} {s t b e : GnS} {L O : List Int} {n i : Nat} {Z : GnS}
theorem bSc(h:Z=zerosG (n-i) i t)(hi:i<n):Z=zerosG (n-(i+1)) (i+1) (numG ((1+i:Nat):Int) 0 t):=by
 obtain⟨k,rfl⟩: ∃k,n=i+k+1:=⟨n-i-1,k9⟩
 rw[h,show i+k+1-i=k+1 by omega,show i+k+1-(i+1)=k by omega];rfl
theorem bMf(h:Z=zerosG (n-i) i t)(hi:n<=i):Z=t:=by
 rw[h,show n-i=0 by omega];rfl
theorem bPp(hL:(x.loops.map λp=>(bD p M.dims).1)=L)(ho:fX x L=O)(hc:O.contains 0=true):lB M x s=s:=by
 unfold lB;dsimp only;rw[hL,ho];exact if_pos hc
theorem bFb(hL:(x.loops.map λp=>(bD p M.dims).1)=L)(ho:fX x L=O)(hc:O.contains 0=false)(hz:zerosG O.length 0 (numG 5 0 s)=t)(hb:nE M x L (hereG (t.marks+1) (markG t))=b)(he:endsG O (t.marks+1) O.length b=e):lB M x s=e:=by
 unfold lB;dsimp only;rw[hL,ho,if_neg (by rw[hc];decide),hz];exact(congrArg (endsG O (t.marks+1) O.length) hb).trans he
theorem bodyG1(h:x.how=1):nE M x L s=storeG M x 8 (opsG M x.ops 0 s):=if_pos h
theorem bodyG3(h:x.how=3):nE M x L s=storeG M x 7 (foldG x.fn (L.length:Nat) (opsG M x.ops 0 s)):=by
 unfold nE;rw[if_neg k9,if_pos h]
theorem bodyG0(h:x.how=2)(h0:L.getLastD 0=0):nE M x L s=storeG M x 7 (numG 7 (unitW x.fn).1 s):=by
 unfold nE;rw[if_neg k9,if_neg k9,if_pos h0]
theorem bodyG2(h:x.how=2)(h0:e=numG (L.length:Nat) 0 s){z:Int}(hz:L.getLastD 0=z)(hz0:z≠0):nE M x L s=storeG M x 7 (againG (L.length:Nat) z (e.marks+1) (foldG x.fn (L.length:Nat) (opsG M x.ops 0 (hereG (e.marks+1) (markG e))))):=by
 unfold nE;rw[if_neg k9,if_neg k9,hz,if_neg hz0,h0];rfl
end
set_option maxHeartbeats 2000000 in
theorem stepM_spec(mb:Nat)(m:MkV)(a:Option Addr×Nat)(s:GnS)(N:Nat)(hB:GnB N s)(x:gV)(hNb:N+12*x.ops.list.length+1000<=999000)(hh:x.how=1\/x.how=2\/x.how=3)(hv: ∀p∈polsL x.loops.list,(bD p m.dims.list).2=0)(hll:x.loops.list.length<=4)(hne:x.how=2->x.loops.list≠[])(hO:OpsG (opsL x.ops.list) m.at_.list.length)(hD:Deep (opsL x.ops.list) 0)(hb0:0<=x.buf)(hbs:x.buf.toNat<m.size.list.length)(hsz:m.size.list.length=m.at_.list.length)(hA:(bD x.at_.list m.dims.list).2=0->0<=(bD x.at_.list m.dims.list).1)(hS: ∀z∈m.size.list,0<=z/\z<=1000000)(hU: ∀z∈m.at_.list,0<=z/\z<=200000000)(hdl:m.dims.list.length<=140737488355328):bZ prog 27 [.pointer (some ⟨mb,0,none⟩),.agg #[j5 x.how,j5 x.buf,j0 x.at_,j0 x.loops,j6 x.fn,j0 x.ops]] [mkO mb (m.st a s),mkS (m.st a s)] [oL x,cK.sl (j0 m.dims) m.dims.list,cK.sl (j0 m.at_) m.at_.list,cK.sl (j0 m.size) m.size.list] (λ(_:Option Addr×Nat)=> .tuple #[]) (λ(y:Option Addr×Nat)=>[mkO mb (m.st y (lB m.M x.c s)),mkS (m.st y (lB m.M x.c s))]) (λ_=>[]):=by
 have hT:=cO;refine i7 func27 ntmps27 ?_;intro β hM;refine g2 ?_;refine i6 λb1=>?_;refine g9 ?_;refine cG (t:=2) cK<|bP (iY.sl (.slice x.loops.addr x.loops.list.length x.loops.cap) x.loops.list) (qM (mV d7)) ?_;refine g8 ?_;refine bY (ι:=Option Addr×Nat×List Int×Nat) [(0,_),(3,_),(16,_),(17,_)] ⟨rfl,rfl,rfl,rfl,e8⟩ (λ⟨LA,lc,acc,i⟩=>[(4,.slice LA acc.length lc),(18,.int .i64 (i:Nat))]) (λ⟨LA,lc,acc,i⟩=>[cK.row (.slice LA acc.length lc) 2 acc]) (λ⟨LA,lc,acc,i⟩=>[bE.pure (i<=x.loops.list.length/\acc.length=i/\acc=((polsL x.loops.list).take i).map (λp=>(bD p m.dims.list).1))]) (λ⟨LA,lc,acc,i⟩=>x.loops.list.length-i) (none,0,[],0) ⟨rfl,rfl,e8⟩ (.c0 .nil) ⟨e9 (⟨k9,rfl,rfl⟩),e8⟩ ?_;rintro⟨LA,lc,acc,i⟩;dsimp only;refine bM d7 λv=>?_;have hal:=v.2.1;refine g6 ?_;refine fD (λhc19=>?_) λhc19=>?_
 .refine g5 ?_;obtain⟨p1,V⟩:=gx x.loops.list i;refine bP (fB p1) (Has.each (qJ (mV d9)) (f4 V)) ?_;refine one ?_;refine ss (bJ hT (k:=i) (bV d9) rfl rfl rfl rfl rfl rfl rfl k9) ?_;refine ss (f8 hT (dO.knows (bV d9) (k:=i) (x:=p1) V 0)) ?_;refine g7 ?_;have hvx:(bD p1.list m.dims.list).2=0:=hv p1.list (f4 (cW V));refine bG func65 (qF (λ_=>by unfold zK;exact if_pos hvx) (qX mb m a s p1 hdl)) rfl rfl (.c2 .nil) ⟨d7,e7,e8⟩ λ_=>?_;refine pC (m:=(bD p1.list m.dims.list).1) rfl rfl rfl rfl rfl λb2=>?_;refine mP kT2 (fZ .head rfl) rfl rfl rfl rfl rfl rfl rfl p8 λA3 c4=>?_;refine g6 ?_;refine inc (i+1) ?_;refine g3 ?_;exact bk2 (A3,c4,acc++[(bD p1.list m.dims.list).1],i+1) ⟨e9 (⟨by dsimp only;omega,by dsimp only;rw[List.length_append,List.length_singleton];omega,by dsimp only;rw[v.2.2];exact(wQ (f:=(λp=>(bD p m.dims.list).1)) (cW V)).symm⟩),e8⟩
 refine g6 ?_;have hL:(polsL x.loops.list).map (λp=>(bD p m.dims.list).1)=acc:=by rw[v.2.2,List.take_of_length_le o8]
 have hLl:acc.length=x.loops.list.length:=k9
 refine bHh .head λhcap=>iQ (E:=cK) .head ?_;refine g13 ?_;refine fG (λo=>?_) λo=>?_
 .have hlen:=hne o;have hlen1:1<=acc.length:=by rw[hLl];exact List.length_pos_iff.2 hlen
  have ho:fX x.c acc=acc.take (acc.length-1):=(if_pos o).trans (List.dropLast_eq_take);refine g5 ?_;refine inc (acc.length-1) ?_;refine ss (bHl hT (k:=acc.length-1) rfl rfl rfl rfl rfl rfl k9) ?_;refine at_val (v':= .slice LA (acc.take (acc.length-1)).length lc) (by rw[W8,X6 k9])<|bP (cK.sl (.slice LA (acc.take (acc.length-1)).length lc) (acc.take (acc.length-1))) (has_takeG d7 k9) ?_;refine g7 ?_;have hOl:(acc.take (acc.length-1)).length<=4:=by rw[W8];omega
  refine bG func67 (pE LA lc (acc.take (acc.length-1)) k9 0) rfl rfl .nil ⟨d7,e8⟩ λ_=>?_;refine g2 ?_;refine uY (λh=>?_) λh=>?_
  .refine g2 ?_;have K:lB m.M x.c s=s:=bPp hL ho h;rw[show(λy:Option Addr×Nat=>[mkO mb (m.st y (lB m.M x.c s)),mkS (m.st y (lB m.M x.c s))])=λy=>[mkO mb (m.st y s),mkS (m.st y s)] by rw[K]];exact cT a rfl (.c1 (.c1 .nil)) e8 rfl
  refine g5 ?_;refine bG func68 (fT mb m a _ (hB.le k9) (5) (((0:Nat):Int))) rfl rfl (.c1 (.c1 .nil)) e8 λy5=>?_;have hB6:=jM (a:=5) (z:=((0:Nat):Int)) hB;refine g4 ?_
  obtain⟨Z,hZ⟩: ∃Z,zerosG (acc.take (acc.length-1)).length 0 (numG 5 0 s)=Z:=⟨_,rfl⟩
  refine g7 ?_;refine bY (ι:=(Option Addr×Nat)×GnS×Nat) [(0,_),(3,_),(4,_),(7,_),(43,_)] ⟨rfl,rfl,rfl,rfl,rfl,e8⟩ (λ⟨a1,t,i⟩=>[(44,.int .i64 (i:Nat))]) (λ⟨a1,t,i⟩=>[mkO mb (m.st a1 t),mkS (m.st a1 t)]) (λ⟨a1,t,i⟩=>[bE.pure (i<=(acc.take (acc.length-1)).length/\Z=zerosG ((acc.take (acc.length-1)).length-i) i t/\GnB (N+2+2*i) t)]) (λ⟨a1,t,i⟩=>(acc.take (acc.length-1)).length-i) (y5,numG (5) (((0:Nat):Int)) (s),0) ⟨rfl,e8⟩ (.c0 (.c0 .nil)) ⟨e9 (⟨k9,hZ.symm,hB6.le k9⟩),e8⟩ ?_;rintro⟨a1,t,i⟩;dsimp only;refine bM d7 λd=>?_;have n:=d.2.2;refine g6 ?_;refine fD (λG=>?_) λG=>?_
  .refine g14 ?_;refine inc (1+i) ?_;refine one ?_;refine bF (z':=((1+i:Nat):Int)) (gH rfl k9) ?_;refine bG func68 (fT mb m a1 _ (n.le k9) ((((1+i):Nat):Int)) (((0:Nat):Int))) rfl rfl (.c0 (.c0 .nil)) e8 λy7=>?_;have hB8:=jM (a:=(((1+i):Nat):Int)) (z:=((0:Nat):Int)) n;refine g5 ?_;refine inc (i+1) ?_;refine g3 ?_;exact bk2 (y7,numG ((((1+i):Nat):Int)) (((0:Nat):Int)) (t),i+1) ⟨e9 (⟨by dsimp only;omega,by dsimp only;exact bSc d.2.1 k9,by dsimp only;exact hB8.le k9⟩),e8⟩
  refine g6 ?_;have J:=hZ.trans (bMf d.2.1 k9);refine g2 ?_;refine bG func25 (pQ mb m a1 _ (n.le k9)) rfl rfl (.c0 (.c0 .nil)) e8 λy9=>?_;have U:=nO n;refine g7 ?_;refine bG func29 (pS mb m y9 _ (U.le k9) (t.marks+1)) rfl rfl (.c0 (.c0 .nil)) e8 λy11=>?_;have C:=nQ (k:=t.marks+1) U (aO U.m);refine g7 ?_;refine bF (z':=((acc.length:Nat):Int)) (gH rfl k9) ?_;refine g10 ?_;refine bQ (t':=false) (by rw[o];rfl) ?_;refine g9 ?_;refine bQ (t':=false) (by rw[o];rfl) ?_;refine g10 ?_;refine inc (acc.length-1) ?_;obtain⟨r,D⟩:=gx acc (acc.length-1);refine ss (bJ hT (k:=(acc.length-1)) (bV d9) rfl rfl rfl rfl rfl rfl rfl k9) ?_;refine ss (f8 hT (dO.knows (bV d9) (k:=(acc.length-1)) (x:=r) D 0)) ?_;have hla:=lastG D;refine g4 ?_;refine fG (λw=>?_) λw=>?_
  .refine g4 ?_;refine f7 func72 (Unit_spec x.fn) .nil e8 λ_=>?_;refine g11 ?_;refine bG func68 (fT mb m y11 _ (C.le k9) (7) ((unitW x.fn).1)) rfl rfl (.c0 (.c0 .nil)) e8 λy15=>?_;have hB16:=jM (a:=7) (z:=(unitW x.fn).1) C;refine g5 ?_;refine bG func70 (vZ mb m y15 (numG (7) ((unitW x.fn).1) (hereG (t.marks+1) (markG (t)))) (hB16.le k9) x 7 hb0 hbs hsz hA hS hU hdl) rfl rfl (.c0 (.c0 .nil)) ⟨(Has.of mT5),(Has.of mT6),(Has.of mT7),(Has.of mT8),e8⟩ λy17=>?_;have hB18:=qP (M:=m.M) (x:=x.c) (a:=7) hB16;refine g4 ?_;have A:nE m.M x.c acc (hereG (t.marks+1) (markG t))=storeG m.M x.c 7 (numG (7) ((unitW x.fn).1) (hereG (t.marks+1) (markG (t)))):=bodyG0 o (hla.trans w)
   obtain⟨E,q⟩: ∃E,endsG (acc.take (acc.length-1)) (t.marks+1) (acc.take (acc.length-1)).length (storeG m.M x.c 7 (numG (7) ((unitW x.fn).1) (hereG (t.marks+1) (markG (t)))))=E:=⟨_,rfl⟩
   refine g4 ?_;refine bF (z':=(((acc.take (acc.length-1)).length:Nat):Int)-1) (jJ rfl k9 k9) ?_;refine g4 ?_;refine bY (ι:=(Option Addr×Nat)×GnS×Nat) [(0,_),(7,_),(9,_)] ⟨rfl,rfl,rfl,e8⟩ (λ⟨a2,t2,j⟩=>[(14,.int .i64 ((j:Nat)-1:Int))]) (λ⟨a2,t2,j⟩=>[mkO mb (m.st a2 t2),mkS (m.st a2 t2)]) (λ⟨a2,t2,j⟩=>[bE.pure (j<=(acc.take (acc.length-1)).length/\E=endsG (acc.take (acc.length-1)) (t.marks+1) j t2/\GnB (N+12*x.ops.list.length+100+6*((acc.take (acc.length-1)).length-j)) t2)]) (λ⟨a2,t2,j⟩=>j) (y17,storeG m.M x.c 7 (numG (7) ((unitW x.fn).1) (hereG (t.marks+1) (markG (t)))),(acc.take (acc.length-1)).length) ⟨rfl,e8⟩ (.c0 (.c0 .nil)) ⟨e9 (⟨k9,q.symm,hB18.le k9⟩),e8⟩ ?_;rintro⟨a2,t2,j⟩;dsimp only;refine bM d7 λb=>?_;have e:=b.2.2;refine g7 ?_;refine bRd (λg=>?_) λg=>?_
   .obtain⟨i,rfl⟩: ∃i,j=i+1:=⟨j-1,k9⟩
    refine g9 ?_;refine inc (1+i) ?_;refine one ?_;refine bF (z':=((1+i:Nat):Int)) (gH rfl k9) ?_;refine g2 ?_;obtain⟨x19,hx20⟩:=gx (acc.take (acc.length-1)) i (k9);refine ss (bJ hT (k:=i) (bV d9) rfl rfl rfl rfl rfl rfl k9 (k9)) ?_;refine ss (f8 hT (dO.knows (bV d9) (k:=i) (x:=x19) hx20 0)) ?_;refine bF (z':=(acc.take (acc.length-1)).getD i 0) (tO hx20).symm ?_;refine one ?_;refine bG func73 (tF mb m a2 _ (e.le k9) ((1+i:Nat):Int) ((acc.take (acc.length-1)).getD i 0) (t.marks+1)) rfl rfl (.c0 (.c0 .nil)) e8 λy21=>?_;have hB22:=tG (i:=((1+i:Nat):Int)) (z:=((acc.take (acc.length-1)).getD i 0)) (dst:=t.marks+1) e;refine g6 ?_;refine inc (1+i) ?_;refine one ?_;refine bF (z':=((1+i:Nat):Int)) (gH rfl k9) ?_;refine bG func68 (fT mb m y21 _ (hB22.le k9) ((((1+i):Nat):Int)) (((0:Nat):Int))) rfl rfl (.c0 (.c0 .nil)) e8 λy23=>?_;have hB24:=jM (a:=(((1+i):Nat):Int)) (z:=((0:Nat):Int)) hB22;refine g6 ?_;refine bF (z':=((i:Nat):Int)-1) (jJ k9 k9 k9) ?_;refine g3 ?_;exact bk2 (y23,numG ((((1+i):Nat):Int)) (((0:Nat):Int)) (againG ((1+i:Nat):Int) ((acc.take (acc.length-1)).getD i 0) (t.marks+1) (t2)),i) ⟨e9 (⟨by dsimp only;omega,by dsimp only;exact b.2.1,by dsimp only;exact hB24.le k9⟩),e8⟩
   refine g4 ?_;have u:j=0:=k9
   subst u;have K:lB m.M x.c s=t2:=bFb hL ho h J A (q.trans b.2.1);rw[show(λy:Option Addr×Nat=>[mkO mb (m.st y (lB m.M x.c s)),mkS (m.st y (lB m.M x.c s))])=λy=>[mkO mb (m.st y t2),mkS (m.st y t2)] by rw[K]];exact cT a2 rfl (.c0 (.c0 .nil)) e8 rfl
  refine g4 ?_;refine bG func68 (fT mb m y11 _ (C.le k9) (((acc.length:Nat):Int)) (((0:Nat):Int))) rfl rfl (.c0 (.c0 .nil)) e8 λy25=>?_;have hB26:=jM (a:=((acc.length:Nat):Int)) (z:=((0:Nat):Int)) C;refine g5 ?_;refine bG func25 (pQ mb m y25 _ (hB26.le k9)) rfl rfl (.c0 (.c0 .nil)) e8 λy27=>?_;have R:=nO hB26;refine g7 ?_;refine bG func29 (pS mb m y27 _ (R.le k9) ((numG (((acc.length:Nat):Int)) (((0:Nat):Int)) (hereG (t.marks+1) (markG (t)))).marks+1)) rfl rfl (.c0 (.c0 .nil)) e8 λy29=>?_;have hB30:=nQ (k:=(numG (((acc.length:Nat):Int)) (((0:Nat):Int)) (hereG (t.marks+1) (markG (t)))).marks+1) R (aO R.m);refine g7 ?_;refine bP (bRl x.ops) (qK (Has.of mT5)) ?_;refine bG func69 (bHd mb m y29 (hereG ((numG (((acc.length:Nat):Int)) (((0:Nat):Int)) (hereG (t.marks+1) (markG (t)))).marks+1) (markG (numG (((acc.length:Nat):Int)) (((0:Nat):Int)) (hereG (t.marks+1) (markG (t)))))) _ hB30 x.ops k9 hO hsz hD hdl) rfl rfl (.c0 (.c0 .nil)) ⟨d7,(Has.of mT7),(Has.of mT8),(Has.of mT9),e8⟩ λy31=>?_;have Q:=bDc (M:=m.M) (l:=opsL x.ops.list) (k:=0) hB30;rw[dR]at Q;refine g8 ?_;refine bG func71 (bUo mb m y31 _ (Q.le k9) x.fn ((acc.length:Nat):Int)) rfl rfl (.c0 (.c0 .nil)) e8 λy33=>?_;have hB34:=bLi (f:=x.fn) (i:=((acc.length:Nat):Int)) Q;refine g10 ?_;refine inc (acc.length-1) ?_;refine ss (bJ hT (k:=(acc.length-1)) (bV e6) rfl rfl rfl rfl rfl rfl rfl k9) ?_;refine ss (f8 hT (dO.knows (bV e6) (k:=(acc.length-1)) (x:=r) D 0)) ?_;refine one ?_;refine bG func73 (tF mb m y33 _ (hB34.le k9) ((acc.length:Nat):Int) r ((numG (((acc.length:Nat):Int)) (((0:Nat):Int)) (hereG (t.marks+1) (markG (t)))).marks+1)) rfl rfl (.c0 (.c0 .nil)) e8 λy35=>?_;have hB36:=tG (i:=((acc.length:Nat):Int)) (z:=r) (dst:=(numG (((acc.length:Nat):Int)) (((0:Nat):Int)) (hereG (t.marks+1) (markG (t)))).marks+1) hB34;refine g5 ?_;refine bG func70 (vZ mb m y35 (againG ((acc.length:Nat):Int) r ((numG (((acc.length:Nat):Int)) (((0:Nat):Int)) (hereG (t.marks+1) (markG (t)))).marks+1) (foldG x.fn ((acc.length:Nat):Int) (opsG m.M (opsL x.ops.list) 0 (hereG ((numG (((acc.length:Nat):Int)) (((0:Nat):Int)) (hereG (t.marks+1) (markG (t)))).marks+1) (markG (numG (((acc.length:Nat):Int)) (((0:Nat):Int)) (hereG (t.marks+1) (markG (t))))))))) (hB36.le k9) x 7 hb0 hbs hsz hA hS hU hdl) rfl rfl (.c0 (.c0 .nil)) ⟨(Has.of mT6),(Has.of mT7),(Has.of mT8),(Has.of mT9),e8⟩ λy37=>?_;have hB38:=qP (M:=m.M) (x:=x.c) (a:=7) hB36;refine g4 ?_;have A:nE m.M x.c acc (hereG (t.marks+1) (markG t))=storeG m.M x.c 7 (againG ((acc.length:Nat):Int) r ((numG (((acc.length:Nat):Int)) (((0:Nat):Int)) (hereG (t.marks+1) (markG (t)))).marks+1) (foldG x.fn ((acc.length:Nat):Int) (opsG m.M (opsL x.ops.list) 0 (hereG ((numG (((acc.length:Nat):Int)) (((0:Nat):Int)) (hereG (t.marks+1) (markG (t)))).marks+1) (markG (numG (((acc.length:Nat):Int)) (((0:Nat):Int)) (hereG (t.marks+1) (markG (t))))))))):=bodyG2 o rfl hla w
  obtain⟨E,q⟩: ∃E,endsG (acc.take (acc.length-1)) (t.marks+1) (acc.take (acc.length-1)).length (storeG m.M x.c 7 (againG ((acc.length:Nat):Int) r ((numG (((acc.length:Nat):Int)) (((0:Nat):Int)) (hereG (t.marks+1) (markG (t)))).marks+1) (foldG x.fn ((acc.length:Nat):Int) (opsG m.M (opsL x.ops.list) 0 (hereG ((numG (((acc.length:Nat):Int)) (((0:Nat):Int)) (hereG (t.marks+1) (markG (t)))).marks+1) (markG (numG (((acc.length:Nat):Int)) (((0:Nat):Int)) (hereG (t.marks+1) (markG (t))))))))))=E:=⟨_,rfl⟩
  refine g4 ?_;refine bF (z':=(((acc.take (acc.length-1)).length:Nat):Int)-1) (jJ rfl k9 k9) ?_;refine g4 ?_;refine bY (ι:=(Option Addr×Nat)×GnS×Nat) [(0,_),(7,_),(9,_)] ⟨rfl,rfl,rfl,e8⟩ (λ⟨a2,t2,j⟩=>[(14,.int .i64 ((j:Nat)-1:Int))]) (λ⟨a2,t2,j⟩=>[mkO mb (m.st a2 t2),mkS (m.st a2 t2)]) (λ⟨a2,t2,j⟩=>[bE.pure (j<=(acc.take (acc.length-1)).length/\E=endsG (acc.take (acc.length-1)) (t.marks+1) j t2/\GnB (N+12*x.ops.list.length+100+6*((acc.take (acc.length-1)).length-j)) t2)]) (λ⟨a2,t2,j⟩=>j) (y37,storeG m.M x.c 7 (againG ((acc.length:Nat):Int) r ((numG (((acc.length:Nat):Int)) (((0:Nat):Int)) (hereG (t.marks+1) (markG (t)))).marks+1) (foldG x.fn ((acc.length:Nat):Int) (opsG m.M (opsL x.ops.list) 0 (hereG ((numG (((acc.length:Nat):Int)) (((0:Nat):Int)) (hereG (t.marks+1) (markG (t)))).marks+1) (markG (numG (((acc.length:Nat):Int)) (((0:Nat):Int)) (hereG (t.marks+1) (markG (t))))))))),(acc.take (acc.length-1)).length) ⟨rfl,e8⟩ (.c0 (.c0 .nil)) ⟨e9 (⟨k9,q.symm,hB38.le k9⟩),e8⟩ ?_;rintro⟨a2,t2,j⟩;dsimp only;refine bM d7 λb=>?_;have e:=b.2.2;refine g7 ?_;refine bRd (λg=>?_) λg=>?_
  .obtain⟨i,rfl⟩: ∃i,j=i+1:=⟨j-1,k9⟩
   refine g9 ?_;refine inc (1+i) ?_;refine one ?_;refine bF (z':=((1+i:Nat):Int)) (gH rfl k9) ?_;refine g2 ?_;obtain⟨x39,Y⟩:=gx (acc.take (acc.length-1)) i (k9);refine ss (bJ hT (k:=i) (bV e6) rfl rfl rfl rfl rfl rfl k9 (k9)) ?_;refine ss (f8 hT (dO.knows (bV e6) (k:=i) (x:=x39) Y 0)) ?_;refine bF (z':=(acc.take (acc.length-1)).getD i 0) (tO Y).symm ?_;refine one ?_;refine bG func73 (tF mb m a2 _ (e.le k9) ((1+i:Nat):Int) ((acc.take (acc.length-1)).getD i 0) (t.marks+1)) rfl rfl (.c0 (.c0 .nil)) e8 λy41=>?_;have hB42:=tG (i:=((1+i:Nat):Int)) (z:=((acc.take (acc.length-1)).getD i 0)) (dst:=t.marks+1) e;refine g6 ?_;refine inc (1+i) ?_;refine one ?_;refine bF (z':=((1+i:Nat):Int)) (gH rfl k9) ?_;refine bG func68 (fT mb m y41 _ (hB42.le k9) ((((1+i):Nat):Int)) (((0:Nat):Int))) rfl rfl (.c0 (.c0 .nil)) e8 λy43=>?_;have hB44:=jM (a:=(((1+i):Nat):Int)) (z:=((0:Nat):Int)) hB42;refine g6 ?_;refine bF (z':=((i:Nat):Int)-1) (jJ k9 k9 k9) ?_;refine g3 ?_;exact bk2 (y43,numG ((((1+i):Nat):Int)) (((0:Nat):Int)) (againG ((1+i:Nat):Int) ((acc.take (acc.length-1)).getD i 0) (t.marks+1) (t2)),i) ⟨e9 (⟨by dsimp only;omega,by dsimp only;exact b.2.1,by dsimp only;exact hB44.le k9⟩),e8⟩
  refine g4 ?_;have u:j=0:=k9
  subst u;have K:lB m.M x.c s=t2:=bFb hL ho h J A (q.trans b.2.1);rw[show(λy:Option Addr×Nat=>[mkO mb (m.st y (lB m.M x.c s)),mkS (m.st y (lB m.M x.c s))])=λy=>[mkO mb (m.st y t2),mkS (m.st y t2)] by rw[K]];exact cT a2 rfl (.c0 (.c0 .nil)) e8 rfl
 have ho:fX x.c acc=acc:=if_neg o;refine g6 ?_;have hOl:acc.length<=4:=k9
 refine bG func67 (pE LA lc acc k9 0) rfl rfl .nil ⟨d7,e8⟩ λ_=>?_;refine g2 ?_;refine uY (λh=>?_) λh=>?_
 .refine g2 ?_;have K:lB m.M x.c s=s:=bPp hL ho h;rw[show(λy:Option Addr×Nat=>[mkO mb (m.st y (lB m.M x.c s)),mkS (m.st y (lB m.M x.c s))])=λy=>[mkO mb (m.st y s),mkS (m.st y s)] by rw[K]];exact cT a rfl (.c1 (.c1 .nil)) e8 rfl
 refine g5 ?_;refine bG func68 (fT mb m a _ (hB.le k9) (5) (((0:Nat):Int))) rfl rfl (.c1 (.c1 .nil)) e8 λy45=>?_;have hB46:=jM (a:=5) (z:=((0:Nat):Int)) hB;refine g4 ?_
 obtain⟨Z,hZ⟩: ∃Z,zerosG acc.length 0 (numG 5 0 s)=Z:=⟨_,rfl⟩
 refine g7 ?_;refine bY (ι:=(Option Addr×Nat)×GnS×Nat) [(0,_),(3,_),(4,_),(7,_),(43,_)] ⟨rfl,rfl,rfl,rfl,rfl,e8⟩ (λ⟨a1,t,i⟩=>[(44,.int .i64 (i:Nat))]) (λ⟨a1,t,i⟩=>[mkO mb (m.st a1 t),mkS (m.st a1 t)]) (λ⟨a1,t,i⟩=>[bE.pure (i<=acc.length/\Z=zerosG (acc.length-i) i t/\GnB (N+2+2*i) t)]) (λ⟨a1,t,i⟩=>acc.length-i) (y45,numG (5) (((0:Nat):Int)) (s),0) ⟨rfl,e8⟩ (.c0 (.c0 .nil)) ⟨e9 (⟨k9,hZ.symm,hB46.le k9⟩),e8⟩ ?_;rintro⟨a1,t,i⟩;dsimp only;refine bM d7 λd=>?_;have n:=d.2.2;refine g6 ?_;refine fD (λG=>?_) λG=>?_
 .refine g14 ?_;refine inc (1+i) ?_;refine one ?_;refine bF (z':=((1+i:Nat):Int)) (gH rfl k9) ?_;refine bG func68 (fT mb m a1 _ (n.le k9) ((((1+i):Nat):Int)) (((0:Nat):Int))) rfl rfl (.c0 (.c0 .nil)) e8 λy47=>?_;have hB48:=jM (a:=(((1+i):Nat):Int)) (z:=((0:Nat):Int)) n;refine g5 ?_;refine inc (i+1) ?_;refine g3 ?_;exact bk2 (y47,numG ((((1+i):Nat):Int)) (((0:Nat):Int)) (t),i+1) ⟨e9 (⟨by dsimp only;omega,by dsimp only;exact bSc d.2.1 k9,by dsimp only;exact hB48.le k9⟩),e8⟩
 refine g6 ?_;have J:=hZ.trans (bMf d.2.1 k9);refine g2 ?_;refine bG func25 (pQ mb m a1 _ (n.le k9)) rfl rfl (.c0 (.c0 .nil)) e8 λy49=>?_;have P:=nO n;refine g7 ?_;refine bG func29 (pS mb m y49 _ (P.le k9) (t.marks+1)) rfl rfl (.c0 (.c0 .nil)) e8 λy51=>?_;have B:=nQ (k:=t.marks+1) P (aO P.m);refine g7 ?_;refine bF (z':=((acc.length:Nat):Int)) (gH rfl k9) ?_;refine g13 ?_;refine fG (λhc91=>?_) λhc91=>?_
 .refine g5 ?_;refine bP (bRl x.ops) (qK e7) ?_;refine bG func69 (bHd mb m y51 (hereG (t.marks+1) (markG (t))) _ B x.ops k9 hO hsz hD hdl) rfl rfl (.c0 (.c0 .nil)) ⟨d7,(Has.of mT6),(Has.of mT7),(Has.of mT8),e8⟩ λy53=>?_;have O:=bDc (M:=m.M) (l:=opsL x.ops.list) (k:=0) B;rw[dR]at O;refine g5 ?_;refine bG func70 (vZ mb m y53 (opsG m.M (opsL x.ops.list) 0 (hereG (t.marks+1) (markG (t)))) (O.le k9) x 8 hb0 hbs hsz hA hS hU hdl) rfl rfl (.c0 (.c0 .nil)) ⟨(Has.of mT5),(Has.of mT6),(Has.of mT7),(Has.of mT8),e8⟩ λy55=>?_;have hB56:=qP (M:=m.M) (x:=x.c) (a:=8) O;refine g4 ?_;have A:nE m.M x.c acc (hereG (t.marks+1) (markG t))=storeG m.M x.c 8 (opsG m.M (opsL x.ops.list) 0 (hereG (t.marks+1) (markG (t)))):=bodyG1 hc91
  obtain⟨E,q⟩: ∃E,endsG acc (t.marks+1) acc.length (storeG m.M x.c 8 (opsG m.M (opsL x.ops.list) 0 (hereG (t.marks+1) (markG (t)))))=E:=⟨_,rfl⟩
  refine g4 ?_;refine bF (z':=((acc.length:Nat):Int)-1) (jJ rfl k9 k9) ?_;refine g4 ?_;refine bY (ι:=(Option Addr×Nat)×GnS×Nat) [(0,_),(7,_),(9,_)] ⟨rfl,rfl,rfl,e8⟩ (λ⟨a2,t2,j⟩=>[(14,.int .i64 ((j:Nat)-1:Int))]) (λ⟨a2,t2,j⟩=>[mkO mb (m.st a2 t2),mkS (m.st a2 t2)]) (λ⟨a2,t2,j⟩=>[bE.pure (j<=acc.length/\E=endsG acc (t.marks+1) j t2/\GnB (N+12*x.ops.list.length+100+6*(acc.length-j)) t2)]) (λ⟨a2,t2,j⟩=>j) (y55,storeG m.M x.c 8 (opsG m.M (opsL x.ops.list) 0 (hereG (t.marks+1) (markG (t)))),acc.length) ⟨rfl,e8⟩ (.c0 (.c0 .nil)) ⟨e9 (⟨k9,q.symm,hB56.le k9⟩),e8⟩ ?_;rintro⟨a2,t2,j⟩;dsimp only;refine bM d7 λb=>?_;have e:=b.2.2;refine g7 ?_;refine bRd (λg=>?_) λg=>?_
  .obtain⟨i,rfl⟩: ∃i,j=i+1:=⟨j-1,k9⟩
   refine g9 ?_;refine inc (1+i) ?_;refine one ?_;refine bF (z':=((1+i:Nat):Int)) (gH rfl k9) ?_;refine g2 ?_;obtain⟨x57,X⟩:=gx acc i (k9);refine ss (bJ hT (k:=i) (bV e6) rfl rfl rfl rfl rfl rfl k9 (k9)) ?_;refine ss (f8 hT (dO.knows (bV e6) (k:=i) (x:=x57) X 0)) ?_;refine bF (z':=acc.getD i 0) (tO X).symm ?_;refine one ?_;refine bG func73 (tF mb m a2 _ (e.le k9) ((1+i:Nat):Int) (acc.getD i 0) (t.marks+1)) rfl rfl (.c0 (.c0 .nil)) e8 λy59=>?_;have hB60:=tG (i:=((1+i:Nat):Int)) (z:=(acc.getD i 0)) (dst:=t.marks+1) e;refine g6 ?_;refine inc (1+i) ?_;refine one ?_;refine bF (z':=((1+i:Nat):Int)) (gH rfl k9) ?_;refine bG func68 (fT mb m y59 _ (hB60.le k9) ((((1+i):Nat):Int)) (((0:Nat):Int))) rfl rfl (.c0 (.c0 .nil)) e8 λy61=>?_;have hB62:=jM (a:=(((1+i):Nat):Int)) (z:=((0:Nat):Int)) hB60;refine g6 ?_;refine bF (z':=((i:Nat):Int)-1) (jJ k9 k9 k9) ?_;refine g3 ?_;exact bk2 (y61,numG ((((1+i):Nat):Int)) (((0:Nat):Int)) (againG ((1+i:Nat):Int) (acc.getD i 0) (t.marks+1) (t2)),i) ⟨e9 (⟨by dsimp only;omega,by dsimp only;exact b.2.1,by dsimp only;exact hB62.le k9⟩),e8⟩
  refine g4 ?_;have u:j=0:=k9
  subst u;have K:lB m.M x.c s=t2:=bFb hL ho h J A (q.trans b.2.1);rw[show(λy:Option Addr×Nat=>[mkO mb (m.st y (lB m.M x.c s)),mkS (m.st y (lB m.M x.c s))])=λy=>[mkO mb (m.st y t2),mkS (m.st y t2)] by rw[K]];exact cT a2 rfl (.c0 (.c0 .nil)) e8 rfl
 refine g8 ?_;refine fG (λI=>?_) λI=>?_
 .refine g5 ?_;refine bP (bRl x.ops) (qK e7) ?_;refine bG func69 (bHd mb m y51 (hereG (t.marks+1) (markG (t))) _ B x.ops k9 hO hsz hD hdl) rfl rfl (.c0 (.c0 .nil)) ⟨d7,(Has.of mT6),(Has.of mT7),(Has.of mT8),e8⟩ λy63=>?_;have L:=bDc (M:=m.M) (l:=opsL x.ops.list) (k:=0) B;rw[dR]at L;refine g8 ?_;refine bG func71 (bUo mb m y63 _ (L.le k9) x.fn ((acc.length:Nat):Int)) rfl rfl (.c0 (.c0 .nil)) e8 λy65=>?_;have hB66:=bLi (f:=x.fn) (i:=((acc.length:Nat):Int)) L;refine g5 ?_;refine bG func70 (vZ mb m y65 (foldG x.fn ((acc.length:Nat):Int) (opsG m.M (opsL x.ops.list) 0 (hereG (t.marks+1) (markG (t))))) (hB66.le k9) x 7 hb0 hbs hsz hA hS hU hdl) rfl rfl (.c0 (.c0 .nil)) ⟨(Has.of mT5),(Has.of mT6),(Has.of mT7),(Has.of mT8),e8⟩ λy67=>?_;have hB68:=qP (M:=m.M) (x:=x.c) (a:=7) hB66;refine g4 ?_;have A:nE m.M x.c acc (hereG (t.marks+1) (markG t))=storeG m.M x.c 7 (foldG x.fn ((acc.length:Nat):Int) (opsG m.M (opsL x.ops.list) 0 (hereG (t.marks+1) (markG (t))))):=bodyG3 I
  obtain⟨E,q⟩: ∃E,endsG acc (t.marks+1) acc.length (storeG m.M x.c 7 (foldG x.fn ((acc.length:Nat):Int) (opsG m.M (opsL x.ops.list) 0 (hereG (t.marks+1) (markG (t))))))=E:=⟨_,rfl⟩
  refine g4 ?_;refine bF (z':=((acc.length:Nat):Int)-1) (jJ rfl k9 k9) ?_;refine g4 ?_;refine bY (ι:=(Option Addr×Nat)×GnS×Nat) [(0,_),(7,_),(9,_)] ⟨rfl,rfl,rfl,e8⟩ (λ⟨a2,t2,j⟩=>[(14,.int .i64 ((j:Nat)-1:Int))]) (λ⟨a2,t2,j⟩=>[mkO mb (m.st a2 t2),mkS (m.st a2 t2)]) (λ⟨a2,t2,j⟩=>[bE.pure (j<=acc.length/\E=endsG acc (t.marks+1) j t2/\GnB (N+12*x.ops.list.length+100+6*(acc.length-j)) t2)]) (λ⟨a2,t2,j⟩=>j) (y67,storeG m.M x.c 7 (foldG x.fn ((acc.length:Nat):Int) (opsG m.M (opsL x.ops.list) 0 (hereG (t.marks+1) (markG (t))))),acc.length) ⟨rfl,e8⟩ (.c0 (.c0 .nil)) ⟨e9 (⟨k9,q.symm,hB68.le k9⟩),e8⟩ ?_;rintro⟨a2,t2,j⟩;dsimp only;refine bM d7 λb=>?_;have e:=b.2.2;refine g7 ?_;refine bRd (λg=>?_) λg=>?_
  .obtain⟨i,rfl⟩: ∃i,j=i+1:=⟨j-1,k9⟩
   refine g9 ?_;refine inc (1+i) ?_;refine one ?_;refine bF (z':=((1+i:Nat):Int)) (gH rfl k9) ?_;refine g2 ?_;obtain⟨x69,W⟩:=gx acc i (k9);refine ss (bJ hT (k:=i) (bV e6) rfl rfl rfl rfl rfl rfl k9 (k9)) ?_;refine ss (f8 hT (dO.knows (bV e6) (k:=i) (x:=x69) W 0)) ?_;refine bF (z':=acc.getD i 0) (tO W).symm ?_;refine one ?_;refine bG func73 (tF mb m a2 _ (e.le k9) ((1+i:Nat):Int) (acc.getD i 0) (t.marks+1)) rfl rfl (.c0 (.c0 .nil)) e8 λy71=>?_;have hB72:=tG (i:=((1+i:Nat):Int)) (z:=(acc.getD i 0)) (dst:=t.marks+1) e;refine g6 ?_;refine inc (1+i) ?_;refine one ?_;refine bF (z':=((1+i:Nat):Int)) (gH rfl k9) ?_;refine bG func68 (fT mb m y71 _ (hB72.le k9) ((((1+i):Nat):Int)) (((0:Nat):Int))) rfl rfl (.c0 (.c0 .nil)) e8 λy73=>?_;have hB74:=jM (a:=(((1+i):Nat):Int)) (z:=((0:Nat):Int)) hB72;refine g6 ?_;refine bF (z':=((i:Nat):Int)-1) (jJ k9 k9 k9) ?_;refine g3 ?_;exact bk2 (y73,numG ((((1+i):Nat):Int)) (((0:Nat):Int)) (againG ((1+i:Nat):Int) (acc.getD i 0) (t.marks+1) (t2)),i) ⟨e9 (⟨by dsimp only;omega,by dsimp only;exact b.2.1,by dsimp only;exact hB74.le k9⟩),e8⟩
  refine g4 ?_;have u:j=0:=k9
  subst u;have K:lB m.M x.c s=t2:=bFb hL ho h J A (q.trans b.2.1);rw[show(λy:Option Addr×Nat=>[mkO mb (m.st y (lB m.M x.c s)),mkS (m.st y (lB m.M x.c s))])=λy=>[mkO mb (m.st y t2),mkS (m.st y t2)] by rw[K]];exact cT a2 rfl (.c0 (.c0 .nil)) e8 rfl
 exfalso
 omega
theorem minG{a:Int}:(if (4194304:Int)<a then (4194304:Int)else a)=min a 4194304:=by
 split<;>omega
theorem mulG{n v:Int}(h0:0<=n)(h1:n<=4194304)(h2:0<=v)(h3:v<=65537):IntKind.i64.wrap (n*v)=n*v:=by
 have a:=Y9 h0 h2;have b:n*v<=4194304*65537:=Int.mul_le_mul h1 h3 h2 k9;exact nN k9 k9
section
variable {f : Bool} {ds : List Int} {l : List (List Mono)} {i : Nat} {n : Int} {T : Option Int} {p : List Mono}
theorem bRv(h:T=turnG f ds (l.drop i) n)(hx:l[i]?=some p)(hb:(bD p ds).2≠0\/65536<(bD p ds).1):T=none:=by
 obtain⟨hlt,e⟩:=D9.1 hx;rw[h,<-Y2 hlt,e];exact if_pos hb
theorem uW(h:T=turnG f ds (l.drop i) n)(hx:l[i]?=some p)(h2:(bD p ds).2=0)(h3:(bD p ds).1<=65536){v:Int}(hv:v=if f=true/\i+1=l.length then (bD p ds).1+1 else (bD p ds).1):T=turnG f ds (l.drop (i+1)) (if v=0 then 0 else min (n*v) 4194304):=by
 obtain⟨hlt,e⟩:=D9.1 hx
 have a:(if f=true/\l.drop (i+1)=[]then (bD p ds).1+1 else (bD p ds).1)=v:=by
  rw[hv];have:l.drop (i+1)=[]↔i+1=l.length:=by rw[List.drop_eq_nil_iff];omega
  simp only[this]
 rw[h,<-Y2 hlt,e,turnG,if_neg k9,a]
theorem turnG_end(h:T=turnG f ds (l.drop i) n)(hi:l.length<=i):T=some n:=by
 rw[h,R5 hi];rfl
end
section
variable {ds : List Int} {l : List bX} {i : Nat} {a n : Int} {R : Bool} {x : bX}
theorem bGf(h:R=turnsG ds (l.drop i) a)(hx:l[i]?=some x):R=match turnG (x.how==2) ds x.loops (x.ops.length:Nat)with
  |none=>false
  |some n=>if 2097152<a+n then false else turnsG ds (l.drop (i+1)) (a+n):=by
 obtain⟨hlt,e⟩:=D9.1 hx;rw[h,<-Y2 hlt,e];rfl
theorem bTo(h:R=turnsG ds (l.drop i) a)(hx:l[i]?=some x)(ht:turnG (x.how==2) ds x.loops (x.ops.length:Nat)=none):R=false:=by rw[bGf h hx,ht]
theorem turnsG_many(h:R=turnsG ds (l.drop i) a)(hx:l[i]?=some x)(ht:turnG (x.how==2) ds x.loops (x.ops.length:Nat)=some n)(hm:2097152<a+n):R=false:=by
 rw[bGf h hx,ht];exact if_pos hm
theorem turnsG_go(h:R=turnsG ds (l.drop i) a)(hx:l[i]?=some x)(ht:turnG (x.how==2) ds x.loops (x.ops.length:Nat)=some n)(hm: ¬2097152<a+n):R=turnsG ds (l.drop (i+1)) (a+n):=by
 rw[bGf h hx,ht];exact if_neg hm
theorem turnsG_end(h:R=turnsG ds (l.drop i) a)(hi:l.length<=i):R=true:=by
 rw[h,R5 hi];rfl
end
set_option maxHeartbeats 1000000 in
theorem turnsF_spec(c:gD)(hr:cY c.c=true)(DA:Option Addr)(dcap:Nat)(dims:List Int)(hdl:dims.length<=140737488355328):bZ prog 24 [.agg #[j5 c.vars,j0 c.bufs,j0 c.steps,j0 c.outs],.slice DA dims.length dcap] [] [oJ c,cK.sl (.slice DA dims.length dcap) dims] (λ(_:Unit)=> .bool (turnsG dims c.c.steps 0)) (λ_=>[]) (λ_=>[]):=by
 have hT:=cO
 obtain⟨R,y⟩: ∃R,turnsG dims c.c.steps 0=R:=⟨_,rfl⟩
 refine i7 func24 ntmps24 ?_;intro β hM;refine g2 ?_;refine i6 λI=>?_;refine g10 ?_;refine bP (sO.sl (.slice c.steps.addr c.steps.list.length c.steps.cap) c.steps.list) (qS (iG d7))<|bM (bPy (iG d8)) λm=>?_;have D:=m.1;have C:=m.2;refine g8 ?_;refine bY (ι:=Int×Nat) [(1,_),(14,_),(15,_)] ⟨rfl,rfl,rfl,e8⟩ (λ⟨al,i⟩=>[(5,.int .i64 al),(16,.int .i64 (i:Nat))]) (λ_=>[]) (λ⟨al,i⟩=>[bE.pure (i<=c.steps.list.length/\(0<=al/\al<=2097152)/\R=turnsG dims (c.c.steps.drop i) al)]) (λ⟨al,i⟩=>c.steps.list.length-i) (0,0) ⟨rfl,rfl,e8⟩ .nil ⟨e9 (⟨k9,k9,y.symm⟩),e8⟩ ?_;rintro⟨al,i⟩;dsimp only;refine bM d7 λd=>?_;refine g6 ?_;refine fD (λt=>?_) λt=>?_
 .refine g5 ?_;obtain⟨x,hx⟩:=gx c.steps.list i;have hg:=bDk hr dims (f4 hx);refine bP (oL x) (Has.each (qU (iG d9)) (f4 hx)) ?_;have hlo:=hg.hlo;have hll:=hg.hll
  obtain⟨T,w⟩: ∃T,turnG (x.how==2) dims (polsL x.loops.list) (x.ops.list.length:Nat)=T:=⟨_,rfl⟩
  have k:turnG (x.c.how==2) dims x.c.loops (x.c.ops.length:Nat)=T:=by rw[show x.c.ops.length=x.ops.list.length from dR _];exact w
  refine one ?_;refine ss (ixs i) ?_;refine ss (kV hx 0) ?_;refine f9 wT λG=>?_;refine g13 ?_;refine bP (iY.sl (.slice x.loops.addr x.loops.list.length x.loops.cap) x.loops.list) (qM (mV d7)) ?_;refine g8 ?_;refine bY (ι:=Int×Nat) [(1,_),(5,_),(7,_),(14,_),(15,_),(16,_),(24,_),(25,_)] ⟨rfl,rfl,rfl,rfl,rfl,rfl,rfl,rfl,e8⟩ (λ⟨n,j⟩=>[(8,.int .i64 n),(26,.int .i64 (j:Nat))]) (λ_=>[]) (λ⟨n,j⟩=>[bE.pure (j<=x.loops.list.length/\(0<=n/\n<=4194304)/\T=turnG (x.how==2) dims ((polsL x.loops.list).drop j) n)]) (λ⟨n,j⟩=>x.loops.list.length-j) ((x.ops.list.length:Nat),0) ⟨rfl,rfl,e8⟩ .nil ⟨e9 (⟨k9,k9,w.symm⟩),e8⟩ ?_;rintro⟨n,j⟩;dsimp only;refine bM d7 λa=>?_;refine g6 ?_;refine fD (λs=>?_) λs=>?_
  .refine g5 ?_;obtain⟨q,hq⟩:=gx x.loops.list j;refine bP (fB q) (Has.each (qJ (mV d9)) (f4 hq)) ?_;have A:=hg.hN q.list (f4 (cW hq));refine g2 ?_;refine ss (ixs j) ?_;refine ss (jB hq 0) ?_;refine g8 ?_;refine bM (gI d7) λB=>?_;refine f7 func15 (bCt q DA dcap dims B hdl) .nil ⟨d7,(Has.of mT7),e8⟩ λ_=>?_;refine g9 ?_
   by_cases g:(bD q.list dims).2=0
   .have E:=A g;refine g3 ?_;refine bQ (t':=false) (by rw[g];rfl) ?_;refine g6 ?_;refine fD (λr=>?_) λr=>?_
    .refine g17 ?_;have l:R=false:=bTo d.2.2 (dI hx) (k.trans (bRv a.2.2 (cW hq) (.inr k9)));exact rs1 () e8 (he:=by rw[y,l])
    refine g4 ?_
    by_cases z:x.how=2
    .refine g4 ?_;refine bQ (t':=true) (by rw[z];rfl) ?_;refine g6 ?_;refine bF (z':=((x.loops.list.length:Nat):Int)-1) (jJ rfl k9 k9) ?_;refine g4 ?_;refine fG (λp=>?_) λp=>?_
     .have e:(bD q.list dims).1+1=if (x.how==2)=true/\j+1=(polsL x.loops.list).length then (bD q.list dims).1+1 else (bD q.list dims).1:=by rw[bW,if_pos ⟨by rw[z];rfl,k9⟩]
      refine g3 ?_;refine bF (z':=(bD q.list dims).1+1) (nN k9 k9) ?_;refine g8 ?_;refine bF (z':=n*((bD q.list dims).1+1)) (mulG k9 k9 k9 k9) ?_;refine one ?_;refine bF (z':=min (n*((bD q.list dims).1+1)) 4194304) minG ?_;refine g9 ?_;refine fG (λb=>?_) λb=>?_
      .refine g7 ?_;refine inc (j+1) ?_;refine g3 ?_;have f:0<=n*((bD q.list dims).1+1):=Y9 k9 k9;exact bk2 (0,j+1) ⟨e9 (⟨by dsimp only;omega,by dsimp only;omega,by dsimp only;exact(uW a.2.2 (cW hq) g k9 (v:=((bD q.list dims).1+1)) (e)).trans (by rw[if_pos b])⟩),e8⟩
      refine g5 ?_;refine inc (j+1) ?_;refine g3 ?_;have f:0<=n*((bD q.list dims).1+1):=Y9 k9 k9;exact bk2 (min (n*((bD q.list dims).1+1)) 4194304,j+1) ⟨e9 (⟨by dsimp only;omega,by dsimp only;omega,by dsimp only;exact(uW a.2.2 (cW hq) g k9 (v:=((bD q.list dims).1+1)) (e)).trans (by rw[if_neg b])⟩),e8⟩
     have e:(bD q.list dims).1=if (x.how==2)=true/\j+1=(polsL x.loops.list).length then (bD q.list dims).1+1 else (bD q.list dims).1:=by rw[bW,if_neg (λh=>by have:=h.2;omega)]
     refine g7 ?_;refine bF (z':=n*(bD q.list dims).1) (mulG k9 k9 k9 k9) ?_;refine one ?_;refine bF (z':=min (n*(bD q.list dims).1) 4194304) minG ?_;refine g9 ?_;refine fG (λb=>?_) λb=>?_
     .refine g7 ?_;refine inc (j+1) ?_;refine g3 ?_;have f:0<=n*(bD q.list dims).1:=Y9 k9 k9;exact bk2 (0,j+1) ⟨e9 (⟨by dsimp only;omega,by dsimp only;omega,by dsimp only;exact(uW a.2.2 (cW hq) g k9 (v:=(bD q.list dims).1) (e)).trans (by rw[if_pos b])⟩),e8⟩
     refine g5 ?_;refine inc (j+1) ?_;refine g3 ?_;have f:0<=n*(bD q.list dims).1:=Y9 k9 k9;exact bk2 (min (n*(bD q.list dims).1) 4194304,j+1) ⟨e9 (⟨by dsimp only;omega,by dsimp only;omega,by dsimp only;exact(uW a.2.2 (cW hq) g k9 (v:=(bD q.list dims).1) (e)).trans (by rw[if_neg b])⟩),e8⟩
    have e:(bD q.list dims).1=if (x.how==2)=true/\j+1=(polsL x.loops.list).length then (bD q.list dims).1+1 else (bD q.list dims).1:=by rw[bW,if_neg (λh=>z (by simpa using h.1))]
    refine g4 ?_;refine bQ (t':=false) (by simpa using z) ?_;refine g18 ?_;refine bF (z':=n*(bD q.list dims).1) (mulG k9 k9 k9 k9) ?_;refine one ?_;refine bF (z':=min (n*(bD q.list dims).1) 4194304) minG ?_;refine g9 ?_;refine fG (λb=>?_) λb=>?_
    .refine g7 ?_;refine inc (j+1) ?_;refine g3 ?_;have f:0<=n*(bD q.list dims).1:=Y9 k9 k9;exact bk2 (0,j+1) ⟨e9 (⟨by dsimp only;omega,by dsimp only;omega,by dsimp only;exact(uW a.2.2 (cW hq) g k9 (v:=(bD q.list dims).1) (e)).trans (by rw[if_pos b])⟩),e8⟩
    refine g5 ?_;refine inc (j+1) ?_;refine g3 ?_;have f:0<=n*(bD q.list dims).1:=Y9 k9 k9;exact bk2 (min (n*(bD q.list dims).1) 4194304,j+1) ⟨e9 (⟨by dsimp only;omega,by dsimp only;omega,by dsimp only;exact(uW a.2.2 (cW hq) g k9 (v:=(bD q.list dims).1) (e)).trans (by rw[if_neg b])⟩),e8⟩
   refine g3 ?_;refine bQ (t':=true) (by simpa using g) ?_;refine g24 ?_;have l:R=false:=bTo d.2.2 (dI hx) (k.trans (bRv a.2.2 (cW hq) (.inl g)));exact rs1 () e8 (he:=by rw[y,l])
  refine g6 ?_;have u:=k.trans (turnG_end a.2.2 o8);refine g4 ?_;refine bF (z':=al+n) (nN k9 k9) ?_;refine g9 ?_;refine fD (λo=>?_) λo=>?_
  .refine g11 ?_;have l:R=false:=turnsG_many d.2.2 (dI hx) u k9;exact rs1 () e8 (he:=by rw[y,l])
  refine g5 ?_;refine inc (i+1) ?_;refine g3 ?_;exact bk2 (al+n,i+1) ⟨e9 (⟨by dsimp only;omega,by dsimp only;omega,by dsimp only;exact turnsG_go d.2.2 (dI hx) u k9⟩),e8⟩
 refine g11 ?_;have l:R=true:=turnsG_end d.2.2 o5;exact rs1 () e8 (he:=by rw[y,l])
theorem bad_a{n:Int}(h:n<0):V6 true= .bool (bGw n):=by simp[bGw,h]
theorem bad_b{n:Int}(h: ¬n<0):V6 (decide (65536<n))= .bool (bGw n):=by simp[bGw,h]
section
variable {l : List Int} {n s m : Int} {i : Nat} {r : Int × Int}
theorem size_bad(h:4<l.length\/l.any bGw=true):nJ l=(0,61):=by rw[nJ,if_pos h]
theorem size_zero(h1: ¬4<l.length)(h2:l.any bGw=false)(h3:l.contains 0=true):nJ l=(0,0):=by rw[nJ,if_neg (by rw[h2];simp;omega),if_pos h3]
theorem size_prod(h1: ¬4<l.length)(h2:l.any bGw=false)(h3:l.contains 0=false):nJ l=qE l 1:=by rw[nJ,if_neg (by rw[h2];simp;omega),if_neg (by rw[h3];simp)]
theorem prodA_big(h:r=qE (l.drop i) n)(hx:l[i]?=some s)(hb:65536<w64 (n*s)):r=(0,61):=by
 rw[qH hx,qE,if_pos hb]at h;exact h
theorem prodA_more(h:r=qE (l.drop i) n)(hx:l[i]?=some s)(hb: ¬65536<w64 (n*s)):r=qE (l.drop (i+1)) (w64 (n*s)):=by
 rw[qH hx,qE,if_neg hb]at h;exact h
theorem prodA_end(h:r=qE (l.drop i) n)(hi:l.length<=i):r=(n,0):=by
 rw[R5 hi]at h;exact h
end
section
variable {x : tN}
theorem right_a(h:(nJ x.sides.list).2=0):V6 ((nJ x.sides.list).1==((x.data.list.length:Nat):Int))= .bool (xY x.arr):=by simp[xY,tN.arr,h]
theorem right_b(h:(nJ x.sides.list).2≠0):V6 false= .bool (xY x.arr):=by simp[xY,tN.arr,h]
end
theorem sizeBad_spec(n:Int):bZ prog 127 [j5 n] [] [] (λ(_:Unit)=> .bool (bGw n)) (λ_=>[]) (λ_=>[]):=by
 have hT:=cO;refine i7 func127 ntmps127 ?_;intro β hM;refine g10 ?_;refine vP (λa=>?_) λa=>?_
 .refine g7 ?_;exact rs1 () e8 (he:=by first|exact bad_a k9|exact bad_b k9)
 refine g7 ?_;exact rs1 () e8 (he:=by first|exact bad_a k9|exact bad_b k9)
theorem bSd(A:Option Addr)(c:Nat)(l:List Int)(hl:l.length<=140737488355328):bZ prog 66 [.slice A l.length c] [] [cK.sl (.slice A l.length c) l] (λ(_:Unit)=> .tuple #[j5 (nJ l).1,j5 (nJ l).2]) (λ_=>[]) (λ_=>[]):=by
 have hT:=cO;generalize j:nJ l=r;refine i7 func66 ntmps66 ?_;intro β hM;refine g13 ?_;refine vP (λd=>?_) λd=>?_
 .refine g14 ?_;have hr:=j.symm.trans (size_bad aa3);subst hr;exact rs2 () trivial
 refine one ?_;refine f7 func61 (xT _ _ _ hl 127 [] [] bGw (j4 func127) sizeBad_spec) .nil ⟨d7,e8⟩ λ_=>?_;refine g3 ?_;refine uY (λh=>?_) λh=>?_
 .refine g8 ?_;have hr:=j.symm.trans (size_bad aa3);subst hr;exact rs2 () trivial
 refine g6 ?_;refine f7 func67 (pE _ _ _ hl _) .nil ⟨d7,e8⟩ λ_=>?_;refine g2 ?_;refine uY (λg=>?_) λg=>?_
 .refine g8 ?_;have hr:=j.symm.trans (size_zero k9 ‹_› ‹_›);subst hr;exact rs2 () trivial
 refine g16 ?_;refine bY (ι:=Nat×Int) [(16,_),(17,_)] ⟨rfl,rfl,e8⟩ (λ⟨i,n⟩=>[(4,.int .i64 n),(18,.int .i64 (i:Nat))]) (λ_=>[]) (λ⟨i,n⟩=>[bE.pure (i<=l.length/\r=qE (l.drop i) n)]) (λ⟨i,n⟩=>l.length-i) (0,1) ⟨rfl,rfl,e8⟩ .nil ⟨e9 (⟨k9,j.symm.trans (size_prod k9 ‹_› ‹_›)⟩),e8⟩ ?_;rintro⟨i,n⟩;dsimp only;refine bM d7 λa=>?_;refine g6 ?_;refine fD (λf=>?_) λf=>?_
 .refine g6 ?_;obtain⟨k,b⟩:=gx l i;refine ss (ixs i) ?_;refine ss (jB b 0) ?_;refine g17 ?_;refine fD (λe=>?_) λe=>?_
  .refine g12 ?_;obtain rfl:=prodA_big a.2 b ‹_›;exact rs2 () trivial
  refine g5 ?_;refine inc (i+1) ?_;refine g3 ?_;exact bk2 (i+1,_) ⟨e9 (⟨by dsimp only;omega,prodA_more a.2 b (V8.2 ‹_›)⟩),e8⟩
 refine g13 ?_;have hr:=prodA_end a.2 k9;subst hr;exact rs2 () trivial
theorem rightAr_spec(x:tN)(hl:x.sides.list.length<=140737488355328):bZ prog 34 [.agg #[j0 x.sides,j0 x.data]] [] [cK.sl (j0 x.sides) x.sides.list] (λ(_:Unit)=> .bool (xY x.arr)) (λ_=>[]) (λ_=>[]):=by
 have hT:=cO;refine i7 func34 ntmps34 ?_;intro β hM;refine g2 ?_;refine i6 λb=>?_;refine g7 ?_;refine bG func66 (bSd _ _ _ k9) rfl rfl .nil ⟨d7,e8⟩ λ_=>?_;refine g12 ?_;refine k_eq (λa=>?_) λa=>?_
 .refine g10 ?_;exact rs1 () e8 (he:=by first|exact right_a ‹_›|exact right_b ‹_›)
 refine g10 ?_;exact rs1 () e8 (he:=by first|exact right_a ‹_›|exact right_b ‹_›)
end
section
open Go.Proofs.Tryz
section
variable {α : Type} (key : α -> Int)
def rM (l:List α):Prop:= ∀k a b,1<=k->l[(k-1)/2]?=some a->l[k]?=some b->key a<=key b
def bQk (l:List α)(i:Nat):Prop:=(∀k a b,1<=k->(k-1)/2≠i->l[(k-1)/2]?=some a->l[k]?=some b->key a<=key b)/\
 ∀k a b,1<=k->1<=i->(k-1)/2=i->l[(i-1)/2]?=some a->l[k]?=some b->key a<=key b
variable {key} {l : List α} {i j : Nat} {x y z : α}
theorem heap_min(h:rM key l)(h0:l[0]?=some x): ∀(k:Nat) b,l[k]?=some b->key x<=key b:=by
 intro k
 induction k using Nat.strongRecOn with
 |ind k ih=>
  intro b hb
  rcases Nat.eq_zero_or_pos k with rfl|d
  .rw[h0]at hb;cases hb;exact Int.le_refl _
  .have hlt:=(D9.1 hb).1
   obtain⟨a,c⟩: ∃a,l[(k-1)/2]?=some a:=⟨_,D7 k9⟩
   exact Int.le_trans (ih _ k9 a c) (h k a b d c hb)
theorem heap_push(h:rM key l)(hs: ∀b∈l,key b<=key x):rM key (l++[x]):=λk a b d c hb=>by
 rcases Nat.lt_trichotomy k l.length with h1|h1|h1
 .rw[aL k9]at c hb;exact h k a b d c hb
 .rw[h1,List.getElem?_append_right k9,Nat.sub_self]at hb;cases hb;rw[aL k9]at c;exact hs a (f4 c)
 .rw[List.getElem?_eq_none n9]at hb;cases hb
theorem sink_start(h:rM key l):bQk key ((l.take j).set 0 x) 0:=by
 refine⟨λk a b d h0 c hb=>?_,λk a b _ h1=>absurd h1 k9⟩;rw[P8 k9]at c hb;rw[List.getElem?_take]at c hb;split at hb
 .split at c
  .exact h k a b d c hb
  .cases c
 .cases hb
theorem bNs(h:bQk key l i)(hx:l[i]?=some x)(hn: ∀k b,1<=k->(k-1)/2=i->l[k]?=some b->key x<=key b):rM key l:=λk a b d c hb=>by
 by_cases e:(k-1)/2=i
 .rw[e,hx]at c;cases c;exact hn k b d e hb
 .exact h.1 k a b d e c hb
theorem bHp(h:bQk key l i)(hx:l[i]?=some x)(hy:l[j]?=some y)(hj:1<=j)(hp:(j-1)/2=i)(hlt:key y<=key x)(hm: ∀k b,1<=k->(k-1)/2=i->l[k]?=some b->key y<=key b):bQk key ((l.set i y).set j x) j:=by
 have q:=(D9.1 hx).1;have n:=(D9.1 hy).1;have o:i≠j:=k9
 have get: ∀k,((l.set i y).set j x)[k]?=if k=j then some x else if k=i then some y else l[k]?:=λk=>by
  by_cases h1:k=j
  .subst h1;rw[if_pos rfl,P7 (by simpa using n)]
  .rw[if_neg h1,P8 (Ne.symm h1)]
   by_cases p:k=i
   .subst p;rw[if_pos rfl,P7 q]
   .rw[if_neg p,P8 (Ne.symm p)]
 refine⟨λk a b g m d hb=>?_,λk a b g _ c d hb=>?_⟩
 .rw[get]at d hb;rw[if_neg m]at d
  by_cases e:(k-1)/2=i
  .rw[if_pos e]at d;cases d
   by_cases c:k=j
   .rw[if_pos c]at hb;cases hb;exact hlt
   .rw[if_neg c,if_neg k9]at hb;exact hm k b g e hb
  .rw[if_neg e]at d
   by_cases c:k=j
   .omega
   .rw[if_neg c]at hb
    by_cases f:k=i
    .rw[if_pos f]at hb;cases hb;rw[f]at d;exact h.2 j a y hj k9 hp d hy
    .rw[if_neg f]at hb;exact h.1 k a b g e d hb
 .rw[get]at d hb;rw[hp,if_neg o,if_pos rfl]at d;cases d;rw[if_neg k9,if_neg k9]at hb;exact h.1 k y b g k9 (by rw[c];exact hy) hb
end
end
end Go.Proofs.YtnfiadlonjediaaGreatDoor
