/- A part of one proof. -/
import Derived.Test.YtnfiadlonjediaaGreatDoorM9
import Derived.Deep.DeepWitnessRowRef
import Derived.Lib.LaidU8
import Derived.Lib.LaidIn
set_option maxRecDepth 100000
namespace Go.Proofs.YtnfiadlonjediaaGreatDoor
open _root_.Bool renaming and_eq_true->L9
open _root_.List renaming mem_cons->F1,take_add_one->G7,take_of_length_le->Y2,drop_zero->Q5,drop_of_length_le->U8,getElem?_eq_some_iff->G3,length_take->Z4,getElem?_mapIdx->Am,length_take_le->An,replicate->V4,replicate_succ->aE,ext_getElem->aF,length_replicate->Z7,getElem?_replicate->Ao,length_set->R0,getElem?_set_self->G8,getElem?_set_ne->R1,ext_getElem?->aI,getElem?_eq_none->Y5,getElem?_eq_none_iff->aJ,getElem_cons_drop->aH,perm_append_comm->eY,getElem?_eq_getElem->G1,length_append->G4,length_singleton->Ad,mem_cons_self->F9,take_succ_eq_append_getElem->Y1,getElem?_append_left->G6,getElem?_append_right->Ap,getElem?_of_mem->eP,mem_cons_of_mem->F3,mem_append_left->F5,mem_map->P5,length_map->I2,getElem?_map->F7,getElem?_zipIdx->Aq
open _root_.Nat renaming blt->C2,le_trans->C0,le_refl->B8,zero_le->S6,lt_or_ge->A8,zero_add->D1,beq->B1,pos_of_ne_zero->Ar,eq_of_beq_eq_true->B5
open Value renaming cells->aM,tuple->Av,int->Y9
open Sem renaming run_bind->J0,run_pure->J1
open Result renaming andThen_ok->J6
open Oper renaming wp->L2,upon_value->L3
open _root_.Array renaming getElem?_eq_some_iff->N9,replicate->E5
open _root_.Classical renaming em->Aw,not_not->Ax
open _root_.Int renaming mul_nonneg->aO,le_total->Ay,min_eq_left->Az,min_eq_right->AA,mul_le_mul_of_nonneg_left->eI
open World renaming cell?->D8,var?->AB,settled->AC
open _root_.Option renaming bind_some->AD
section
open Go.RowKit Go.Proofs.Tryz
theorem bJd{vars:Int}{bufs:List jX}: ∀{r:List cT} {made:List Bool},lQ vars bufs r made=true-> ∀x∈r,∃m,mV vars m x=true
 |[],_,_,x,hx=>by cases hx
 |y::r,made,h,x,hx=>by
  rw[lQ,L9,L9,L9]at h;obtain⟨_,h2,h3⟩:=h
  rcases F1.1 hx with rfl|hx
  .exact⟨made,h2⟩
  .exact bJd h3 x hx
section
variable {c : fX} {i b n m k : Nat} {x : gA} {ub : jW} {wh w T : Bool} {A B : List (List Mono)} {p q : List Mono}
theorem bGk(h:dC c.c=true)(hx:c.D.B[i]?=some x)(e:x.N=2):x.H.B.length≠0:=by obtain⟨_,_,h3,_⟩:=iP h;obtain⟨f,h4⟩:=bJd h3 x.c (f5 (cN hx));unfold mV at h4;simp only[L9]at h4;have a:=h4.2.2.2.2.1;have a:(if x.N=1 then x.fn==0 else if x.N=2\/x.N=3 then !x.c.H.isEmpty&&gQ x.fn true else false)=true:=a;rw[if_neg j5,if_pos (.inl e),L9]at a;intro d;have:x.H.B=[]:=List.eq_nil_of_length_eq_zero d;have b:(!(polsL x.H.B).isEmpty)=true:=a.1;rw[this]at b;cases b
theorem bQr{F:List bC}{xs:List PolV}(n:Nat)(h:Has F (yG xs)):Has F (yG (xs.take n)):=λS w k p a=>h S w k p (List.mem_of_mem_take a)
def bEg (c:dR)(b i:Nat)(u:jX)(n:Nat)(w:Bool):Prop:=n=zX (c.D.take i) b/\(decide (n=1)&&w)=qS (c.D.take i) b u
theorem full_start{c:dR}{u:jX}:bEg c b 0 u 0 false:=⟨rfl,rfl⟩
theorem bCr{α:Type}{l:List α}{i:Nat}{x:α}(hx:l[i]?=some x):l.take (i+1)=l.take i++[x]:=by rw[G7,hx];rfl
theorem full_other{u:jX}(h:bEg c.c b i u n w)(hx:c.D.B[i]?=some x)(e:x.I≠(b:Int)):bEg c.c b (i+1) u n w:=by obtain⟨h1,h2⟩:=h;unfold bEg;rw[show c.c.D.take (i+1)=c.c.D.take i++[x.c]from bCr (cN hx),bDu,if_neg (show ¬x.c.I=(b:Int)from e),bEv (show x.c.I≠(b:Int)from e)];exact⟨h1,h2⟩
theorem pN{u:jX}(h:bEg c.c b i u n wh)(hx:c.D.B[i]?=some x)(e:x.I=(b:Int))(hw:w=wholeS x.c u.K):bEg c.c b (i+1) u (n+1) w:=by obtain⟨h1,_⟩:=h;unfold bEg;rw[show c.c.D.take (i+1)=c.c.D.take i++[x.c]from bCr (cN hx),bDu,if_pos (show x.c.I=(b:Int)from e),bKm (show x.c.I=(b:Int)from e),hw,h1];exact⟨rfl,rfl⟩
theorem full_end{u:jX}(h:bEg c.c b i u n w)(hi:c.D.B.length<=i):(decide (n=1)&&w)=qS c.c.D b u:=by have:=h.2;rw[Y2 (show c.c.D.length<=i by rw[show c.c.D.length=c.D.B.length from cS _];exact hi)]at this;exact this
def xL (T:Bool)(A B:List (List Mono))(k:Nat)(w:Bool):Prop:=T=(w&&decide (A.drop k=B.drop k))/\(w=true->A.length=B.length)
theorem polsL_take(l:List PolV)(n:Nat):polsL (l.take n)=(polsL l).take n:=List.map_take
theorem wholeA(e:x.N=2):wholeS x.c ub.c.K=(decide (x.at_.B.length=0)&&decide (polsL (x.H.B.take (x.H.B.length-1))=polsL ub.K.B)):=by
 unfold wholeS;show(x.at_.B.isEmpty&&decide ((if x.N=2 then (polsL x.H.B).dropLast else polsL x.H.B)=polsL ub.K.B))=_;rw[if_pos e,polsL_take,List.dropLast_eq_take,bS]
 congr 1
 cases x.at_.B<;>rfl
theorem wholeB(e:x.N≠2):wholeS x.c ub.c.K=(decide (x.at_.B.length=0)&&decide (polsL x.H.B=polsL ub.K.B)):=by
 unfold wholeS;show(x.at_.B.isEmpty&&decide ((if x.N=2 then (polsL x.H.B).dropLast else polsL x.H.B)=polsL ub.K.B))=_;rw[if_neg e]
 congr 1
 cases x.at_.B<;>rfl
theorem tM(hT:T=(decide (n=0)&&decide (A=B)))(h:n≠0):xL T A B 0 false:=by refine⟨?_,λh=>by cases h⟩;rw[hT,decide_eq_false h];rfl
theorem tD{j l:Nat}(hT:T=(decide (n=0)&&decide (A=B)))(h:n=0)(hj:A.length=j)(hl:B.length=l):xL T A B 0 (((j:Nat):Int)==((l:Nat):Int)):=by
 subst hj hl;refine⟨?_,λh=>by have:=eq_of_beq h;omega⟩;rw[hT,decide_eq_true h,Bool.true_and,Q5,Q5]
 by_cases e:A=B
 .subst e;simp
 .simp[e]
theorem xV(h:xL T A B k true)(hp:A[k]?=some p)(hq:B[k]?=some q):xL T A B (k+1) (decide (p=q)):=by
 obtain⟨h1,h2⟩:=h;refine⟨?_,λ_=>h2 rfl⟩;rw[kS hp,kS hq]at h1;rw[h1]
 by_cases e:p=q
 .simp[e]
 .simp[e]
theorem pK(h:xL T A B k w)(hc:w=false\/A.length<=k):w=T:=by
 obtain⟨h1,h2⟩:=h
 cases a:w with
 |false=>
  rw[a]at h1;exact h1.symm
 |true=>
  rcases hc with e|e
  .rw[a]at e;cases e
  .have hl:=h2 a;rw[a,U8 e,U8 j5]at h1;rw[h1];rfl
end
theorem full15_spec(c:fX)(b:Nat)(ub:jW)(hb:c.C.B[b]?=some ub)(hr:dC c.c=true):cJ prog 144 [.agg #[j3 c.vars,f9 c.C,f9 c.D,f9 c.Q],j3 (b:Nat)] [] [lH c] (λ(_:Unit)=> .bool (qS c.c.D b ub.c)) (λ_=>[]) (λ_=>[]):=by
 have hT:=dF;obtain⟨X,R,U⟩:=qI hr;have W:c.c.C.length=c.C.B.length:=cQ _;have hns:c.c.D.length=c.D.B.length:=cS _;have Y:=(G3.1 hb).1;refine j1 func144 ntmps144 ?_;intro β hM;refine cH<|bK (sU.sl (.slice c.C.O c.C.B.length c.C.cap) c.C.B) (kG (gC d7)) ?_;refine bK (pU.sl (.slice c.D.O c.D.B.length c.D.cap) c.D.B) (lM (gS d8))<|bK (bSc ub) (Has.each (rV (gC d9)) (f5 hb))<|bK (fF.sl (.slice ub.K.O ub.K.B.length ub.K.cap) ub.K.B) (mW d7)<|bG (qB d8) λQ=>bK (yG ub.K.B) (mY d8) ?_;refine one ?_;refine j0 λb2=>?_;refine g20 ?_;refine bT (ι:=Nat×Nat×Bool) [(1,_),(2,_)] ⟨rfl,rfl,e9⟩ (λ⟨i,mn,wh⟩=>[(5,.int .i64 (mn:Nat)),(6,.bool wh),(7,.int .i64 (i:Nat))]) (λ_=>[]) (λ⟨i,mn,wh⟩=>[bC.pure (i<=c.D.B.length/\mn<=i/\bEg c.c b i ub.c mn wh)]) (λ⟨i,mn,wh⟩=>c.D.B.length-i) (0,0,false) ⟨rfl,rfl,rfl,e9⟩ .nil ⟨f4 (⟨j5,j5,full_start⟩),e9⟩ ?_;rintro⟨i,mn,wh⟩;dsimp only;refine bG d7 λd=>?_;refine g10 ?_;refine dO (λC=>?_) λC=>?_
 .refine g5 ?_;obtain⟨x3,e⟩:=gx c.D.B i;refine bK (mO x3) (Has.each (oM (gS (Has.of mT6))) (f5 e)) ?_;refine g4 ?_;refine ss (ixs i) ?_;refine ss (lI e 0) ?_;refine i7 xE λZ=>?_;refine g12 ?_;refine bEh (λB=>?_) λB=>?_
  .refine g7 ?_;refine inc (i+1) ?_;refine g3 ?_;exact bk2 (i+1,mn,_) ⟨f4 (⟨by dsimp only;omega,by dsimp only;omega,full_other d.2.2 e j5⟩),e9⟩
  refine g6 ?_;refine inc (mn+1) ?_;refine g4 ?_;refine bK (fF.sl (.slice x3.H.O x3.H.B.length x3.H.cap) x3.H.B) (mW (nA d7))<|bG (qB (nA d8)) λy=>?_;have P:=y.1;have O:=y.2;refine bK (dM.sl (.slice x3.at_.O x3.at_.B.length x3.at_.cap) x3.at_.B) (fT (bFk d8))<|bK (yG x3.H.B) (mY (nA d9)) ?_;refine g14 ?_;refine jU (λA=>?_) λA=>?_
  .refine g5 ?_;refine bM (jO j5 j5) ?_;have M:=bGk hr e ‹_›;refine bM (z':=((x3.H.B.length-1:Nat):Int)) j5 ?_;have V:=bGk hr e ‹_›;refine ss (wP hT (k:=(x3.H.B.length-1)) rfl rfl rfl rfl rfl j5 j5) ?_;refine bK (fF.sl (.slice x3.H.O (x3.H.B.length-1) x3.H.cap) (x3.H.B.take (x3.H.B.length-1))) (bMp d9 j5)<|bK (yG (x3.H.B.take (x3.H.B.length-1))) (bQr _ d8) ?_;refine g4 ?_;have hTw:=wholeA (ub:=ub) (x:=x3) ‹_›;have h:(polsL (x3.H.B.take (x3.H.B.length-1))).length=(x3.H.B.length-1):=by rw[bS];rw[Z4];omega
   refine g6 ?_;refine bHb (λu=>?_) λu=>?_
   .refine g5 ?_;refine ss (ixs b) ?_;refine one ?_;refine ss (fV hb 0) ?_;refine g12 ?_;refine bT (ι:=Nat×Bool) [(1,_),(2,_),(5,_),(7,_),(9,_),(44,_),(45,_),(46,_),(47,_),(48,_),(49,_),(50,_),(51,_),(52,_),(53,_)] ⟨rfl,rfl,rfl,rfl,rfl,rfl,rfl,rfl,rfl,rfl,rfl,rfl,rfl,rfl,rfl,e9⟩ (λ⟨k,w⟩=>[(6,.bool w),(10,.int .i64 (k:Nat))]) (λ_=>[]) (λ⟨k,w⟩=>[bC.pure (k<=(x3.H.B.length-1)/\xL (wholeS x3.c ub.c.K) (polsL (x3.H.B.take (x3.H.B.length-1))) (polsL ub.K.B) k w)]) (λ⟨k,w⟩=>(x3.H.B.length-1)-k) (0,_) ⟨rfl,rfl,e9⟩ .nil ⟨f4 (⟨j5,by first|exact tD hTw j5 h (bS _)|exact tM hTw j5⟩),e9⟩ ?_;rintro⟨k,w⟩;dsimp only;refine bG d7 λa=>?_;refine g5 ?_;refine cE (λf=>?_) (λf=>?_)
    .refine g7 ?_;refine dO (λg=>?_) λg=>?_
     .refine g4 ?_;have m:w=true:=by assumption
      subst m;have l:=a.2.2 rfl;rw[h,bS]at l;obtain⟨N,v⟩:=gx (x3.H.B.take (x3.H.B.length-1)) k n7;obtain⟨L,t⟩:=gx ub.K.B k n7;refine dK _ _ [j2,u1,u0,u2,u3,u4,u5,u6,u7,u9,A00,A01,A02,A25,A04] dJ k7 (.c0 (.c0 .nil)) bA.self ?_;refine g2 ?_;refine stM rfl (bE hT (k:=k) (bH d9) rfl rfl rfl rfl rfl ad1 rfl n7) ?_;refine stM rfl (fV v 0) ?_;refine g3 ?_;refine stM rfl (ixs b) ?_;refine one ?_;refine stM rfl (fV hb 0) ?_;refine one ?_;refine stM rfl (ixs k) ?_;refine stM rfl (fV t 0) ?_;refine one ?_;refine bG (dI (Has.each d8 (f5 v))) λj=>?_;refine bL func146 (sC N L j) rfl rfl .nil ⟨fT (Has.each d8 (f5 v)),fT (Has.each (Has.of mT8) (f5 t)),e9⟩ λ_=>?_;refine g8 ?_;refine inc (k+1) ?_;refine g3 ?_;exact bk2 (k+1,_) ⟨f4 (⟨by dsimp only;omega,xV a.2 (cG v) (cG t)⟩),e9⟩
     refine g9 ?_;refine inc (i+1) ?_;refine g3 ?_;exact bk2 (i+1,mn+1,_) ⟨f4 (⟨by dsimp only;omega,by dsimp only;omega,pN d.2.2 e j5 (pK a.2 p6)⟩),e9⟩
    refine g17 ?_;refine inc (i+1) ?_;refine g3 ?_;exact bk2 (i+1,mn+1,_) ⟨f4 (⟨by dsimp only;omega,by dsimp only;omega,pN d.2.2 e j5 (pK a.2 p6)⟩),e9⟩
   refine g20 ?_;refine bT (ι:=Nat×Bool) [(1,_),(2,_),(5,_),(7,_),(9,_),(44,_),(45,_),(46,_),(47,_),(48,_),(49,_),(50,_),(51,_),(52,_),(53,_)] ⟨rfl,rfl,rfl,rfl,rfl,rfl,rfl,rfl,rfl,rfl,rfl,rfl,rfl,rfl,rfl,e9⟩ (λ⟨k,w⟩=>[(6,.bool w),(10,.int .i64 (k:Nat))]) (λ_=>[]) (λ⟨k,w⟩=>[bC.pure (k<=(x3.H.B.length-1)/\xL (wholeS x3.c ub.c.K) (polsL (x3.H.B.take (x3.H.B.length-1))) (polsL ub.K.B) k w)]) (λ⟨k,w⟩=>(x3.H.B.length-1)-k) (0,_) ⟨rfl,rfl,e9⟩ .nil ⟨f4 (⟨j5,by first|exact tD hTw j5 h (bS _)|exact tM hTw j5⟩),e9⟩ ?_;rintro⟨k,w⟩;dsimp only;refine bG d7 λa=>?_;refine g5 ?_;refine cE (λf=>?_) (λf=>?_)
   .refine g7 ?_;refine dO (λg=>?_) λg=>?_
    .refine g4 ?_;have m:w=true:=by assumption
     subst m;have l:=a.2.2 rfl;rw[h,bS]at l;obtain⟨K,p⟩:=gx (x3.H.B.take (x3.H.B.length-1)) k n7;obtain⟨J,s⟩:=gx ub.K.B k n7;refine dK _ _ [j2,u1,u0,u2,u3,u4,u5,u6,u7,u9,A00,A01,A02,A25,A04] dJ k7 (.c0 (.c0 .nil)) bA.self ?_;refine g2 ?_;refine stM rfl (bE hT (k:=k) (bH d9) rfl rfl rfl rfl rfl ad1 rfl n7) ?_;refine stM rfl (fV p 0) ?_;refine g3 ?_;refine stM rfl (ixs b) ?_;refine one ?_;refine stM rfl (fV hb 0) ?_;refine one ?_;refine stM rfl (ixs k) ?_;refine stM rfl (fV s 0) ?_;refine one ?_;refine bG (dI (Has.each d8 (f5 p))) λj=>?_;refine bL func146 (sC K J j) rfl rfl .nil ⟨fT (Has.each d8 (f5 p)),fT (Has.each (Has.of mT8) (f5 s)),e9⟩ λ_=>?_;refine g8 ?_;refine inc (k+1) ?_;refine g3 ?_;exact bk2 (k+1,_) ⟨f4 (⟨by dsimp only;omega,xV a.2 (cG p) (cG s)⟩),e9⟩
    refine g9 ?_;refine inc (i+1) ?_;refine g3 ?_;exact bk2 (i+1,mn+1,_) ⟨f4 (⟨by dsimp only;omega,by dsimp only;omega,pN d.2.2 e j5 (pK a.2 p6)⟩),e9⟩
   refine g17 ?_;refine inc (i+1) ?_;refine g3 ?_;exact bk2 (i+1,mn+1,_) ⟨f4 (⟨by dsimp only;omega,by dsimp only;omega,pN d.2.2 e j5 (pK a.2 p6)⟩),e9⟩
  refine g3 ?_;have hTw:=wholeB (ub:=ub) (x:=x3) ‹_›;have h:(polsL x3.H.B).length=x3.H.B.length:=by rw[bS]
  refine g6 ?_;refine bHb (λu=>?_) λu=>?_
  .refine g5 ?_;refine ss (ixs b) ?_;refine one ?_;refine ss (fV hb 0) ?_;refine g12 ?_;refine bT (ι:=Nat×Bool) [(1,_),(2,_),(5,_),(7,_),(9,_),(44,_),(45,_),(46,_),(47,_),(48,_),(49,_),(50,_),(51,_),(52,_),(53,_)] ⟨rfl,rfl,rfl,rfl,rfl,rfl,rfl,rfl,rfl,rfl,rfl,rfl,rfl,rfl,rfl,e9⟩ (λ⟨k,w⟩=>[(6,.bool w),(10,.int .i64 (k:Nat))]) (λ_=>[]) (λ⟨k,w⟩=>[bC.pure (k<=x3.H.B.length/\xL (wholeS x3.c ub.c.K) (polsL x3.H.B) (polsL ub.K.B) k w)]) (λ⟨k,w⟩=>x3.H.B.length-k) (0,_) ⟨rfl,rfl,e9⟩ .nil ⟨f4 (⟨j5,by first|exact tD hTw j5 h (bS _)|exact tM hTw j5⟩),e9⟩ ?_;rintro⟨k,w⟩;dsimp only;refine bG d7 λa=>?_;refine g5 ?_;refine cE (λf=>?_) (λf=>?_)
   .refine g7 ?_;refine dO (λg=>?_) λg=>?_
    .refine g4 ?_;have m:w=true:=by assumption
     subst m;have l:=a.2.2 rfl;rw[h,bS]at l;obtain⟨I,o⟩:=gx x3.H.B k n7;obtain⟨G,r⟩:=gx ub.K.B k n7;refine dK _ _ [j2,u1,u0,u2,u3,u4,u5,u6,u7,u9,A00,A01,A02,A25,A04] dJ k7 (.c0 (.c0 .nil)) bA.self ?_;refine g2 ?_;refine stM rfl (bE hT (k:=k) (bH e6) rfl rfl rfl rfl rfl rfl rfl n7) ?_;refine stM rfl (fV o 0) ?_;refine g3 ?_;refine stM rfl (ixs b) ?_;refine one ?_;refine stM rfl (fV hb 0) ?_;refine one ?_;refine stM rfl (ixs k) ?_;refine stM rfl (fV r 0) ?_;refine one ?_;refine bG (dI (Has.each d8 (f5 o))) λj=>?_;refine bL func146 (sC I G j) rfl rfl .nil ⟨fT (Has.each d8 (f5 o)),fT (Has.each (Has.of mT6) (f5 r)),e9⟩ λ_=>?_;refine g8 ?_;refine inc (k+1) ?_;refine g3 ?_;exact bk2 (k+1,_) ⟨f4 (⟨by dsimp only;omega,xV a.2 (cG o) (cG r)⟩),e9⟩
    refine g9 ?_;refine inc (i+1) ?_;refine g3 ?_;exact bk2 (i+1,mn+1,_) ⟨f4 (⟨by dsimp only;omega,by dsimp only;omega,pN d.2.2 e j5 (pK a.2 p6)⟩),e9⟩
   refine g17 ?_;refine inc (i+1) ?_;refine g3 ?_;exact bk2 (i+1,mn+1,_) ⟨f4 (⟨by dsimp only;omega,by dsimp only;omega,pN d.2.2 e j5 (pK a.2 p6)⟩),e9⟩
  refine g20 ?_;refine bT (ι:=Nat×Bool) [(1,_),(2,_),(5,_),(7,_),(9,_),(44,_),(45,_),(46,_),(47,_),(48,_),(49,_),(50,_),(51,_),(52,_),(53,_)] ⟨rfl,rfl,rfl,rfl,rfl,rfl,rfl,rfl,rfl,rfl,rfl,rfl,rfl,rfl,rfl,e9⟩ (λ⟨k,w⟩=>[(6,.bool w),(10,.int .i64 (k:Nat))]) (λ_=>[]) (λ⟨k,w⟩=>[bC.pure (k<=x3.H.B.length/\xL (wholeS x3.c ub.c.K) (polsL x3.H.B) (polsL ub.K.B) k w)]) (λ⟨k,w⟩=>x3.H.B.length-k) (0,_) ⟨rfl,rfl,e9⟩ .nil ⟨f4 (⟨j5,by first|exact tD hTw j5 h (bS _)|exact tM hTw j5⟩),e9⟩ ?_;rintro⟨k,w⟩;dsimp only;refine bG d7 λa=>?_;refine g5 ?_;refine cE (λf=>?_) (λf=>?_)
  .refine g7 ?_;refine dO (λg=>?_) λg=>?_
   .refine g4 ?_;have m:w=true:=by assumption
    subst m;have l:=a.2.2 rfl;rw[h,bS]at l;obtain⟨E,n⟩:=gx x3.H.B k n7;obtain⟨D,q⟩:=gx ub.K.B k n7;refine dK _ _ [j2,u1,u0,u2,u3,u4,u5,u6,u7,u9,A00,A01,A02,A25,A04] dJ k7 (.c0 (.c0 .nil)) bA.self ?_;refine g2 ?_;refine stM rfl (bE hT (k:=k) (bH e6) rfl rfl rfl rfl rfl rfl rfl n7) ?_;refine stM rfl (fV n 0) ?_;refine g3 ?_;refine stM rfl (ixs b) ?_;refine one ?_;refine stM rfl (fV hb 0) ?_;refine one ?_;refine stM rfl (ixs k) ?_;refine stM rfl (fV q 0) ?_;refine one ?_;refine bG (dI (Has.each d8 (f5 n))) λj=>?_;refine bL func146 (sC E D j) rfl rfl .nil ⟨fT (Has.each d8 (f5 n)),fT (Has.each (Has.of mT6) (f5 q)),e9⟩ λ_=>?_;refine g8 ?_;refine inc (k+1) ?_;refine g3 ?_;exact bk2 (k+1,_) ⟨f4 (⟨by dsimp only;omega,xV a.2 (cG n) (cG q)⟩),e9⟩
   refine g9 ?_;refine inc (i+1) ?_;refine g3 ?_;exact bk2 (i+1,mn+1,_) ⟨f4 (⟨by dsimp only;omega,by dsimp only;omega,pN d.2.2 e j5 (pK a.2 p6)⟩),e9⟩
  refine g17 ?_;refine inc (i+1) ?_;refine g3 ?_;exact bk2 (i+1,mn+1,_) ⟨f4 (⟨by dsimp only;omega,by dsimp only;omega,pN d.2.2 e j5 (pK a.2 p6)⟩),e9⟩
 refine g10 ?_;refine bHb (λz=>?_) λz=>?_
 .refine g6 ?_;have hfe:=full_end d.2.2 j5;exact rs1 () e9 (he:=o9)
 refine g6 ?_;have hfe:=full_end d.2.2 j5;exact rs1 () e9 (he:=o9)
def bJq (c:fX):List Bool:=if dC c.c=true then fullC c.c else []
theorem wM{c:dR}:(fullC c).length=c.C.length:=List.length_mapIdx
section
variable {c : fX} {i : Nat} {ub : jW} {ls : List Bool}
theorem fullC_at(hb:c.C.B[i]?=some ub):(fullC c.c)[i]?=some (qS c.c.D i ub.c):=by unfold fullC;rw[Am,show c.c.C[i]?=some ub.c from cM hb];rfl
theorem full_snoc(h:ls=(fullC c.c).take i)(hb:c.C.B[i]?=some ub):ls++[qS c.c.D i ub.c]=(fullC c.c).take (i+1):=by subst h;rw[G7,fullC_at hb];rfl
end
theorem Full15_spec(c:fX):cJ prog 78 [.agg #[j3 c.vars,f9 c.C,f9 c.D,f9 c.Q]] [] [lH c] (λ(x:Option Addr×Nat)=> .tuple #[.slice x.1 (bJq c).length x.2,j3 (if dC c.c=true then 0 else 100)]) (λ_=>[]) (λ(x:Option Addr×Nat)=>[gK.sl (.slice x.1 (bJq c).length x.2) (bJq c)]):=by
 have hT:=dF;generalize g:bJq c=V;have l:c.c.C.length=c.C.B.length:=cQ _;have hns:c.c.D.length=c.D.B.length:=cS _;have k:c.c.Q.length=c.Q.B.length:=rfl;refine j1 func78 ntmps78 ?_;intro β hM;refine cH<|bK (sU.sl (.slice c.C.O c.C.B.length c.C.cap) c.C.B) (kG (gC d7)) ?_;refine one ?_;refine j0 λq=>?_;refine g8 ?_;refine bL func35 (tG c) rfl rfl .nil ⟨d8,e9⟩ λ_=>?_;refine g3 ?_;refine tQ (λf=>?_) λf=>?_
 .refine g8 ?_;have hr:dC c.c=false:=by simp_all
  obtain rfl:V=[]:=by rw[<-g];simp[bJq,hr]
  exact rs2 (none,0) ⟨nil_pol,e9⟩ (he:=by rw[hr];rfl)
 refine g14 ?_;refine cL (t:=4) gK ?_;have hr:dC c.c=true:=by simp_all
 obtain⟨n,h,j⟩:=qI hr;refine bT (ι:=Nat×List Bool×Option Addr×Nat) [(1,_)] ⟨rfl,e9⟩ (λ⟨i,ls,LA,lp⟩=>[(4,.slice LA ls.length lp),(5,.int .i64 (i:Nat))]) (λ⟨i,ls,LA,lp⟩=>[gK.row (.slice LA ls.length lp) 4 ls]) (λ⟨i,ls,LA,lp⟩=>[bC.pure (i<=c.C.B.length/\ls=(fullC c.c).take i)]) (λ⟨i,ls,LA,lp⟩=>c.C.B.length-i) (0,[],none,0) ⟨rfl,rfl,e9⟩ (.c0 .nil) ⟨f4 (⟨j5,rfl⟩),e9⟩ ?_;rintro⟨i,ls,LA,lp⟩;dsimp only;refine bG d7 λa=>?_;have hll:ls.length<=i:=by rw[a.2];exact An ..
 refine g10 ?_;refine dO (λd=>?_) λd=>?_
 .refine g4 ?_;obtain⟨e,b⟩:=gx c.C.B i;refine g4 ?_;refine bL func144 (full15_spec c i e b hr) rfl rfl .nil ⟨d9,e9⟩ λ_=>?_;refine sL (m:=(qS c.c.D i e.c)) rfl rfl rfl rfl rfl λp=>?_;refine rX kT1 (fD .head rfl) rfl rfl rfl rfl rfl rfl rfl o6 λo c6=>?_;refine g7 ?_;refine inc (i+1) ?_;refine g3 ?_;exact bk2 (i+1,(ls++[(qS c.c.D i e.c)]),o,c6) ⟨f4 (⟨by dsimp only;omega,full_snoc a.2 b⟩),e9⟩
 refine g13 ?_;obtain rfl:ls=V:=by rw[a.2,<-g,Y2 (by rw[wM];omega)];simp[bJq,hr]
 refine gP .head ?_;exact rs2 (_,_) ⟨d7,e9⟩ (he:=by rw[hr];rfl)
theorem at_makeInts{β:dY}{n:Nat}{Γ:Env}{H:List bD}{F:List bC}{Q:Exit->Act->World->Prop}{ops:Array Oper}{rest:List Oper}{o:Oper}{d:Nat}{m:Nat}{x y:Operand}(hw:want ops Γ o=some true)(ho:o.op= .makeSlice 24 x y)(hd:o.dst=some d)(hn:C2 d n=true)
  (hx:Γ.ev x=some (j3 (m:Nat))) (hy:Γ.ev y=some (j3 (m:Nat))) (hm:m<=1000000)
  (k: ∀b,At β n ((d,.slice (some ⟨b,0,none⟩) m m)::Γ) (dA.row (.slice (some ⟨b,0,none⟩) m m) 3 (V4 m (0:Int))::H) F (wpList prog ops Q rest)):At β n Γ H F (wpList prog ops Q (o::rest)):=by
 obtain⟨i,f,a,c,hb⟩:=bLv;refine bFx (E:=dA) hw ho hd hn hx hy underlying24 f a c ad5 ab7 ?_ m9 k
 have e: ∀m,dA.all (V4 m (0:Int))=V4 m (.int .i64 0):=λm=>by
  induction m with
  |zero=>rfl
  |succ m ih=>rw[aE,aE,<-ih];rfl
 rw[e];unfold madeCells;apply aF
 .simp[dA]
 .intro i h1 h2;simp[aM,Nat.mod_one]
theorem iH{P:Program}{β:dY}{n:Nat}{Γ:Env}{H Hk:List bD}{F F0:List bC}{Q:Exit->Act->World->Prop}{ops:Array Oper}{r:List (Bool×Nat)}{o:Oper}{l k d:Nat}(hk:ops[k]?=some o)(hw:want ops Γ o=some false)(hd:o.dst=some d)(hn:C2 d n=true)
  (K:At β n ((d,undef)::Γ) H F (nE P ops (StF β Hk F0) Q l r)):At β n Γ H F (nE P ops (StF β Hk F0) Q l ((true,k)::r)):=λa w S f s b=>by refine⟨o,undef,hk,.inr ⟨f.want hw,rfl⟩,?_⟩;rw[hd];exact K _ _ S (f.put m8 undef) s b
section
variable {c : fX} {i b : Nat} {mn : List Int} {fl : List Bool} {x : gA} {ub : jW} {z : Int} {V : Bool}
def bUr (c:dR)(i:Nat)(mn:List Int)(fl:List Bool):Prop:=mn.length=c.C.length/\fl.length=c.C.length/\ ∀b u,c.C[b]?=some u->mn[b]?=some ((zX (c.D.take i) b:Nat):Int)/\fl[b]?=some (qS (c.D.take i) b u)
theorem fullS_start{c:dR}:bUr c 0 (V4 c.C.length 0) (V4 c.C.length false):=by refine⟨Z7,Z7,λb u hb=>?_⟩;have:=(G3.1 hb).1;rw[Ao,Ao,if_pos this,if_pos this];exact⟨rfl,rfl⟩
theorem bJm(h:bUr c.c i mn fl)(hu:c.C.B[b]?=some ub)(hz:mn[b]?=some z):0<=z/\z<=i:=by
 have h1:=(h.2.2 b ub.c (cM hu)).1;rw[hz]at h1;injection h1 with h1
 have:zX (c.c.D.take i) b<=i:=by unfold zX;exact C0 (List.length_filter_le ..) (An ..)
 omega
theorem rC(h:bUr c.c i mn fl)(hx:c.D.B[i]?=some x)(h0:0<=x.I)(hu:c.C.B[x.I.toNat]?=some ub)(hz:mn[x.I.toNat]?=some z)(hV:V=(decide (z+1=1)&&wholeS x.c ub.c.K)):bUr c.c (i+1) (mn.set x.I.toNat (z+1)) (fl.set x.I.toNat V):=by
 obtain⟨h1,h2,h3⟩:=h;refine⟨by rw[R0];exact h1,by rw[R0];exact h2,λb u hb=>?_⟩;obtain⟨d,g⟩:=h3 b u hb;have hlt:=(G3.1 hb).1;rw[show c.c.D.take (i+1)=c.c.D.take i++[x.c]from bCr (cN hx),bDu]
 by_cases e:x.I.toNat=b
 .subst e;have a:x.c.I=((x.I.toNat:Nat):Int):=by show x.I=_;omega
  rw[hz]at d;injection d with d
  have f:u=ub.c:=by
   have:=(cM hu).symm.trans hb;injection this with this
   exact this.symm
  rw[G8 j5,G8 j5,if_pos a,bKm a,hV,d,f];refine⟨by rw[Int.natCast_add];rfl,?_⟩
  have:decide (((zX (c.c.D.take i) x.I.toNat:Nat):Int)+1=1)=decide (zX (c.c.D.take i) x.I.toNat+1=1):=by rw[Bool.eq_iff_iff];simp only[decide_eq_true_eq];omega
  rw[this]
 .have a:x.c.I≠(b:Int):=by show x.I≠_;omega
  rw[R1 e,R1 e,if_neg a,bEv a];exact⟨d,g⟩
theorem fullS_end(h:bUr c.c i mn fl)(hi:c.D.B.length<=i):fl=fullC c.c:=by
 obtain⟨h1,h2,h3⟩:=h;rw[Y2 (show c.c.D.length<=i by rw[show c.c.D.length=c.D.B.length from cS _];exact hi)]at h3;apply aI;intro b;unfold fullC;rw[Am]
 cases hb:c.c.C[b]? with
 |none=>rw[Y5 (by rw[h2];exact aJ.1 hb)];rfl
 |some u=>rw[(h3 b u hb).2];rfl
end
theorem fullP_spec(c:fX)(hr:dC c.c=true):cJ prog 38 [.agg #[j3 c.vars,f9 c.C,f9 c.D,f9 c.Q]] [] [lH c] (λ(x:Option Addr×Nat)=> .slice x.1 c.C.B.length x.2) (λ(x:Option Addr×Nat)=>[gK.row (.slice x.1 c.C.B.length x.2) 4 (fullC c.c)]) (λ_=>[]):=by
 have hT:=dF;generalize X:fullC c.c=V;obtain⟨W,E,R⟩:=qI hr;have r:c.c.C.length=c.C.B.length:=cQ _;have hns:c.c.D.length=c.D.B.length:=cS _;refine j1 func38 ntmps38 ?_;intro β hM;refine cH<|bK (sU.sl (.slice c.C.O c.C.B.length c.C.cap) c.C.B) (kG (gC d7)) ?_;refine bK (pU.sl (.slice c.D.O c.D.B.length c.D.cap) c.D.B) (lM (gS d8)) ?_;refine one ?_;refine j0 λb1=>?_;refine g8 ?_;refine at_makeInts (m:=c.C.B.length) rfl rfl rfl rfl rfl rfl j5 λZ=>?_;refine g8 ?_;refine lZ (m:=c.C.B.length) rfl rfl rfl rfl rfl rfl j5 λY=>?_;refine g13 ?_;refine bT (ι:=Nat×List Int×List Bool) [(1,_),(3,_),(4,_),(18,_),(19,_)] ⟨rfl,rfl,rfl,rfl,rfl,e9⟩ (λ⟨i,mn,fl⟩=>[(20,.int .i64 (i:Nat))]) (λ⟨i,mn,fl⟩=>[dA.row (.slice (some ⟨Z,0,none⟩) c.C.B.length c.C.B.length) 3 mn,gK.row (.slice (some ⟨Y,0,none⟩) c.C.B.length c.C.B.length) 4 fl]) (λ⟨i,mn,fl⟩=>[bC.pure (i<=c.D.B.length/\bUr c.c i mn fl)]) (λ⟨i,mn,fl⟩=>c.D.B.length-i) (0,V4 c.C.B.length 0,V4 c.C.B.length false) ⟨rfl,e9⟩ (.c1 (.c0 .nil)) ⟨f4 (⟨j5,by rw[<-r];exact fullS_start⟩),e9⟩ ?_;rintro⟨i,mn,fl⟩;dsimp only;refine bG d7 λa=>?_;have p:mn.length=c.C.B.length:=by rw[a.2.1];exact r
 have l:fl.length=c.C.B.length:=by rw[a.2.2.1];exact r
 refine g6 ?_;refine dO (λA=>?_) λA=>?_
 .refine g6 ?_;obtain⟨x4,e⟩:=gx c.D.B i;refine ss (ixs i) ?_;refine ss (lI e 0) ?_;refine i7 xE λb6=>?_;refine g4 ?_;refine bK (mO x4) (Has.each (oM (gS e6)) (f5 e)) ?_;obtain⟨hb0,B,_⟩:=E x4.c (f5 (cN e))
  replace hb0:0<=x4.I:=hb0
  replace B:x4.I<(c.c.C.length:Nat):=B
  obtain⟨b,d⟩:=gx c.C.B x4.I.toNat;refine bK (bSc b) (Has.each (rV (gC e7)) (f5 d))<|bK (fF.sl (.slice b.K.O b.K.B.length b.K.cap) b.K.B) (mW d7)<|bG (qB d8) λQ=>bK (yG b.K.B) (mY d8)<|bK (fF.sl (.slice x4.H.O x4.H.B.length x4.H.cap) x4.H.B) (mW (nA e6))<|bG (qB (nA e7)) λq=>?_;have P:=q.1;have O:=q.2;refine bK (dM.sl (.slice x4.at_.O x4.at_.B.length x4.at_.cap) x4.at_.B) (fT (bFk e7))<|bK (yG x4.H.B) (mY (nA (Has.of mT5))) ?_;refine g14 ?_;refine jU (λz=>?_) λz=>?_
  .refine g5 ?_;refine bM (jO j5 j5) ?_;have G:=bGk hr e ‹_›;refine bM (z':=((x4.H.B.length-1:Nat):Int)) j5 ?_;have U:=bGk hr e ‹_›;refine ss (wP hT (k:=(x4.H.B.length-1)) rfl rfl rfl rfl rfl j5 j5) ?_;refine bK (fF.sl (.slice x4.H.O (x4.H.B.length-1) x4.H.cap) (x4.H.B.take (x4.H.B.length-1))) (bMp d9 j5)<|bK (yG (x4.H.B.take (x4.H.B.length-1))) (bQr _ d8) ?_;refine g4 ?_;have hTw:=wholeA (ub:=b) (x:=x4) ‹_›;refine g4 ?_;obtain⟨j,g⟩:=gx mn x4.I.toNat j9;refine ss (bE hT (k:=x4.I.toNat) (bN kT1) rfl rfl rfl rfl rfl p.symm j5 j9) ?_;have D:=bJm a.2 d g;refine ss (fV g 0) ?_;refine one ?_;refine bM (jO j5 j5) ?_;refine ss (bE hT (k:=x4.I.toNat) (bN kT1) rfl rfl rfl rfl rfl p.symm j5 j9) ?_;refine i6 hT (k:=x4.I.toNat) (fo:=0) (y':=(j+1:Int)) kT1 g ?_;refine g9 ?_;refine ss (bE hT (k:=x4.I.toNat) (bH (Has.of mT11)) rfl rfl rfl rfl rfl rfl j5 j5) ?_;refine one ?_;refine ss (fV d 0) ?_;have C:=bJp x4.H.O b.K.O x4.H.cap b.K.cap (x4.H.B.take (x4.H.B.length-1)) b.K.B n7;rw[show(x4.H.B.take (x4.H.B.length-1)).length=(x4.H.B.length-1) by rw[Z4];omega]at C;refine bL func90 C rfl rfl .nil ⟨d8,d7,(Has.of mT6),(Has.of mT5),e9⟩ λ_=>?_;refine g3 ?_;refine mF 19 _ _ [j2,u1,u0,u2,u3,u4,u5,u6,u7,u9,A00,A01,A02,A03,A04,A05,A07,A06,A17] dJ k7 (.c0 (.c0 (.c1 .nil))) bA.self ?_;refine g6 ?_;refine stL rfl (bE hT (k:=x4.I.toNat) (bN .head) rfl rfl rfl rfl rfl n9 j5 j9) ?_;refine stL rfl (bI hT (cF.knows (bN .head) (k:=x4.I.toNat) (x:=(j+1:Int)) (G8 j9) 0) rfl rfl rfl rfl rfl) ?_;refine g2 ?_;refine bHb (λo=>?_) λo=>?_
   .refine g6 ?_;refine bHb (λn=>?_) λn=>?_
    .refine g3 ?_;obtain⟨N,y⟩:=gx fl x4.I.toNat j9;refine ss (bE hT (k:=x4.I.toNat) (bN kT2) rfl rfl rfl rfl rfl l.symm j5 j9) ?_;refine g2 ?_;refine i6 hT (k:=x4.I.toNat) (fo:=0) (y':=(decide (polsL (x4.H.B.take (x4.H.B.length-1))=polsL b.K.B))) kT2 y ?_;refine g5 ?_;refine inc (i+1) ?_;refine g3 ?_;exact bk2 (i+1,(mn.set x4.I.toNat (j+1:Int)),(fl.set x4.I.toNat (decide (polsL (x4.H.B.take (x4.H.B.length-1))=polsL b.K.B)))) ⟨f4 (⟨by dsimp only;omega,rC a.2 e hb0 d g (by rw[hTw,decide_eq_true (show j+1=1 by omega),decide_eq_true (show x4.at_.B.length=0 by omega)];simp)⟩),e9⟩
    refine iH rfl rfl rfl rfl ?_;refine g2 ?_;obtain⟨M,w⟩:=gx fl x4.I.toNat j9;refine ss (bE hT (k:=x4.I.toNat) (bN kT2) rfl rfl rfl rfl rfl l.symm j5 j9) ?_;refine g2 ?_;refine i6 hT (k:=x4.I.toNat) (fo:=0) (y':=(false)) kT2 w ?_;refine g5 ?_;refine inc (i+1) ?_;refine g3 ?_;exact bk2 (i+1,(mn.set x4.I.toNat (j+1:Int)),(fl.set x4.I.toNat (false))) ⟨f4 (⟨by dsimp only;omega,rC a.2 e hb0 d g aa8⟩),e9⟩
   refine iH rfl rfl rfl rfl ?_;refine iH rfl rfl rfl rfl ?_;refine iH rfl rfl rfl rfl ?_;refine iH rfl rfl rfl rfl ?_;refine g2 ?_;refine iH rfl rfl rfl rfl ?_;refine g2 ?_;obtain⟨L,v⟩:=gx fl x4.I.toNat j9;refine ss (bE hT (k:=x4.I.toNat) (bN kT2) rfl rfl rfl rfl rfl l.symm j5 j9) ?_;refine g2 ?_;refine i6 hT (k:=x4.I.toNat) (fo:=0) (y':=(false)) kT2 v ?_;refine g5 ?_;refine inc (i+1) ?_;refine g3 ?_;exact bk2 (i+1,(mn.set x4.I.toNat (j+1:Int)),(fl.set x4.I.toNat (false))) ⟨f4 (⟨by dsimp only;omega,rC a.2 e hb0 d g (by rw[decide_eq_false (show ¬j+1=1 by omega)];rfl)⟩),e9⟩
  refine g3 ?_;have hTw:=wholeB (ub:=b) (x:=x4) ‹_›;refine g4 ?_;obtain⟨h,f⟩:=gx mn x4.I.toNat j9;refine ss (bE hT (k:=x4.I.toNat) (bN kT1) rfl rfl rfl rfl rfl p.symm j5 j9) ?_;have D:=bJm a.2 d f;refine ss (fV f 0) ?_;refine one ?_;refine bM (jO j5 j5) ?_;refine ss (bE hT (k:=x4.I.toNat) (bN kT1) rfl rfl rfl rfl rfl p.symm j5 j9) ?_;refine i6 hT (k:=x4.I.toNat) (fo:=0) (y':=(h+1:Int)) kT1 f ?_;refine g9 ?_;refine ss (bE hT (k:=x4.I.toNat) (bH (Has.of mT9)) rfl rfl rfl rfl rfl rfl j5 j5) ?_;refine one ?_;refine ss (fV d 0) ?_;have C:=bJp x4.H.O b.K.O x4.H.cap b.K.cap x4.H.B b.K.B n7;refine bL func90 C rfl rfl .nil ⟨d9,d7,e7,e6,e9⟩ λ_=>?_;refine g3 ?_;refine mF 19 _ _ [j2,u1,u0,u2,u3,u4,u5,u6,u7,u9,A00,A01,A02,A03,A04,A05,A07,A06,A17] dJ k7 (.c0 (.c0 (.c1 .nil))) bA.self ?_;refine g6 ?_;refine stL rfl (bE hT (k:=x4.I.toNat) (bN .head) rfl rfl rfl rfl rfl n9 j5 j9) ?_;refine stL rfl (bI hT (cF.knows (bN .head) (k:=x4.I.toNat) (x:=(h+1:Int)) (G8 j9) 0) rfl rfl rfl rfl rfl) ?_;refine g2 ?_;refine bHb (λo=>?_) λo=>?_
  .refine g6 ?_;refine bHb (λn=>?_) λn=>?_
   .refine g3 ?_;obtain⟨K,u⟩:=gx fl x4.I.toNat j9;refine ss (bE hT (k:=x4.I.toNat) (bN kT2) rfl rfl rfl rfl rfl l.symm j5 j9) ?_;refine g2 ?_;refine i6 hT (k:=x4.I.toNat) (fo:=0) (y':=(decide (polsL x4.H.B=polsL b.K.B))) kT2 u ?_;refine g5 ?_;refine inc (i+1) ?_;refine g3 ?_;exact bk2 (i+1,(mn.set x4.I.toNat (h+1:Int)),(fl.set x4.I.toNat (decide (polsL x4.H.B=polsL b.K.B)))) ⟨f4 (⟨by dsimp only;omega,rC a.2 e hb0 d f (by rw[hTw,decide_eq_true (show h+1=1 by omega),decide_eq_true (show x4.at_.B.length=0 by omega)];simp)⟩),e9⟩
   refine iH rfl rfl rfl rfl ?_;refine g2 ?_;obtain⟨J,t⟩:=gx fl x4.I.toNat j9;refine ss (bE hT (k:=x4.I.toNat) (bN kT2) rfl rfl rfl rfl rfl l.symm j5 j9) ?_;refine g2 ?_;refine i6 hT (k:=x4.I.toNat) (fo:=0) (y':=(false)) kT2 t ?_;refine g5 ?_;refine inc (i+1) ?_;refine g3 ?_;exact bk2 (i+1,(mn.set x4.I.toNat (h+1:Int)),(fl.set x4.I.toNat (false))) ⟨f4 (⟨by dsimp only;omega,rC a.2 e hb0 d f aa8⟩),e9⟩
  refine iH rfl rfl rfl rfl ?_;refine iH rfl rfl rfl rfl ?_;refine iH rfl rfl rfl rfl ?_;refine iH rfl rfl rfl rfl ?_;refine g2 ?_;refine iH rfl rfl rfl rfl ?_;refine g2 ?_;obtain⟨I,s⟩:=gx fl x4.I.toNat j9;refine ss (bE hT (k:=x4.I.toNat) (bN kT2) rfl rfl rfl rfl rfl l.symm j5 j9) ?_;refine g2 ?_;refine i6 hT (k:=x4.I.toNat) (fo:=0) (y':=(false)) kT2 s ?_;refine g5 ?_;refine inc (i+1) ?_;refine g3 ?_;exact bk2 (i+1,(mn.set x4.I.toNat (h+1:Int)),(fl.set x4.I.toNat (false))) ⟨f4 (⟨by dsimp only;omega,rC a.2 e hb0 d f (by rw[decide_eq_false (show ¬h+1=1 by omega)];rfl)⟩),e9⟩
 refine g12 ?_;have hfe:=fullS_end a.2 j5;obtain rfl:fl=V:=hfe.trans X;exact rs1 (_,_) trivial
section
variable {c : dR} {r : Option (List (List Mono) × List Mono)} {n b i : Nat} {s s' : PlC} {u : jX} {y : LifeC} {x : cT} {t : Bool}
def bRt (o:Option PlC):Option (List (List Mono)×List Mono):=o.map λs=>(s.Y,s.J)
def bEr (c:dR)(o:Option PlC):Option (List (List Mono)×List Mono):=match o with
 |none=>none
 |some s=>bRt (goC c (livesC c) (fullC c) c.D 0 s)
theorem bDh(c:dR):yX c=bEr c (mD c.C (livesC c) c.C.length 0 (oD c.C.length)):=by
 unfold yX bEr bRt
 cases mD c.C (livesC c) c.C.length 0 (oD c.C.length)with
 |none=>rfl
 |some s=>
  simp only;cases goC c (livesC c) (fullC c) c.D 0 s<;>rfl
theorem jA{m:Nat}(h:r=bEr c (mD c.C (livesC c) m b s))(hm:m=n+1)(hu:c.C[b]?=some u)(hy:(livesC c)[b]?=some y):
  (¬y.from_<0->r=bEr c (mD c.C (livesC c) n (b+1) s))/\(y.from_<0->(∀s',layC u.K b false s=some s'->r=bEr c (mD c.C (livesC c) n (b+1) s'))/\(layC u.K b false s=none->r=none)):=by subst hm;rw[mD,hu,hy]at h;simp only at h;refine⟨λh1=>by rw[h,if_neg h1],λh1=>⟨λs' a=>by rw[h,if_pos h1,a],λa=>by rw[h,if_pos h1,a];rfl⟩⟩
theorem bHw(h:r=bEr c (mD c.C (livesC c) 0 b s)):r=bRt (goC c (livesC c) (fullC c) c.D 0 s):=h
theorem go_step{ls:List cT}(h:r=bRt (goC c (livesC c) (fullC c) (ls.drop i) i s))(hx:ls[i]?=some x)(hu:c.C[x.I.toNat]?=some u)(hy:(livesC c)[x.I.toNat]?=some y)(ht:(fullC c)[x.I.toNat]?=some t):
  (¬y.from_=(i:Int)->r=bRt (goC c (livesC c) (fullC c) (ls.drop (i+1)) (i+1) s))/\(y.from_=(i:Int)->(∀s',layC u.K x.I.toNat t (relC i (livesC c) s)=some s'->r=bRt (goC c (livesC c) (fullC c) (ls.drop (i+1)) (i+1) s'))/\(layC u.K x.I.toNat t (relC i (livesC c) s)=none->r=none)):=by obtain⟨hlt,e⟩:=G3.1 hx;rw[<-aH hlt,e,goC,hu,hy,ht]at h;simp only at h;refine⟨λh1=>by rw[h,if_neg h1],λh1=>⟨λs' a=>by rw[h,if_pos h1,a],λa=>by rw[h,if_pos h1,a];rfl⟩⟩
theorem go_end{ls:List cT}(h:r=bRt (goC c (livesC c) (fullC c) (ls.drop i) i s))(hi:ls.length<=i):r=some (s.Y,s.J):=by rw[h,U8 hi,goC];rfl
end
def pB:PolV:=⟨none,0,[]⟩
theorem madePols(m:Nat):(madeCells (Value.slice none 0 0).cells (m*1)).toList=fF.all (V4 m pB):=by
 have e: ∀m,fF.all (V4 m pB)=V4 m (.slice none 0 0):=λm=>by
  induction m with
  |zero=>rfl
  |succ m ih=>rw[aE,aE,<-ih];rfl
 rw[e];unfold madeCells;apply aF
 .simp
 .intro i h1 h2;simp[aM,Nat.mod_one]
section
variable {β : dY} {n : Nat} {Γ : Env} {H : List bD} {F : List bC} {Q : Exit -> Act -> World -> Prop} {ops : Array Oper} {rest : List Oper} {o : Oper} {d : Nat}
theorem sN{m:Nat}{x y:Operand}(hw:want ops Γ o=some true)(ho:o.op= .makeSlice 42 x y)(hd:o.dst=some d)(hn:C2 d n=true)
  (hx:Γ.ev x=some (j3 (m:Nat))) (hy:Γ.ev y=some (j3 (m:Nat))) (hm:m<=1000000)
  (k: ∀b,At β n ((d,.slice (some ⟨b,0,none⟩) m m)::Γ) (fF.row (.slice (some ⟨b,0,none⟩) m m) 43 (V4 m pB)::H) F (wpList prog ops Q rest)):At β n Γ H F (wpList prog ops Q (o::rest)):=by obtain⟨i,e,a,c,hb⟩:=polsInfo;exact bFx (E:=fF) hw ho hd hn hx hy underlying42 e a c ad5 ab7 (madePols m) m9 k
end
theorem bGo(d:Nat)(x y:dX)(w:World):(Op.equalIn (d+2) 114 (.agg #[j3 x.from_,j3 x.za]) (.agg #[j3 y.from_,j3 y.za])).run prog w= .ok (x.from_==y.from_&&x.za==y.za) w:=by
 have e:prog.underlying 114=some (.struct (prog.fieldsOf 114)):=j8
 have c:prog.stoodInHeld 114=false:=j8
 have f:(prog.fieldsOf 114).toList=[⟨ "From",3,0,false, "", "",0⟩,⟨ "To",3,1,false, "", "",8⟩]:=j8
 have b: ∀z:dX,(part 3 #[.int .i64 z.from_,.int .i64 z.za] 0).run prog w= .ok (.int .i64 z.from_) w:=λz=>by kernel_rfl
 have a: ∀z:dX,(part 3 #[.int .i64 z.from_,.int .i64 z.za] 1).run prog w= .ok (.int .i64 z.za) w:=λz=>by kernel_rfl
 rw[run_equalIn_agg w (d+1) 114 _ _ e c,f];simp only[Op.eqFields,J0,Sem.run_ite,J1,b,a,J6,run_equalIn_int w d 3 .i64 .i64 _ _ underlying3]
 by_cases h1:x.from_=y.from_<;>by_cases h2:x.za=y.za<;>simp[h1,h2]
theorem bSg{β:dY}{n:Nat}{Γ:Env}{H:List bD}{F:List bC}{o:Oper}{a b:Operand}{tt:TypeId}(x y:dX)(ho:o.op= .binOp .neq 114 a b tt)(hx:Γ.ev a=some (.agg #[j3 x.from_,j3 x.za]))(hy:Γ.ev b=some (.agg #[j3 y.from_,j3 y.za])):Sti prog β n Γ H F o (.bool (!(x.from_==y.from_&&x.za==y.za))):=λc w S f s k=>by
 have hq:prog.eqGuardType prog.depth 114=false:=j8
 have hg:(eqGuard .neq 114 a b (.agg #[.int .i64 x.from_,.int .i64 x.za]) (.agg #[.int .i64 y.from_,.int .i64 y.za])).run prog w= .ok () w:=by unfold eqGuard;have d:(program:Sem Program).run prog w= .ok prog w:=rfl;simp[d,hq]
 have hr:(binOp .neq 114 (.agg #[.int .i64 x.from_,.int .i64 x.za]) (.agg #[.int .i64 y.from_,.int .i64 y.za])).run prog w= .ok (.bool (!(x.from_==y.from_&&x.za==y.za))) w:=by rw[run_neq_struct,bGo 9998 x y w];rfl
 unfold execOp;simp only[ho,f.ev hx,f.ev hy];rw[J0,J0,hg,J6,hr];rfl
theorem lay_len{sides:List (List Mono)}{b:Nat}{again:Bool}{s s':PlC}(h:layC sides b again s=some s'):s'.laid.length=s.laid.length:=by
 unfold layC at h;split at h
 .cases h
 .split at h
  .cases h;simp
  .split at h
   .cases h;simp
   .cases h
theorem rel_len(i:Int)(l:List LifeC)(s:PlC):(relC i l s).laid.length=s.laid.length:=bAs i l s.laid
theorem lc_lv(l:List LifeC):lc (lv l)=l:=by unfold lc lv;rw[List.map_map];exact List.map_id' l
theorem bSl(pb mb:Nat)(st:PSt)(pool fs:List SpotV)(s:PlC)(M:Nat)(h:iG st pool s fs M)(LA:Option Addr)(lcap n:Nat)(ls:List LifeC)(hl:ls.length=n)(hM:M+3*n<=70000000)(hn:n=s.laid.length)(stp:Int):cJ prog 42 [.pointer (some ⟨pb,0,none⟩),.slice LA n lcap,j3 stp] (plH pb mb st) [cR st.J,bC.each pool nJ,kI.sl (.slice LA n lcap) (lv ls)] (λ_:PSt×List SpotV×List SpotV=> .tuple #[]) (λx=>plH pb mb x.1)
  (λx=>[cR x.1.J,bC.each x.2.1 nJ,bC.pure (iG x.1 x.2.1 (relC stp ls s) x.2.2 (M+3*n))]):=by
 have a:(lv ls).length=n:=by rw[bAg,hl]
 subst a;have:=release_spec pb mb st pool fs s M h LA lcap (lv ls) hM hn stp;rw[lc_lv]at this;exact this
theorem bAn(bp bc bo:Nat)(c:fX)(OA:Option Addr)(oc N:Nat)(ats:List PolV)(hN:ats.length=N)(pb mb:Nat)(st:PSt)(pool fs:List SpotV)(s:PlC)(M:Nat)(h:iG st pool s fs M)(hM:M<=60000000)(b:Nat)(z:Int)(hz:z=(b:Nat))(u:jW)(hu:c.C.B[b]?=some u)(hb:b<s.laid.length)(hba:b<N)(ha:s.Y=ats.map (·.B))(again:Bool):cJ prog 39 [j3 z,.bool again,.pointer (some ⟨bp,0,none⟩),.pointer (some ⟨bc,0,none⟩),.pointer (some ⟨bo,0,none⟩)] (.obj bp (.cells ([.pointer (some ⟨pb,0,none⟩)]:List Value).toArray 101):: .obj bc (.cells ([j3 c.vars,f9 c.C,f9 c.D,f9 c.Q]:List Value).toArray 26):: .obj bo (.cells ([.slice OA N oc,.slice none 0 0]:List Value).toArray 45)::fF.row (.slice OA N oc) 43 ats::plH pb mb st) [lH c,cR st.J,bC.each pool nJ] (λ(_:PSt×List SpotV×List SpotV×PolV)=> j3 (if (layC (polsL u.K.B) b again s).isSome then 0 else 140)) (λ(x:PSt×List SpotV×List SpotV×PolV)=>(.obj bp (.cells ([.pointer (some ⟨pb,0,none⟩)]:List Value).toArray 101):: .obj bc (.cells ([j3 c.vars,f9 c.C,f9 c.D,f9 c.Q]:List Value).toArray 26):: .obj bo (.cells ([.slice OA N oc,.slice none 0 0]:List Value).toArray 45)::fF.row (.slice OA N oc) 43 (ats.set b x.2.2.2)::plH pb mb x.1)) (λ(x:PSt×List SpotV×List SpotV×PolV)=>[cR x.1.J,bC.each x.2.1 nJ,cR x.2.2.2,bC.pure (∀s',layC (polsL u.K.B) b again s=some s'->iG x.1 x.2.1 s' x.2.2.1 (M+2)/\s'.Y=(ats.set b x.2.2.2).map (·.B))]):=by have hT:=gF;subst hz;have j:=(G3.1 hu).1;obtain⟨l,g⟩:=gx ats b;refine j1 func39 ntmps39 ?_;intro β hM;refine cH<|bK (sU.sl (.slice c.C.O c.C.B.length c.C.cap) c.C.B) (kG (gC d7)) ?_;refine g5 ?_;refine dK _ _ [j2,u1,u0,u2,u3,u4,u5,u6,u7,A14,A00,A01,A02,A03,A04] dJ k7 (.c0 (.c0 (.c0 (.c0 .nil)))) bA.self ?_;refine g5 ?_;refine stM rfl (ixs b) ?_;refine one ?_;refine stM rfl (fV hu 0) ?_;refine g2 ?_;refine bK (nL u.K) (Has.each (rV (gC d8)) (f5 hu)) ?_;refine fY (eY (l₁:=[_,_,_,_])) ?_;refine bL func40 (lay_spec pb mb st pool fs s M h j5 b hb u.K again) rfl rfl (Split.front _ _) ⟨e6,e7,d7,e9⟩ λa=>?_;refine fY eY ?_;refine bG e6 λe=>?_;refine g9 ?_;refine dK _ _ [j2,u1,u0,u2,(false,4),(false,5),A08] dJ k7 (.c0 (.c0 (.c0 (.c1 (.c1 (.c1 (Sel.skip Sel.self))))))) bA.self ?_;refine g5 ?_;refine bG (bMs d9) λi=>?_;refine bL func41 (cloneM_spec a.2.2.2 i) rfl rfl .nil ⟨fT d9,e9⟩ λf=>?_;refine kP (.c0 (.c0 (.c0 (.c1 (.c1 (.c1 (Sel.skip Sel.self))))))) (bA.drop 1) ?_;refine one ?_;refine ss (bE hT (k:=b) (bN kT3) rfl rfl rfl rfl rfl hN.symm rfl j5) ?_;refine kP (.c0 (.c0 (.c0 (.c1 (.c1 (.c1 (Sel.skip Sel.self))))))) (bA.drop 1) ?_;refine one ?_;refine i6 hT (k:=b) (fo:=0) (y':=(⟨f.1,f.2,a.2.2.2.B⟩:PolV)) kT3 g ?_;refine kP (.c1 (.c1 (.c1 (.c1 (.c1 (.c1 (Sel.skip Sel.self))))))) (bA.drop 1) ?_;refine g9 ?_;exact mU (a.1,a.2.1,a.2.2.1,(⟨f.1,f.2,a.2.2.2.B⟩:PolV)) rfl (rv_tmp rfl) (.c1 (.c1 (.c1 (.c0 (.c0 (.c0 (.cons .head Sel.self))))))) ⟨d8,d9,d7,f4 (λs' d=>⟨(e s' d).1,by rw[(e s' d).2,ha,List.map_set]⟩),e9⟩ (rfl)
def iR (c:dR):(List (List Mono)×List Mono)×Int:=if dC c=true then match yX c with
 |some r=>(r,0)
 |none=>(([],[]),140)
 else (([],[]),100)
section
variable {c : dR}
theorem planW_no(h:dC c=false):iR c=(([],[]),100):=by unfold iR;rw[if_neg ab4]
theorem pP(h:dC c=true)(hp:yX c=none):iR c=(([],[]),140):=by unfold iR;rw[if_pos h,hp]
theorem bOb{r:List (List Mono)×List Mono}(h:dC c=true)(hp:yX c=some r):iR c=(r,0):=by unfold iR;rw[if_pos h,hp]
end
abbrev st0:PSt:=⟨⟨none,0,[]⟩,none,0,[],0,[]⟩
theorem rel_start(n:Nat):iG st0 [] (oD n) [] 0 where
 J:=rfl
 free:=rfl
 flat:=List.Perm.refl _
 rise:=List.Pairwise.nil
 top:=λ_ h=>by cases h
 apart:=λi _ r _ h=>by simp at h
 ok:=λk r h=>by simp at h
 keys:=List.nodup_nil
 laid:=λb=>by show none=((V4 n (none:Option SpC))[b]?).bind id;rw[Ao];split<;>rfl
 poolR:=λ_ h=>by cases h
 poolL:=λ_ h=>by cases h
 low:=Int.le_refl _
 high:=Int.le_refl _
 many:=B8 _
 len:=B8 _
theorem gM{l:List LifeC}{k:Nat}{x:dX}(h:(lv l)[k]?=some x):l[k]?=some x.c:=by have h1:=lc_at h;rw[lc_lv]at h1;exact h1
theorem life_none0{x:dX}(h:(!(x.from_==0&&x.za== -1))=false): ¬x.c.from_<0:=by
 show ¬x.from_<0
 simp at h;omega
theorem bRs(mb:Nat):prog.built 105 [(3,.map (some mb))]=some #[.slice none 0 0,.slice none 0 0,j3 0,.map (some mb)]:=j8
theorem zero_pp:(prog.info? 101).bind (·.zero)=some (.pointer none):=j8
theorem wI(n:Nat){F:List bC}:Has F (bC.each (V4 n pB) cR):=λS w k x hx=>by have:=List.eq_of_mem_replicate hx;subst this;exact polF_nil S w k
theorem bQf{A:Option Addr}{n c:Nat}{l:List PolV}{F:List bC}(h:Has F (fF.sl (.slice A n c) l))(hl:l.length=n):Has F (fF.sl (.slice A l.length c) l):=by rw[hl];exact h
theorem pG{F:List bC}:Has F (fF.sl (.slice none 0 0) []):=λ_ _ _=>⟨none,0,rfl,λk x h=>by simp at h⟩
theorem pL:(prog.info? 45).bind (·.zero)=some (.agg #[.slice none 0 0,.slice none 0 0]):=j8
theorem kO:prog.built 45 []=some #[.slice none 0 0,.slice none 0 0]:=j8
theorem uR(a0:Option Addr)(l0 c0:Nat):prog.built 45 [(0,.slice a0 l0 c0)]=some #[.slice a0 l0 c0,.slice none 0 0]:=j8
theorem PlanF_spec(c:fX):cJ prog 14 [.agg #[j3 c.vars,f9 c.C,f9 c.D,f9 c.Q]] [] [lH c,bC.cells 0 0 [j3 0,j3 (-1)]] (λ(x:LayV)=> .tuple #[.agg #[f9 x.at_,f9 x.size],j3 (iR c.c).2]) (λ_=>[]) (λ(x:LayV)=>[fF.sl (f9 x.at_) x.at_.B,bC.each x.at_.B cR,cR x.size,bC.pure ((polsL x.at_.B,x.size.B)=(iR c.c).1)]):=by
 have hT:=gF;generalize hR:yX c.c=R;refine j1 func14 ntmps14 ?_;intro β hM;refine g2 ?_;refine j0 λb1=>?_;refine i7 pL λb2=>?_;refine g7 ?_;refine bL func33 (bPb c) rfl rfl .nil ⟨d7,e9⟩ λ_=>?_;refine g3 ?_;refine tQ (λhc16=>?_) λhc16=>?_
 .refine g2 ?_;refine ss (bY rfl rfl (kO)) ?_;refine g6 ?_;have hW:=planW_no (c:=c.c) (by simpa using hc16);exact rs2 (⟨⟨none,0,[]⟩,⟨none,0,[]⟩⟩:LayV) ⟨pG,Has.each_nil,polF_nil,f4 t6,e9⟩ (he:=by rw[hW];rfl)
 refine g3 ?_;have hr:dC c.c=true:=by simpa using hc16
 obtain⟨hbz,hst,hou⟩:=qI hr;have hnb:c.c.C.length=c.C.B.length:=cQ _;have hns:c.c.D.length=c.D.B.length:=cS _;refine bK (sU.sl (.slice c.C.O c.C.B.length c.C.cap) c.C.B) (kG (gC d7)) ?_;refine dK _ _ [j2,u0,(false,1),(false,3),u3,u4] dJ k7 (.c0 (.c0 .nil)) bA.self ?_;refine g3 ?_;refine bL func37 (lives_spec c hr) rfl rfl .nil ⟨d8,d9,e9⟩ λ⟨LA,lcp⟩=>?_;refine gP (E:=kI) .head ?_;refine g2 ?_;refine bL func38 (fullP_spec c hr) rfl rfl .nil ⟨d9,e9⟩ λ⟨FA,fcp⟩=>?_;refine gP (E:=gK) .head ?_;refine g7 ?_;refine bOp .i64 rfl rfl rfl rfl λmb=>?_;refine ss (bY rfl rfl (bRs mb)) ?_;refine j0 λb3=>?_;refine cL (t:=284) sM ?_;refine i7 zero_pp λb4=>?_;refine g8 ?_;refine sN (m:=c.C.B.length) rfl rfl rfl rfl rfl rfl j5 λb5=>?_;refine ss (bY rfl rfl (uR _ _ _)) ?_;refine i7 pL λb6=>?_;refine g11 ?_;refine bK (cR st0.J) (polF_nil)<|bK (bC.each ([]:List SpotV) nJ) (Has.each_nil)<|bK (bC.each (V4 c.C.B.length pB) cR) (wI _) ?_;refine g8 ?_;refine rD (.c6 (.c2 (.c5 (.c0 (.c0 (.c1 (.c0 (.cons .head Sel.self)))))))) ?_;refine bRp (ι:=PSt×List SpotV×List SpotV×List PolV×PlC×Nat) [(1,_),(2,_),(4,_),(5,_),(6,_),(7,_),(8,_),(33,_)] ⟨rfl,rfl,rfl,rfl,rfl,rfl,rfl,rfl,e9⟩ (λ⟨st,pool,fs,ats,s,b⟩=>[(34,.int .i64 (b:Nat))]) (λ⟨st,pool,fs,ats,s,b⟩=>(.obj b2 (.cells ([.slice none 0 0,.slice none 0 0]:List Value).toArray 45):: .obj b4 (.cells ([.pointer (some ⟨b3,0,none⟩)]:List Value).toArray 101):: .obj b1 (.cells ([.int .i64 c.vars,.slice c.C.O c.C.B.length c.C.cap,.slice c.D.O c.D.B.length c.D.cap,.slice c.Q.O c.Q.B.length c.Q.cap]:List Value).toArray 26):: .obj b6 (.cells ([.slice (some ⟨b5,0,none⟩) c.C.B.length c.C.B.length,.slice none 0 0]:List Value).toArray 45)::fF.row (.slice (some ⟨b5,0,none⟩) c.C.B.length c.C.B.length) 43 ats::plH b3 mb st)) (λ⟨st,pool,fs,ats,s,b⟩=>[bC.pure (b<=c.C.B.length/\iG st pool s fs (2*b)/\s.Y=ats.map (·.B)/\ats.length=c.C.B.length/\s.laid.length=c.C.B.length/\R=bEr c.c (mD c.c.C (livesC c.c) (c.C.B.length-b) b s)),cR st.J,bC.each pool nJ,bC.each ats cR]) (λ⟨st,pool,fs,ats,s,b⟩=>c.C.B.length-b) (st0,[],[],V4 c.C.B.length pB,oD c.C.B.length,0) ⟨rfl,e9⟩ (List.Perm.refl _) ⟨f4 (⟨j5,rel_start _,by simp[oD,pB],Z7,by simp[oD],by rw[<-hR,bDh,hnb];rfl⟩),d9,d8,d7,e9⟩ ?_;rintro⟨st,pool,fs,ats,s,b⟩;dsimp only;refine bG d7 λhinv8=>?_;have h:=hinv8.2.1;have ha:=hinv8.2.2.1;have hal:=hinv8.2.2.2.1;have hsl:=hinv8.2.2.2.2.1;refine g6 ?_;refine dO (λhc35=>?_) λhc35=>?_
 .refine g11 ?_;have hmn:c.C.B.length-b=(c.C.B.length-(b+1))+1:=j5
  obtain⟨u,hu⟩:=gx c.C.B b;obtain⟨y,hy⟩:=gx (lv (livesC c.c)) b (by rw[bAg,iY,hnb];omega);refine dK _ _ [j2,u1,u0,u2,u3,u4,u5,u6,u7,u9,A00,A01,A02,A03] dJ k7 (.c0 (.c0 (.c0 (.c0 (.c0 (.c0 (.c0 (.cons .head Sel.self)))))))) bA.self ?_;refine g2 ?_;refine stM rfl (bE hT (k:=b) (bH (Has.of mT8)) rfl rfl rfl rfl rfl (by rw[bAg,iY,hnb]) rfl ((G3.1 hy).1)) ?_;refine stM rfl (lI hy 0) ?_;refine stM rfl (iC hT (bO (off:=0) (Has.of mT11)) rfl rfl rfl rfl rfl) ?_;refine stM rfl (bSg y ⟨0,-1⟩ rfl rfl rfl) ?_;refine one ?_;refine cE (λhg43=>?_) (λhg43=>?_)
  .refine g2 ?_;refine stM rfl (bE hT (k:=b) (bH (Has.of mT8)) rfl rfl rfl rfl rfl (by rw[bAg,iY,hnb]) rfl ((G3.1 hy).1)) ?_;refine one ?_;refine stM rfl (fV hy 0) ?_;refine g4 ?_;refine dO (λhc50=>?_) λhc50=>?_
   .refine cH ?_
    rcases hly:layC (polsL u.K.B) b false s with _|s'
    .refine g3 ?_;refine fY (eY (l₁:=[_])) ?_;refine nF (bJ func39 rfl rfl) (bAn b4 b1 b6 c (some ⟨b5,0,none⟩) c.C.B.length c.C.B.length ats hal b3 mb st pool fs s (2*b) h j5 b (b:Nat) rfl u hu j5 j5 ha false) rfl rfl rfl rfl rfl rfl rfl (Split.front _ _) ⟨Has.of mT10,d8,d9,e9⟩ λy7=>?_;refine fY eY ?_;refine bG e6 λhpu=>bM (z':=140) t7 ?_;refine g7 ?_;refine bR (t':=true) l4 ?_;refine g5 ?_;refine ss (bY rfl rfl (kO)) ?_;refine g11 ?_;have hW:=pP hr (hR.trans (((jA hinv8.2.2.2.2.2 hmn (cM hu) (gM hy)).2 ‹_›).2 hly));exact rs2 (⟨⟨none,0,[]⟩,⟨none,0,[]⟩⟩:LayV) ⟨pG,Has.each_nil,polF_nil,f4 t6,e9⟩ (he:=by rw[hW];rfl)
    refine g3 ?_;refine fY (eY (l₁:=[_])) ?_;refine nF (bJ func39 rfl rfl) (bAn b4 b1 b6 c (some ⟨b5,0,none⟩) c.C.B.length c.C.B.length ats hal b3 mb st pool fs s (2*b) h j5 b (b:Nat) rfl u hu j5 j5 ha false) rfl rfl rfl rfl rfl rfl rfl (Split.front _ _) ⟨Has.of mT10,d8,d9,e9⟩ λy8=>?_;refine fY eY ?_;refine bG e6 λhpu=>bM (z':=0) t7<|bK (bC.each (ats.set b y8.2.2.2) cR) (oK e8 d9) ?_;refine g7 ?_;refine bR (t':=false) l4 ?_;refine g8 ?_;refine inc (b+1) ?_;refine g3 ?_;exact qM (y8.1,y8.2.1,y8.2.2.1,ats.set b y8.2.2.2,s',b+1) k8 ⟨rfl,e9⟩ ⟨rfl,rfl,rfl,rfl,rfl,rfl,rfl,rfl,e9⟩ (List.Perm.refl _) ⟨f4 (⟨by dsimp only;omega,(hpu s' hly).1.more k8,(hpu s' hly).2,by rw[R0];exact hal,by rw[lay_len hly];exact hsl,((jA hinv8.2.2.2.2.2 hmn (cM hu) (gM hy)).2 ‹_›).1 s' hly⟩),d8,d9,d7,e9⟩ (bA.drop 9)
   refine g5 ?_;refine inc (b+1) ?_;refine g3 ?_;exact qM (st,pool,fs,ats,s,b+1) k8 ⟨rfl,e9⟩ ⟨rfl,rfl,rfl,rfl,rfl,rfl,rfl,rfl,e9⟩ (List.Perm.refl _) ⟨f4 (⟨by dsimp only;omega,h.more k8,ha,hal,hsl,(jA hinv8.2.2.2.2.2 hmn (cM hu) (gM hy)).1 aa6⟩),d8,d9,e6,e9⟩ (bA.drop 4)
  refine g15 ?_;refine inc (b+1) ?_;refine g3 ?_;exact qM (st,pool,fs,ats,s,b+1) k8 ⟨rfl,e9⟩ ⟨rfl,rfl,rfl,rfl,rfl,rfl,rfl,rfl,e9⟩ (List.Perm.refl _) ⟨f4 (⟨by dsimp only;omega,h.more k8,ha,hal,hsl,(jA hinv8.2.2.2.2.2 hmn (cM hu) (gM hy)).1 (life_none0 hg43)⟩),d8,d9,e6,e9⟩ (bA.drop 4)
 refine g15 ?_;refine bRp (ι:=PSt×List SpotV×List SpotV×List PolV×PlC×Nat) [(2,_),(4,_),(5,_),(6,_),(7,_),(8,_),(60,_),(61,_)] ⟨rfl,rfl,rfl,rfl,rfl,rfl,rfl,rfl,e9⟩ (λ⟨st,pool,fs,ats,s,i⟩=>[(62,.int .i64 (i:Nat))]) (λ⟨st,pool,fs,ats,s,i⟩=>(.obj b2 (.cells ([.slice none 0 0,.slice none 0 0]:List Value).toArray 45):: .obj b4 (.cells ([.pointer (some ⟨b3,0,none⟩)]:List Value).toArray 101):: .obj b1 (.cells ([.int .i64 c.vars,.slice c.C.O c.C.B.length c.C.cap,.slice c.D.O c.D.B.length c.D.cap,.slice c.Q.O c.Q.B.length c.Q.cap]:List Value).toArray 26):: .obj b6 (.cells ([.slice (some ⟨b5,0,none⟩) c.C.B.length c.C.B.length,.slice none 0 0]:List Value).toArray 45)::fF.row (.slice (some ⟨b5,0,none⟩) c.C.B.length c.C.B.length) 43 ats::plH b3 mb st)) (λ⟨st,pool,fs,ats,s,i⟩=>[bC.pure (i<=c.D.B.length/\iG st pool s fs (2048+3100*i)/\s.Y=ats.map (·.B)/\ats.length=c.C.B.length/\s.laid.length=c.C.B.length/\R=bRt (goC c.c (livesC c.c) (fullC c.c) (c.c.D.drop i) i s)),cR st.J,bC.each pool nJ,bC.each ats cR]) (λ⟨st,pool,fs,ats,s,i⟩=>c.D.B.length-i) (st,pool,fs,ats,s,0) ⟨rfl,e9⟩ (List.Perm.refl _) ⟨f4 (⟨j5,h.more j5,ha,hal,hsl,bHw (b:=b) (by have hb0:=hinv8.2.2.2.2.2;rwa[show c.C.B.length-b=0 by omega]at hb0)⟩),d8,d9,e6,e9⟩ ?_;rintro⟨st,pool,fs,ats,s,i⟩;dsimp only;refine bG d7 λhinv16=>?_;have h:=hinv16.2.1;have ha:=hinv16.2.2.1;have hal:=hinv16.2.2.2.1;have hsl:=hinv16.2.2.2.2.1;refine g6 ?_;refine dO (λhc63=>?_) λhc63=>?_
 .refine g5 ?_;refine bK (pU.sl (.slice c.D.O c.D.B.length c.D.cap) c.D.B) (lM (gS (Has.of mT14))) ?_;obtain⟨x,hx⟩:=gx c.D.B i;obtain⟨hb0,hb1,_⟩:=hst x.c (f5 (cN hx))
  replace hb0:0<=x.I:=hb0
  replace hb1:x.I<(c.c.C.length:Nat):=hb1
  have hbz2:x.I.toNat<c.C.B.length:=j5
  obtain⟨u,hu⟩: ∃u,c.C.B[x.I.toNat]?=some u:=⟨_,G1 hbz2⟩
  obtain⟨y,hy⟩:=gx (lv (livesC c.c)) x.I.toNat (by rw[bAg,iY,hnb];omega);obtain⟨t,ht⟩:=gx (fullC c.c) x.I.toNat (by rw[wM,hnb];omega);have hgo:=go_step hinv16.2.2.2.2.2 (cN hx) (cM hu) (gM hy) ht;refine g2 ?_;refine ss (ixs i) ?_;refine ss (lI hx 0) ?_;refine i7 xE λb9=>?_;refine g10 ?_;refine ss (bE hT (k:=x.I.toNat) (bH (Has.of mT13)) rfl rfl rfl rfl rfl (by rw[bAg,iY,hnb]) j5 ((G3.1 hy).1)) ?_;refine one ?_;refine ss (fV hy 0) ?_;refine g4 ?_;refine bEh (λhc74=>?_) λhc74=>?_
  .refine g6 ?_;refine inc (i+1) ?_;refine g3 ?_;refine rD (.c1 (.c1 (.c1 (.c1 (.c1 (.c1 (.c1 (.c1 (Sel.skip Sel.self))))))))) ?_;exact qM (st,pool,fs,ats,s,i+1) k8 ⟨rfl,e9⟩ ⟨rfl,rfl,rfl,rfl,rfl,rfl,rfl,rfl,e9⟩ (List.Perm.refl _) ⟨f4 (⟨by dsimp only;omega,h.more k8,ha,hal,hsl,hgo.1 ‹_›⟩),d9,e6,e7,e9⟩ (bA.drop 5)
  refine g7 ?_;refine fY (eY (l₁:=[_,_,_,_,_,_])) ?_;refine bL func42 (bSl b3 mb st pool fs s (2048+3100*i) h LA lcp c.C.B.length (livesC c.c) (by rw[iY,hnb]) j5 hsl.symm (i:Nat)) rfl rfl (Split.front _ _) ⟨d9,e6,Has.of mT13,e9⟩ λy10=>?_;refine fY eY ?_;refine bG d9 λhrl=>?_;refine g3 ?_
  rcases hly:layC (polsL u.K.B) x.I.toNat t (relC (i:Nat) (livesC c.c) s)with _|s'
  .refine dK _ _ [j2,u1,u0,u2,u3,u4,u5,u6,A09,u9] dJ k7 (.c0 (.c0 (.c0 (.c0 (.c0 .nil))))) bA.self ?_;refine g6 ?_;refine stM rfl (bE hT (k:=x.I.toNat) (bH (Has.of (u8 mT7))) rfl rfl rfl rfl rfl (by rw[wM,hnb]) j5 ((G3.1 ht).1)) ?_;refine stM rfl (fV ht 0) ?_;refine one ?_;refine rD (.c1 (.c0 (.c0 (.c0 (.c0 (.c0 (.c0 (.c0 (.cons .head Sel.self))))))))) ?_;refine fY (eY (l₁:=[_,_])) ?_;refine nF (bJ func39 rfl rfl) (bAn b4 b1 b6 c (some ⟨b5,0,none⟩) c.C.B.length c.C.B.length ats hal b3 mb y10.1 y10.2.1 y10.2.2 (relC (i:Nat) (livesC c.c) s) (2048+3100*i+3*c.C.B.length) hrl j5 x.I.toNat x.I j5 u hu (by rw[rel_len,hsl];exact hbz2) j5 ha t) rfl rfl rfl rfl rfl rfl rfl (Split.front _ _) ⟨Has.of (u8 (u8 mT2)),d7,d8,e9⟩ λy11=>?_;refine fY eY ?_;refine bG e6 λhpu=>bM (z':=140) t7 ?_;refine g8 ?_;refine bR (t':=true) l4 ?_;refine g5 ?_;refine ss (bY rfl rfl (kO)) ?_;refine g11 ?_;have hW:=pP hr (hR.trans ((hgo.2 ‹_›).2 hly));exact rs2 (⟨⟨none,0,[]⟩,⟨none,0,[]⟩⟩:LayV) ⟨pG,Has.each_nil,polF_nil,f4 t6,e9⟩ (he:=by rw[hW];rfl)
  refine dK _ _ [j2,u1,u0,u2,u3,u4,u5,u6,A09,u9] dJ k7 (.c0 (.c0 (.c0 (.c0 (.c0 .nil))))) bA.self ?_;refine g6 ?_;refine stM rfl (bE hT (k:=x.I.toNat) (bH (Has.of (u8 mT7))) rfl rfl rfl rfl rfl (by rw[wM,hnb]) j5 ((G3.1 ht).1)) ?_;refine stM rfl (fV ht 0) ?_;refine one ?_;refine rD (.c1 (.c0 (.c0 (.c0 (.c0 (.c0 (.c0 (.c0 (.cons .head Sel.self))))))))) ?_;refine fY (eY (l₁:=[_,_])) ?_;refine nF (bJ func39 rfl rfl) (bAn b4 b1 b6 c (some ⟨b5,0,none⟩) c.C.B.length c.C.B.length ats hal b3 mb y10.1 y10.2.1 y10.2.2 (relC (i:Nat) (livesC c.c) s) (2048+3100*i+3*c.C.B.length) hrl j5 x.I.toNat x.I j5 u hu (by rw[rel_len,hsl];exact hbz2) j5 ha t) rfl rfl rfl rfl rfl rfl rfl (Split.front _ _) ⟨Has.of (u8 (u8 mT2)),d7,d8,e9⟩ λy12=>?_;refine fY eY ?_;refine bG e6 λhpu=>bM (z':=0) t7<|bK (bC.each (ats.set x.I.toNat y12.2.2.2) cR) (oK (Has.of mT11) d9) ?_;refine g8 ?_;refine bR (t':=false) l4 ?_;refine g8 ?_;refine inc (i+1) ?_;refine g3 ?_;refine rD (.c0 (.c1 (.c1 (.c1 (.c1 (.c1 (.c1 (.c1 (Sel.skip Sel.self))))))))) ?_;exact qM (y12.1,y12.2.1,y12.2.2.1,ats.set x.I.toNat y12.2.2.2,s',i+1) k8 ⟨rfl,e9⟩ ⟨rfl,rfl,rfl,rfl,rfl,rfl,rfl,rfl,e9⟩ (List.Perm.refl _) ⟨f4 (⟨by dsimp only;omega,(hpu s' hly).1.more k8,(hpu s' hly).2,by rw[R0];exact hal,by rw[lay_len hly,rel_len];exact hsl,(hgo.2 ‹_›).1 s' hly⟩),d8,d9,d7,e9⟩ (bA.drop 13)
 refine g23 ?_;have hW:=bOb hr (hR.trans (go_end hinv16.2.2.2.2.2 ab5));refine gP (E:=fF) kT4 ?_;exact rs2 (⟨⟨(some ⟨b5,0,none⟩),c.C.B.length,ats⟩,st.J⟩:LayV) ⟨bQf d7 hal,e7,d9,f4 (by rw[hW,ha,<-h.J];rfl),e9⟩ (he:=by rw[hW];exact congrArg (λk=>Av #[.agg #[.slice (some ⟨b5,0,none⟩) k c.C.B.length,.slice st.J.O st.J.B.length st.J.cap],.int .i64 0]) hal.symm)
def MkV.ly(m:MkV)(p q:Option Addr×Nat)(A S:List Int):MkV:=⟨m.l,m.R,m.next,m.fail,m.frame,m.core,m.U,⟨p.1,p.2,A⟩,⟨q.1,q.2,S⟩⟩
def MkV.fr(m:MkV)(z:Int):MkV:=⟨m.l,m.R,m.next,m.fail,z,m.core,m.U,m.at_,m.size⟩
def mkA (m:MkV):bD:=dA.row (.slice m.at_.O m.at_.B.length m.at_.cap) 2 m.at_.B
def mkZ (m:MkV):bD:=dA.row (.slice m.size.O m.size.B.length m.size.cap) 2 m.size.B
def wV (ds:List Int)(u:jW):Int:=(tA ((polsL u.K.B).map λp=>(bF p ds).1)).1
theorem zero_buf:(prog.info? 95).bind (·.zero)=some (.agg #[.slice none 0 0,j3 0]):=j8
set_option maxHeartbeats 1000000 in
theorem layM_spec(mb:Nat)(m:MkV)(a:Option Addr×Nat)(s:GnS)(y:LayV)(hbuf: ∀u∈m.core.C.B,(∀p∈polsL u.K.B,(bF p m.U.B).2=0)/\u.K.B.length<=4)(hlen:y.at_.B.length=m.core.C.B.length)(hbl:m.core.C.B.length<=1024)(hat: ∀p∈polsL y.at_.B,(bF p m.U.B).2=0)(hfr:(bF y.size.B m.U.B).2=0)(hdl:m.U.B.length<=140737488355328):cJ prog 26 [.pointer (some ⟨mb,0,none⟩),.agg #[f9 y.at_,f9 y.size]] [mkO mb ((m.ly (none,0) (none,0) [] []).st a s),mkA (m.ly (none,0) (none,0) [] []),mkZ (m.ly (none,0) (none,0) [] [])] [lH m.core,dA.sl (f9 m.U) m.U.B,fF.sl (f9 y.at_) y.at_.B,bC.each y.at_.B cR,cR y.size] (λ(_:(Option Addr×Nat)×(Option Addr×Nat))=> .tuple #[]) (λ(x:(Option Addr×Nat)×(Option Addr×Nat))=>[mkO mb (((m.ly x.1 x.2 ((polsL y.at_.B).map (λp=>(bF p m.U.B).1)) (m.core.C.B.map (wV m.U.B))).fr (bF y.size.B m.U.B).1).st a s),mkA ((m.ly x.1 x.2 ((polsL y.at_.B).map (λp=>(bF p m.U.B).1)) (m.core.C.B.map (wV m.U.B))).fr (bF y.size.B m.U.B).1),mkZ ((m.ly x.1 x.2 ((polsL y.at_.B).map (λp=>(bF p m.U.B).1)) (m.core.C.B.map (wV m.U.B))).fr (bF y.size.B m.U.B).1)]) (λ_=>[]):=by
 have hT:=dL;refine j1 func26 ntmps26 ?_;intro β hM;refine g2 ?_;refine j0 λU=>?_;refine g4 ?_;refine bK (sU.sl (.slice m.core.C.O m.core.C.B.length m.core.C.cap) m.core.C.B) (kG (gC d7)) ?_;refine g7 ?_;refine bM (z':=((m.core.C.B.length:Nat):Int)) rfl ?_;refine g4 ?_;refine bT (ι:=(Option Addr×Nat)×(Option Addr×Nat)×List Int×List Int×Nat) [(0,_),(3,_),(15,_),(16,_)] ⟨rfl,rfl,rfl,rfl,e9⟩ (λ⟨p,q,AT,SZ,i⟩=>[(17,.int .i64 (i:Nat))]) (λ⟨p,q,AT,SZ,i⟩=>[mkO mb ((m.ly p q AT SZ).st a s),mkA (m.ly p q AT SZ),mkZ (m.ly p q AT SZ)]) (λ⟨p,q,AT,SZ,i⟩=>[bC.pure (i<=m.core.C.B.length/\(AT.length=i/\SZ.length=i)/\AT=((polsL y.at_.B).take i).map (λp=>(bF p m.U.B).1)/\SZ=(m.core.C.B.take i).map (wV m.U.B))]) (λ⟨p,q,AT,SZ,i⟩=>m.core.C.B.length-i) ((none,0),(none,0),[],[],0) ⟨rfl,e9⟩ (.c1 (.c1 (.c1 .nil))) ⟨f4 (⟨j5,⟨rfl,rfl⟩,rfl,rfl⟩),e9⟩ ?_;rintro⟨p,q,AT,SZ,i⟩;dsimp only;refine bG d7 λb=>?_;have K:=b.2.1.1;have J:=b.2.1.2;refine g6 ?_;refine dO (λo=>?_) λo=>?_
 .refine g5 ?_;obtain⟨u,hu⟩:=gx m.core.C.B i;refine bK (bSc u) (Has.each (rV (gC d9)) (f5 hu)) ?_;have r:=hbuf u (f5 hu);refine g2 ?_;refine ss (ixs i) ?_;refine ss (lI hu 0) ?_;refine i7 zero_buf λR=>?_;refine g11 ?_;refine cL (t:=2) dA<|bK (fF.sl (.slice u.K.O u.K.B.length u.K.cap) u.K.B) (mW d7)<|bG (qB d8) λl=>?_;have D:=l.1;have C:=l.2;refine g8 ?_;refine bT (ι:=Option Addr×Nat×List Int×Nat) [(0,_),(3,_),(4,_),(15,_),(16,_),(17,_),(23,_),(24,_)] ⟨rfl,rfl,rfl,rfl,rfl,rfl,rfl,rfl,e9⟩ (λ⟨LA,lc,acc,j⟩=>[(6,.slice LA acc.length lc),(25,.int .i64 (j:Nat))]) (λ⟨LA,lc,acc,j⟩=>[dA.row (.slice LA acc.length lc) 2 acc]) (λ⟨LA,lc,acc,j⟩=>[bC.pure (j<=u.K.B.length/\acc.length=j/\acc=((polsL u.K.B).take j).map (λp=>(bF p m.U.B).1))]) (λ⟨LA,lc,acc,j⟩=>u.K.B.length-j) (none,0,[],0) ⟨rfl,rfl,e9⟩ (.c0 .nil) ⟨f4 (⟨j5,rfl,rfl⟩),e9⟩ ?_;rintro⟨LA,lc,acc,j⟩;dsimp only;refine bG d7 λc=>?_;have L:=c.2.1;refine g6 ?_;refine dO (λn=>?_) λn=>?_
  .refine g5 ?_;obtain⟨x,hx⟩:=gx u.K.B j;refine bK (cR x) (Has.each (mY d9) (f5 hx)) ?_;refine one ?_;refine ss (ixs j) ?_;refine ss (fV hx 0) ?_;refine g7 ?_;have h:(bF x.B m.U.B).2=0:=r.1 x.B (f5 (cG hx));refine bL func65 (rS (λ_=>by unfold zF;exact if_pos h) (sD mb (m.ly p q AT SZ) a s x hdl)) rfl rfl (.c2 .nil) ⟨d7,e8,e9⟩ λ_=>?_;refine nV (m:=(bF x.B m.U.B).1) rfl rfl rfl rfl rfl λQ=>?_;refine nP kT2 (fD .head rfl) rfl rfl rfl rfl rfl rfl rfl o8 λN c5=>?_;refine g6 ?_;refine inc (j+1) ?_;refine g3 ?_;exact bk2 (N,c5,acc++[(bF x.B m.U.B).1],j+1) ⟨f4 (⟨by dsimp only;omega,by dsimp only;rw[G4,Ad];omega,by dsimp only;rw[c.2.2];exact(xF (f:=(λp=>(bF p m.U.B).1)) (cG hx)).symm⟩),e9⟩
  refine g6 ?_;have M:(polsL u.K.B).map (λp=>(bF p m.U.B).1)=acc:=by rw[c.2.2,Y2 p9]
  have v:(tA acc).1=wV m.U.B u:=by rw[<-M];rfl
  refine gP (E:=dA) .head ?_;refine g2 ?_;refine bL func66 (size_spec LA lc acc j5) rfl rfl .nil ⟨d7,e9⟩ λ_=>?_;refine g2 ?_;refine bM (z':=wV m.U.B u) v ?_;refine g13 ?_;refine nV (m:=(wV m.U.B u)) rfl rfl rfl rfl rfl λP=>?_;refine nP kT4 (fD .head rfl) rfl rfl rfl rfl rfl rfl rfl ac6 λI G=>?_;refine g5 ?_;obtain⟨k,d⟩:=gx y.at_.B i;refine bK (cR k) (Has.each (Has.of mT9) (f5 d)) ?_;refine mF 16 _ _ [j2,u1,u0,u2,u3,u4,u5,u6,u7,u9,A00,A12,A24,A25,A04,A05] dJ k7 (.c0 (.c0 (.c0 (.c0 (.c1 .nil))))) bA.self ?_;refine g9 ?_;refine stL rfl (ixs i) ?_;refine stL rfl (fV d 0) ?_;refine one ?_;have g:(bF k.B m.U.B).2=0:=hat k.B (f5 (cG d));refine bL func65 (rS (λ_=>by unfold zF;exact if_pos g) (sD mb (m.ly p (I,G) AT (SZ++[wV m.U.B u])) a s k hdl)) rfl rfl (.c0 .nil) ⟨d7,(Has.of mT8),e9⟩ λ_=>?_;refine g2 ?_;refine nV (m:=(bF k.B m.U.B).1) rfl rfl rfl rfl rfl λO=>?_;refine g2 ?_;refine nP kT5 (fD .head rfl) rfl rfl rfl rfl rfl rfl rfl ac6 λB A=>?_;refine g10 ?_;refine inc (i+1) ?_;refine g3 ?_;exact bk2 ((B,A),(I,G),AT++[(bF k.B m.U.B).1],SZ++[wV m.U.B u],i+1) ⟨f4 (⟨by dsimp only;omega,⟨by dsimp only;rw[G4,Ad];omega,by dsimp only;rw[G4,Ad];omega⟩,by dsimp only;rw[b.2.2.1];exact(xF (f:=(λp=>(bF p m.U.B).1)) (cG d)).symm,by dsimp only;rw[b.2.2.2];exact(xF (f:=wV m.U.B) hu).symm⟩),e9⟩
 refine g10 ?_;have e:(bF y.size.B m.U.B).2=0:=hfr;refine bL func65 (rS (λ_=>by unfold zF;exact if_pos e) (sD mb (m.ly p q AT SZ) a s y.size hdl)) rfl rfl (.c0 .nil) ⟨(Has.of mT6),e6,e9⟩ λ_=>?_;refine g4 ?_;have z:AT=((polsL y.at_.B).map (λp=>(bF p m.U.B).1)):=by rw[b.2.2.1,Y2 p9]
 have w:SZ=(m.core.C.B.map (wV m.U.B)):=by rw[b.2.2.2,Y2 j5]
 rw[<-z,<-w];exact dE (p,q) rfl (.c0 (.c0 (.c0 .nil))) e9 rfl
def insEq (x y:dU):Bool:=((x.op==y.op)&&((x.a==y.a)&&((x.b==y.b)&&((x.c==y.c)&&(x.zd==y.zd)))))
theorem bLd(d:Nat)(x y:dU)(w:World):(Op.equalIn (d+2) 52 (.agg #[j4 x.op,j4 x.a,j4 x.b,j4 x.c,.int .i32 x.zd]) (.agg #[j4 y.op,j4 y.a,j4 y.b,j4 y.c,.int .i32 y.zd])).run prog w= .ok (insEq x y) w:=by
 have j:prog.stoodInHeld 52=false:=j8
 have i: ∀x:dU,(part 5 #[.int .u8 x.op,.int .u8 x.a,.int .u8 x.b,.int .u8 x.c,.int .i32 x.zd] 0).run prog w= .ok (.int .u8 x.op) w:=λx=>by kernel_rfl
 have h: ∀x:dU,(part 5 #[.int .u8 x.op,.int .u8 x.a,.int .u8 x.b,.int .u8 x.c,.int .i32 x.zd] 1).run prog w= .ok (.int .u8 x.a) w:=λx=>by kernel_rfl
 have g: ∀x:dU,(part 5 #[.int .u8 x.op,.int .u8 x.a,.int .u8 x.b,.int .u8 x.c,.int .i32 x.zd] 2).run prog w= .ok (.int .u8 x.b) w:=λx=>by kernel_rfl
 have f: ∀x:dU,(part 5 #[.int .u8 x.op,.int .u8 x.a,.int .u8 x.b,.int .u8 x.c,.int .i32 x.zd] 3).run prog w= .ok (.int .u8 x.c) w:=λx=>by kernel_rfl
 have e: ∀x:dU,(part 21 #[.int .u8 x.op,.int .u8 x.a,.int .u8 x.b,.int .u8 x.c,.int .i32 x.zd] 4).run prog w= .ok (.int .i32 x.zd) w:=λx=>by kernel_rfl
 have k:prog.underlying 52=some (.struct (prog.fieldsOf 52)):=j8
 rw[run_equalIn_agg w (d+1) 52 _ _ k j];unfold Program.fieldsOf;rw[underlying52];simp only[Op.eqFields,J0,Sem.run_ite,J1,i,h,g,f,e,J6,run_equalIn_int w d 5 .u8 .u8 _ _ underlying5,run_equalIn_int w d 21 .i32 .i32 _ _ underlying21];unfold insEq;cases x.op==y.op<;>cases x.a==y.a<;>cases x.b==y.b<;>cases x.c==y.c<;>cases x.zd==y.zd<;>rfl
theorem sti_eql_ins{β:dY}{n:Nat}{Γ:Env}{H:List bD}{F:List bC}{o:Oper}{a b:Operand}{tt:TypeId}(x y:dU)(ho:o.op= .binOp .eql 52 a b tt)(hx:Γ.ev a=some (.agg #[j4 x.op,j4 x.a,j4 x.b,j4 x.c,.int .i32 x.zd]))(hy:Γ.ev b=some (.agg #[j4 y.op,j4 y.a,j4 y.b,j4 y.c,.int .i32 y.zd])):Sti prog β n Γ H F o (.bool (insEq x y)):=λc w S f s k=>by
 have hq:prog.eqGuardType prog.depth 52=false:=j8
 have hg:(eqGuard .eql 52 a b (.agg #[.int .u8 x.op,.int .u8 x.a,.int .u8 x.b,.int .u8 x.c,.int .i32 x.zd]) (.agg #[.int .u8 y.op,.int .u8 y.a,.int .u8 y.b,.int .u8 y.c,.int .i32 y.zd])).run prog w= .ok () w:=by unfold eqGuard;have d:(program:Sem Program).run prog w= .ok prog w:=rfl;simp[d,hq]
 have hb:(binOp .eql 52 (.agg #[.int .u8 x.op,.int .u8 x.a,.int .u8 x.b,.int .u8 x.c,.int .i32 x.zd]) (.agg #[.int .u8 y.op,.int .u8 y.a,.int .u8 y.b,.int .u8 y.c,.int .i32 y.zd])).run prog w= .ok (.bool (insEq x y)) w:=by rw[run_eql_struct,bLd 9998 x y w];rfl
 unfold execOp;simp only[ho,f.ev hx,f.ev hy];rw[J0,J0,hg,J6,hb];rfl
open Go.ChangeMaps (setBlock)
def iterC (b:Nat)(l:Bs)(pos:Nat):bD:= .obj b (.stringIter (bs l) pos)
section
variable {P : Program} {β : dY} {n : Nat} {Γ : Env} {H : List bD} {F : List bC} {Q : Exit -> Act -> World -> Prop} {ops : Array Oper} {rest : List Oper} {o : Oper}
theorem at_range{d:Nat}{t:TypeId}{x:Operand}{l:Bs}(hw:want ops Γ o=some true)(ho:o.op= .range t x)(hd:o.dst=some d)(hn:C2 d n=true)(ht:P.underlying t=some .string)(hx:Γ.ev x=some (.string (bs l)))
  (k: ∀b,At β n ((d,.pointer (some ⟨b,0,none⟩))::Γ) (iterC b l 0::H) F (wpList P ops Q rest)):At β n Γ H F (wpList P ops Q (o::rest)):=
 gR hw λa w S f s c=>by
  have hr:(execOp a.eval o).run P w= .ok (.value (.pointer (some ⟨w.heap.size,0,none⟩))) (w.alloc (.stringIter (bs l) 0)):=by unfold execOp;simp only[ho,f.ev hx,J0,run_range_string w t (bs l) ht];rfl
  unfold L2;rw[hr,L3,hd];exact k _ _ _ S (f.put m8 _) (s.alloc _) (All.alloc s c _)
theorem at_next_end{d b:Nat}{x:Operand}{l:Bs}{pos:Nat}{H':List bD}(hH:bZ H (iterC b l pos) H')(hp:l.length<=pos)(hw:want ops Γ o=some true)(ho:o.op= .next x true)(hd:o.dst=some d)(hn:C2 d n=true)(hx:Γ.ev x=some (.pointer (some ⟨b,0,none⟩)))
  (k:At β n ((d,.tuple #[.bool false])::Γ) H F (wpList P ops Q rest)):At β n Γ H F (wpList P ops Q (o::rest)):=
 gR hw λa w S f s c=>by
  have hb:w.heap[b]?=some (.stringIter (bs l) pos):=s.ok _ hH.mem
  have hr:(execOp a.eval o).run P w= .ok (.value (.tuple #[.bool false])) w:=by unfold execOp;simp only[ho,f.ev hx,J0,Lib.run_next_end_at w b (bs l) pos _ hb (by rw[bs_size];omega)];rfl
  unfold L2;rw[hr,L3,hd];exact k _ _ S (f.put m8 _) s c
theorem at_next_at{d b:Nat}{x:Operand}{l:Bs}{pos:Nat}{c:UInt8}{H':List bD}(hH:bZ H (iterC b l pos) H')(hp:l[pos]?=some c)(hc:c.toNat<128)(hw:want ops Γ o=some true)(ho:o.op= .next x true)(hd:o.dst=some d)(hn:C2 d n=true)(hx:Γ.ev x=some (.pointer (some ⟨b,0,none⟩)))
  (k:At β n ((d,.tuple #[.bool true,j3 (pos:Nat),.int .i32 (c.toNat:Nat)])::Γ) (iterC b l (pos+1)::H') F (wpList P ops Q rest)):At β n Γ H F (wpList P ops Q (o::rest)):=
 gR hw λa w S f s p=>by
  have hb:w.heap[b]?=some (.stringIter (bs l) pos):=s.ok _ hH.mem;obtain⟨hlt,he⟩:=G3.1 hp;have m:pos<(bs l).size:=by rw[bs_size];exact hlt
  have i:(bs l)[pos]'m=c:=by rw[<-he];simp[bs,ByteArray.getElem_eq_getElem_data]
  have hr:(execOp a.eval o).run P w= .ok (.value (.tuple #[.bool true,.int .i64 (pos:Nat),.int .i32 (c.toNat:Nat)])) (setBlock w b (.stringIter (bs l) (pos+1))):=by unfold execOp;simp only[ho,f.ev hx,J0,Lib.run_next_ascii_at w b (bs l) pos _ hb m (by rw[i];exact hc),i];rfl
  unfold L2;rw[hr,L3,hd];have j:=s.perm hH.perm;have g:b<w.heap.size:=(N9.1 hb).1;refine k _ _ S (f.put m8 _) (j.swap jR rfl rfl ?_) (All.mono (λ_ h=>h) (s.agree jR (λc hc e=>by subst e;exact(j.own _ (F9 ..) _ rfl).2.2 hc)) p);show(setBlock w b _).heap[b]?=_;simp[setBlock,g]
end
end
section
open Go.RowKit Go.Proofs.Tryz
theorem iteP{α:Type}{Q:α->Prop}{p:Prop} [Decidable p]{a b:α}(ha:Q a)(hb:Q b):Q (if p then a else b):=by
 by_cases h:p
 .rw[if_pos h];exact ha
 .rw[if_neg h];exact hb
def SmallB(r:List UInt8×List UInt8):Prop:= ∀c∈r.2,c.toNat<128
theorem hasN_small(op:Int):SmallB (hasN op):=by
 unfold hasN
 repeat' refine iteP (Q:=SmallB) ?_ ?_
 all_goals (unfold SmallB;decide)
theorem bRm{c:UInt8}: ∀{l:List UInt8} {x:dU},yQ x (l++[c])=bHq (yQ x l) c
 |[],_=>rfl
 |_::l,_=>bRm (l:=l)
theorem zT{x:dU}{l:List UInt8}{k:Nat}{c:UInt8}(h:l[k]?=some c):yQ x (l.take (k+1))=bHq (yQ x (l.take k)) c:=by obtain⟨hlt,e⟩:=G3.1 h;subst e;rw[Y1 hlt,bRm]
theorem u8_ofH{c d:UInt8}{k:Nat}(h:((c.toNat:Nat):Int)=(k:Nat))(hd:d.toNat=k):c=d:=UInt8.toNat_inj.1 j5
theorem bCp{c d:UInt8}{k:Nat}(h:((c.toNat:Nat):Int)≠(k:Nat))(hd:d.toNat=k):c≠d:=λe=>h (by rw[e,hd])
theorem rt_four(n:List UInt8)(a b c:Int):n=[]\/(n≠[]/\16<=a)\/(n≠[]/\ ¬16<=a/\16<=b)\/(n≠[]/\ ¬16<=a/\ ¬16<=b/\16<=c)\/(n≠[]/\ ¬16<=a/\ ¬16<=b/\ ¬16<=c):=by
 rcases Aw (n=[])with h|h
 .exact .inl h
 .rcases Aw (16<=a)with h1|h1
  .exact .inr (.inl ⟨h,h1⟩)
  .rcases Aw (16<=b)with h2|h2
   .exact .inr (.inr (.inl ⟨h,h1,h2⟩))
   .rcases Aw (16<=c)with h3|h3
    .exact .inr (.inr (.inr (.inl ⟨h,h1,h2,h3⟩)))
    .exact .inr (.inr (.inr (.inr ⟨h,h1,h2,h3⟩)))
theorem bCw:(prog.info? 52).bind (·.zero)=some (.agg #[j4 0,j4 0,j4 0,j4 0,.int .i32 0]):=j8
set_option maxHeartbeats 1000000 in
theorem has_spec(op:Int):cJ prog 45 [j4 op] [] [] (λ(_:Unit)=> .tuple #[.string (bs (hasN op).1),.string (bs (hasN op).2)]) (λ_=>[]) (λ_=>[]):=by
 have hT:=dL;refine j1 func45 ntmps45 ?_;intro β hM;refine g19 ?_;refine jU (λd=>?_) λd=>?_
 .refine g9 ?_;have j:hasN op=([104,97,108,116],[]):=by unfold hasN;rw[if_pos d]
  rw[j];exact rs2 () trivial
 refine g6 ?_;refine jU (λg=>?_) λg=>?_
 .refine g9 ?_;have j:hasN op=([102,97,105,108],[105]):=by unfold hasN;rw[if_neg d,if_pos g]
  rw[j];exact rs2 () trivial
 refine g6 ?_;refine jU (λi=>?_) λi=>?_
 .refine g9 ?_;have j:hasN op=([106,117,109,112],[105]):=by unfold hasN;rw[if_neg d,if_neg g,if_pos i]
  rw[j];exact rs2 () trivial
 refine g6 ?_;refine jU (λa=>?_) λa=>?_
 .refine g9 ?_;have j:hasN op=([99,111,110,115,116],[97,105]):=by unfold hasN;rw[if_neg d,if_neg g,if_neg i,if_pos a]
  rw[j];exact rs2 () trivial
 refine g6 ?_;refine jU (λb=>?_) λb=>?_
 .refine g9 ?_;have j:hasN op=([104,105,103,104],[97,105]):=by unfold hasN;rw[if_neg d,if_neg g,if_neg i,if_neg a,if_pos b]
  rw[j];exact rs2 () trivial
 refine g6 ?_;refine jU (λc=>?_) λc=>?_
 .refine g9 ?_;have j:hasN op=([122,101,114,111],[97,105]):=by unfold hasN;rw[if_neg d,if_neg g,if_neg i,if_neg a,if_neg b,if_pos c]
  rw[j];exact rs2 () trivial
 refine g6 ?_;refine jU (λf=>?_) λf=>?_
 .refine g9 ?_;have j:hasN op=([99,111,112,121],[97,98]):=by unfold hasN;rw[if_neg d,if_neg g,if_neg i,if_neg a,if_neg b,if_neg c,if_pos f]
  rw[j];exact rs2 () trivial
 refine g6 ?_;refine jU (λh=>?_) λh=>?_
 .refine g9 ?_;have j:hasN op=([108,111,97,100],[97,98,105]):=by unfold hasN;rw[if_neg d,if_neg g,if_neg i,if_neg a,if_neg b,if_neg c,if_neg f,if_pos h]
  rw[j];exact rs2 () trivial
 refine g6 ?_;refine jU (λk=>?_) λk=>?_
 .refine g9 ?_;have j:hasN op=([115,116,111,114,101],[97,98,105]):=by unfold hasN;rw[if_neg d,if_neg g,if_neg i,if_neg a,if_neg b,if_neg c,if_neg f,if_neg h,if_pos k]
  rw[j];exact rs2 () trivial
 refine g6 ?_;refine jU (λl=>?_) λl=>?_
 .refine g9 ?_;have j:hasN op=([108,101,115,115],[97,98,105]):=by unfold hasN;rw[if_neg d,if_neg g,if_neg i,if_neg a,if_neg b,if_neg c,if_neg f,if_neg h,if_neg k,if_pos l]
  rw[j];exact rs2 () trivial
 refine g6 ?_;refine jU (λm=>?_) λm=>?_
 .refine g9 ?_;have j:hasN op=([97,100,100],[97,98,105]):=by unfold hasN;rw[if_neg d,if_neg g,if_neg i,if_neg a,if_neg b,if_neg c,if_neg f,if_neg h,if_neg k,if_neg l,if_pos m]
  rw[j];exact rs2 () trivial
 refine g6 ?_
 by_cases n:128<=op
 .refine g3 ?_;refine bR (t':=true) (decide_eq_true n) ?_;refine g3 ?_;refine bM (z':=(op-128)%256) (uP _) ?_;refine bL func100 (yC ((op-128)%256) true) rfl rfl .nil e9 λ_=>?_;refine g4 ?_;refine vN (λq=>?_) λq=>?_
  .refine g9 ?_;have j:hasN op=([116,119,111],[110,97,98,99]):=by unfold hasN;rw[if_neg d,if_neg g,if_neg i,if_neg a,if_neg b,if_neg c,if_neg f,if_neg h,if_neg k,if_neg l,if_neg m,if_pos ⟨n,q⟩]
   rw[j];exact rs2 () trivial
  refine cH ?_;have o:64<=op:=j5
  refine g3 ?_;refine bR (t':=true) (decide_eq_true o) ?_;refine g3 ?_;refine bR (t':=false) (decide_eq_false j5) ?_;refine g20 ?_;have j:hasN op=([],[]):=by unfold hasN;rw[if_neg d,if_neg g,if_neg i,if_neg a,if_neg b,if_neg c,if_neg f,if_neg h,if_neg k,if_neg l,if_neg m,if_neg (λe=>by have:=e.2;rw[q]at this;cases this),if_neg (λe=>by omega)]
  rw[j];exact rs2 () trivial
 refine g3 ?_;refine bR (t':=false) (decide_eq_false n) ?_;refine g10 ?_
 by_cases o:64<=op
 .refine g3 ?_;refine bR (t':=true) (decide_eq_true o) ?_;refine g3 ?_;refine bR (t':=true) (decide_eq_true j5) ?_;refine g4 ?_;refine bM (z':=(op-64)%256) (uP _) ?_;refine bL func100 (yC ((op-64)%256) false) rfl rfl .nil e9 λ_=>?_;refine g4 ?_;refine vN (λp=>?_) λp=>?_
  .refine g9 ?_;have j:hasN op=([111,110,101],[110,97,98]):=by unfold hasN;rw[if_neg d,if_neg g,if_neg i,if_neg a,if_neg b,if_neg c,if_neg f,if_neg h,if_neg k,if_neg l,if_neg m,if_neg (λe=>n e.1),if_pos ⟨⟨o,j5⟩,p⟩]
   rw[j];exact rs2 () trivial
  refine g10 ?_;have j:hasN op=([],[]):=by unfold hasN;rw[if_neg d,if_neg g,if_neg i,if_neg a,if_neg b,if_neg c,if_neg f,if_neg h,if_neg k,if_neg l,if_neg m,if_neg (λe=>n e.1),if_neg (λe=>by have:=e.2;rw[p]at this;cases this)]
  rw[j];exact rs2 () trivial
 refine g3 ?_;refine bR (t':=false) (decide_eq_false o) ?_;refine g23 ?_;have j:hasN op=([],[]):=by unfold hasN;rw[if_neg d,if_neg g,if_neg i,if_neg a,if_neg b,if_neg c,if_neg f,if_neg h,if_neg k,if_neg l,if_neg m,if_neg (λe=>n e.1),if_neg (λe=>o e.1.1)]
 rw[j];exact rs2 () trivial
set_option maxHeartbeats 1000000 in
theorem bJv(i:dU):cJ prog 16 [.agg #[j4 i.op,j4 i.a,j4 i.b,j4 i.c,.int .i32 i.zd]] [] [] (λ(_:Unit)=> .bool (bAm i)) (λ_=>[]) (λ_=>[]):=by
 have hT:=dL;refine j1 func16 ntmps16 ?_;intro β hM;refine g2 ?_;refine j0 λr=>?_;refine g7 ?_;refine bL func45 (has_spec i.op) rfl rfl .nil e9 λ_=>?_;refine g9 ?_
 rcases rt_four (hasN i.op).1 i.a i.b i.c with h0|⟨h0,h1⟩|⟨h0,h1,h2⟩|⟨h0,h1,h2,h3⟩|⟨h0,h1,h2,h3⟩
 .refine g3 ?_;refine bR (t':=true) (by show((hasN i.op).1==[])=_;rw[h0];rfl) ?_;refine g25 ?_;have h:bAm i=false:=if_pos (.inl h0);rw[h];exact rs1 () trivial
 .refine g3 ?_;refine bR (t':=false) r7 ?_;refine g4 ?_;refine bR (t':=true) (decide_eq_true h1) ?_;refine g21 ?_;have h:bAm i=false:=if_pos (.inr (.inl h1));rw[h];exact rs1 () trivial
 .refine g3 ?_;refine bR (t':=false) r7 ?_;refine g4 ?_;refine bR (t':=false) (decide_eq_false h1) ?_;refine g5 ?_;refine bR (t':=true) (decide_eq_true h2) ?_;refine g16 ?_;have h:bAm i=false:=if_pos (.inr (.inr (.inl h2)));rw[h];exact rs1 () trivial
 .refine g3 ?_;refine bR (t':=false) r7 ?_;refine g4 ?_;refine bR (t':=false) (decide_eq_false h1) ?_;refine g5 ?_;refine bR (t':=false) (decide_eq_false h2) ?_;refine g5 ?_;refine bR (t':=true) (decide_eq_true h3) ?_;refine g11 ?_;have h:bAm i=false:=if_pos (.inr (.inr (.inr h3)));rw[h];exact rs1 () trivial
 refine g3 ?_;refine bR (t':=false) r7 ?_;refine g4 ?_;refine bR (t':=false) (decide_eq_false h1) ?_;refine g5 ?_;refine bR (t':=false) (decide_eq_false h2) ?_;refine g5 ?_;refine bR (t':=false) (decide_eq_false h3) ?_;refine g9 ?_;refine i7 bCw λq=>?_;refine g7 ?_;refine at_range rfl rfl rfl rfl underlying9 rfl λp=>?_;refine g3 ?_;refine bT (ι:=Nat×dU) [(1,_),(5,_),(33,_)] ⟨rfl,rfl,rfl,e9⟩ (λ_=>[]) (λ⟨k,y⟩=>[iterC p (hasN i.op).2 k,.obj q (.cells ([.int .u8 y.op,.int .u8 y.a,.int .u8 y.b,.int .u8 y.c,.int .i32 y.zd]:List Value).toArray 52)]) (λ⟨k,y⟩=>[bC.pure (k<=(hasN i.op).2.length/\y=(yQ i ((hasN i.op).2.take k)))]) (λ⟨k,y⟩=>(hasN i.op).2.length-k) (0,i) e9 (.c0 (.c0 .nil)) ⟨f4 (⟨S6 _,rfl⟩),e9⟩ ?_;rintro⟨k,y⟩;dsimp only;refine bG d7 λf=>?_;refine cH ?_
 rcases A8 k (hasN i.op).2.length with o|o
 .obtain⟨c,n⟩: ∃c,(hasN i.op).2[k]?=some c:=⟨_,G1 o⟩
  refine one ?_;refine at_next_at .head n (hasN_small i.op c (f5 n)) rfl rfl rfl rfl rfl ?_;refine g26 ?_;refine jU (λg=>?_) λg=>?_
  .refine g7 ?_;have h:(⟨y.op,0,y.b,y.c,y.zd⟩:dU)=yQ i ((hasN i.op).2.take (k+1)):=by rw[zT n,<-f.2];exact(show bHq y c=⟨y.op,0,y.b,y.c,y.zd⟩ by unfold bHq;rw[if_pos (u8_ofH (d:=97) g rfl)]).symm
   exact bk2 (k+1,⟨y.op,0,y.b,y.c,y.zd⟩) ⟨f4 (⟨by dsimp only;omega,h⟩),e9⟩
  refine g6 ?_;refine jU (λj=>?_) λj=>?_
  .refine g7 ?_;have h:(⟨y.op,y.a,0,y.c,y.zd⟩:dU)=yQ i ((hasN i.op).2.take (k+1)):=by rw[zT n,<-f.2];exact(show bHq y c=⟨y.op,y.a,0,y.c,y.zd⟩ by unfold bHq;rw[if_neg (bCp (d:=97) g rfl),if_pos (u8_ofH (d:=98) j rfl)]).symm
   exact bk2 (k+1,⟨y.op,y.a,0,y.c,y.zd⟩) ⟨f4 (⟨by dsimp only;omega,h⟩),e9⟩
  refine g6 ?_;refine jU (λl=>?_) λl=>?_
  .refine g7 ?_;have h:(⟨y.op,y.a,y.b,0,y.zd⟩:dU)=yQ i ((hasN i.op).2.take (k+1)):=by rw[zT n,<-f.2];exact(show bHq y c=⟨y.op,y.a,y.b,0,y.zd⟩ by unfold bHq;rw[if_neg (bCp (d:=97) g rfl),if_neg (bCp (d:=98) j rfl),if_pos (u8_ofH (d:=99) l rfl)]).symm
   exact bk2 (k+1,⟨y.op,y.a,y.b,0,y.zd⟩) ⟨f4 (⟨by dsimp only;omega,h⟩),e9⟩
  refine g6 ?_;refine jU (λm=>?_) λm=>?_
  .refine g7 ?_;have h:(⟨y.op,y.a,y.b,y.c,0⟩:dU)=yQ i ((hasN i.op).2.take (k+1)):=by rw[zT n,<-f.2];exact(show bHq y c=⟨y.op,y.a,y.b,y.c,0⟩ by unfold bHq;rw[if_neg (bCp (d:=97) g rfl),if_neg (bCp (d:=98) j rfl),if_neg (bCp (d:=99) l rfl),if_pos (u8_ofH (d:=105) m rfl)]).symm
   exact bk2 (k+1,⟨y.op,y.a,y.b,y.c,0⟩) ⟨f4 (⟨by dsimp only;omega,h⟩),e9⟩
  refine g4 ?_;have h:(y:dU)=yQ i ((hasN i.op).2.take (k+1)):=by rw[zT n,<-f.2];exact(show bHq y c=y by unfold bHq;rw[if_neg (bCp (d:=97) g rfl),if_neg (bCp (d:=98) j rfl),if_neg (bCp (d:=99) l rfl),if_neg (bCp (d:=105) m rfl)]).symm
  exact bk2 (k+1,y) ⟨f4 (⟨by dsimp only;omega,h⟩),e9⟩
 refine one ?_;refine at_next_end .head j5 rfl rfl rfl rfl rfl ?_;refine g15 ?_;refine ss (bY rfl rfl (qV _)) ?_;refine ss (sti_eql_ins y ⟨i.op,0,0,0,0⟩ rfl rfl rfl) ?_;refine g4 ?_;have h:bAm i=insEq y ⟨i.op,0,0,0,0⟩:=by rw[f.2,Y2 o];exact if_neg (λe=>e.elim h0 (λe=>e.elim h1 (λe=>e.elim h2 h3)))
 rw[h];exact rs1 () trivial
theorem lk_three(z:Int):z=7\/(z≠7/\z=8)\/(z≠7/\z≠8/\z=9)\/(z≠7/\z≠8/\z≠9):=j5
theorem rp_three(a b:Int)(t:Bool):a<0\/(¬a<0/\b<0)\/(¬a<0/\ ¬b<0/\t=false)\/(¬a<0/\ ¬b<0/\t=true):=by
 rcases Aw (a<0)with h|h
 .exact .inl h
 .rcases Aw (b<0)with h1|h1
  .exact .inr (.inl ⟨h,h1⟩)
  .cases t
   .exact .inr (.inr (.inl ⟨h,h1,rfl⟩))
   .exact .inr (.inr (.inr ⟨h,h1,rfl⟩))
theorem rp_to(a:Int)(t:Bool):a=0\/(a≠0/\t=true)\/(a≠0/\t=false):=by
 rcases Aw (a=0)with h|h
 .exact .inl h
 .cases t
  .exact .inr (.inr ⟨h,rfl⟩)
  .exact .inr (.inl ⟨h,rfl⟩)
theorem decide_imm(z:Int):decide (z=0)=(z==0):=by
 by_cases h:z=0
 .rw[h];rfl
 .rw[decide_eq_false h,beq_eq_false_iff_ne.2 h]
theorem bNh(i:dU):cJ prog 142 [.agg #[j4 i.op,j4 i.a,j4 i.b,j4 i.c,.int .i32 i.zd]] [] [] (λ(_:Unit)=> .bool (bDp i)) (λ_=>[]) (λ_=>[]):=by
 have hT:=dL;refine j1 func142 ntmps142 ?_;intro β hM;refine g2 ?_;refine j0 λj=>?_;refine g4 ?_
 rcases lk_three i.op with d|⟨d,g⟩|⟨d,g,h⟩|⟨d,g,h⟩
 .refine g4 ?_;refine bR (t':=true) (by rw[d];rfl) ?_;refine g14 ?_;have f:bDp i=true:=decide_eq_true (.inl d);rw[f];exact rs1 () trivial
 .refine g4 ?_;refine bR (t':=false) (by simpa using d) ?_;refine g4 ?_;refine bR (t':=true) (by rw[g];rfl) ?_;refine g10 ?_;have f:bDp i=true:=decide_eq_true (.inr (.inl g));rw[f];exact rs1 () trivial
 .refine g4 ?_;refine bR (t':=false) (by simpa using d) ?_;refine g4 ?_;refine bR (t':=false) (by simpa using g) ?_;refine g5 ?_;refine bR (t':=true) (by rw[h];rfl) ?_;refine g5 ?_;have f:bDp i=true:=decide_eq_true (.inr (.inr h));rw[f];exact rs1 () trivial
 refine g4 ?_;refine bR (t':=false) (by simpa using d) ?_;refine g4 ?_;refine bR (t':=false) (by simpa using g) ?_;refine g5 ?_;refine bR (t':=false) (by simpa using h) ?_;refine g5 ?_;have f:bDp i=false:=decide_eq_false (λe=>e.elim d (λe=>e.elim g h));rw[f];exact rs1 () trivial
theorem bFp(p:PcV):cJ prog 74 [.agg #[j3 p.mark,j4 p.ins.op,j4 p.ins.a,j4 p.ins.b,j4 p.ins.c,.int .i32 p.ins.zd,j3 p.za]] [] [] (λ(_:Unit)=> .bool (lJ p)) (λ_=>[]) (λ_=>[]):=by
 have hT:=dL;refine j1 func74 ntmps74 ?_;intro β hM;refine g2 ?_;refine j0 λf=>?_;refine g5 ?_
 rcases rp_three p.mark p.za (bAm p.ins)with h0|⟨h0,h1⟩|⟨h0,h1,h2⟩|⟨h0,h1,h2⟩
 .refine g4 ?_;refine bR (t':=true) (decide_eq_true h0) ?_;refine g21 ?_;have d:lJ p=false:=if_pos (.inl h0);rw[d];exact rs1 () trivial
 .refine g4 ?_;refine bR (t':=false) (decide_eq_false h0) ?_;refine g4 ?_;refine bR (t':=true) (decide_eq_true h1) ?_;refine g17 ?_;have d:lJ p=false:=if_pos (.inr (.inl h1));rw[d];exact rs1 () trivial
 .refine g4 ?_;refine bR (t':=false) (decide_eq_false h0) ?_;refine g4 ?_;refine bR (t':=false) (decide_eq_false h1) ?_;refine g4 ?_;refine bL func16 (bJv p.ins) rfl rfl .nil e9 λ_=>?_;refine bR (t':=false) (h2) ?_;refine g12 ?_;have d:lJ p=false:=if_pos (.inr (.inr h2));rw[d];exact rs1 () trivial
 refine g4 ?_;refine bR (t':=false) (decide_eq_false h0) ?_;refine g4 ?_;refine bR (t':=false) (decide_eq_false h1) ?_;refine g4 ?_;refine bL func16 (bJv p.ins) rfl rfl .nil e9 λ_=>?_;refine bR (t':=true) (h2) ?_;refine g8 ?_
 rcases rp_to p.za (bDp p.ins)with h3|⟨h3,h4⟩|⟨h3,h4⟩
 .refine g4 ?_;refine bR (t':=true) (by rw[h3];rfl) ?_;refine g15 ?_;have d:lJ p=true:=by unfold lJ;rw[if_neg (λe=>e.elim h0 (λe=>e.elim h1 (λe=>by rw[h2]at e;cases e))),decide_eq_true h3,Bool.true_or]
  rw[d];exact rs1 () trivial
 .refine g4 ?_;refine bR (t':=false) (by simpa using h3) ?_;refine g3 ?_;refine bL func142 (bNh p.ins) rfl rfl .nil e9 λ_=>?_;refine bR (t':=true) (h4) ?_;refine g11 ?_;have d:lJ p=(p.ins.zd==0):=by unfold lJ;rw[if_neg (λe=>e.elim h0 (λe=>e.elim h1 (λe=>by rw[h2]at e;cases e))),decide_eq_false h3,Bool.false_or,h4,Bool.true_and];exact decide_imm _
  rw[d];exact rs1 () trivial
 refine g4 ?_;refine bR (t':=false) (by simpa using h3) ?_;refine g3 ?_;refine bL func142 (bNh p.ins) rfl rfl .nil e9 λ_=>?_;refine bR (t':=false) (h4) ?_;refine g11 ?_;have d:lJ p=false:=by unfold lJ;rw[if_neg (λe=>e.elim h0 (λe=>e.elim h1 (λe=>by rw[h2]at e;cases e))),decide_eq_false h3,Bool.false_or,h4,Bool.false_and]
 rw[d];exact rs1 () trivial
open Go.ChangeMaps (setBlock)
def bEj (P:Program)(fn:Func)(tmps:Array Value)(R:Ending->World->Prop):List Deferred->World->Prop
 |[],w=> ∃v,(results fn tmps).run P w= .ok v w/\R (.returned v) w
 |d::ds,w=> ∃b ts t cs v w',d.target= .builtin b ts t cs/\(invoke d.target d.args).run P w= .ok (.value v) w'/\bEj P fn tmps R ds w'
def bBp (P:Program)(fn:Func)(R:Ending->World->Prop):Exit->Act->World->Prop
 |.normal,a,w|.ret,a,w=>bEj P fn a.tmps R a.defers w
 |.outgrown,_,w=>R .outgrown w
 |_,_,_=>False
section
variable {P : Program}
theorem step_deferB{fr:Frame}{cs:List Frame}{w w':World}{d:Deferred}{ds:List Deferred}{b:Builtin}{ts:Array TypeId}{t:TypeId}{ks:Array Bool}{v:Value}(hm:fr.mode= .returning)(hd:fr.defers=d::ds)(ht:d.target= .builtin b ts t ks)
  (hi:(invoke d.target d.args).run P w= .ok (.value v) w'):step P (lone fr cs w)= .next (lone {fr with defers:=ds} cs w'):=by obtain⟨g,a⟩:=d;simp only at ht hi;subst ht;refine step_lone_go ?_;simp[stepG,unwind,callDeferred,hm,hd,hi]
theorem vO{fn:Func}{tmps:Array Value}{R:Ending->World->Prop}: ∀(ds:List Deferred) (w:World) (fr:Frame) (cs:List Frame),fr.mode= .returning->fr.defers=ds->fr.tmps=tmps->P.funcs[fr.fn]?=some fn->fr.kind= .normal->bEj P fn tmps R ds w->
  ∃e w' fr',R e w'/\Comes P (lone fr cs w) (lone fr' cs w') e/\fr'.fn=fr.fn/\fr'.leaving P w' e
 |[],w,fr,cs,hu,hd,ht,hf,hk,⟨v,hr,hR⟩=>⟨.returned v,w,fr,hR,Steps.refl P _,rfl,hu,hd,hk,fn,hf,ht▸hr⟩
 |d::ds,w,fr,cs,hu,hd,ht,hf,hk,⟨b,ts,t,ks,v,w',htar,hinv,h⟩=>by have h1:=step_deferB (cs:=cs) hu hd htar hinv;obtain⟨j,c,fr',i,f,a,g⟩:=vO ds w' {fr with defers:=ds} cs hu rfl ht hf hk h;exact⟨j,c,fr',i,Comes.of_steps (.one h1) f,a,g⟩
theorem bHs{f:FuncId}{fn:Func}{c:Code}{args:Array Value}{w:World}{R:Ending->World->Prop}(hf:P.funcs[f]?=some fn)(hb:fn.body=some c)
  (h:c.wp P (bBp P fn R) {tmps:=args++E5 (fn.ntmps-args.size) undef,defers:=[]} w):Calls P f args w R:=by
 intro q
 let b:Frame:={(default:Frame)with fn:=f,kind:= .normal}
 have d:Frame.enter P f args .normal=b.at {tmps:=args++E5 (fn.ntmps-args.size) undef,defers:=[]} [.code c]:=by simp[Frame.enter,Frame.at,hf,hb,b]
 obtain⟨e,m,w',hq,a⟩:=h b [] q;rw[<-d]at a
 cases e with
 |normal=>
  obtain⟨p,g,j,o,n,i,hl⟩:=vO m.defers w' {b.at m []with mode:= .returning} q rfl rfl rfl hf rfl hq;exact⟨p,g,j,o,Comes.of_steps (Steps.trans a (.one step_end)) n,i,hl⟩
 |ret=>
  obtain⟨k,hs₀⟩:=a;obtain⟨p,g,j,o,n,i,hl⟩:=vO m.defers w' {b.at m k with mode:= .returning} q rfl rfl rfl hf rfl hq;exact⟨p,g,j,o,Comes.of_steps hs₀ n,i,hl⟩
 |panic chain=>exact hq.elim
 |exit id=>exact hq.elim
 |goto l=>exact hq.elim
 |outgrown=>exact⟨.outgrown,w',b,hq,a.resolve_left (by simp[b]),rfl,e9⟩
end
section
variable {P : Program} {β : dY} {n : Nat} {Γ : Env} {H H' : List bD} {F : List bC} {Q : Exit -> Act -> World -> Prop} {fn : Func} {R : Ending -> World -> Prop}
theorem at_deferB{ops:Array Oper}{rest:List Oper}{o:Oper}{x:Operand}{b:Builtin}{t:TypeId}{v:Value}(hw:want ops Γ o=some true)(ho:o.op= .defer ⟨.builtin b,#[x],#[t]⟩)(hx:Γ.ev x=some v)(hd:o.dst=none)
  (k: ∀ty ks,At β n Γ H F (Df [{target:= .builtin b #[t] ty ks,args:= #[v]}] (wpList P ops Q rest))):At β n Γ H F (wpList P ops Q (o::rest)):=
 gR hw λa w S f s c=>by
  unfold L2
  have hr: ∃ty ks,(execOp a.eval o).run P w= .ok (.defer {target:= .builtin b #[t] ty ks,args:= #[v]}) w:=by unfold execOp;simp only[ho,resolve,J0,J1,J6];simp[f.ev hx]
  obtain⟨ty,ks,hr⟩:=hr;rw[hr,Oper.upon_defer,hd];have:=k ty ks a w S f s c;unfold Df dfA at this;rw[f.defers]at this⊢;exact this
theorem retB_before(h:At β n Γ H F (bodyPost P fn R .ret)):At β n Γ H F (bBp P fn R .ret):=λa w S f s k=>by obtain⟨hd,v,b⟩:=h a w S f s k;show bEj P fn a.tmps R a.defers w;rw[hd];exact⟨v,b⟩
theorem bLu{t kt et ty:TypeId}{ks:Array Bool}{r:Nat}{kk:IntKind}{kv:KV}(ht:P.underlying t=some (.map kt et))(hH:bZ H (bOv r kk kv) H')
  (k:At β n Γ (bOv r kk []::H') F (bodyPost P fn R .ret)):At β n Γ H F (Df [{target:= .builtin .clear #[t] ty ks,args:= #[.map (some r)]}] (bBp P fn R .ret)):=λa w S f s j=>by
 obtain⟨p,b,ho,he⟩:MapO kk kv (w.heap[r]?):=s.ok _ hH.mem;show bEj P fn a.tmps R (a.defers++[{target:= .builtin .clear #[t] ty ks,args:= #[.map (some r)]}]) w;rw[f.defers];have hlt:r<w.heap.size:=(N9.1 ho).1
 have hr:(invoke (.builtin .clear #[t] ty ks) #[.map (some r)]).run P w= .ok (.value (.tuple #[])) (setBlock w r (.map #[] b)):=by unfold invoke builtin Builtin.clear_;simp[J0,run_underlying ht,getObj,setObj,Sem.run,ho,Result.andThen,setBlock]
 have d:=s.perm hH.perm;have g:=d.swap (c':=bOv r kk []) (jR (w:=w) (r:=r) (o:= .map #[] b)) rfl rfl (show MapO kk [] ((setBlock w r (.map #[] b)).heap[r]?)from ⟨#[],b,by simp[setBlock,hlt],rfl⟩);obtain⟨hd,v,i,m⟩:=k a _ _ f g (All.mono (λ_ h=>h) (s.agree jR (λc l e=>by subst e;exact(d.own _ (F9 ..) _ rfl).2.2 l)) j);exact⟨.clear,#[t],ty,ks,_,_,rfl,hr,v,i,m⟩
theorem spec_defB{ι:Type}{f:FuncId}{c:Code}{args:List Value}{Hin:List bD}{Pre:List bC}{val:ι->Value}{Hout:ι->List bD}{post:ι->List bC}(hf:P.funcs[f]?=some fn)(hb:fn.body=some c)(hn:fn.ntmps=n)
  (hl:Nat.ble args.length n=true) (h: ∀β,β.M=mR Hin->At β n (bCj 0 args) Hin Pre (c.wp P (bBp P fn (bKw β val Hout post)))):cJ P f args Hin Pre val Hout post:=λS w s k=>by
 refine bHs hf hb (h ⟨w,mR Hin,S⟩ rfl _ w S ⟨rfl,?_,λi v a=>?_⟩ s k)
 .have:=Nat.le_of_ble_eq_true hl;simp;omega
 .obtain⟨_,h2⟩:=tU 0 args i v a;simp only[Nat.sub_zero]at h2;have hlt:i<args.length:=(G3.1 h2).1;simp only[Array.getElem?_append];rw[if_pos r8]
  simpa using h2
end
end
section
open Go.RowKit Go.Proofs.Tryz
def bOc (m:uS):KV:=m.map λp=>(p.1,Y9 .i64 p.2)
theorem bRn(k:Int): ∀m:uS,bPk k (bOc m)=(vY k m).map (Y9 .i64 ·)
 |[]=>rfl
 |p::r=>by
  show(if k==p.1 then some (Y9 .i64 p.2)else bPk k (bOc r))=_;unfold vY;split
  .rfl
  .exact bRn k r
theorem setM_V(k z:Int): ∀m:uS,bCu k (j3 z) (bOc m)=bOc (setK k z m)
 |[]=>rfl
 |p::r=>by
  show(if k==p.1 then (k,Y9 .i64 z)::bOc r else (p.1,Y9 .i64 p.2)::bCu k (.int .i64 z) (bOc r))=_;unfold setK;split
  .rfl
  .rw[setM_V k z r];rfl
theorem delM_V(k:Int): ∀m:uS,bKz k (bOc m)=bOc (delK k m)
 |[]=>rfl
 |p::r=>by
  show(if k==p.1 then bOc r else (p.1,Y9 .i64 p.2)::bKz k (bOc r))=_;unfold delK;split
  .rfl
  .rw[delM_V k r];rfl
theorem intInfoG: ∃i:TypeInfo,prog.info? 3=some i/\i.zero=some (j3 0):=by
 have h:(prog.info? 3).map (λi=>i.zero)=some (some (.int .i64 0)):=j8
 cases a:prog.info? 3 with
 |none=>simp[a]at h
 |some i=>simp[a]at h;exact⟨i,rfl,h⟩
theorem bGj(w:World):(zeroValue 3).run prog w= .ok (j3 0) w:=by obtain⟨i,b,a⟩:=intInfoG;simp[zeroValue,typeInfo,b,a]
def uJ:dU:=⟨0,0,0,0,0⟩
theorem all_rep(m:Nat):oE.all (V4 (m+1) uJ)=oE.cells uJ++oE.all (V4 m uJ):=rfl
theorem made_len(m:Nat):(oE.all (V4 m uJ)).length=m*5:=by
 induction m with
 |zero=>rfl
 |succ m ih=>rw[all_rep,G4,ih];show 5+m*5=_;omega
theorem all_at: ∀(m i:Nat),i<m*5->(oE.all (V4 m uJ))[i]?=(oE.cells uJ)[i%5]?
 |0,i,h=>by omega
 |m+1,i,h=>by
  rw[all_rep]
  rcases A8 i 5 with h1|h1
  .rw[G6 (by exact h1),Nat.mod_eq_of_lt h1]
  .rw[Ap (by exact h1),show(oE.cells uJ).length=5 from rfl,all_at m (i-5) j5,show i%5=(i-5)%5 by omega]
theorem madeInsns(m:Nat):(madeCells (Value.agg #[j4 0,j4 0,j4 0,j4 0,.int .i32 0]).cells (m*5)).toList=oE.all (V4 m uJ):=by
 apply aI;intro i
 rcases A8 i (m*5)with h|h
 .rw[all_at m i h];have a:i%5<5:=Nat.mod_lt _ l4;unfold madeCells
  rcases (by omega:i%5=0\/i%5=1\/i%5=2\/i%5=3\/i%5=4)with e|e|e|e|e<;>simp[aM,e,h,oE,uJ]
 .rw[Y5 (by unfold madeCells;simpa using h),Y5 (by rw[made_len];exact h)]
section
variable {β : dY} {n : Nat} {Γ : Env} {H : List bD} {F : List bC} {Q : Exit -> Act -> World -> Prop} {ops : Array Oper} {rest : List Oper} {o : Oper} {d : Nat}
theorem at_makeInsns{m:Nat}{x y:Operand}(hw:want ops Γ o=some true)(ho:o.op= .makeSlice 29 x y)(hd:o.dst=some d)(hn:C2 d n=true)
  (hx:Γ.ev x=some (j3 (m:Nat))) (hy:Γ.ev y=some (j3 (m:Nat))) (hm:m<=1000000)
  (k: ∀b,At β n ((d,.slice (some ⟨b,0,none⟩) m m)::Γ) (oE.row (.slice (some ⟨b,0,none⟩) m m) 52 (V4 m uJ)::H) F (wpList prog ops Q rest)):At β n Γ H F (wpList prog ops Q (o::rest)):=by obtain⟨i,e,a,c,hb⟩:=insInfo;exact bFx (E:=oE) hw ho hd hn hx hy underlying29 e a c ad5 ab7 (madeInsns m) m9 k
end
section
variable {l : List PcV} {i : Nat} {m : uS} {X : Except (Nat × Int) uS} {Y : Except (Nat × Int) (List dU)} {p : PcV} {o : List dU} {q : Int}
theorem bQc(h:X=marksGo (l.drop i) i m)(hx:l[i]?=some p):X=if lJ p=false then .error (i,170)else match vY p.mark m with
  |some _=> .error (i,171)
  |none=>marksGo (l.drop (i+1)) (i+1) (delK 0 (setK p.mark (i:Int) m)):=by obtain⟨hlt,e⟩:=G3.1 hx;rw[h,<-aH hlt,e];rfl
theorem marks_bad(h:X=marksGo (l.drop i) i m)(hx:l[i]?=some p)(hr:lJ p=false):X= .error (i,170):=by rw[bQc h hx,if_pos hr]
theorem marks_two(h:X=marksGo (l.drop i) i m)(hx:l[i]?=some p)(hr:lJ p=true)(hg:vY p.mark m=some q):X= .error (i,171):=by rw[bQc h hx,if_neg (by rw[hr];decide),hg]
theorem marks_go(h:X=marksGo (l.drop i) i m)(hx:l[i]?=some p)(hr:lJ p=true)(hg:vY p.mark m=none):X=marksGo (l.drop (i+1)) (i+1) (delK 0 (setK p.mark (i:Int) m)):=by rw[bQc h hx,if_neg (by rw[hr];decide),hg]
theorem marks_end(h:X=marksGo (l.drop i) i m)(hi:l.length<=i):X= .ok m:=by rw[h,U8 hi];rfl
theorem bOo(h:Y=placeGoL m (l.drop i) i o)(hx:l[i]?=some p):Y=if p.za=0 then placeGoL m (l.drop (i+1)) (i+1) (o++[p.ins])else match vY p.za m with
  |none=> .error (i,172)
  |some k=>placeGoL m (l.drop (i+1)) (i+1) (o++[{p.ins with zd:=w32 k}]):=by obtain⟨hlt,e⟩:=G3.1 hx;rw[h,<-aH hlt,e];rfl
theorem place_none(h:Y=placeGoL m (l.drop i) i o)(hx:l[i]?=some p)(h0:p.za≠0)(hg:vY p.za m=none):Y= .error (i,172):=by rw[bOo h hx,if_neg h0,hg]
theorem place_end(h:Y=placeGoL m (l.drop i) i o)(hi:l.length<=i):Y= .ok o:=by rw[h,U8 hi];rfl
theorem takeI(o:List dU)(v:dU)(h:i<o.length):(o.set i v).take (i+1)=o.take i++[v]:=by rw[Y1 (by rw[R0];exact h),List.getElem_set_self,List.take_set_of_le (B8 _)]
theorem place_go0(h:Y=placeGoL m (l.drop i) i (o.take i))(hx:l[i]?=some p)(h0:p.za=0)(hi:i<o.length):Y=placeGoL m (l.drop (i+1)) (i+1) ((o.set i p.ins).take (i+1)):=by rw[bOo h hx,if_pos h0,takeI o _ hi]
theorem place_go1(h:Y=placeGoL m (l.drop i) i (o.take i))(hx:l[i]?=some p)(h0:p.za≠0)(hg:vY p.za m=some q)(hi:i<o.length):Y=placeGoL m (l.drop (i+1)) (i+1) (((o.set i p.ins).set i ⟨p.ins.op,p.ins.a,p.ins.b,p.ins.c,w32 q⟩).take (i+1)):=by rw[bOo h hx,if_neg h0,hg,List.set_set,takeI o _ hi]
theorem link_many(h:32768<l.length):uX l= .error (0,173):=if_pos h
theorem link_bad(h: ¬32768<l.length){e:Nat×Int}(hx:marksGo l 0 []= .error e):uX l= .error e:=by unfold uX;rw[if_neg h,hx]
theorem link_go(h: ¬32768<l.length)(hx:marksGo l 0 []= .ok m):uX l=placeGoL m l 0 []:=by unfold uX;rw[if_neg h,hx]
theorem bAo{e:Nat×Int}(h:uX l= .error e):bBy l=[]/\bTs l=(((e.1:Nat):Int),e.2):=by unfold bBy bTs;rw[h];exact⟨rfl,rfl⟩
theorem linkC_ok(h:uX l= .ok o):bBy l=o/\bTs l=(0,0):=by unfold bBy bTs;rw[h];exact⟨rfl,rfl⟩
end
theorem qU:(prog.info? 184).bind (·.zero)=some (.agg #[j3 0,j4 0,j4 0,j4 0,j4 0,.int .i32 0,j3 0]):=j8
set_option maxHeartbeats 1000000 in
theorem Link_spec(A:Option Addr)(c:Nat)(l:List PcV)(hl:l.length<=1000000):cJ prog 30 [.slice A l.length c] [] [pcE.sl (.slice A l.length c) l] (λ(x:Option Addr×Nat)=> .tuple #[.slice x.1 (bBy l).length x.2,j3 (bTs l).1,j3 (bTs l).2]) (λ(x:Option Addr×Nat)=>[oE.row (.slice x.1 (bBy l).length x.2) 52 (bBy l)]) (λ_=>[]):=by
 have hT:=dL
 obtain⟨X,z⟩: ∃X,marksGo l 0 []=X:=⟨_,rfl⟩
 refine spec_defB func30 rfl ntmps30 rfl ?_;intro β hM;refine g15 ?_;refine dO (λw=>?_) λw=>?_
 .refine g9 ?_;refine retB_before ?_;have e:uX l= .error (0,173):=link_many j5;obtain⟨s,r⟩:=bAo e;rw[s,r];refine cL (t:=52) oE ?_;exact rs3 (none,0) trivial
 refine g4 ?_;refine bOp .i64 rfl rfl rfl rfl λB=>?_;refine g6 ?_;refine at_deferB rfl rfl rfl rfl λJ K=>?_;refine d_list ?_;refine jN ?_;refine dP ?_;refine jF ?_;refine jF ?_;refine dZ ?_;refine g3 ?_;refine jN ?_;refine dP ?_;refine d_blk ?_;refine d_loop2 (ι:=uS×Nat) [(0,_),(5,_),(20,_),(21,_)] ⟨rfl,rfl,rfl,rfl,e9⟩ (λ⟨m,i⟩=>[(22,.int .i64 (i:Nat))]) (λ⟨m,i⟩=>[bOv B .i64 (bOc m)]) (λ⟨m,i⟩=>[bC.pure (i<=l.length/\X=marksGo (l.drop i) i m)]) (λ⟨m,i⟩=>l.length-i) ([],0) ⟨rfl,e9⟩ (.c0 .nil) ⟨f4 (⟨j5,z.symm⟩),e9⟩ ?_;rintro⟨m,i⟩;dsimp only;refine bG d7 λg=>?_;refine jF ?_;refine dZ ?_;refine one ?_;refine jN ?_;refine dP ?_;refine jF ?_;refine bQh rfl (λj=>?_) (λj=>?_)
 .have j:=of_decide_eq_true j;refine bIp ?_;refine dP ?_;refine jF ?_;refine d_blk ?_;refine jF ?_;obtain⟨p,n⟩:=gx l i;refine dZ ?_;refine one ?_;refine ss (ixs i) ?_;refine ss (lI n 0) ?_;refine i7 qU λM=>?_;refine g2 ?_;refine jN ?_;refine dP ?_;refine jF ?_;refine jF ?_
  rcases hr:lJ p with _|_
  .refine dZ ?_;refine one ?_;refine bL func74 (bFp p) rfl rfl .nil e9 λ_=>?_;refine one ?_;refine bR (t':=true) (by rw[hr];rfl) ?_;refine jN ?_;refine dP ?_;refine d_true rfl rfl ?_;refine jF ?_;refine dZ ?_;refine g4 ?_;refine jN ?_;refine dP ?_;refine d_ret ?_;refine oS ?_;refine wH ?_;refine oS ?_;refine oS ?_;refine wH ?_;refine oS ?_;refine bLu underlying185 kT1 ?_;have e:uX l= .error (i,170):=link_bad j5 (z.trans (marks_bad g.2 n hr));obtain⟨s,r⟩:=bAo e;rw[s,r];refine cL (t:=52) oE ?_;exact rs3 (none,0) trivial
  refine dZ ?_;refine one ?_;refine bL func74 (bFp p) rfl rfl .nil e9 λ_=>?_;refine one ?_;refine bR (t':=false) (by rw[hr];rfl) ?_;refine jN ?_;refine dP ?_;refine d_false rfl rfl ?_;refine bIp ?_;refine dP ?_;refine jF ?_;refine jF ?_
  rcases hg:vY p.mark m with _|q
  .refine dZ ?_;refine g3 ?_;refine ss (mT (v:= .tuple #[.int .i64 0,.bool false]) (qY kT1) rfl underlying185 underlying3 bGj rfl rfl ae0) ?_;refine g5 ?_;refine jN ?_;refine dP ?_;refine jF ?_;refine dZ ?_;refine one ?_;refine jN ?_;refine dP ?_;refine d_false rfl rfl ?_;refine bIp ?_;refine dP ?_;refine jF ?_;refine dZ ?_;refine g4 ?_;refine tF kT1 rfl (.inl rfl) rfl underlying185 underlying3 rfl rfl rfl ?_;rw[setM_V];refine jN ?_;refine dP ?_;refine dZ ?_;refine one ?_;refine bSz .head rfl rfl rfl underlying185 underlying3 rfl rfl ?_;rw[delM_V];refine jN ?_;refine dn_block ?_;refine dP ?_;refine dZ ?_;refine one ?_;refine inc (i+1) ?_;refine one ?_;refine jN ?_;refine dP ?_;exact d_back (dB (delK 0 (setK p.mark (i:Nat) m),i+1) k8 ⟨rfl,e9⟩ ⟨rfl,rfl,rfl,rfl,e9⟩ (.c0 .nil) ⟨f4 (⟨by dsimp only;omega,by dsimp only;exact marks_go g.2 n hr hg⟩),e9⟩ (bA.drop 1))
  refine dZ ?_;refine g3 ?_;refine ss (mT (v:= .tuple #[.int .i64 q,.bool true]) (qY kT1) rfl underlying185 underlying3 bGj rfl rfl ae0) ?_;refine g5 ?_;refine jN ?_;refine dP ?_;refine jF ?_;refine dZ ?_;refine one ?_;refine jN ?_;refine dP ?_;refine d_true rfl rfl ?_;refine jF ?_;refine dZ ?_;refine g4 ?_;refine jN ?_;refine dP ?_;refine d_ret ?_;refine oS ?_;refine wH ?_;refine oS ?_;refine oS ?_;refine wH ?_;refine oS ?_;refine bLu underlying185 kT1 ?_;have e:uX l= .error (i,171):=link_bad j5 (z.trans (marks_two g.2 n hr hg));obtain⟨s,r⟩:=bAo e;rw[s,r];refine cL (t:=52) oE ?_;exact rs3 (none,0) trivial
 have j:=Int.not_lt.1 (of_decide_eq_false j);refine d_exit ?_;refine bFv ?_;refine bFv ?_;refine bPl ?_;refine dP ?_;refine jF ?_;have D:=marks_end g.2 j5
 obtain⟨Y,E⟩: ∃Y,placeGoL m l 0 []=Y:=⟨_,rfl⟩
 have y:=(link_go j5 (z.trans D)).trans E;refine dZ ?_;refine g2 ?_;refine at_makeInsns (m:=l.length) rfl rfl rfl rfl rfl rfl j5 λG=>?_;refine one ?_;refine jN ?_;refine dP ?_;refine jF ?_;refine jF ?_;refine dZ ?_;refine g3 ?_;refine jN ?_;refine dP ?_;refine d_blk ?_;refine d_loop2 (ι:=List dU×Nat) [(5,_),(10,_),(49,_),(50,_)] ⟨rfl,rfl,rfl,rfl,e9⟩ (λ⟨o,i⟩=>[(51,.int .i64 (i:Nat))]) (λ⟨o,i⟩=>[oE.row (.slice (some ⟨G,0,none⟩) l.length l.length) 52 o]) (λ⟨o,i⟩=>[bC.pure (i<=l.length/\o.length=l.length/\Y=placeGoL m (l.drop i) i (o.take i))]) (λ⟨o,i⟩=>l.length-i) (V4 l.length uJ,0) ⟨rfl,e9⟩ (.c0 .nil) ⟨f4 (⟨j5,Z7,E.symm⟩),e9⟩ ?_;rintro⟨o,i⟩;dsimp only;refine bG d7 λd=>?_;have u:=d.2.1;refine jF ?_;refine dZ ?_;refine one ?_;refine jN ?_;refine dP ?_;refine jF ?_;refine bQh rfl (λh=>?_) (λh=>?_)
 .have h:=of_decide_eq_true h;refine bIp ?_;refine dP ?_;refine jF ?_;refine d_blk ?_;refine jF ?_;obtain⟨p,n⟩:=gx l i;refine dZ ?_;refine one ?_;refine ss (ixs i) ?_;refine ss (lI n 0) ?_;refine i7 qU λL=>?_;refine g2 ?_;refine jN ?_;refine dP ?_;refine jF ?_;refine dZ ?_;refine g4 ?_;obtain⟨I,C⟩:=gx o i;refine ss (bE hT (k:=i) (bN kT1) rfl rfl rfl rfl rfl j5 rfl j5) ?_;refine i6 hT (k:=i) (fo:=0) (y':=p.ins) kT1 C ?_;refine jN ?_;refine dP ?_;refine jF ?_;refine jF ?_;refine dZ ?_;refine g3 ?_;refine jN ?_;refine dP ?_;refine bQh rfl (λf=>?_) (λf=>?_)
  .have f:=eq_of_beq f;refine d_exit ?_;refine bFv ?_;refine bPl ?_;refine dP ?_;refine dZ ?_;refine one ?_;refine inc (i+1) ?_;refine one ?_;refine jN ?_;refine dP ?_;exact d_back (dB (o.set i p.ins,i+1) k8 ⟨rfl,e9⟩ ⟨rfl,rfl,rfl,rfl,e9⟩ (.c0 (.c1 .nil)) ⟨f4 (⟨by dsimp only;omega,by dsimp only;simp only[R0];exact u,by dsimp only;exact place_go0 d.2.2 n f j5⟩),e9⟩ (bA.drop 1))
  have f:=beq_eq_false_iff_ne.1 f;refine bIp ?_;refine dP ?_;refine jF ?_
  rcases hg:vY p.za m with _|q
  .refine dZ ?_;refine g3 ?_;refine ss (mT (v:= .tuple #[.int .i64 0,.bool false]) (qY kT2) rfl underlying185 underlying3 bGj rfl rfl ae0) ?_;refine g5 ?_;refine jN ?_;refine dP ?_;refine jF ?_;refine jF ?_;refine dZ ?_;refine g2 ?_;refine jN ?_;refine dP ?_;refine d_true rfl rfl ?_;refine jF ?_;refine dZ ?_;refine g4 ?_;refine jN ?_;refine dP ?_;refine d_ret ?_;refine oS ?_;refine wH ?_;refine oS ?_;refine oS ?_;refine wH ?_;refine oS ?_;refine bLu underlying185 kT2 ?_;have e:uX l= .error (i,172):=y.trans (place_none d.2.2 n f hg);obtain⟨s,r⟩:=bAo e;rw[s,r];refine cL (t:=52) oE ?_;exact rs3 (none,0) trivial
  refine dZ ?_;refine g3 ?_;refine ss (mT (v:= .tuple #[.int .i64 q,.bool true]) (qY kT2) rfl underlying185 underlying3 bGj rfl rfl ae0) ?_;refine g5 ?_;refine jN ?_;refine dP ?_;refine jF ?_;refine jF ?_;refine dZ ?_;refine g2 ?_;refine jN ?_;refine dP ?_;refine d_false rfl rfl ?_;refine bIp ?_;refine dP ?_;refine dZ ?_;refine g4 ?_;refine bM (z':=w32 q) (mQ _) ?_;refine ss (bE hT (k:=i) (bN .head) rfl rfl rfl rfl rfl n9 rfl (by rw[R0];omega)) ?_;refine one ?_;refine bV hT (k:=i) (fo:=4) (y':=(⟨p.ins.op,p.ins.a,p.ins.b,p.ins.c,w32 q⟩:dU)) .head rfl rfl rfl rfl rfl rfl rfl rfl rfl (G8 j9) rfl ?_;refine jN ?_;refine dn_block ?_;refine dP ?_;refine dZ ?_;refine one ?_;refine inc (i+1) ?_;refine one ?_;refine jN ?_;refine dP ?_;exact d_back (dB ((o.set i p.ins).set i ⟨p.ins.op,p.ins.a,p.ins.b,p.ins.c,w32 q⟩,i+1) k8 ⟨rfl,e9⟩ ⟨rfl,rfl,rfl,rfl,e9⟩ (.c0 (.c1 .nil)) ⟨f4 (⟨by dsimp only;omega,by dsimp only;simp only[R0];exact u,by dsimp only;exact place_go1 d.2.2 n f hg j5⟩),e9⟩ (bA.drop 1))
 have h:=Int.not_lt.1 (of_decide_eq_false h);refine d_exit ?_;refine bFv ?_;refine bFv ?_;refine bPl ?_;refine dP ?_;refine jF ?_;refine dZ ?_;refine g4 ?_;refine jN ?_;refine dP ?_;refine d_ret ?_;refine bLu underlying185 kT1 ?_;have e:uX l= .ok o:=y.trans ((place_end d.2.2 j5).trans (by rw[Y2 j5]));obtain⟨s,r⟩:=linkC_ok e;rw[s,r,u];exact rs3 (some ⟨G,0,none⟩,l.length) trivial
def fN (c:dR)(dims:List Int):Int:=
 if (dH c dims).2≠0 then (dH c dims).2 else if (iR c).2≠0 then (iR c).2 else if 384<opsCount c then 180 else if turnsG dims c.D 0=false then 122 else 0
structure MadeP where
 code:List dU
 mem:Int
 at_:List Int
def wZ (c:dR)(dims:List Int):GnM:=⟨1,(bF (iR c).1.2 dims).1,dims,(iR c).1.1.map λp=>(bF p dims).1,c.C.map λb=>(tA (b.K.map λp=>(bF p dims).1)).1⟩
def codeG (c:dR)(dims:List Int):List PcV:=(gE ⟨1,0,0,0,121⟩ 0 (hereG 1 (gE ⟨0,0,0,0,0⟩ 0 (stepsG (wZ c dims) c.D ⟨[],1,0⟩)))).l
def qH (c:dR)(dims:List Int):MadeP×Int:=
 if fN c dims≠0 then (⟨[],0,[]⟩,fN c dims)else (⟨bBy (codeG c dims),(wZ c dims).frame+deepGo c.D 0,(wZ c dims).at_⟩,0)
end
section
open Go.RowKit Go.Sort Go.Proofs.Tryz
theorem gq_lay{sides:List (List Mono)}{b:Nat}{again:Bool}{s s':PlC}(h:layC sides b again s=some s'):s'.Y.length=s.Y.length:=by
 unfold layC at h;split at h
 .cases h
 .split at h
  .cases h;simp
  .split at h
   .cases h;simp
   .cases h
theorem bPi{bufs:List jX}{l:List LifeC}: ∀(m b:Nat) {s s':PlC},mD bufs l m b s=some s'->s'.Y.length=s.Y.length
 |0,_,_,_,h=>by cases h;rfl
 |m+1,b,s,s',h=>by
  unfold mD at h;split at h
  .split at h
   .split at h
    .cases h
    .rename_i c a;rw[bPi m (b+1) h,gq_lay a]
   .exact bPi m (b+1) h
  .cases h
theorem gq_go{c:dR}{l:List LifeC}{w:List Bool}: ∀(xs:List cT) (i:Nat) {s s':PlC},goC c l w xs i s=some s'->s'.Y.length=s.Y.length
 |[],_,_,_,h=>by cases h;rfl
 |x::xs,i,s,s',h=>by
  unfold goC at h;split at h
  .split at h
   .split at h
    .cases h
    .rename_i b a;rw[gq_go xs (i+1) h,gq_lay a];rfl
   .exact gq_go xs (i+1) h
  .cases h
theorem cells_pairQ{c:dR}{dims:List Int}(h:(dH c dims).2=0):dH c dims=((dH c dims).1,0):=by rw[<-h]
theorem bNb{vars:Int}: ∀{l:List jX} {seen:List Int},sH vars l seen=true-> ∀u∈l,u.K.length<=4
 |[],_,_,u,hu=>by cases hu
 |b::l,seen,h,u,hu=>by
  rw[sH,L9,L9,L9]at h
  rcases F1.1 hu with rfl|hu
  .have h1:=h.1;unfold iL at h1;rw[L9,decide_eq_true_eq]at h1;exact h1.2
  .exact bNb h.2.2.2 u hu
section
variable {c : dR} {ds : List Int}
theorem plan_evals{al:Int}{ats:List (List Mono)}{e:List Mono}(hr:dC c=true)(hc:dH c ds=(al,0))(hp:yX c=some (ats,e)):
  ats.length=c.C.length/\(∀a∈ats,(bF a ds).2=0/\0<=(bF a ds).1/\(bF a ds).1<=134217728)/\(bF e ds).2=0/\0<=(bF e ds).1/\(bF e ds).1<=134217728:=by
 have hs:=cells_sized hr hc;unfold yX at hp;split at hp
 .cases hp
 .rename_i s hb;split at hp
  .cases hp
  .rename_i t hg;cases hp;have h1:=bPr hr hs j5 ((ag_start c.C.length).less (L':=LB c 0) (λk hk=>by have:=hk.1;omega) (B8 0)) hb
   have h2:=go_ag hr hs (r:=c.D) (i:=0) rfl (h1.less (L':=LG c 0) (λk hk=>by
    obtain⟨z,hz,hk⟩:=hk;refine⟨?_,z,hz,?_⟩
    .have:=(G3.1 hz).1
     rwa[iY]at this
    .rcases hk with hk|⟨j,x,_,h,_⟩
     .exact hk
     .omega) (B8 _)) hg
   have hn:0+c.C.length+c.D.length<=2048:=by have:=(iP hr).1;omega
   have hev:=h2.endV;have hE:VD ds t.J<=134217728:=j5
   refine⟨((gq_go _ _ hg).trans (bPi _ _ hb)).trans (by simp[oD]),λa ha=>?_,?_⟩
   .obtain⟨b,hb⟩:=eP ha;obtain⟨g1,g2⟩:=h2.Y b a hb;rw[eval_is g1 hs.U (by unfold iA;omega)];exact⟨rfl,gr_pos g1 hs.U,by show VD ds a<=_;omega⟩
   .rw[eval_is h2.endG hs.U (by unfold iA;omega)];exact⟨rfl,gr_pos h2.endG hs.U,hE⟩
theorem bNm: ∀{l:List (List Mono)} {acc r:List Int},sidesGo ds l acc=some r->(∀p∈l,(bF p ds).2=0/\0<=(bF p ds).1/\(bF p ds).1<=65536)/\r=acc++l.map λp=>(bF p ds).1
 |[],acc,r,h=>by
  cases h;exact⟨λp b=>(by cases b),m9⟩
 |p::l,acc,r,h=>by
  rw[sidesGo]at h;split at h
  .rename_i a;have a:(bF p ds).2=0/\0<=(bF p ds).1/\(bF p ds).1<=65536:=by simpa[bSx,and_assoc]using a
   obtain⟨h1,h2⟩:=bNm h;refine⟨λq hq=>?_,by rw[h2];simp⟩
   rcases F1.1 hq with rfl|hq
   .exact a
   .exact h1 q hq
  .cases h
theorem buf_evals{al:Int}(hr:dC c=true)(hc:dH c ds=(al,0)){u:jX}(hu:u∈c.C):(∀p∈u.K,(bF p ds).2=0/\0<=(bF p ds).1/\(bF p ds).1<=65536)/\u.K.length<=4:=by
 refine⟨?_,?_⟩
 .unfold dH at hc;rw[if_pos hr]at hc;split at hc
  .obtain⟨n,hn⟩:=bDb hc u hu;unfold sizeB at hn;split at hn
   .cases hn
   .rename_i l hl;exact(bNm hl).1
  .cases hc
 .exact bNb (iP hr).2.1 u hu
end
end
section
open Go.RowKit Go.Proofs.Tryz
theorem bWf: ∀(s:List Int) (n:Int),(∀z∈s,0<=z/\z<=65536)->0<=n->n<=65536->0<=(rK s n).1/\(rK s n).1<=65536
 |[],n,_,h0,h1=>⟨h0,h1⟩
 |z::s,n,hz,h0,h1=>by
  have a:=hz z (F9 ..);have c:0<=n*z:=aO h0 a.1;have hq:n*z<=65536*65536:=Int.mul_le_mul h1 a.2 a.1 j5;unfold rK;rw[rn_w64 (z:=n*z) j5 j5];split
  .exact⟨l4,l4⟩
  .rename_i d;exact bWf s _ (λy b=>hz y (F3 _ b)) c j5
theorem sizeA_in(s:List Int):0<=(tA s).1/\(tA s).1<=65536:=by
 unfold tA;split
 .exact⟨l4,l4⟩
 .rename_i b;split
  .exact⟨l4,l4⟩
  .refine bWf s 1 (λz a=>?_) l4 l4;have h1: ¬s.any bHi=true:=λe=>b (.inr e);rw[List.any_eq_true]at h1;have h2: ¬bHi z=true:=λe=>h1 ⟨z,a,e⟩;unfold bHi at h2;simp only[decide_eq_true_eq,Bool.or_eq_true]at h2;exact⟨j5,j5⟩
theorem bNp: ∀(l:List OpC) (most now b:Int),most<=b->now+l.length<=b-> -1<=b->oQ l most now<=b/\(-1<=most-> -1<=oQ l most now)
 |[],most,now,b,h1,h2,h3=>by
  unfold oQ;split
  .exact⟨h1,λh=>h⟩
  .exact⟨h3,λ_=>by omega⟩
 |o::r,most,now,b,h1,h2,h3=>by
  unfold oQ;have h2:now+((r.length+1:Nat):Int)<=b:=h2;split
  .exact⟨h3,λ_=>by omega⟩
  .rename_i a;have h:=bNp r (max most (now+(1-cO o.N))) (now+(1-cO o.N)) b j5 j5 h3;exact⟨h.1,λh4=>h.2 j5⟩
theorem depthC_in(l:List OpC): -1<=mJ l/\mJ l<=l.length:=by have h:=bNp l 0 0 l.length j5 j5 j5;exact⟨h.2 j5,h.1⟩
theorem bKd{ds:List Int}{f:Bool}: ∀{l:List (List Mono)} {n m:Int},turnG f ds l n=some m-> ∀p∈l,(bF p ds).2=0
 |[],_,_,_,p,a=>by cases a
 |q::l,n,m,h,p,a=>by
  unfold turnG at h;split at h
  .cases h
  .rename_i b
   rcases F1.1 a with rfl|a
   .exact Ax.1 λe=>b (.inl e)
   .exact bKd h p a
theorem bFb{ds:List Int}: ∀{l:List cT} {a:Int},turnsG ds l a=true-> ∀x∈l,∀p∈x.H,(bF p ds).2=0
 |[],_,_,x,hx=>by cases hx
 |y::l,a,h,x,hx=>by
  unfold turnsG at h;split at h
  .cases h
  .rename_i n hn;split at h
   .cases h
   .rcases F1.1 hx with rfl|hx
    .exact bKd hn
    .exact bFb h x hx
theorem stepsG_at{M:GnM}{R t:GnS}{l:List cT}{i:Nat}{x:cT}(h:R=stepsG M (l.drop i) t)(hx:l[i]?=some x):R=stepsG M (l.drop (i+1)) (qJ M x t):=by obtain⟨hlt,e⟩:=G3.1 hx;rw[h,<-aH hlt,e];rfl
theorem stepsG_end{M:GnM}{R t:GnS}{l:List cT}{i:Nat}(h:R=stepsG M (l.drop i) t)(hi:l.length<=i):R=t:=by rw[h,U8 hi];rfl
theorem deepGo_at{D d:Int}{l:List cT}{i:Nat}{x:cT}(h:D=deepGo (l.drop i) d)(hx:l[i]?=some x):D=deepGo (l.drop (i+1)) (max d (mJ x.ops-6)):=by obtain⟨hlt,e⟩:=G3.1 hx;rw[h,<-aH hlt,e];rfl
theorem deepGo_end{D d:Int}{l:List cT}{i:Nat}(h:D=deepGo (l.drop i) d)(hi:l.length<=i):D=d:=by rw[h,U8 hi];rfl
def opsSum(l:List cT):Nat:=(l.map (·.ops.length)).sum
theorem bBf{K k:Nat}{l:List cT}{i:Nat}{x:cT}(h:K=k+opsSum (l.drop i))(hx:l[i]?=some x):K=(k+x.ops.length)+opsSum (l.drop (i+1)):=by obtain⟨hlt,e⟩:=G3.1 hx;rw[h,<-aH hlt,e];show k+(x.ops.length+opsSum (l.drop (i+1)))=_;omega
theorem bOz{K k:Nat}{l:List cT}{i:Nat}(h:K=k+opsSum (l.drop i))(hi:l.length<=i):K=k:=by rw[h,U8 hi];rfl
section
variable {P : Program} {β : dY} {n : Nat} {Γ : Env} {H : List bD} {F : List bC} {Q : Exit -> Act -> World -> Prop}
theorem bSi{ι:Type}{ops:Array Oper}{rest:List Oper}{o:Oper}{d:Nat}{f:FuncId}{x:Operand}{first cap:Array Value}{ars:Array Operand}{ts:Array TypeId}{vs all:List Value}{Hin H1 L H2:List bD}{G Pre:List bC}{val:ι->Value}{Hout:ι->List bD}{post:ι->List bC}
  (hcf: ∀(args:Array Value) (w:World),(callFunc f args).run P w= .ok (.enter f args) w) (hs:cJ P f all Hin Pre val Hout post) (hw:want ops Γ o=some true) (ho:o.op= .call ⟨.value x,ars,ts⟩) (hx:Γ.ev x=some (.func (.func f) first cap)) (hd:o.dst=some d) (hn:C2 d n=true)
  (hv:Γ.evs ars.toList=some vs) (hall:first.toList++vs++cap.toList=all) (hH:Split H Hin H1) (hL:Split H1 L H2) (hG:yP L G) (hF:bA (G++F) Pre)
  (k: ∀x,At β n ((d,val x)::Γ) (Hout x++H1) F (wpList P ops Q rest)):At β n Γ H F (wpList P ops Q (o::rest)):=
 gR hw λa w S f s m=>by
  unfold L2;rw[bTc hcf ho f hx hv w,Oper.upon_enter]
  have e:first++vs.toArray++cap=all.toArray:=by rw[<-hall];apply Array.ext';simp
  rw[e];have j:=s.perm hH.perm;have l:=j.perm (hL.perm.append_left Hin);have g:All (G++F) (λb=>S b\/mR L b) w:=(hG _ w (λc i=>l.ok c (List.mem_append_right _ (F5 _ i))) (λc i b hb=> .inr ⟨c,i,hb⟩)).append (All.mono (λ_ h=> .inl h) (λ_ _=>rfl) m);refine(hs _ w l.lend (hF.all _ w g)).mono ?_;rintro e w' ⟨x,q,rfl,s',p⟩;show wpList P ops Q rest (a.put o.dst (val x)) w';rw[hd];exact k x _ _ S (f.put m8 _) (j.leave' s') (All.mono (λ_ h=>h) (λb hb=>s'.kept.block b (s.zb b hb).1 (λ⟨c,i,h⟩=>(j.own c (F5 _ i) b h).2.2 hb)) m)
end
theorem maxG{a b:Int}:(if b>a then b else a)=max a b:=by split<;>omega
section
variable {c : dR} {ds : List Int} {e : Int}
theorem bFt(h:(dH c ds).2=0):dC c=true:=by
 unfold dH at h;split at h
 .assumption
 .cases h
theorem ref1(h:(dH c ds).2≠0):qH c ds=(⟨[],0,[]⟩,(dH c ds).2):=by have e:fN c ds=(dH c ds).2:=if_pos h;unfold qH;rw[e,if_pos h]
theorem ref2(h:(dH c ds).2=0)(h2:(iR c).2≠0):qH c ds=(⟨[],0,[]⟩,(iR c).2):=by
 have e:fN c ds=(iR c).2:=by unfold fN;rw[if_neg (λk=>k h),if_pos h2]
 unfold qH;rw[e,if_pos h2]
theorem ref3(h:(dH c ds).2=0)(h2:(iR c).2=0)(h3:384<opsSum c.D):qH c ds=(⟨[],0,[]⟩,180):=by
 have e:fN c ds=180:=by unfold fN;rw[if_neg (λk=>k h),if_neg (λk=>k h2)];exact if_pos h3
 unfold qH;rw[e,if_pos l4]
theorem ref4(h:(dH c ds).2=0)(h2:(iR c).2=0)(h3: ¬384<opsSum c.D)(h4:turnsG ds c.D 0=false):qH c ds=(⟨[],0,[]⟩,122):=by
 have e:fN c ds=122:=by unfold fN;rw[if_neg (λk=>k h),if_neg (λk=>k h2)];exact(if_neg h3).trans (if_pos h4)
 unfold qH;rw[e,if_pos l4]
theorem ref0(h:(dH c ds).2=0)(h2:(iR c).2=0)(h3: ¬384<opsSum c.D)(h4:turnsG ds c.D 0=true):qH c ds=(⟨bBy (codeG c ds),(wZ c ds).frame+deepGo c.D 0,(wZ c ds).at_⟩,0):=by
 have e:fN c ds=0:=by unfold fN;rw[if_neg (λk=>k h),if_neg (λk=>k h2)];exact(if_neg h3).trans (if_neg (by rw[h4];decide))
 unfold qH;rw[e,if_neg l4]
theorem plan_some(h:(iR c).2=0):yX c=some (iR c).1:=by
 unfold iR at h⊢;split at h
 .rename_i hr;rw[if_pos hr];split at h
  .rename_i r a;rw[a]
  .cases h
 .cases h
end
def GM0 (c:fX)(d:Sl Int):MkV:=⟨⟨none,0,[]⟩,0,0,0,0,c,d,⟨none,0,[]⟩,⟨none,0,[]⟩⟩
def GM1 (c:fX)(d:Sl Int):MkV:=⟨⟨none,0,[]⟩,0,0,1,0,c,d,⟨none,0,[]⟩,⟨none,0,[]⟩⟩
def GM2 (c:fX)(d:Sl Int)(y:LayV)(x:(Option Addr×Nat)×(Option Addr×Nat)):MkV:=((GM1 c d).ly x.1 x.2 ((polsL y.at_.B).map λp=>(bF p d.B).1) (c.C.B.map (wV d.B))).fr (bF y.size.B d.B).1
theorem gm2_M{c:fX}{d:Sl Int}{y:LayV}{x:(Option Addr×Nat)×(Option Addr×Nat)}(h:(polsL y.at_.B,y.size.B)=(iR c.c).1):(GM2 c d y x).M=wZ c.c d.B:=by unfold wZ;rw[<-h];show(⟨1,(bF y.size.B d.B).1,d.B,_,c.C.B.map (wV d.B)⟩:GnM)=⟨1,_,_,_,(c.C.B.map (·.c)).map _⟩;rw[List.map_map];rfl
theorem bBx:(prog.info? 31).bind (·.zero)=some (.agg #[.slice none 0 0,j3 0,.slice none 0 0]):=j8
theorem kH:prog.built 31 []=some #[.slice none 0 0,j3 0,.slice none 0 0]:=j8
theorem vQ(v5_0 v5_1 v5_2 v5_3:Value)(a6:Option Addr)(l6 c6:Nat):prog.built 85 [(5,.agg #[v5_0,v5_1,v5_2,v5_3]),(6,.slice a6 l6 c6)]=some #[.slice none 0 0,j3 0,j3 0,j3 0,j3 0,v5_0,v5_1,v5_2,v5_3,.slice a6 l6 c6,.slice none 0 0,.slice none 0 0]:=j8
theorem xR(z0:Int)(z4:Int):prog.built 52 [(0,j4 z0),(4,.int .i32 z4)]=some #[j4 z0,j4 0,j4 0,j4 0,.int .i32 z4]:=j8
theorem vT(a0:Option Addr)(l0 c0:Nat)(z1:Int)(a2:Option Addr)(l2 c2:Nat):prog.built 31 [(0,.slice a0 l0 c0),(1,j3 z1),(2,.slice a2 l2 c2)]=some #[.slice a0 l0 c0,j3 z1,.slice a2 l2 c2]:=j8
set_option maxHeartbeats 2000000 in
theorem bTu(c:fX)(DA:Option Addr)(dcap:Nat)(dims:List Int)(hdl:dims.length<=140737488355328):cJ prog 9 [.agg #[j3 c.vars,f9 c.C,f9 c.D,f9 c.Q],.slice DA dims.length dcap] [] [lH c,dA.sl (.slice DA dims.length dcap) dims,bC.cells 0 0 [j3 0,j3 (-1)]] (λ(x:(Option Addr×Nat)×(Option Addr×Nat))=> .tuple #[.agg #[.slice x.1.1 (qH c.c dims).1.code.length x.1.2,j3 (qH c.c dims).1.mem,.slice x.2.1 (qH c.c dims).1.at_.length x.2.2],j3 (qH c.c dims).2]) (λ(x:(Option Addr×Nat)×(Option Addr×Nat))=>[oE.row (.slice x.1.1 (qH c.c dims).1.code.length x.1.2) 52 (qH c.c dims).1.code,dA.row (.slice x.2.1 (qH c.c dims).1.at_.length x.2.2) 2 (qH c.c dims).1.at_]) (λ_=>[]):=by
 have hT:=dL;refine j1 func9 ntmps9 ?_;intro β hM;refine g2 ?_;refine j0 λb1=>?_;refine i7 bBx λb2=>?_;refine g8 ?_;refine bL func22 (Cells_spec c DA dcap dims hdl) rfl rfl .nil ⟨d7,d8,e9⟩ λ_=>?_;refine g13 ?_;refine bEh (λn=>?_) λn=>?_
 .refine g2 ?_;refine ss (bY rfl rfl (kH)) ?_;refine g7 ?_;have s:qH c.c dims=_:=ref1 n;rw[s];refine cL (t:=52) oE<|cL (t:=2) dA ?_;exact rs2 ((none,0),(none,0)) trivial
 refine g5 ?_;refine bL func14 (PlanF_spec c) rfl rfl .nil ⟨d7,d9,e9⟩ λy=>?_;refine bG e6 λhy=>?_;refine g3 ?_;refine i7 pL λb3=>?_;refine g11 ?_;refine bEh (λm=>?_) λm=>?_
 .refine g2 ?_;refine ss (bY rfl rfl (kH)) ?_;refine g7 ?_;have s:qH c.c dims=_:=ref2 j5 m;rw[s];refine cL (t:=52) oE<|cL (t:=2) dA ?_;exact rs2 ((none,0),(none,0)) trivial
 refine g3 ?_;have g:(dH c.c dims).2=0:=n;have q:(iR c.c).2=0:=m;have f:=bFt g;obtain⟨⟨_,_,L,hns,_⟩,_⟩:=iP f;rw[show c.c.C.length=c.C.B.length from cQ _]at L;rw[show c.c.D.length=c.D.B.length from cS _]at hns
 obtain⟨K,hK⟩: ∃K,opsSum c.c.D=K:=⟨_,rfl⟩
 obtain⟨D,hD⟩: ∃D,deepGo c.c.D 0=D:=⟨_,rfl⟩
 refine bK (pU.sl (.slice c.D.O c.D.B.length c.D.cap) c.D.B) (lM (gS e7)) ?_;refine g15 ?_;refine bT (ι:=Int×Nat×Nat) [(1,_),(2,_),(4,_),(8,_),(41,_),(42,_)] ⟨rfl,rfl,rfl,rfl,rfl,rfl,e9⟩ (λ⟨d,k,i⟩=>[(10,.int .i64 (k:Nat)),(11,.int .i64 d),(43,.int .i64 (i:Nat))]) (λ_=>[]) (λ⟨d,k,i⟩=>[bC.pure (i<=c.D.B.length/\(0<=d/\d<=1000/\k<=256*i)/\K=k+opsSum (c.c.D.drop i)/\D=deepGo (c.c.D.drop i) d)]) (λ⟨d,k,i⟩=>c.D.B.length-i) (0,0,0) ⟨rfl,rfl,rfl,e9⟩ .nil ⟨f4 (⟨j5,j5,by rw[<-hK,Q5,D1],hD.symm⟩),e9⟩ ?_;rintro⟨d,k,i⟩;dsimp only;refine bG d7 λhinv9=>?_;refine g6 ?_;refine dO (λR=>?_) λR=>?_
 .refine g5 ?_;obtain⟨x,hx⟩:=gx c.D.B i;have hg:=bHp f dims (f5 hx);refine bK (mO x) (Has.each (oM (gS (Has.of mT6))) (f5 hx)) ?_;have hlo:=hg.hlo;refine one ?_;refine ss (ixs i) ?_;refine ss (lI hx 0) ?_;refine i7 xE λb4=>?_;refine g10 ?_;refine inc (k+x.ops.B.length) ?_;refine g3 ?_;refine bK (opE.sl (.slice x.ops.O x.ops.B.length x.ops.cap) x.ops.B) (bHk (mA d7))<|bK (bC.each x.ops.B opF) (opsF_e (mA d8)) ?_;have hdc:=depthC_in (opsL x.ops.B);rw[fQ]at hdc;refine g4 ?_;refine bL func23 (bQo x.ops.O x.ops.cap x.ops.B j5) rfl rfl .nil ⟨d8,d7,e9⟩ λ_=>?_;refine one ?_;refine bM (z':=mJ (opsL x.ops.B)-6) (yI rfl j5 j5) ?_;refine one ?_;refine bM (z':=max d (mJ (opsL x.ops.B)-6)) maxG ?_;refine g6 ?_;refine inc (i+1) ?_;refine g3 ?_;exact bk2 (max d (mJ (opsL x.ops.B)-6),k+x.ops.B.length,i+1) ⟨f4 (⟨by dsimp only;omega,by dsimp only;omega,by dsimp only;rw[bBf hinv9.2.2.1 (cN hx),show x.c.ops.length=x.ops.B.length from fQ _],by dsimp only;exact deepGo_at hinv9.2.2.2 (cN hx)⟩),e9⟩
 refine g8 ?_;have hKk:opsSum c.c.D=k:=hK.trans (bOz hinv9.2.2.1 p7);have hDd:deepGo c.c.D 0=d:=hD.trans (deepGo_end hinv9.2.2.2 p7);refine g6 ?_;refine dO (λQ=>?_) λQ=>?_
 .refine g2 ?_;refine ss (bY rfl rfl (kH)) ?_;refine g7 ?_;have s:qH c.c dims=_:=ref3 g q j5;rw[s];refine cL (t:=52) oE<|cL (t:=2) dA ?_;exact rs2 ((none,0),(none,0)) trivial
 refine g4 ?_;refine bL func24 (turnsF_spec c f DA dcap dims hdl) rfl rfl .nil ⟨(Has.of mT6),e8,e9⟩ λ_=>?_;refine g4 ?_;refine tQ (λj=>?_) λj=>?_
 .refine g2 ?_;refine ss (bY rfl rfl (kH)) ?_;refine g7 ?_;have s:qH c.c dims=_:=ref4 g q j5 (by simpa using j);rw[s];refine cL (t:=52) oE<|cL (t:=2) dA ?_;exact rs2 ((none,0),(none,0)) trivial
 refine g4 ?_;have C:turnsG dims c.c.D 0=true:=by simpa using j
 have hev:=bFb C;have O:=cells_pairQ g;obtain⟨r,o,N,hf0,hf1⟩:=plan_evals f O (plan_some q);have hy1:(iR c.c).1.1=polsL y.at_.B:=(congrArg Prod.fst hy).symm;have hy2:(iR c.c).1.2=y.size.B:=(congrArg Prod.snd hy).symm;rw[hy1]at r o;rw[hy2]at N hf0 hf1;rw[bS,show c.c.C.length=c.C.B.length from cQ _]at r;have U: ∀u∈c.C.B,(∀p∈polsL u.K.B,(bF p dims).2=0)/\u.K.B.length<=4:=λu hu=>by have h:=buf_evals f O (u:=u.c) (P5.2 ⟨u,hu,rfl⟩);exact⟨λp J=>(h.1 p J).1,by have h2:=h.2;rw[show u.c.K.length=u.K.B.length from bS _]at h2;exact h2⟩
 refine g3 ?_;refine ss (bY rfl rfl (vQ _ _ _ _ _ _ _)) ?_;refine j0 λA=>?_;refine g4 ?_;refine cL (t:=184) pcE<|cL (t:=2) dA<|cL (t:=2) dA ?_
 have Z:GnB 10 (⟨[],0,0⟩:GnS):=⟨S6 _,S6 _,S6 _⟩
 refine g3 ?_;refine bL func25 (qX A (GM0 c (⟨DA,dcap,dims⟩:Sl Int)) (none,0) (⟨[],0,0⟩:GnS) (Z.le j5)) rfl rfl (.c3 (.c2 .nil)) e9 λa75=>?_;refine bM (z':=((1:Nat):Int)) rfl ?_;have gb1:GnB 11 (markG (⟨[],0,0⟩:GnS)):=oT Z;refine g9 ?_;refine bL func26 (layM_spec A (GM1 c (⟨DA,dcap,dims⟩:Sl Int)) a75 (markG (⟨[],0,0⟩:GnS)) y U r L (λp J=>(o p J).1) N hdl) rfl rfl (.c0 (.c2 (.c1 .nil))) ⟨(Has.of mT6),e8,d9,e6,e7,e9⟩ λb=>?_
 obtain⟨RR,V⟩: ∃RR,stepsG (GM2 c (⟨DA,dcap,dims⟩:Sl Int) y b).M c.c.D (markG (⟨[],0,0⟩:GnS))=RR:=⟨_,rfl⟩
 have G:(GM2 c (⟨DA,dcap,dims⟩:Sl Int) y b).size.B.length=(GM2 c (⟨DA,dcap,dims⟩:Sl Int) y b).at_.B.length:=by show(c.C.B.map _).length=((polsL y.at_.B).map _).length;rw[I2,I2,bS];exact r.symm
 have I:(GM2 c (⟨DA,dcap,dims⟩:Sl Int) y b).size.B.length=c.C.B.length:=I2 _;have hSz: ∀z∈(GM2 c (⟨DA,dcap,dims⟩:Sl Int) y b).size.B,0<=z/\z<=1000000:=λz hz=>by obtain⟨u,_,rfl⟩:=P5.1 hz;have h:=sizeA_in ((polsL u.K.B).map λp=>(bF p dims).1);exact⟨h.1,Int.le_trans h.2 l4⟩
 have hAz: ∀z∈(GM2 c (⟨DA,dcap,dims⟩:Sl Int) y b).at_.B,0<=z/\z<=200000000:=λz hz=>by obtain⟨p,J,rfl⟩:=P5.1 hz;have h:=o p J;exact⟨h.2.1,Int.le_trans h.2.2 l4⟩
 refine g19 ?_;refine bT (ι:=(Option Addr×Nat)×GnS×Nat×Nat) [(4,_),(11,_),(14,_),(15,_),(84,_),(85,_)] ⟨rfl,rfl,rfl,rfl,rfl,rfl,e9⟩ (λ⟨a1,t,k1,i⟩=>[(86,.int .i64 (i:Nat))]) (λ⟨a1,t,k1,i⟩=>[mkO A ((GM2 c (⟨DA,dcap,dims⟩:Sl Int) y b).st a1 t),mkS ((GM2 c (⟨DA,dcap,dims⟩:Sl Int) y b).st a1 t)]) (λ⟨a1,t,k1,i⟩=>[bC.pure (i<=c.D.B.length/\K=k1+opsSum (c.c.D.drop i)/\RR=stepsG (GM2 c (⟨DA,dcap,dims⟩:Sl Int) y b).M (c.c.D.drop i) t/\GnB (20+60*i+12*k1) t)]) (λ⟨a1,t,k1,i⟩=>c.D.B.length-i) (a75,markG (⟨[],0,0⟩:GnS),0,0) ⟨rfl,e9⟩ (.c0 (.c2 .nil)) ⟨f4 (⟨j5,by rw[<-hK,Q5,D1],V.symm,gb1.le j5⟩),e9⟩ ?_;rintro⟨a1,t,k1,i⟩;dsimp only;refine bG d7 λa=>?_;have hk1:k1<=384:=by have:=a.2.1;omega
 refine g6 ?_;refine dO (λP=>?_) λP=>?_
 .refine g5 ?_;obtain⟨x,hx⟩:=gx c.D.B i;have hg:=bHp f dims (f5 hx);refine bK (mO x) (Has.each (oM (gS e8)) (f5 hx)) ?_;have hlo:=hg.hlo;have hk2:k1+x.ops.B.length<=384:=by have h:=bBf a.2.1 (cN hx);rw[show x.c.ops.length=x.ops.B.length from fQ _]at h;omega
  have hsx:=hev x.c (P5.2 ⟨x,List.mem_of_getElem? hx,rfl⟩);refine one ?_;refine ss (ixs i) ?_;refine ss (lI hx 0) ?_;refine i7 xE λb5=>?_;refine g6 ?_;refine bSi (bJ func27 rfl rfl) (stepM_spec A (GM2 c (⟨DA,dcap,dims⟩:Sl Int) y b) a1 t _ a.2.2.2 x j5 hg.hh hsx hg.hll hg.hne (by rw[<-G,I];exact hg.hO) hg.hD hg.hb0 (by rw[I];exact hg.hb1) G hg.hA hSz hAz hdl) rfl rfl rfl rfl rfl rfl rfl (.c1 (.c1 .nil)) (.c1 (.c1 .nil)) (nR (nR iF)) ⟨d9,Has.of mT11,d7,d8,e9⟩ λa92=>?_;have hBs:=gb_step (M:=(GM2 c (⟨DA,dcap,dims⟩:Sl Int) y b).M) (x:=x.c) (by rw[show x.c.H.length=x.H.B.length from bS _];exact hg.hll) a.2.2.2;refine g5 ?_;refine inc (i+1) ?_;refine g3 ?_;exact bk2 (a92,qJ (GM2 c (⟨DA,dcap,dims⟩:Sl Int) y b).M x.c t,k1+x.ops.B.length,i+1) ⟨f4 (⟨by dsimp only;omega,by dsimp only;rw[bBf a.2.1 (cN hx),show x.c.ops.length=x.ops.B.length from fQ _],by dsimp only;exact stepsG_at a.2.2.1 (cN hx),by dsimp only;exact hBs.le (by rw[show x.c.ops.length=x.ops.B.length from fQ _];omega)⟩),e9⟩
 refine g6 ?_;have Y:=a.2.2.2;have hRt:=V.trans (stepsG_end a.2.2.1 p7);refine g2 ?_;refine ss (bY rfl rfl (qV _)) ?_;refine bL func28 (gH A (GM2 c (⟨DA,dcap,dims⟩:Sl Int) y b) a1 t (Y.le j5) ⟨0,0,0,0,0⟩ 0) rfl rfl (.c0 (.c0 .nil)) e9 λa96=>?_;have w:=gI (i:=(⟨0,0,0,0,0⟩:dU)) (dst:=0) Y;refine g9 ?_;refine bL func29 (rI A (GM2 c (⟨DA,dcap,dims⟩:Sl Int) y b) a96 (gE ⟨0,0,0,0,0⟩ 0 t) (w.le j5) 1) rfl rfl (.c0 (.c0 .nil)) e9 λa102=>?_;have X:=oN (k:=1) w j5;refine g5 ?_;refine ss (bY rfl rfl (xR _ _)) ?_;refine bL func28 (gH A (GM2 c (⟨DA,dcap,dims⟩:Sl Int) y b) a102 (hereG 1 (gE ⟨0,0,0,0,0⟩ 0 t)) (X.le j5) ⟨1,0,0,0,121⟩ 0) rfl rfl (.c0 (.c0 .nil)) e9 λe=>?_;have B:=gI (i:=(⟨1,0,0,0,121⟩:dU)) (dst:=0) X;refine g3 ?_;refine gP (E:=pcE) (v:= .slice e.1 (gE ⟨1,0,0,0,121⟩ 0 (hereG 1 (gE ⟨0,0,0,0,0⟩ 0 t))).l.length e.2) (xs:=(gE ⟨1,0,0,0,121⟩ 0 (hereG 1 (gE ⟨0,0,0,0,0⟩ 0 t))).l) kT1 ?_;refine g5 ?_;refine bL func30 (Link_spec e.1 e.2 (gE ⟨1,0,0,0,121⟩ 0 (hereG 1 (gE ⟨0,0,0,0,0⟩ 0 t))).l (C0 B.l j5)) rfl rfl .nil ⟨d7,e9⟩ λlk=>?_;refine g10 ?_;refine dK _ _ [j2,u1,u0,u2,u3,u4,u5,u6,u7,u9,A00,A01,A24,A03] dJ k7 (.c0 (.c0 (.c0 (.c0 (.c0 (.c1 .nil)))))) bA.self ?_;refine g5 ?_;refine bM (z':=(bF y.size.B dims).1) rfl ?_;refine g2 ?_;refine bM (z':=(bF y.size.B dims).1+d) (yI rfl j5 j5) ?_;refine g4 ?_;refine stM rfl (bY rfl rfl (vT _ _ _ _ _ _ _)) ?_;refine g7 ?_;have W:=gm2_M (d:=(⟨DA,dcap,dims⟩:Sl Int)) (x:=b) hy;have s:=ref0 g q j5 C;have hcd:codeG c.c dims=(gE ⟨1,0,0,0,121⟩ 0 (hereG 1 (gE ⟨0,0,0,0,0⟩ 0 t))).l:=by unfold codeG;rw[show wZ c.c dims=(GM2 c (⟨DA,dcap,dims⟩:Sl Int) y b).M from W.symm,show(⟨[],1,0⟩:GnS)=markG (⟨[],0,0⟩:GnS)from rfl,hRt]
 rw[s,hcd,show wZ c.c dims=(GM2 c (⟨DA,dcap,dims⟩:Sl Int) y b).M from W.symm,hDd];exact rs2 (lk,b.1) trivial
end
section
open Go.Proofs.Tryz
namespace X
open Go.RowKit Go.Proofs.Tryz
noncomputable section
def ka:Bool×Nat:=j2
def kb:Bool×Nat:=u0
def kc:Bool×Nat:=u1
def kd:Bool×Nat:=u2
def ke:Bool×Nat:=u4
def kf:Bool×Nat:=u3
def kg:Bool×Nat:=u5
def kh:Bool×Nat:=u6
def ki:Bool×Nat:=u7
def kl:Bool×Nat:=u9
def km:Bool×Nat:=A00
def ko:Bool×Nat:=A01
def kq:Bool×Nat:=A02
def ku:Bool×Nat:=A04
def kz:Bool×Nat:=A03
def kAA:Bool×Nat:=A05
def kAB:Bool×Nat:=A06
def kAC:Bool×Nat:=A07
def kAD:Bool×Nat:=A09
def kAE:Bool×Nat:=A12
def i64O (v:V):Option Int:=asI v λk z=>gd (isI64 k) (some z)
def u8O (v:V):Option Int:=asI v λk z=>gd (sameKind k .u8) (some z)
section
variable {γ : Type}
def listO (one:List V->Option γ)(sz:Nat):Nat->List V->Option (List γ)
 |0,_=>some []
 |n+1,cs=>ob (cutL cs 0 sz) λh=>ob (one h) λg=>ob (listO one sz n (cs.drop sz)) λr=>some (g::r)
def slO (one:List V->Option γ)(sz:Nat)(v:V)(s:St):Option (List γ):=match v with
 |.l0=>some []
 |.l k o n c=>gd (Nat.ble n 1000&&Nat.ble n c.least) (ob (rowX0 s k o (n*sz)) (listO one sz n))
 |_=>none
end
def one1O {γ:Type}(f:V->Option γ)(cs:List V):Option γ:=match cs with
 |[v]=>f v
 |_=>none
def polP (s:St)(v:V):Option (List Mono):=slO monoO 7 v s
def polsP (s:St)(v:V):Option (List (List Mono)):=slO (one1O (polP s)) 1 v s
def opP (s:St)(cs:List V):Option OpC:=match cs with
 |[a,b,c,p,f]=>ob (i64O a) λa=>ob (i64O b) λb=>ob (i64O c) λc=>ob (polP s p) λp=>ob (u8O f) λf=>some ⟨a,b,c,p,f⟩
 |_=>none
def bufP (s:St)(cs:List V):Option jX:=match cs with
 |[a,b]=>ob (polsP s a) λa=>ob (i64O b) λb=>some ⟨a,b⟩
 |_=>none
def stepP (s:St)(cs:List V):Option cT:=match cs with
 |[a,b,p,l,f,o]=>ob (i64O a) λa=>ob (i64O b) λb=>ob (polP s p) λp=>ob (polsP s l) λl=>ob (u8O f) λf=>ob (slO (opP s) 5 o s) λo=>some ⟨a,b,p,l,f,o⟩
 |_=>none
def coreO (s:St)(v:V):Option dR:=asG v λcs=>match cs with
 |[a,b,t,o]=>ob (i64O a) λa=>ob (slO (bufP s) 2 b s) λb=>ob (slO (stepP s) 6 t s) λt=>ob (slO (one1O i64O) 1 o s) λo=>some ⟨a,b,t,o⟩
 |_=>none
def intsO (s:St)(v:V):Option (List Int):=slO (one1O i64O) 1 v s
def iV (z:Int):V:= .i .i64 z
def bLx:List (List Mono)->List Mono->Option (List Mono)
 |[],n=>some n
 |p::r,n=>if (mulF n p).2=0 then bLx r (mulF n p).1 else none
def layK (sides:List (List Mono))(b:Nat)(again:Bool)(s:PlC):Option PlC:=match bLx sides (kC 1).1 with
 |none=>none
 |some n=>match oC n again s.free with
  |some (i,q)=>some {s with free:=s.free.eraseIdx i,laid:=s.laid.set b (some q),Y:=s.Y.set b q.at_}
  |none=>if (bothF s.J n 1).2=0 then some {s with J:=(bothF s.J n 1).1,laid:=s.laid.set b (some ⟨s.J,n⟩),Y:=s.Y.set b s.J}else none
def bLy (bufs:List jX)(l:List LifeC):Nat->Nat->PlC->Option PlC
 |0,_,s=>some s
 |m+1,b,s=>match bufs[b]?,l[b]? with
  |some u,some y=>if y.from_<0 then match layK u.K b false s with
    |none=>none
    |some s'=>bLy bufs l m (b+1) s'
   else bLy bufs l m (b+1) s
  |_,_=>none
def goK (c:dR)(l:List LifeC)(w:List Bool):List cT->Nat->PlC->Option PlC
 |[],_,s=>some s
 |x::r,i,s=>match c.C[x.I.toNat]?,l[x.I.toNat]?,w[x.I.toNat]? with
  |some u,some y,some t=>if y.from_=(i:Int)then match layK u.K x.I.toNat t (relC i l s)with
    |none=>none
    |some s'=>goK c l w r (i+1) s'
   else goK c l w r (i+1) s
  |_,_,_=>none
def planK (c:dR):Option (List (List Mono)×List Mono):=match bLy c.C (livesC c) c.C.length 0 (oD c.C.length)with
 |none=>none
 |some s=>match goK c (livesC c) (fullC c) c.D 0 s with
  |none=>none
  |some s=>some (s.Y,s.J)
def planWK(c:dR):(List (List Mono)×List Mono)×Int:=if dC c=true then match planK c with
 |some r=>(r,0)
 |none=>(([],[]),140)
 else (([],[]),100)
def refusedQ(w:(List (List Mono)×List Mono)×Int)(c:dR)(dims:List Int):Int:=
 if (dH c dims).2≠0 then (dH c dims).2 else if w.2≠0 then w.2 else if 384<opsCount c then 180 else if turnsG dims c.D 0=false then 122 else 0
def makerQ(w:(List (List Mono)×List Mono)×Int)(c:dR)(dims:List Int):GnM:=⟨1,(bF w.1.2 dims).1,dims,w.1.1.map λp=>(bF p dims).1,c.C.map λb=>(tA (b.K.map λp=>(bF p dims).1)).1⟩
def codeQ (w:(List (List Mono)×List Mono)×Int)(c:dR)(dims:List Int):List PcV:=(gE ⟨1,0,0,0,121⟩ 0 (hereG 1 (gE ⟨0,0,0,0,0⟩ 0 (stepsG (makerQ w c dims) c.D ⟨[],1,0⟩)))).l
def genQ (w:(List (List Mono)×List Mono)×Int)(c:dR)(dims:List Int):MadeP×Int:=
 if refusedQ w c dims≠0 then (⟨[],0,[]⟩,refusedQ w c dims)else (⟨bBy (codeQ w c dims),(makerQ w c dims).frame+deepGo c.D 0,(makerQ w c dims).at_⟩,0)
def insW (i:dU):List V:=[.i .u8 i.op,.i .u8 i.a,.i .u8 i.b,.i .u8 i.c,.i .i32 i.zd]
def genV (r:MadeP×Int)(s:St):Option (V×St):=sel (B1 r.1.code.length 0&&B1 r.1.at_.length 0) (some (.t [.g [.y s.c,iV r.1.mem,.y (s.c+1)],iV r.2],{s with c:=s.c+2}))
 (gd (!(B1 r.1.code.length 0)&& !(B1 r.1.at_.length 0)) (some (.t [.g [.l s.n 0 r.1.code.length (.s s.c 0),iV r.1.mem,.l (s.n+1) 0 r.1.at_.length (.s (s.c+1) 0)],iV r.2],
   {h:=(s.h.set (some (.win (r.1.code.flatMap insW))) fuelT s.n).set (some (.win (r.1.at_.map iV))) fuelT (s.n+1),n:=s.n+2,c:=s.c+2})))
def genO (kN:Nat):Orc:=λargs s=>match args with
 |[c,d]=>ob (coreO s c) λc=>ob (intsO s d) λd=>gd (isKnow 2 (s.h.get kN)) (genV (genQ (planWK c) c d) s)
 |_=>none
end
theorem sizeK_eq: ∀(l:List (List Mono)) (n:List Mono),bLx l n=oY l n
 |[],_=>rfl
 |p::r,n=>by rw[bLx,oY,mulF_eq,sizeK_eq r]
theorem layK_eq(sides:List (List Mono))(b:Nat)(again:Bool)(s:PlC):layK sides b again s=layC sides b again s:=by unfold layK layC sizeC;rw[sizeK_eq];simp only[bothF_eq];rfl
theorem bTo(bufs:List jX)(l:List LifeC): ∀(m b:Nat) (s:PlC),bLy bufs l m b s=mD bufs l m b s
 |0,_,_=>rfl
 |m+1,b,s=>by unfold bLy mD;simp only[layK_eq,bTo bufs l m];rfl
theorem goK_eq(c:dR)(l:List LifeC)(w:List Bool): ∀(xs:List cT) (i:Nat) (s:PlC),goK c l w xs i s=goC c l w xs i s
 |[],_,_=>rfl
 |x::r,i,s=>by unfold goK goC;simp only[layK_eq,goK_eq c l w r];rfl
theorem genQ_eq(c:dR)(ds:List Int):genQ (planWK c) c ds=qH c ds:=by
 have e:planWK c=iR c:=by unfold planWK iR planK yX;simp only[bTo,goK_eq];rfl
 rw[e];rfl
section
variable [Ctx] {α : As} {s s' : St} {w w' : World}
def Zn (w:World):kZ:=λb=>b<w.heap.size
omit [Ctx]in
theorem i64_is{v:V}{z:Int}(h:i64O v=some z):v= .i .i64 z:=by obtain⟨k,x,rfl,h1⟩:=mM h;obtain⟨h2,h3⟩:=bQ h1;cases h3;cases k<;>first|rfl|cases h2
omit [Ctx]in
theorem u8_is{v:V}{z:Int}(h:u8O v=some z):v= .i .u8 z:=by obtain⟨k,x,rfl,h1⟩:=mM h;obtain⟨h2,h3⟩:=bQ h1;cases h3;rw[lU h2]
omit [Ctx]in
theorem listO_is{γ:Type}{one:List V->Option γ}{sz:Nat}: ∀(n:Nat) (cs:List V) (l:List γ),listO one sz n cs=some l->l.length=n/\ ∀k g,l[k]?=some g-> ∃h,one h=some g/\h.length=sz/\ ∀j,j<sz->cs[k*sz+j]?=h[j]?
 |0,_,_,h=>by cases h;exact⟨rfl,λk m h=>by cases h⟩
 |n+1,cs,l,h=>by
  obtain⟨q,hq,h1⟩:=bB (show ob (cutL cs 0 sz) _=some l from h);obtain⟨m,e,h2⟩:=bB h1;obtain⟨r,hr,h3⟩:=bB h2;cases h3;obtain⟨h4,o⟩:=listO_is n _ _ hr;obtain⟨d,p⟩:=nW _ _ _ _ hq;have hl:q.length=sz:=by rw[d];simp;omega
  refine⟨by simp[h4],λk x c=>?_⟩
  cases k with
  |zero=>
   cases c;refine⟨q,e,hl,λj a=>?_⟩;rw[d,Q5,List.getElem?_take,if_pos a];simp
  |succ k=>
   obtain⟨g,i,f,b⟩:=o k x c;refine⟨g,i,f,λj a=>?_⟩;rw[<-b j a,List.getElem?_drop]
   congr 1
   rw[Nat.succ_mul];omega
omit [Ctx]in
theorem bTg{γ β:Type}{P:γ->β->Prop}: ∀(l:List γ),(∀(k:Nat) (g:γ),l[k]?=some g-> ∃x,P g x)-> ∃m:List β,m.length=l.length/\ ∀(k:Nat) (g:γ) (x:β),l[k]?=some g->m[k]?=some x->P g x
 |[],_=>⟨[],rfl,λk g x h=>by cases h⟩
 |g::l,h=>by
  obtain⟨x,hx⟩:=h 0 g rfl;obtain⟨m,c,b⟩:=bTg l λk g d=>h (k+1) g d;refine⟨x::m,by simp[c],λk e a h1 h2=>?_⟩
  cases k with
  |zero=>cases h1;cases h2;exact hx
  |succ k=>exact b k e a h1 h2
theorem bGw{γ β:Type}{one:List V->Option γ}{E:Flat β}{f:β->γ}{G:β->Prop}(hs:Sim α s w)(hone: ∀cs g,cs.length=E.size->one cs=some g-> ∃x:β,f x=g/\cs.map (V.inst α)=E.cells x/\G x){v:V}{gs:List γ}(h:slO one E.size v s=some gs):
  ∃l:Sl β,l.B.map f=gs/\v.inst α= f9 l/\(E.sl (f9 l) l.B).p (Zn w) w/\(∀x∈l.B,G x)/\l.B.length<=l.cap/\l.B.length<=1000:=by
 unfold slO at h;split at h
 .cases h;exact⟨⟨none,0,[]⟩,rfl,rfl,⟨none,0,rfl,λk x R=>(by cases R)⟩,λx hx=>(by cases hx),B8 _,by show 0<=1000;decide⟩
 .rename_i k o n c;obtain⟨h1,h2⟩:=bQ h;rw[L9]at h1;obtain⟨cs,C,h3⟩:=bB h2;obtain⟨h4,W⟩:=listO_is _ _ _ h3;obtain⟨X,U⟩:=qZ hs (row0_row C);obtain⟨b,hb,_⟩:=bB C
  obtain⟨m,Q,O⟩:=bTg (P:=λ(q:Nat×γ) x=>f x=q.2/\(∃h:List V,h.length=E.size/\h.map (V.inst α)=E.cells x/\ ∀j,j<E.size->cs[q.1*E.size+j]?=h[j]?)/\G x) (gs.zipIdx.map λq=>(q.2,q.1)) λi q a=>by
   rw[F7,Aq]at a
   cases hg:gs[i]? with
   |none=>rw[hg]at a;cases a
   |some g=>
    rw[hg]at a;have a:some (0+i,g)=some q:=a;cases a;obtain⟨J,z,M,t⟩:=W i g hg;obtain⟨x,N,I,D⟩:=hone J g M z;exact⟨x,N,⟨J,M,I,λj L=>by simpa using t j L⟩,D⟩
  have A:m.length=gs.length:=by rw[Q];simp
  have r: ∀i x,m[i]?=some x-> ∃g,gs[i]?=some g/\f x=g/\(∃h:List V,h.length=E.size/\h.map (V.inst α)=E.cells x/\ ∀j,j<E.size->cs[i*E.size+j]?=h[j]?)/\G x:=λi x hx=>by
   have hlt:i<gs.length:=by rw[<-A];exact(G3.1 hx).1
   have hq:(gs.zipIdx.map λq=>(q.2,q.1))[i]?=some (i,gs[i]):=by rw[F7,Aq,G1 hlt];simp
   obtain⟨N,I,D⟩:=O i _ x hq hx;exact⟨gs[i],G1 hlt,N,I,D⟩
  have B:m.map f=gs:=by
   apply aI;intro i;rw[F7]
   cases hx:m[i]? with
   |none=>
    have:=aJ.1 hx;rw[Y5 j5];rfl
   |some x=>
    obtain⟨g,hg,e,_⟩:=r i x hx;rw[hg,<-e];rfl
  have hn:m.length=n:=by rw[A];exact h4
  refine⟨⟨some ⟨α.blk k,o,none⟩,c.inst α,m⟩,B,by rw[<-hn];rfl,⟨some ⟨α.blk k,o,none⟩,c.inst α,rfl,λi x hx=>?_⟩,λx hx=>?_,?_,by have:=gB h1.1;show m.length<=1000;omega⟩
  .obtain⟨g,hg,_,⟨J,M,I,t⟩,_⟩:=r i x hx;refine⟨α.blk k,o,E.cells x,rfl,(hs.is k b hb).lt,λj u hu=>?_,rfl⟩;have L:j<E.size:=by have:=(G3.1 hu).1;rwa[E.len]at this
   rw[<-I,F7]at hu
   cases K:J[j]? with
   |none=>rw[K]at hu;cases hu
   |some y=>
    rw[K]at hu;cases hu;have:=U _ _ ((t j L).trans K);show w.cell? ⟨α.blk k,o+i*E.size+j,none⟩=_;rw[Nat.add_assoc];exact this
  .obtain⟨i,a⟩:=eP hx;obtain⟨_,_,_,_,D⟩:=r i x a;exact D
  .have z:=gB h1.2;show m.length<=c.inst α
   cases c with
   |n q=>have z:n<=q:=z;show m.length<=q;omega
   |s q d=>have z:n<=d:=z;show m.length<=d+α.room q;omega
 .cases h
theorem polP_is(hs:Sim α s w){v:V}{p:List Mono}(h:polP s v=some p): ∃q:PolV,q.B=p/\v.inst α= f9 q/\(cR q).p (Zn w) w:=by obtain⟨l,h1,h2,h3,_,_,h4⟩:=bGw (E:=dM) (f:=id) (G:=λ_=>True) (γ:=Mono) hs (λa g _ hg=>⟨g,rfl,by rw[mono_is hg];rfl,e9⟩) (show slO monoO dM.size v s=some p from h);exact⟨l,by rw[<-h1,List.map_id],h2,h3,C0 h4 l4⟩
theorem polsP_is(hs:Sim α s w){v:V}{p:List (List Mono)}(h:polsP s v=some p): ∃q:Sl PolV,polsL q.B=p/\v.inst α= f9 q/\(nL q).p (Zn w) w:=by
 obtain⟨l,h1,h2,h3,h4,a,i⟩:=bGw (E:=fF) (f:=λq:PolV=>q.B) (G:=λq=>(cR q).p (Zn w) w) (γ:=List Mono) hs (λe g hl hg=>by
  match e,hl,hg with
  |[u],_,hg=>
   obtain⟨q,d,c,b⟩:=polP_is hs hg
   exact⟨q,d,by show [u.inst α]=[_];rw[c],b⟩) (show slO (one1O (polP s)) fF.size v s=some p from h)
 exact⟨l,h1,h2,⟨⟨h3,h4⟩,a,j5⟩⟩
theorem opP_is(hs:Sim α s w){cs:List V}{o:OpC}(h:opP s cs=some o): ∃x:OpV,x.c=o/\cs.map (V.inst α)=opE.cells x/\(opF x).p (Zn w) w:=by
 unfold opP at h;split at h
 .rename_i a b c p f;obtain⟨t,i,h⟩:=bB h;obtain⟨r,hb,h⟩:=bB h;obtain⟨n,g,h⟩:=bB h;obtain⟨u,d,h⟩:=bB h;obtain⟨j,e,h⟩:=bB h;cases h;obtain⟨q,m,l,k⟩:=polP_is hs d;rw[i64_is i,i64_is hb,i64_is g,u8_is e];refine⟨⟨t,r,n,q,j⟩,by subst m;rfl,?_,k⟩;show [_,_,_,p.inst α,_]=_;rw[l];rfl
 .cases h
theorem bufP_is(hs:Sim α s w){cs:List V}{o:jX}(h:bufP s cs=some o): ∃x:jW,x.c=o/\cs.map (V.inst α)=sU.cells x/\(bSc x).p (Zn w) w:=by
 unfold bufP at h;split at h
 .rename_i a b;obtain⟨j,d,h⟩:=bB h;obtain⟨i,hb,h⟩:=bB h;cases h;obtain⟨q,g,f,e⟩:=polsP_is hs d;rw[i64_is hb];refine⟨⟨q,i⟩,by subst g;rfl,?_,e⟩;show [a.inst α,_]=_;rw[f];rfl
 .cases h
theorem stepP_is(hs:Sim α s w){cs:List V}{o:cT}(h:stepP s cs=some o): ∃x:gA,x.c=o/\cs.map (V.inst α)=pU.cells x/\(mO x).p (Zn w) w:=by
 unfold stepP at h;split at h
 .rename_i a b p l f t;obtain⟨K,z,h⟩:=bB h;obtain⟨J,hb,h⟩:=bB h;obtain⟨L,u,h⟩:=bB h;obtain⟨M,hl,h⟩:=bB h;obtain⟨B,v,h⟩:=bB h;obtain⟨d,n,h⟩:=bB h;cases h;obtain⟨q,I,D,C⟩:=polP_is hs u;obtain⟨r,A,g2,g3⟩:=polsP_is hs hl;obtain⟨y,m,k,j,i,e,N⟩:=bGw (E:=opE) (f:=OpV.c) (G:=λx=>(opF x).p (Zn w) w) (γ:=OpC) hs (λcs g _ hg=>opP_is hs hg) (show slO (opP s) opE.size t s=some d from n);rw[i64_is z,i64_is hb,u8_is v];refine⟨⟨K,J,q,r,B,y⟩,by subst I A m;rfl,?_,C,g3,⟨⟨j,i⟩,e,by show y.B.length*56<=140737488355328;omega⟩⟩;show [_,_,p.inst α,l.inst α,_,t.inst α]=_;rw[D,g2,k];rfl
 .cases h
omit [Ctx]in
theorem ints1_is{cs:List V}{g:Int}(hl:cs.length=dA.size)(hg:one1O i64O cs=some g): ∃x:Int,id x=g/\cs.map (V.inst α)=dA.cells x/\True:=by
 match cs,hl,hg with
 |[u],_,hg=>exact⟨g,rfl,by rw[i64_is (show i64O u=some g from hg)];rfl,e9⟩
theorem ints_is(hs:Sim α s w){v:V}{p:List Int}(h:intsO s v=some p): ∃q:Sl Int,q.B=p/\v.inst α= f9 q/\(outsF q).p (Zn w) w:=by obtain⟨l,h1,h2,h3,_,h4,a⟩:=bGw (E:=dA) (f:=id) (G:=λ_=>True) (γ:=Int) hs (λb g hl hg=>ints1_is hl hg) (show slO (one1O i64O) dA.size v s=some p from h);exact⟨l,by rw[<-h1,List.map_id],h2,h3,h4,j5⟩
theorem core_is(hs:Sim α s w){v:V}{c:dR}(h:coreO s v=some c): ∃x:fX,x.c=c/\v.inst α= .agg #[j3 x.vars,f9 x.C,f9 x.D,f9 x.Q]/\(lH x).p (Zn w) w:=by
 obtain⟨d,rfl,h⟩:=wJ h
 match d,h with
 |[a,b,t,o],h=>
  have h:(ob (i64O a) λa=>ob (slO (bufP s) 2 b s) λb=>ob (slO (stepP s) 6 t s) λt=>ob (slO (one1O i64O) 1 o s) λo=>some (⟨a,b,t,o⟩:dR))=some c:=h;obtain⟨M,D,h⟩:=bB h;obtain⟨L,hb,h⟩:=bB h;obtain⟨e,C,h⟩:=bB h;obtain⟨N,ho,h⟩:=bB h;cases h;obtain⟨y,B,A,u,r,n,P⟩:=bGw (E:=sU) (f:=jW.c) (G:=λx=>(bSc x).p (Zn w) w) (γ:=jX) hs (λd g _ hg=>bufP_is hs hg) (show slO (bufP s) sU.size b s=some L from hb);obtain⟨z,m,l,k,j,i,O⟩:=bGw (E:=pU) (f:=gA.c) (G:=λx=>(mO x).p (Zn w) w) (γ:=cT) hs (λd g _ hg=>stepP_is hs hg) (show slO (stepP s) pU.size t s=some e from C);obtain⟨q,K,J,I⟩:=ints_is hs ho;rw[i64_is D];refine⟨⟨M,y,z,q⟩,by subst B m K;rfl,?_,⟨⟨u,r⟩,n,by show y.B.length*32<=140737488355328;omega⟩,⟨⟨k,j⟩,i,by show z.B.length*96<=140737488355328;omega⟩,I⟩;rw[qO];show Value.agg #[_,b.inst α,t.inst α,o.inst α]=_;rw[A,l,J];rfl
end
end X
end
section
open Go.Proofs.Tryz
namespace X
open Go.RowKit Go.Proofs.Tryz
theorem own_at{w:World}{v:Value}{t:TypeId}{sz m:Nat}{cs:List Value}(hok:w.ownsRow 0 t sz v m cs)(h0:0<m): ∃g cap,v= .slice (some ⟨g,0,none⟩) m cap/\v.ownBlock=some g/\ ∀j u,cs[j]?=some u->w.cell? ⟨g,j,none⟩=some u:=by
 have h1:=hok
 rcases hok.2 with ⟨e,c⟩|⟨g,cap,b,e,_⟩
 .omega
 .subst e;refine⟨g,cap,rfl,rfl,λj u a=>?_⟩;have hlt:=(G3.1 a).1;rw[h1.1]at hlt;rw[World.ownsRow.cellAt h1 j hlt];exact a
section
variable [Ctx] {α : As} {s s' : St} {w w' : World}
omit [Ctx]in
theorem below_of{H:List bD}{S':kZ}(st:Go.Proofs.YtnfiadlonjediaaGreatDoor.St ⟨w,mR [],Zn w⟩ H S' w'):Below w.heap.size w w':=⟨st.kept.os,st.kept.tape,st.kept.output,st.kept.size,λk a=>st.kept.block k a λ⟨c,hc,_⟩=>by cases hc⟩
def NoneIs:Prop:= ∀o,Ctx.G 2 o-> ∃t z,o= .cells #[.int .i64 0,.int .i64 (-1)] t z
theorem none_cells(hs:Sim α s w){k:Nat}(hg:Ctx.gl 0=some k)(hG:NoneIs)(h:isKnow 2 (s.h.get k)=true):(bC.cells 0 0 [j3 0,j3 (-1)]).p (Zn w) w:=by
 obtain⟨o,b,c⟩:=know_at hs hg h;obtain⟨t,z,rfl⟩:=hG o c;refine⟨(N9.1 b).1,λj u a=>?_⟩;unfold D8;rw[D1];dsimp only;rw[b]
 match j,a with
 |0,a=>cases a;rfl
 |1,a=>cases a;rfl
 |j+2,a=>cases a
def As.two(α:As)(n c g0 g1 c0 c1:Nat)(A0 A1:Option Addr):As:={α with blk:=λk=>if k=n then g0 else if k=n+1 then g1 else α.blk k,room:=λk=>if k=c then c0 else if k=c+1 then c1 else α.room k,place:=λk=>if k=c then A0 else if k=c+1 then A1 else α.place k}
omit [Ctx]in
theorem two_same{n c g0 g1 c0 c1:Nat}{A0 A1:Option Addr}:nM n c α (α.two n c g0 g1 c0 c1 A0 A1):=⟨λk a=>by unfold As.two;simp only;rw[if_neg j5,if_neg j5],λk a=>by unfold As.two;simp only;rw[if_neg j5,if_neg j5],λk a=>by unfold As.two;simp only;rw[if_neg j5,if_neg j5]⟩
omit [Ctx]in
theorem ins_all{l:List dU}: ∀{j:Nat} {v:V},(l.flatMap insW)[j]?=some v->(v.Sc s.n s.c/\v.one=true)/\(oE.all l)[j]?=some (v.inst α):=by
 induction l with
 |nil=>intro j v h;cases h
 |cons i r ih=>
  intro j v h;rw[List.flatMap_cons]at h;have e:oE.all (i::r)=oE.cells i++oE.all r:=rfl;rw[e]
  by_cases a:j<5
  .rw[G6 (by exact a)]at h;rw[G6 (by show j<(oE.cells i).length;rw[oE.len];exact a)]
   match j,h with
   |0,h=>cases h;exact⟨⟨⟨1,by rw[jY]⟩,rfl⟩,rfl⟩
   |1,h=>cases h;exact⟨⟨⟨1,by rw[jY]⟩,rfl⟩,rfl⟩
   |2,h=>cases h;exact⟨⟨⟨1,by rw[jY]⟩,rfl⟩,rfl⟩
   |3,h=>cases h;exact⟨⟨⟨1,by rw[jY]⟩,rfl⟩,rfl⟩
   |4,h=>cases h;exact⟨⟨⟨1,by rw[jY]⟩,rfl⟩,rfl⟩
   |j+5,_=>omega
  .rw[Ap (by show 5<=j;omega)]at h;rw[Ap (by rw[oE.len];show 5<=j;omega),oE.len];exact ih h
theorem gen_nil(hs:Sim α s w){mem e:Int}(hb:Below w.heap.size w w')(A0 A1:Option Addr)(c0 c1:Nat): ∃α',Av #[.agg #[.slice A0 0 c0,j3 mem,.slice A1 0 c1],j3 e]=(V.t [.g [.y s.c,iV mem,.y (s.c+1)],iV e]).inst α'/\Stp α s w α' {s with c:=s.c+2} w':=by
 refine⟨α.two (s.n+1) s.c 0 0 c0 c1 A0 A1,by rw[inst_t];simp[V.inst,V.instL,iV,As.two],?_⟩
 have a:nM s.n s.c α (α.two (s.n+1) s.c 0 0 c0 c1 A0 A1):=⟨λk d=>by unfold As.two;simp only;rw[if_neg j5,if_neg j5],λk d=>by unfold As.two;simp only;rw[if_neg j5,if_neg j5],λk d=>by unfold As.two;simp only;rw[if_neg j5,if_neg j5]⟩
 refine Stp.make hs (λ_=>False) a (B8 _) (by show s.c<=s.c+2;omega) hb.os hb.tape hb.output hb.size (λb h _=>hb.block b h) (λ_ h=>h.elim) (λk y d=> .inl ⟨d,λh=>h⟩) (λk f y j d i e=>?_);have h1:=hs.lt k y d;have h2:=hs.lt f j i;have m:(α.two (s.n+1) s.c 0 0 c0 c1 A0 A1).blk k=α.blk k:=(a.blk k h1).symm;have l:(α.two (s.n+1) s.c 0 0 c0 c1 A0 A1).blk f=α.blk f:=(a.blk f h2).symm;rw[m,l]at e;exact hs.ne k f y j d i e
theorem gen_row(hs:Sim α s w){code:List dU}{at_:List Int}{mem e:Int}{x:(Option Addr×Nat)×(Option Addr×Nat)}{S':kZ}(hn1:code.length≠0)(hn2:at_.length≠0)
  (st:Go.Proofs.YtnfiadlonjediaaGreatDoor.St ⟨w,mR [],Zn w⟩ [oE.row (.slice x.1.1 code.length x.1.2) 52 code,dA.row (.slice x.2.1 at_.length x.2.2) 2 at_] S' w'):
  ∃α',Av #[.agg #[.slice x.1.1 code.length x.1.2,j3 mem,.slice x.2.1 at_.length x.2.2],j3 e]=(V.t [.g [.l s.n 0 code.length (.s s.c 0),iV mem,.l (s.n+1) 0 at_.length (.s (s.c+1) 0)],iV e]).inst α'/\Stp α s w α' {h:=(s.h.set (some (.win (code.flatMap insW))) fuelT s.n).set (some (.win (at_.map iV))) fuelT (s.n+1),n:=s.n+2,c:=s.c+2} w':=by
 have hb:=below_of st;have X:w'.ownsRow 0 52 oE.size (.slice x.1.1 code.length x.1.2) code.length (oE.all code):=st.ok _ (.head _);have W:w'.ownsRow 0 2 dA.size (.slice x.2.1 at_.length x.2.2) at_.length (dA.all at_):=st.ok _ (.tail _ (.head _));obtain⟨d,c0,e0,N,a0⟩:=own_at X (Ar hn1);obtain⟨m,c1,e1,M,a1⟩:=own_at W (Ar hn2);injection e0 with e01 _ e02
 injection e1 with e11 _ e12
 have o0:=st.own _ (.head _) d N;have L:=st.own _ (.tail _ (.head _)) m M;have hM: ∀b,mR [] b->False:=λb ⟨c,Z,_⟩=>by cases Z
 have U:w.heap.size<=d:=o0.2.1.resolve_left (hM _);have R:w.heap.size<=m:=L.2.1.resolve_left (hM _);have y:=List.pairwise_cons.1 st.sep;have u:d≠m:=λe=>y.1 _ (.head _) d N (by rw[e];exact M);have o:nM s.n s.c α (α.two s.n s.c d m c0 c1 none none):=two_same;have r:(α.two s.n s.c d m c0 c1 none none).blk s.n=d:=by simp[As.two]
 have q:(α.two s.n s.c d m c0 c1 none none).blk (s.n+1)=m:=by simp[As.two]
 have Q:(α.two s.n s.c d m c0 c1 none none).room s.c=c0:=by simp[As.two]
 have P:(α.two s.n s.c d m c0 c1 none none).room (s.c+1)=c1:=by simp[As.two]
 have f: ∀k x,s.h.get k=some x->(α.two s.n s.c d m c0 c1 none none).blk k=α.blk k/\α.blk k<w.heap.size:=λk x a=>by have:=hs.lt k x a;exact⟨(o.blk k this).symm,(hs.is k x a).lt⟩
 refine⟨α.two s.n s.c d m c0 c1 none none,?_,?_⟩
 .rw[inst_t];simp only[V.inst,V.instL,iV,List.map_cons,List.map_nil,r,q,Cap.inst,Q,P,D1,e01,e02,e11,e12]
 .have A: ∀v∈at_.map iV,v.Sc (s.n+2) (s.c+2)/\v.one=true:=λv G=>by obtain⟨z,_,rfl⟩:=P5.1 G;exact⟨⟨1,by rw[jY];rfl⟩,rfl⟩
  have J: ∀(i:Nat) (v:V),(at_.map iV)[i]?=some v->w'.cell? ⟨m,i,none⟩=some (v.inst (α.two s.n s.c d m c0 c1 none none)):=λi v p=>by
   rw[F7]at p
   cases E:at_[i]? with
   |none=>rw[E]at p;cases p
   |some z=>
    rw[E]at p;cases p;have h1:=dA.all_get E (show(dA.cells z)[0]?=some (.int .i64 z)from rfl);have h1:(dA.all at_)[i*1+0]?=some (.int .i64 z):=h1;rw[Nat.mul_one,Nat.add_zero]at h1;exact a1 i _ h1
  have B: ∀v∈code.flatMap insW,v.Sc (s.n+2) (s.c+2)/\v.one=true:=λv G=>by obtain⟨j,Y⟩:=eP G;exact(ins_all (s:={s with n:=s.n+2,c:=s.c+2}) (α:=α) Y).1
  have K: ∀(i:Nat) (v:V),(code.flatMap insW)[i]?=some v->w'.cell? ⟨d,i,none⟩=some (v.inst (α.two s.n s.c d m c0 c1 none none)):=λi v p=>a0 i _ (ins_all (s:=s) p).2;refine Stp.make hs (λ_=>False) o (by show s.n<=s.n+2;omega) (by show s.c<=s.c+2;omega) hb.os hb.tape hb.output hb.size (λb h _=>hb.block b h) (λ_ h=>h.elim) (λk x a=>?_) (λk C x O a I e=>?_)
  .have a:((s.h.set (some (.win (code.flatMap insW))) fuelT s.n).set (some (.win (at_.map iV))) fuelT (s.n+1)).get k=some x:=a
   rcases gW a with ⟨rfl,e⟩|⟨_,a⟩
   .injection e with e
    subst e;exact .inr ⟨by show s.n+1<s.n+2;omega,A,by rw[q];exact⟨L.1,J⟩,.inl (by rw[q];exact R)⟩
   .rcases gW a with ⟨rfl,e⟩|⟨_,a⟩
    .injection e with e
     subst e;exact .inr ⟨by show s.n<s.n+2;omega,B,by rw[r];exact⟨o0.1,K⟩,.inl (by rw[r];exact U)⟩
    .exact .inl ⟨a,λh=>h⟩
  .have key: ∀k x,((s.h.set (some (.win (code.flatMap insW))) fuelT s.n).set (some (.win (at_.map iV))) fuelT (s.n+1)).get k=some x->(k=s.n\/k=s.n+1)\/ ∃z,s.h.get k=some z:=λk x a=>by
    rcases gW a with ⟨rfl,_⟩|⟨_,a⟩
    .exact .inl (.inr rfl)
    .rcases gW a with ⟨rfl,_⟩|⟨_,a⟩
     .exact .inl (.inl rfl)
     .exact .inr ⟨x,a⟩
   rcases key k x a with h1|⟨z,h1⟩<;>rcases key C O I with h2|⟨D,h2⟩
   .rcases h1 with rfl|rfl<;>rcases h2 with rfl|rfl<;>simp only[r,q]at e<;>first|rfl|exact absurd e u|exact absurd e.symm u
   .obtain⟨h3,h4⟩:=f C D h2;rw[h3]at e
    rcases h1 with rfl|rfl<;>simp only[r,q]at e<;>omega
   .obtain⟨h3,h4⟩:=f k z h1;rw[h3]at e
    rcases h2 with rfl|rfl<;>simp only[r,q]at e<;>omega
   .obtain⟨h3,_⟩:=f k z h1;obtain⟨h5,_⟩:=f C D h2;rw[h3,h5]at e;exact hs.ne k C z D h1 h2 e
theorem gen_orc(hP:Ctx.P=prog){kN:Nat}(hg:Ctx.gl 0=some kN)(hG:NoneIs):vL 9 (genO kN):=λj s v s' h α w f _=>by
 match j,h with
 |[a,b],h=>
  obtain⟨c,i,h1⟩:=bB (show ob (coreO s a) _=some (v,s')from h);obtain⟨d,hd,h2⟩:=bB h1;obtain⟨t,h3⟩:=bQ h2;rw[genQ_eq]at h3;obtain⟨x,rfl,q,x3⟩:=core_is f i;obtain⟨y,rfl,p,n⟩:=ints_is f hd;refine .inr ⟨by rw[hP];exact bJ func9 rfl rfl _ _,?_⟩;rw[hP];have hr:=bTu x y.O y.cap y.B (by have k:y.B.length*8<=140737488355328:=n.2.2;omega) (Zn w) w ⟨pV.refl _ _,λc i=>(by cases i),λc i=>(by cases i),List.Pairwise.nil,λb hb=>⟨hb,.inl hb⟩⟩ (All.cons x3 (All.cons n.1 (All.cons (none_cells f hg hG t) λg hg=>by cases hg)));show Calls prog _ ([a.inst α,b.inst α]:List Value).toArray w _;rw[q,p];refine hr.mono ?_;rintro e w' ⟨o,A,rfl,st,_⟩;refine⟨_,rfl,?_⟩;generalize qH x.c y.B=r at h3 st⊢;unfold genV at h3;rw[cP]at h3;split at h3
  .rename_i h4;rw[L9]at h4;have z:r.1.code.length=0:=B5 h4.1;have u:r.1.at_.length=0:=B5 h4.2;cases h3;rw[z,u];exact gen_nil f (below_of st) o.1.1 o.2.1 o.1.2 o.2.2
  .obtain⟨k,h3⟩:=bQ h3;cases h3;simp only[L9,Bool.not_eq_true']at k
   have m:r.1.code.length≠0:=λe=>by have h1:B1 r.1.code.length 0=false:=k.1;rw[e]at h1;cases h1
   have l:r.1.at_.length≠0:=λe=>by have h1:B1 r.1.at_.length 0=false:=k.2;rw[e]at h1;cases h1
   exact gen_row f m l st
end
end X
end
section
open Go.Proofs.Tryz
namespace X
open Go.Proofs.Tryz
noncomputable section
def bKu:T (T Plan):= .nd (.nd (.nd (.nd (.nd (.nd (.nd (.nd .lf (some .lf) .lf) none (.nd .lf (some .lf) .lf)) none .lf) none (.nd .lf (some .lf) (.nd (.nd .lf (some .lf) .lf) (some (.nd (.nd (.nd .lf (some (([j2,u1,u0,u2,u3,u4,u5,u6,u7,u9],[]))) .lf) none .lf) none (.nd (.nd (.nd .lf (some (([j2,u1,u0,u2,u3,u4,u5,u6,u7,u9],[]))) .lf) none .lf) none .lf))) .lf))) none (.nd (.nd (.nd .lf none (.nd (.nd .lf (some .lf) .lf) none .lf)) none (.nd .lf (some .lf) (.nd .lf (some .lf) .lf))) (some .lf) (.nd (.nd (.nd .lf (some .lf) .lf) none .lf) (some .lf) (.nd (.nd .lf (some .lf) .lf) (some .lf) (.nd .lf (some .lf) .lf))))) none (.nd (.nd (.nd (.nd .lf (some .lf) (.nd .lf (some .lf) .lf)) none .lf) none (.nd (.nd .lf (some .lf) (.nd .lf (some .lf) .lf)) (some .lf) (.nd (.nd .lf (some .lf) .lf) (some (.nd (.nd (.nd (.nd .lf (some (([j2,u1,u0,u2,u3,u4,A08,A16],[8]))) .lf) none .lf) none .lf) none (.nd .lf none (.nd .lf none (.nd (.nd .lf (some (([j2,u1,u0,u2,u3,u4,u5,u6,A09],[9]))) .lf) none .lf))))) .lf))) (some (.nd (.nd .lf none (.nd (.nd (.nd .lf (some (([j2,u1,u0,u2,u3,u4,u5,u6,u7,u9,A19,A12,A02],[]))) .lf) none .lf) none .lf)) none (.nd .lf none (.nd (.nd .lf none (.nd .lf (some (([j2,u1,u0,u2,u3,u4,u5,u6,u7,u9,A00,A01,A02,A25],[]))) .lf)) none .lf)))) (.nd (.nd .lf (some (.nd .lf none (.nd .lf none (.nd .lf (some (([j2,(false,1),u0,u2,u3,u4,u5,u6,u7,u9,A00,A01,A02],[13,14,15,16]))) .lf)))) (.nd (.nd (.nd .lf (some (.nd (.nd (.nd .lf none (.nd .lf (some (([j2,u1,u0,u2,u3,u4,u5,u7,A16,u9,A00,A01,A02,A03,A04,A05,A07,A06,A17,A22],[]))) .lf)) none .lf) none .lf)) .lf) none .lf) none (.nd .lf (some (.nd (.nd .lf (some (([j2,u1,u0,u2,u3,u4,u5,u6,u7,u9,A19,A01],[]))) .lf) none .lf)) .lf))) none (.nd .lf (some .lf) (.nd (.nd (.nd .lf (some .lf) .lf) (some .lf) .lf) (some .lf) .lf))))) none (.nd (.nd (.nd (.nd (.nd .lf none (.nd .lf (some .lf) .lf)) (some (.nd (.nd (.nd .lf none (.nd (.nd .lf (some (([j2,u1,u0,u2,u3,u4,u5],[7]))) .lf) none .lf)) none .lf) none (.nd (.nd .lf none (.nd .lf (some (([j2,u1,u0,u2,u3,u4,u5,u6,A09,A14,A00,A01],[12]))) .lf)) none .lf))) (.nd .lf none (.nd .lf (some .lf) .lf))) none (.nd (.nd .lf (some (.nd (.nd .lf (some (([j2,u1,u0,u2,u3,u4,A08,u6,u7,u9,A00,A12,A02,A03,A04,A05,A07,A06,A20,A22,A29,(false,21),A26,A27,A28,(true,25),(true,26),(true,27),(true,28),(true,29),(true,30),(true,31),(true,32),(false,33),(true,34),(true,35)],[]))) .lf) none (.nd (.nd .lf none (.nd .lf (some (([j2,u1,u0,u2,u3,u4,u5,u6,u7,A14,A00,A01],[12]))) .lf)) none .lf))) .lf) (some .lf) (.nd (.nd .lf (some .lf) .lf) (some (.nd .lf none (.nd .lf none (.nd .lf none (.nd (.nd .lf (some (([j2,u1,u0,(false,3),u3,(false,5)],[6,7,8]))) .lf) none .lf))))) .lf))) none (.nd (.nd (.nd (.nd (.nd .lf (some .lf) .lf) none .lf) none (.nd .lf (some .lf) .lf)) (some .lf) (.nd .lf (some (.nd .lf none (.nd (.nd (.nd .lf (some (([j2,u1,u0,u2,u3,u4,u5,u6],[8]))) .lf) (some (([j2,u1,u0,u2,u3,u4,u5,u6,u7,u9,A00,A01,A02,A03,A04,A05,A07,A06,A20,(false,19),A29,(true,21),A26,A27,A28],[]))) .lf) none .lf))) (.nd .lf (some .lf) .lf))) none (.nd (.nd (.nd .lf (some .lf) .lf) none .lf) (some .lf) (.nd (.nd .lf (some .lf) .lf) none .lf)))) none (.nd (.nd (.nd (.nd .lf none (.nd .lf (some .lf) .lf)) none .lf) (some (.nd (.nd (.nd .lf none (.nd (.nd (.nd .lf (some (([j2,u1,u0,u2,u3,u4,u5,u6,u7,u9,A19,A12,A02,A03,A04],[15]))) .lf) (some (([j2,u1,u0,u2,u3,u4,u5,u6,u7],[9]))) .lf) none .lf)) none (.nd .lf none (.nd .lf none (.nd .lf (some (([j2,u1,u0,u2,u3,u4,u5,u6,u7,u9,A19,A01,A02,A03,A04,A05],[]))) .lf)))) none (.nd (.nd .lf none (.nd (.nd .lf (some (([j2,u1,u0,u2,u3,u4,u5,u6,u9,A09,A00,A12,A24,A03,A04,A05],[16]))) .lf) none .lf)) none (.nd (.nd (.nd (.nd .lf (some (([j2,u1,u0,u2,u3,u4,u5,u6,u7],[9]))) .lf) none .lf) none .lf) none .lf)))) (.nd (.nd (.nd .lf (some .lf) .lf) none .lf) (some (.nd (.nd .lf none (.nd .lf none (.nd .lf (some (([j2,u1,u0,u2,u3,u4,A08,A16,u7,u9],[10]))) .lf))) none (.nd .lf (some (([j2,u1,u0,u2,u3,u4,u5,u6,u7,u9,A00,A01,A02,A03,A04,A05,A07,A06],[]))) (.nd (.nd .lf none (.nd .lf (some (([j2,u1,u0,u2,u3,u4,A08,A16,u7,u9],[10]))) .lf)) none .lf)))) (.nd (.nd .lf (some .lf) .lf) (some (.nd .lf none (.nd .lf (some (([j2,u1,u0,u3,u4,u5,u6,u7,(false,3),A14,A00],[11]))) .lf))) .lf))) (some (.nd .lf none (.nd .lf none (.nd .lf (some (([j2,u1,u0,u2,u3,u4,u5,u6,u7],[]))) .lf)))) (.nd (.nd (.nd (.nd (.nd .lf (some .lf) .lf) none .lf) none .lf) (some .lf) (.nd (.nd (.nd .lf (some (.nd (.nd .lf none (.nd (.nd .lf (some (([j2,u1,u0,(false,3),(false,4)],[5,6,7]))) .lf) none .lf)) none (.nd .lf (some (([j2,u1,u3,u4,u5,u6,u7,u9,A00,A01,A02,A03,A04,A05,A07,A06,(false,2),u2,A17,A22],[]))) .lf))) .lf) (some .lf) .lf) (some (.nd (.nd .lf (some (([j2,u1,u0,u2,u3,u4,u5,u6,u7,u9],[]))) .lf) none (.nd .lf (some (([j2,u1,u0,u2,u3,u4,u5,u6,u7,u9],[10]))) .lf))) (.nd .lf (some .lf) .lf))) none (.nd (.nd .lf (some .lf) .lf) (some .lf) (.nd (.nd .lf (some .lf) .lf) (some .lf) .lf)))))) none (.nd (.nd (.nd (.nd (.nd (.nd (.nd .lf (some .lf) .lf) (some .lf) .lf) none (.nd .lf none (.nd .lf (some .lf) .lf))) (some .lf) (.nd (.nd .lf (some .lf) (.nd (.nd .lf (some .lf) .lf) none .lf)) (some .lf) (.nd (.nd .lf (some .lf) .lf) (some .lf) .lf))) (some .lf) (.nd (.nd .lf none (.nd .lf (some (.nd (.nd .lf (some (([j2,u1,u0,u2,u3,u4,u5,u6,u7,u9,A00,A01,A02],[]))) .lf) none (.nd .lf (some (([j2,u1,u0,u2,u3,u4,u5,u6,u7,u9,A00,A01,A02,A03,A04],[]))) .lf))) (.nd .lf (some .lf) .lf))) none (.nd (.nd (.nd .lf (some (.nd (.nd (.nd .lf none (.nd .lf (some (([j2,u1,u0,u2,u3,u4,u5,u6,u7,u9,A00,A01,A02,A03,A04,A05,A07,A06,A20,A22,A29,(true,21),A26,A27,A28,(true,25),(true,26),(true,27),(true,28),(true,29),(true,30),(true,31),(true,32),(true,33)],[]))) .lf)) (some (([j2,u1,u0,u2,u3,u4,u5,u6,u7,u9,A00,A01],[]))) (.nd (.nd .lf (some (([j2,u1,u0,u2,u3,u4,u5,u6,u7,u9,A00,A01,A02,A03],[]))) .lf) none .lf)) none .lf)) .lf) none .lf) (some .lf) (.nd (.nd .lf (some .lf) .lf) (some .lf) .lf)))) none (.nd (.nd (.nd (.nd .lf none (.nd .lf (some .lf) .lf)) none (.nd .lf (some .lf) (.nd .lf (some .lf) .lf))) (some .lf) (.nd (.nd (.nd (.nd .lf (some .lf) .lf) (some .lf) .lf) none (.nd .lf (some .lf) .lf)) (some .lf) (.nd (.nd .lf (some (.nd (.nd .lf (some (([j2,u1,u0,u2,u3,u4,u5,u6,u7,u9],[]))) .lf) none (.nd .lf (some (([j2,u1,u0,u2,u3,u4,u5,u6,u7,u9,A00,A01],[]))) .lf))) .lf) (some (.nd (.nd (.nd (.nd .lf none (.nd .lf (some (([j2,u1,u0,u2,u3,u4,u5,u6,u7,u9,A00,A01,A24,A03,A04,A05,(false,16),A06],[]))) .lf)) none .lf) none .lf) none .lf)) (.nd .lf (some .lf) .lf)))) none (.nd (.nd (.nd (.nd (.nd .lf (some .lf) .lf) none .lf) none .lf) none (.nd (.nd (.nd .lf (some .lf) .lf) none .lf) (some .lf) .lf)) none (.nd .lf (some (.nd (.nd (.nd .lf none (.nd .lf (some (([j2,u1,u0,u2,u3,u4,u5,u6,u7,u9,A19,A12,A02],[]))) .lf)) none (.nd (.nd .lf none (.nd (.nd .lf (some (([j2,u1,u0,u2,(false,4)],[5,6,7]))) .lf) none .lf)) none (.nd (.nd (.nd .lf (some (([j2,u1,u0,u2,u3,u4,u5,u6,A09],[9]))) .lf) none .lf) none (.nd .lf (some (([j2,u1,u0,u2,u3,u4,u5,u6,u7,u9,A00,A01,A02,A03],[14,15]))) .lf)))) none (.nd .lf none (.nd .lf none (.nd (.nd (.nd .lf (some (([j2,u1,u0,u2,u3,u4,u5,u6,A09,u9,A19,A12,A02,A03,A04],[15]))) .lf) none .lf) none .lf))))) (.nd .lf (some (.nd .lf none (.nd .lf (some (([j2,u1,u0,u2,u4,u6,(false,4),A08,A09,A14],[10]))) .lf))) .lf))))) none (.nd (.nd (.nd (.nd (.nd .lf (some .lf) .lf) (some .lf) (.nd .lf (some .lf) .lf)) (some .lf) (.nd (.nd .lf (some .lf) (.nd .lf (some .lf) .lf)) (some (.nd (.nd (.nd .lf (some (([j2,u1,u0,u2,u3,u4,u5,u6,u7,u9,A00,A12],[12]))) .lf) (some (([j2,u1,u0,u2,u3,u4,u5,u6,u7,u9,A00,A01,A02,A03,A04,A05,A07,A06,A20],[]))) .lf) none (.nd (.nd .lf (some (([j2,u1,u0,u2,u3,u4,u5,u6],[]))) (.nd (.nd .lf (some (([j2,u1,u0,u2,u3,u4,u5,u6,u7,u9,A00,A01,A02,A03],[14]))) .lf) none .lf)) none (.nd (.nd (.nd (.nd .lf (some (([j2,u1,u0,u2,u3,u4,u5,u6,u7,u9,A00,A01,A02],[]))) .lf) (some (([j2,u1,u0,u2,u3,u4,u5,u6,u7,u9],[10]))) .lf) none .lf) none (.nd .lf none (.nd .lf (some (([j2,u1,u0,u2,u3,u4,u5,u6,u7,u9],[10]))) .lf)))))) (.nd (.nd .lf (some .lf) .lf) (some .lf) .lf))) none (.nd (.nd (.nd .lf none (.nd .lf (some .lf) .lf)) none (.nd .lf (some .lf) (.nd .lf (some .lf) .lf))) none (.nd .lf (some .lf) (.nd (.nd .lf (some .lf) .lf) none .lf)))) none (.nd (.nd (.nd (.nd .lf none (.nd .lf (some (.nd (.nd .lf (some (([j2,u1,u0,u2,u4,u5,u6,(false,36868)],[9,10]))) .lf) none .lf)) .lf)) none (.nd .lf none (.nd .lf (some .lf) .lf))) none (.nd (.nd (.nd .lf (some .lf) .lf) none .lf) (some (.nd (.nd (.nd .lf none (.nd .lf none (.nd .lf (some (([j2,u1,u0,u2,u3,u4,u5,A16],[8,9]))) .lf))) none .lf) none (.nd .lf none (.nd .lf none (.nd .lf none (.nd .lf (some (([j2,u1,u0,u2,u3,u4,u5,u6,u7,u9],[10]))) .lf)))))) (.nd (.nd .lf (some .lf) .lf) (some (.nd .lf (some (([j2,u1,u0,u2,u3,u4,u5,u6,u7,u9,A00,A01,A02,A03,A04,A07,A06,(false,15),A17,A22,(false,20),(false,21),A26,A27,A28],[25]))) .lf)) .lf))) none (.nd (.nd (.nd (.nd (.nd .lf (some (.nd .lf none (.nd .lf none (.nd (.nd (.nd (.nd .lf (some (([j2,u1,u0,u2,u3,u4,u5,A16],[8,9]))) .lf) none .lf) none .lf) none .lf)))) .lf) none .lf) none .lf) none (.nd (.nd (.nd .lf (some (.nd (.nd (.nd .lf (some (([j2,u1,u0,u2,u3,u4,u5,u6],[]))) .lf) none .lf) none .lf)) .lf) none .lf) (some .lf) .lf)) none (.nd .lf none (.nd (.nd (.nd .lf (some .lf) .lf) (some .lf) .lf) (some .lf) .lf))))))
def orcX (f:FuncId):Option Orc:=sel (B1 f 330) (some (escO)) (sel (B1 f 227) (some (parseO)) (sel (B1 f 317) (some (contO)) (sel (B1 f 267) (some (fieldsO 2)) (sel (B1 f 229) (some (idxO)) (sel (B1 f 303) (some (joinO)) (sel (B1 f 314) (some (replO 1)) (sel (B1 f 316) (some (trimO 2)) (sel (B1 f 9) (some (genO 0)) (none)))))))))
def knowG (n:Nat)(o:Obj):Prop:=match n with
 |0=> ∃t z,o= .cells (Lib.asciiSpaceTab.map λz=>Y9 .u8 z).toArray t z
 |1=> ∃m r t z,o= .cells (Y9 .i64 m::r).toArray t z
 |2=> ∃t z,o= .cells #[.int .i64 0,.int .i64 (-1)] t z
 |_=>False
theorem kw_ok: ∀n cs o,sel (B1 n 2) (some [V.i .i64 0,V.i .i64 (-1)]) none=some cs->knowG n o->(∀v∈cs,v.one=true)/\ ∃C t z,o= .cells C t z/\ ∀(i:Nat) (v:V),cs[i]?=some v-> ∃u,C[i]?=some u/\ofV u=some v:=λn cs o h c=>by
 rw[cP]at h;split at h
 .rename_i hn;cases h;rw[B5 hn]at c;obtain⟨t,z,rfl⟩:=c;refine⟨λv b=>by simp at b;rcases b with rfl|rfl<;>rfl,_,t,z,rfl,λi v a=>?_⟩
  match i,a with
  |0,a=>cases a;exact⟨_,rfl,rfl⟩
  |1,a=>cases a;exact⟨_,rfl,rfl⟩
  |i+2,a=>cases a
 .cases h
def methX (t:TypeId)(n:String):Option (FuncId×Option TypeId):=sel (B1 t 284&&n== "Swap") (some (375,some 330)) (sel (B1 t 284&&n== "Push") (some (374,none)) (sel (B1 t 284&&n== "Pop") (some (373,none)) (sel (B1 t 284&&n== "Less") (some (372,some 330)) (sel (B1 t 284&&n== "Len") (some (165,some 330)) (none)))))
theorem meth_ok(t:TypeId)(n:String)(f:FuncId)(h:methX t n=some (f,none))(v:Value)(w:World):(method (prog.types.size+Made.depth) t v n).run prog w= .ok (f,v) w:=by
 unfold methX at h
 by_cases h0:(B1 t 284&&n== "Swap")=true
 .rw[cP,if_pos h0]at h;rw[L9,beq_iff_eq]at h0;rw[B5 h0.1,h0.2];cases h
 rw[cP,if_neg h0]at h
 by_cases h1:(B1 t 284&&n== "Push")=true
 .rw[cP,if_pos h1]at h;rw[L9,beq_iff_eq]at h1;rw[B5 h1.1,h1.2];cases h
  kernel_rfl
 rw[cP,if_neg h1]at h
 by_cases h2:(B1 t 284&&n== "Pop")=true
 .rw[cP,if_pos h2]at h;rw[L9,beq_iff_eq]at h2;rw[B5 h2.1,h2.2];cases h
  kernel_rfl
 rw[cP,if_neg h2]at h
 by_cases h3:(B1 t 284&&n== "Less")=true
 .rw[cP,if_pos h3]at h;rw[L9,beq_iff_eq]at h3;rw[B5 h3.1,h3.2];cases h
 rw[cP,if_neg h3]at h
 by_cases h4:(B1 t 284&&n== "Len")=true
 .rw[cP,if_pos h4]at h;rw[L9,beq_iff_eq]at h4;rw[B5 h4.1,h4.2];cases h
 rw[cP,if_neg h4]at h;cases h
theorem meth_deref(t:TypeId)(n:String)(f:FuncId)(el:TypeId)(h:methX t n=some (f,some el))(b o:Nat)(r:Value)(w:World)(hl:(loadVar el ⟨b,o,none⟩).run prog w= .ok r w):(method (prog.types.size+Made.depth) t (.pointer (some ⟨b,o,none⟩)) n).run prog w= .ok (f,r) w:=by
 unfold methX at h
 by_cases h0:(B1 t 284&&n== "Swap")=true
 .rw[cP,if_pos h0]at h;rw[L9,beq_iff_eq]at h0;rw[B5 h0.1,h0.2];cases h;rw[show(method (prog.types.size+Made.depth) 284 (.pointer (some ⟨b,o,none⟩)) "Swap").run prog w=(do let r<-loadVar 330 ⟨b,o,none⟩;pure (375,r):Sem (FuncId×Value)).run prog w by kernel_rfl,J0,hl];rfl
 rw[cP,if_neg h0]at h
 by_cases h1:(B1 t 284&&n== "Push")=true
 .rw[cP,if_pos h1]at h;rw[L9,beq_iff_eq]at h1;rw[B5 h1.1,h1.2];cases h
 rw[cP,if_neg h1]at h
 by_cases h2:(B1 t 284&&n== "Pop")=true
 .rw[cP,if_pos h2]at h;rw[L9,beq_iff_eq]at h2;rw[B5 h2.1,h2.2];cases h
 rw[cP,if_neg h2]at h
 by_cases h3:(B1 t 284&&n== "Less")=true
 .rw[cP,if_pos h3]at h;rw[L9,beq_iff_eq]at h3;rw[B5 h3.1,h3.2];cases h;rw[show(method (prog.types.size+Made.depth) 284 (.pointer (some ⟨b,o,none⟩)) "Less").run prog w=(do let r<-loadVar 330 ⟨b,o,none⟩;pure (372,r):Sem (FuncId×Value)).run prog w by kernel_rfl,J0,hl];rfl
 rw[cP,if_neg h3]at h
 by_cases h4:(B1 t 284&&n== "Len")=true
 .rw[cP,if_pos h4]at h;rw[L9,beq_iff_eq]at h4;rw[B5 h4.1,h4.2];cases h;rw[show(method (prog.types.size+Made.depth) 284 (.pointer (some ⟨b,o,none⟩)) "Len").run prog w=(do let r<-loadVar 330 ⟨b,o,none⟩;pure (165,r):Sem (FuncId×Value)).run prog w by kernel_rfl,J0,hl];rfl
 rw[cP,if_neg h4]at h;cases h
@[instance_reducible] def nB (o:FuncId->Option Orc):Ctx where
 P:=prog
 gl:=λg=>gd (C2 g 12) (some g)
 orc:=λf=>oc (o f) (orcX f) some
 quiet:=[112]
 known:=λf=>oc (T.get bKu f) false λ_=>true
 n0:=12
 plan:=λf id=>ob (T.get bKu f) λt=>T.get t id
 G:=knowG
 meth:=methX
 kw:=λn=>sel (B1 n 2) (some [.i .i64 0,.i .i64 (-1)]) none
 kwOk:=kw_ok
instance ctx : Ctx := nB λ_ => none
def baseK:List (Nat×Nat):=[(2,0),(1,1),(0,2)]
def T.allP{α:Type}(p:Nat->α->Bool):T α->(Nat->Nat)->Bool
 |.lf,_=>true
 |.nd l x r,f=>oc x true (p (f 0))&&(T.allP p l (λk=>f (2*k+1))&&T.allP p r (λk=>f (2*k+2)))
theorem T.allP_get{α:Type}{p:Nat->α->Bool}: ∀{t:T α} {f:Nat->Nat} {n:Nat} {x:α},T.allP p t f=true->T.get t n=some x->p (f n) x=true
 |.lf,_,_,_,_,h=>by cases h
 |.nd l y r,f,n,x,h,hg=>by
  simp only[T.allP,L9]at h
  cases n with
  |zero=>
   have hg:y=some x:=hg;subst hg;exact h.1
  |succ m=>
   have hg:(Bool.rec (motive:=λ_=>Nat->Option α) (T.get r) (T.get l) (B1 (Nat.mod m 2) 0) (Nat.div m 2))=some x:=hg
   cases hb:B1 (Nat.mod m 2) 0 with
   |true=>
    rw[hb]at hg;have:=T.allP_get h.2.1 hg;have hb:m%2=0:=B5 hb
    have e:2*Nat.div m 2+1=m+1:=by show 2*(m/2)+1=m+1;omega
    rw[<-e];exact this
   |false=>
    rw[hb]at hg;have:=T.allP_get h.2.2 hg;have hb:m%2≠0:=λe=>by rw[show Nat.mod m 2=0 from e]at hb;cases hb
    have e:2*Nat.div m 2+2=m+1:=by show 2*(m/2)+2=m+1;omega
    rw[<-e];exact this
def validF [Ctx](f:FuncId):Bool:=oc (prog.funcs[f]?) true λfn=>oc fn.body true λc=>nK f c
end
theorem all_validW:(λo:FuncId->Option Orc=>T.allP (λf _=> @validF (nB o) f) bKu id)=λ_=>true:=j8
theorem all_valid(o:FuncId->Option Orc):T.allP (λf _=> @validF (nB o) f) bKu id=true:=congrFun all_validW o
theorem glA:Ctx.gl 2=some 2:=rfl
theorem glM:Ctx.gl 1=some 1:=rfl
theorem spaceIs:bLh:=λ_ h=>h
theorem maxIs:MaxIs:=λ_ h=>h
theorem glN:Ctx.gl 0=some 0:=rfl
theorem noneIs:NoneIs:=λ_ h=>h
theorem qC{α:Type}{c:Bool}{x y:Option α}{b:α}(h:sel c x y=some b):(c=true/\x=some b)\/y=some b:=by
 cases c with
 |true=>exact .inl ⟨rfl,h⟩
 |false=>exact .inr h
theorem sim_conv{o o':FuncId->Option Orc}{α:As}{s:St}{w:World}(h: @Sim (nB o) α s w): @Sim (nB o') α s w:= @Sim.mk (nB o') α s w (@Sim.gl (nB o) α s w h) (@Sim.lt (nB o) α s w h) (@Sim.sc (nB o) α s w h) (λk x a=>by
 have:= @Sim.is (nB o) α s w h k x a
 cases x with
 |cells cs t ext ro=>cases ext<;>exact this
 |_=>exact this) (@Sim.ne (nB o) α s w h)
theorem stp_conv{o o':FuncId->Option Orc}{α α':As}{s s':St}{w w':World}(h: @Stp (nB o) α s w α' s' w'): @Stp (nB o') α s w α' s' w':= @Stp.mk (nB o') α s w α' s' w' (@Stp.same (nB o) α s w α' s' w' h) (@Stp.n (nB o) α s w α' s' w' h) (@Stp.c (nB o) α s w α' s' w' h) (sim_conv (@Stp.zc (nB o) α s w α' s' w' h)) (@Stp.fr (nB o) α s w α' s' w' h) (@Stp.new (nB o) α s w α' s' w' h)
theorem orc_conv{o o':FuncId->Option Orc}{f:FuncId}{g:Orc}(h: @vL (nB o) f g): @vL (nB o') f g:=λa s v s' hg α w b c=>by
 rcases h a s v s' hg α w (sim_conv b) c with ⟨u,w',h1,β,h2,h3⟩|⟨h1,h2⟩
 .exact .inl ⟨u,w',h1,β,h2,stp_conv h3⟩
 .exact .inr ⟨h1,h2.mono λ_ _ ⟨u,h3,β,h4,d⟩=>⟨u,h3,β,h4,stp_conv d⟩⟩
theorem orcX_ok(f:FuncId)(h:Orc)(ho:orcX f=some h):vL f h:=by
 have ho:sel (B1 f 330) (some (escO)) (sel (B1 f 227) (some (parseO)) (sel (B1 f 317) (some (contO)) (sel (B1 f 267) (some (fieldsO 2)) (sel (B1 f 229) (some (idxO)) (sel (B1 f 303) (some (joinO)) (sel (B1 f 314) (some (replO 1)) (sel (B1 f 316) (some (trimO 2)) (sel (B1 f 9) (some (genO 0)) (none)))))))))=some h:=ho
 rcases qC ho with ⟨a,ho⟩|ho
 .cases ho;rw[B5 a];exact esc_orc rfl
 rcases qC ho with ⟨a,ho⟩|ho
 .cases ho;rw[B5 a];exact parse_orc rfl
 rcases qC ho with ⟨a,ho⟩|ho
 .cases ho;rw[B5 a];exact cont_orc rfl
 rcases qC ho with ⟨a,ho⟩|ho
 .cases ho;rw[B5 a];exact fields_orc rfl glA spaceIs
 rcases qC ho with ⟨a,ho⟩|ho
 .cases ho;rw[B5 a];exact idx_orc rfl
 rcases qC ho with ⟨a,ho⟩|ho
 .cases ho;rw[B5 a];exact join_orc rfl
 rcases qC ho with ⟨a,ho⟩|ho
 .cases ho;rw[B5 a];exact repl_orc rfl glM maxIs
 rcases qC ho with ⟨a,ho⟩|ho
 .cases ho;rw[B5 a];exact trim_orc rfl glA spaceIs
 rcases qC ho with ⟨a,ho⟩|ho
 .cases ho;rw[B5 a];exact gen_orc rfl glN noneIs
 cases ho
theorem goodW{o:FuncId->Option Orc}(hO: ∀f h,o f=some h-> @vL (nB o) f h): @Good (nB o):= @Good.mk (nB o) (@Meths.mk (nB o) meth_ok meth_deref) j8 (λg k h=>by
  obtain⟨h1,h2⟩:=bQ h;cases h2
  exact(show g<12 by simpa using h1)) (λf a fn c b hb=>by
  have a:oc (T.get bKu f) false (λ_=>true)=true:=a;rw[sY]at a
  cases d:T.get bKu f with
  |none=>rw[d]at a;cases a
  |some t=>
   have:=T.allP_get (all_valid o) d;have h: @validF (nB o) f=true:=this;unfold validF at h;rw[show prog.funcs[f]?=some fn from b]at h;have h:oc fn.body true (λc=> @nK (nB o) f c)=true:=h;rw[hb]at h
   exact h) (λf h ho=>by
  have ho:oc (o f) (orcX f) some=some h:=ho;rw[sY]at ho
  cases b:o f with
  |some g=>
   rw[b]at ho;cases ho;exact hO f _ b
  |none=>
   rw[b]at ho
   exact orc_conv (o:=λ_=>none) (orcX_ok f h ho))
instance good : Good := goodW λ_ _ h => by cases h
end X
end
section
open Go.Proofs.Tryz
namespace X
open Go.RowKit Go.Proofs.Tryz
noncomputable section
def o0:FuncId->Option Orc:=λ_=>none
theorem okO0: @Good (nB o0):=good
def isTrue:Option (V×St)->Bool
 |some (.b true,_)=>true
 |_=>false
theorem isTrue_ex{q:Option (V×St)}(h:isTrue q=true): ∃s,q=some (.b true,s):=by
 cases q with
 |none=>cases h
 |some q=>
  obtain⟨v,s⟩:=q
  cases v with
  |b x=>
   cases x with
   |true=>exact⟨s,rfl⟩
   |false=>cases h
  |_=>cases h
theorem shown19R:isTrue (@callF (nB o0) 8 (@bDd (nB o0) 3000) [] (@baseS (nB o0) baseK))=true:=j8
end
def LaidX (w:World):Prop:=Lib.TabIs prog w "strings.asciiSpace" .u8 Lib.asciiSpaceTab/\(∃m,w.cell? ⟨1,0,none⟩=some (.int .i64 m))/\ ∃t z,w.heap[(0:Nat)]?=some (.cells #[.int .i64 0,.int .i64 (-1)] t z)
theorem base_laid{o:FuncId->Option Orc}{w:World}(h:LaidX w): @Sim (nB o) ⟨λk=>k,λ_=>0,λ_=>none⟩ (@baseS (nB o) baseK) w:=by
 obtain⟨h0,⟨m,h1⟩,n,j,h2⟩:=h
 have f: ∀k x,(baseH baseK).get k=some x->(k=2/\x= .know 0)\/(k=1/\x= .know 1)\/(k=0/\x= .know 2):=λk x hx=>by
  obtain⟨m,b,rfl⟩:=bIk hx
  rcases F1.1 b with e|b
  .cases e;exact .inl ⟨rfl,rfl⟩
  .rcases F1.1 b with e|b
   .cases e;exact .inr (.inl ⟨rfl,rfl⟩)
   .rcases F1.1 b with e|b
    .cases e;exact .inr (.inr ⟨rfl,rfl⟩)
    .cases b
 refine @Sim.mk (nB o) _ _ w (λg k hg=>?_) (λk x hx=>?_) (λk x hx=>?_) (λk x hx=>?_) (λk q x p _ _ e=>e)
 .obtain⟨h2,h3⟩:=bQ hg;cases h3;exact⟨(show g<12 by simpa using h2),rfl⟩
 .rcases f k x hx with ⟨rfl,rfl⟩|⟨rfl,rfl⟩|⟨rfl,rfl⟩
  .exact(show(2:Nat)<12 by decide)
  .exact(show(1:Nat)<12 by decide)
  .exact(show(0:Nat)<12 by decide)
 .rcases f k x hx with ⟨rfl,rfl⟩|⟨rfl,rfl⟩|⟨rfl,rfl⟩<;>trivial
 .rcases f k x hx with ⟨rfl,rfl⟩|⟨rfl,rfl⟩|⟨rfl,rfl⟩
  .unfold Lib.TabIs AB at h0;rw[show prog.globalNamed "strings.asciiSpace" =some 2 by kernel_rfl]at h0;have h0:(match w.heap[2]? with|some (Obj.cells c _ _)=>some c|_=>none)=some (Lib.asciiSpaceTab.map λz=>Y9 .u8 z).toArray:=h0;split at h0
   .rename_i c t z d;cases h0;exact⟨_,d,t,z,rfl⟩
   .cases h0
  .unfold D8 at h1;split at h1
   .rename_i c t z d;have i:c[0]?=some (.int .i64 m):=h1;refine⟨_,d,m,c.toList.tail,t,z,?_⟩
    congr 1
    obtain⟨l⟩:=c
    cases l with
    |nil=>cases i
    |cons a r=>
     have:a= .int .i64 m:=by simpa using i
     rw[this];rfl
   .cases h1
  .exact⟨_,h2,n,j,rfl⟩
theorem shown19_true{w:World}(h:LaidX w):(callFunc 8 #[]).run prog w= .ok (.enter 8 #[]) w/\Calls prog 8 #[] w λe w'=>e= .returned (.bool true)/\Below w.heap.size w w':=by obtain⟨s,a⟩:=isTrue_ex shown19R;exact @ran_true (nB o0) _ _ okO0 _ _ _ _ a (base_laid h)
end X
end
section
open Go.RowKit Go.ChangeShapes Go.Proofs.Tryz
abbrev bMu:List (String×DataW Unit):=Rows.genRefusesRow.laid
theorem named0:prog.globalNamed "strings.asciiSpace" =some 2:=j8
theorem namedN:prog.globalNamed "windrow/plan.none" =some 0:=j8
def laidF:bC where
 p S w:=(S 2/\S 1/\S 0)/\X.LaidX w
 mono:=λ{S S' w w'} hs ha h=>by
  obtain⟨⟨s0,s4,s9⟩,h0,⟨m,h4⟩,t,z,h9⟩:=h;refine⟨⟨hs _ s0,hs _ s4,hs _ s9⟩,?_,⟨m,?_⟩,t,z,?_⟩
  .unfold Lib.TabIs AB at*;rw[named0]at*;simp only[AD,ha _ s0]at*;exact h0
  .unfold D8 at*;rw[ha _ s4];exact h4
  .rw[ha _ s9];exact h9
theorem none_of{F:List bC}(h:Has F laidF):Has F (bC.cells 0 0 [j3 0,j3 (-1)]):=λS w k=>by
 obtain⟨⟨_,_,a⟩,_,_,t,z,c⟩:=h S w k;refine⟨a,λj u b=>?_⟩;unfold D8;rw[c]
 simpa using b
theorem bNz{P:Program}{W:World}{name:String}{k:IntKind}{zs:List Int}{g:Nat}{t e:TypeId}{n:Nat}
  (hg:P.globalNamed name=some g) (hty:(P.globals[g]?).map (·.type)=some t) (ht:P.underlying t=some (.array n e)) (he:P.underlying e=some (.int k)) (hce:P.cellsOf e=1) (hct:P.cellsOf t=n)
  (h:Lib.VarReads P W name (Lib.tabData k zs)):Lib.TabIs P W name k zs:=by obtain⟨i,f,j,d,p,c,b,a,hd⟩:=h;obtain rfl:=Option.some.inj (hg.symm.trans c);obtain rfl:=Option.some.inj (hty.symm.trans b);unfold Lib.TabIs;rw[a,<-Lib.cells_of_tab ht he hce hct hd]
theorem var_lt{P:Program}{W:World}{name:String}{g:Nat}{cs:Array Value}(hg:P.globalNamed name=some g)(h:W.var? P name=some cs):g<W.heap.size:=by
 unfold AB at h;rw[hg]at h;simp only[AD]at h
 cases a:W.heap[g]? with
 |none=>rw[a]at h;cases h
 |some o=>exact(N9.1 a).1
theorem cell_lt'{W:World}{g i:Nat}{v:Value}(h:W.cell? ⟨g,i,none⟩=some v):g<W.heap.size:=by
 unfold D8 at h
 cases a:W.heap[g]? with
 |none=>rw[a]at h;cases h
 |some o=>exact(N9.1 a).1
set_option maxRecDepth 1000000 in
theorem globF_of{W:World}(hL:laidMetH prog bMu W)(hsh:W.ShapedOpen prog):laidF.p (λb=>b<W.heap.size) W:=by
 have f:laidMet prog bMu W:=hL;have h0:Lib.TabIs prog W "strings.asciiSpace" .u8 Lib.asciiSpaceTab:=bNz (t:=408) (e:=5) (n:=256) named0 j8 underlying408 underlying5 j8 j8
  (Lib.laidMet.reads f (tQ4 (.tail _ (.tail _ (.tail _ (.head _))))))
 obtain⟨m,h4⟩:=cell_of_shapedOpen_int (P:=prog) (g:=1) (t:=3) (zero:= #[.int .i64 0]) hsh (of_decide_eq_true j8) j8 rfl j8 j8 underlying3;obtain⟨L,B,s,r,p,k,j,c,hd⟩:=Lib.laidMet.reads f (n:= "windrow/plan.none") (tQ4 (tQ4 (.head _)));obtain rfl:=Option.some.inj (namedN.symm.trans k);obtain rfl:114=B:=Option.some.inj ((show(prog.globals[0]?).map (·.type)=some 114 by kernel_rfl).symm.trans j);obtain⟨x,w,n,ex,hl,D,C⟩:=trod_struct2 underlying114 hd;have J:prog.cellsOf 114=2:=j8
 have I:prog.cellsOf 3=1:=j8
 rw[J]at hl;have d:Rows.laid_windrow_plan_none=(DataW.agg [x.1,w.1]:DataW Unit):=congrArg Prod.fst ex;injection d with d
 injection d with e0 d
 injection d with e1 _
 obtain⟨l⟩:=s
 match l,hl with
 |[a,b],_=>
  obtain⟨G,i,A,_⟩:=DataW.trod_int underlying3 D;obtain⟨E,h,y,_⟩:=DataW.trod_int underlying3 C;rw[A]at e0;rw[y]at e1;have v:0=G:=by injection e0 with e0;injection e0
  have u: -1=E:=by injection e1 with e1;injection e1
  subst v u;have i:[a]=[.int .i64 0]:=i;have h:[b]=[.int .i64 (-1)]:=h;injection i with ra
  injection h with rb
  subst ra;subst rb;have K:=var_lt namedN c;unfold AB at c;rw[namedN]at c;simp only[AD]at c;refine⟨⟨var_lt named0 h0,cell_lt' h4,K⟩,h0,⟨m,h4⟩,?_⟩
  cases q:W.heap[(0:Nat)]? with
  |none=>rw[q]at c;cases c
  |some o=>
   rw[q]at c
   cases o with
   |cells s t z=>
    simp only[Option.some.injEq]at c;subst c;exact⟨t,z,rfl⟩
   |_=>cases c
theorem shown19_spec:cJ prog 8 [] [] [laidF] (λ_:Unit=> .bool true) (λ_=>[]) (λ_=>[]):=mE λ_ _ _ k=>(X.shown19_true (k laidF (F9 ..)).2).2
def flat1:DataW Unit->List Value
 |.lit (.int k n)=>[.int k n]
 |_=>[]
def flat2:DataW Unit->List Value
 |.agg l=>l.flatMap flat1
 |d=>flat1 d
def bOt:DataW Unit->Array Value
 |.agg l=>(l.flatMap flat2).toArray
 |_=> #[]
def whiteNums:List Int:=[9,13,1,32,133,101,160,5760,5600,8192,8202,1,8232,8233,1,8239,8287,48,12288,12288,1]
noncomputable def laidWorld (os:Os):World:=
 let N:=(AC prog os).heap.size
 let w0:=World.holding prog os ⟨#[.cells (whiteNums.map λz=>Y9 .u16 z).toArray 451,.cells #[.slice (some ⟨N,0,none⟩) 7 7,.slice none 0 0,.int .i64 2] 448,
  .cells #[.string ⟨#[118,97,108,117,101,32,111,117,116,32,111,102,32,114,97,110,103,101]⟩] 444,.cells #[.string ⟨#[105,110,118,97,108,105,100,32,115,121,110,116,97,120]⟩] 444],#[],[]⟩
 let put (h:Array Obj) (g:Nat) (cs:Array Value):Array Obj:=h.modify g fun
  |.cells _ t frozen=> .cells cs t frozen
  |o=>o
 let h1:=put w0.heap 9 (bOt Rows.laid_math_bits_deBruijn32tab)
 let h2:=put h1 10 (bOt Rows.laid_math_bits_deBruijn64tab)
 let h3:=put h2 8 (bOt Rows.laid_internal_strconv_uint64pow10)
 let h4:=put h3 7 (bOt Rows.laid_unicode_utf8_acceptRanges)
 let h5:=put h4 4 #[.iface 442 (.pointer (some ⟨N+2,0,none⟩))]
 let h6:=put h5 3 #[.iface 442 (.pointer (some ⟨N+3,0,none⟩))]
 let h7:=put h6 5 #[.pointer (some ⟨N+1,0,none⟩)]
 let h8:=put h7 2 (bOt Rows.laid_strings_asciiSpace)
 let h9:=put h8 6 (bOt Rows.laid_unicode_utf8_first)
 let h10:=put h9 0 (bOt Rows.laid_windrow_plan_none)
 {w0 with heap:=h10}
noncomputable abbrev N0:Nat:=(AC prog default).heap.size
set_option maxRecDepth 1000000 in
theorem piece0(os:Os)(args:Array Value):LaidIn prog ((laidWorld os).forCall (λ_ _=>0) ⟨#[],args,[]⟩).memory [("math/bits.deBruijn32tab",Rows.laid_math_bits_deBruijn32tab)] [9]:=
 LaidIn.of_run [9] 10 j8 j8 j8 j8
set_option maxRecDepth 1000000 in
theorem piece1(os:Os)(args:Array Value):LaidIn prog ((laidWorld os).forCall (λ_ _=>0) ⟨#[],args,[]⟩).memory [("math/bits.deBruijn64tab",Rows.laid_math_bits_deBruijn64tab)] [10]:=
 LaidIn.of_run [10] 10 j8 j8 j8 j8
set_option maxRecDepth 1000000 in
theorem piece2(os:Os)(args:Array Value):LaidIn prog ((laidWorld os).forCall (λ_ _=>0) ⟨#[],args,[]⟩).memory [("internal/strconv.uint64pow10",Rows.laid_internal_strconv_uint64pow10)] [8]:=
 LaidIn.of_run [8] 10 j8 j8 j8 j8
set_option maxRecDepth 1000000 in
theorem piece3(os:Os)(args:Array Value):LaidIn prog ((laidWorld os).forCall (λ_ _=>0) ⟨#[],args,[]⟩).memory [("unicode/utf8.acceptRanges",Rows.laid_unicode_utf8_acceptRanges)] [7]:=
 LaidIn.of_run [7] 10 j8 j8 j8 j8
set_option maxRecDepth 1000000 in
theorem piece4(os:Os)(args:Array Value):LaidIn prog ((laidWorld os).forCall (λ_ _=>0) ⟨#[],args,[]⟩).memory [("strconv.ErrRange",Rows.laid_strconv_ErrRange)] [4,N0+2]:=
 LaidIn.of_run [4,N0+2] 10 j8 j8 j8 j8
set_option maxRecDepth 1000000 in
theorem piece5(os:Os)(args:Array Value):LaidIn prog ((laidWorld os).forCall (λ_ _=>0) ⟨#[],args,[]⟩).memory [("strconv.ErrSyntax",Rows.laid_strconv_ErrSyntax)] [3,N0+3]:=
 LaidIn.of_run [3,N0+3] 10 j8 j8 j8 j8
set_option maxRecDepth 1000000 in
theorem piece6(os:Os)(args:Array Value):LaidIn prog ((laidWorld os).forCall (λ_ _=>0) ⟨#[],args,[]⟩).memory [("unicode.White_Space",Rows.laid_unicode_White_Space)] [5,N0,N0+1]:=
 LaidIn.of_run [5,N0,N0+1] 10 j8 j8 j8 j8
set_option maxRecDepth 1000000 in
theorem piece7(os:Os)(args:Array Value):LaidIn prog ((laidWorld os).forCall (λ_ _=>0) ⟨#[],args,[]⟩).memory [("strings.asciiSpace",Rows.laid_strings_asciiSpace)] [2]:=
 LaidIn.of_run [2] 10 j8 j8 j8 j8
set_option maxRecDepth 1000000 in
theorem piece8(os:Os)(args:Array Value):LaidIn prog ((laidWorld os).forCall (λ_ _=>0) ⟨#[],args,[]⟩).memory [("unicode/utf8.first",Rows.laid_unicode_utf8_first)] [6]:=
 LaidIn.of_run [6] 10 j8 j8 j8 j8
set_option maxRecDepth 1000000 in
theorem pieceN(os:Os)(args:Array Value):LaidIn prog ((laidWorld os).forCall (λ_ _=>0) ⟨#[],args,[]⟩).memory [("windrow/plan.none",Rows.laid_windrow_plan_none)] [0]:=
 LaidIn.of_run [0] 10 j8 j8 j8 j8
set_option maxRecDepth 1000000 in
theorem laid_met(os:Os)(args:Array Value):laidMet prog bMu ((laidWorld os).forCall (λ_ _=>0) ⟨#[],args,[]⟩).memory:=
 ((((((((((piece0 os args).append (piece1 os args) j8).append (piece2 os args) j8).append (piece3 os args) j8).append (piece4 os args) j8).append (piece5 os args) j8).append (piece6 os args) j8).append (piece7 os args) j8).append (pieceN os args) j8).append (piece8 os args) j8).met
end
section
open Go.RowKit Go.ChangeShapes Go.WideShapes Go.Proofs.Tryz
section
variable {H : Type} {enc : TypeId × Value -> H} {P : Program}
theorem bCi(hl:laidOutB P=true){W W':World}(hb:Below W.heap.size W W'): ∀{ts:List TypeId} {vs:List Value} {ds:List (DataW H)} {ps:List MemPlace},
  (∀t∈ts,P.readableRec t=true/\t<P.types.size)->(∀x∈ps,x.block<W.heap.size)->DataW.TrodAll enc P W 0 (λ_=>true) true ts vs ds ps->
  DataW.TrodAll enc P W' 0 (λb=>decide (b<W.heap.size)) true ts vs ds ps
 |[],_,_,_,_,_,h=>by
  obtain⟨rfl,rfl,rfl⟩:=trodAll_nil h;exact trodAll_mk0
 |t::ts,_,_,_,ht,hlt,h=>by obtain⟨v,vs,d,ds,p,q,rfl,rfl,rfl,h1,h2⟩:=trodAll_cons h;have hr:=ht t m9;exact trodAll_cons_mk (Below.trod hl hr.1 hr.2 h1 hb (λx hx=>hlt x aa1)) (bCi hl hb (λt h=>ht t ab4) (λx hx=>hlt x aa1) h2)
theorem law_post{f:Func}{s:ChangeSpec}{W W':World}{args:Array Value}{ds:List (DataW H)}{before:List MemPlace}{tb:TypeId}
  (hW:DataW.Whole enc P f.params.toList s.vars false W args.toList ds [] before) (hv:s.vars=[]) (hfn:s.fn H (ds++[])={results:=[.lit (.bool true)],args:=ds})
  (hr:f.resultTypes= #[tb]) (hb:P.underlying tb=some .bool) (hl:laidOutB P=true) (hread: ∀t∈f.params.toList,P.readableRec t=true/\t<P.types.size) (h:Below W.heap.size W W'):
  s.post enc P f false true false false W args (.bool true) W':=by
 have hlt: ∀p∈before,p.block<W.heap.size:=λp c=>hW.lt p c;have a:=hW;obtain⟨p,q,d,b,rfl,_,_⟩:=hW;rw[hv]at b;have hq:q=[]:=b;subst hq;refine⟨ds,[],_,[],p,[],a,?_,?_,?_,?_,λh=>by cases h⟩
 .rw[hfn,hr];exact trodAll_mk1 (shut_bool hb true)
 .rw[hfn];exact bCi hl h hread (λx hx=>hlt x aa1) d
 .rw[hfn,hv];rfl
 .exact h.frame _
end
theorem bSd{ι:Type}{f:FuncId}{args:List Value}{Pre:List bC}{v:Value}(h:cJ prog f args [] Pre (λ_:ι=>v) (λ_=>[]) (λ_=>[])){w:World}(hp:All Pre (λb=>b<w.heap.size) w):
  Calls prog f args.toArray w λe w'=>e= .returned v/\Below w.heap.size w w':=by refine(h (λb=>b<w.heap.size) w ⟨pV.refl _ _,λc a=>by simp at a,λc a=>by simp at a,List.Pairwise.nil,λb hb=>⟨hb,.inl hb⟩⟩ hp).mono ?_;rintro e w' ⟨_,_,rfl,s,_⟩;refine⟨rfl,s.kept.os,s.kept.tape,s.kept.output,s.kept.size,λk d=>s.kept.block k d λ⟨c,a,_⟩=>by simp at a⟩
theorem own:ownKnob prog.godebug=none:=j8
theorem laid:laidOutB prog=true:=j8
end
section
open Go.RowKit Go.ChangeShapes Go.WideShapes Go.Proofs.Tryz
section
variable {α H : Type} {enc : TypeId × Value -> H} {P : Program} {w : World} {t e : TypeId}
def Ty.slicec(T:Ty α)(b:Nat):Ty (Sl α):=⟨slE α,λs=>((T.slice b).deep s).and (bC.pure (s.B.length<=s.cap))⟩
theorem tR{deep:Sl α->bC}(hu:P.underlying t=some (.slice e))(he:sZ enc P w t (slE α).cells deep):sZ enc P w t (slE α).cells (λs=>(deep s).and (bC.pure (s.B.length<=s.cap))):=λb i x h j=>by
 obtain⟨a,g,d⟩:=he b i x h j;refine⟨a,g,d,?_⟩;have f:i=[.slice a.O a.B.length a.cap]:=g;show a.B.length<=a.cap
 rcases Deep.open_slice hu h with ⟨c,_⟩|⟨k,len,cap,m,n,D,l,c,_,hl,_⟩
 .rw[f]at c;simp only[List.cons.injEq,and_true,Value.slice.injEq]at c;omega
 .rw[f]at c;simp only[List.cons.injEq,and_true,Value.slice.injEq]at c;omega
end
set_option maxRecDepth 100000
section
variable {H : Type} {enc : TypeId × Value -> H} {w : World}
theorem u8_of{n:Int}(h:(Lit.int .u8 n).wf=true): ∃e:UInt8,n=(e.toNat:Int):=by have a:0<=n/\n<=255:=bounds_u8 h;refine⟨UInt8.ofNat n.toNat,?_⟩;rw[UInt8.toNat_ofNat'];omega
theorem read_mono{fuel:Nat}{cs:List Value}{x:DataW H×List MemPlace}(h:DataW.trod enc prog w 0 (λ_=>true) true fuel 111 cs=some x): ∃m:Mono,cs=m.cells/\(Lit.int .i64 m.n).wf=true:=by
 obtain⟨f,n,_,_,b,j,z⟩:=DataW.trod_struct underlying111 h;have c:prog.cellsOf 111=7:=j8
 have p:prog.cellsOf 2=1:=j8
 have d:prog.cellsOf 109=6:=j8
 have o:prog.cellsOf 5=1:=j8
 rw[c]at b;have y:f.length=2:=j
 match cs,b with
 |[a,b0,b1,b2,b3,b4,b5],_=>
  have h0:DataW.trod enc prog w 0 (λ_=>true) true n 2 (([a,b0,b1,b2,b3,b4,b5].drop 0).take (prog.cellsOf 2))=f[0]?:=z 0 _ rfl;have h1:DataW.trod enc prog w 0 (λ_=>true) true n 109 (([a,b0,b1,b2,b3,b4,b5].drop 1).take (prog.cellsOf 109))=f[1]?:=z 1 _ rfl;rw[p,G1 j5]at h0;rw[d,G1 j5]at h1;obtain⟨nn,C,_,E⟩:=DataW.trod_int underlying2 h0;obtain⟨J,K,_,_,_,D,hg⟩:=DataW.trod_array underlying109 h1
  have g: ∀i,i<6-> ∃e:UInt8,(([b0,b1,b2,b3,b4,b5]:List Value).drop i).take 1=[.int .u8 (e.toNat:Int)]:=λi G=>by have h2:=hg i G;rw[o,Nat.mul_one,G1 j5]at h2;obtain⟨k,I,_,l⟩:=DataW.trod_int underlying5 h2;obtain⟨e,rfl⟩:=u8_of l;exact⟨e,I⟩
  obtain⟨v,B⟩:=g 0 j5;obtain⟨u,A⟩:=g 1 j5;obtain⟨t,g2⟩:=g 2 j5;obtain⟨s,g3⟩:=g 3 j5;obtain⟨r,g4⟩:=g 4 j5;obtain⟨q,g5⟩:=g 5 j5;simp at C B A g2 g3 g4 g5;subst C B A g2 g3 g4 g5;exact⟨⟨nn,v,u,t,s,r,q⟩,rfl,E⟩
end
def pZ:Ty Mono:=⟨dM,λm=>bC.pure ((Lit.int .i64 m.n).wf=true)⟩
theorem xJ{H:Type}{enc:TypeId×Value->H}{w:World}:sZ enc prog w 111 pZ.E.cells pZ.deep:=λa c x h _=>by obtain⟨m,e,b⟩:=read_mono h;exact⟨m,e,b⟩
instance : Inhabited Mono := ⟨⟨0, 0, 0, 0, 0, 0, 0⟩⟩
def opTy:Ty OpV:=⟨opE,λx=>(bC.pure ((Lit.int .i64 x.N).wf=true)).and ((bC.pure ((Lit.int .i64 x.k).wf=true)).and ((bC.pure ((Lit.int .i64 x.n).wf=true)).and ((((pZ.slice 16)).deep x.p).and ((bC.pure ((Lit.int .u8 x.fn).wf=true)).and (bC.true)))))⟩
theorem opens_op{H:Type}{enc:TypeId×Value->H}{w:World}:sZ enc prog w 172 opE.cells opTy.deep:=λy L x h e=>by
 obtain⟨d,n,_,rfl,c,i,f⟩:=DataW.trod_struct underlying172 h;have D:prog.cellsOf 172=5:=j8
 rw[D]at c;have v:d.length=5:=i
 match L,c with
 |[c0,c1,c2,c3,c4],_=>
  have h0:DataW.trod enc prog w 0 (λ_=>true) true n 3 (([c0,c1,c2,c3,c4].drop 0).take (prog.cellsOf 3))=d[0]?:=f 0 _ rfl;have h1:DataW.trod enc prog w 0 (λ_=>true) true n 3 (([c0,c1,c2,c3,c4].drop 1).take (prog.cellsOf 3))=d[1]?:=f 1 _ rfl;have h2:DataW.trod enc prog w 0 (λ_=>true) true n 2 (([c0,c1,c2,c3,c4].drop 2).take (prog.cellsOf 2))=d[2]?:=f 2 _ rfl;have h3:DataW.trod enc prog w 0 (λ_=>true) true n 43 (([c0,c1,c2,c3,c4].drop 3).take (prog.cellsOf 43))=d[3]?:=f 3 _ rfl;have h4:DataW.trod enc prog w 0 (λ_=>true) true n 77 (([c0,c1,c2,c3,c4].drop 4).take (prog.cellsOf 77))=d[4]?:=f 4 _ rfl;rw[G1 j5]at h0;obtain⟨C,p,K⟩:=(lN underlying3) _ _ _ h0 (dN underlying172 e (j:=0) rfl (by rw[F7,G1 j5];rfl))
  have u:[c0]=[.int .i64 C]:=by
   have a:prog.cellsOf 3=1:=j8
   rw[a]at p;exact p
  clear p;simp only[List.cons.injEq,and_true]at u;rw[G1 j5]at h1;obtain⟨B,o,J⟩:=(lN underlying3) _ _ _ h1 (dN underlying172 e (j:=1) rfl (by rw[F7,G1 j5];rfl))
  have t:[c1]=[.int .i64 B]:=by
   have a:prog.cellsOf 3=1:=j8
   rw[a]at o;exact o
  clear o;simp only[List.cons.injEq,and_true]at t;rw[G1 j5]at h2;obtain⟨A,m,I⟩:=(lN underlying2) _ _ _ h2 (dN underlying172 e (j:=2) rfl (by rw[F7,G1 j5];rfl))
  have s:[c2]=[.int .i64 A]:=by
   have a:prog.cellsOf 2=1:=j8
   rw[a]at m;exact m
  clear m;simp only[List.cons.injEq,and_true]at s;rw[G1 j5]at h3;obtain⟨g,l,G⟩:=(iB (T:=pZ) (b:=16) underlying43 j8 j8 xJ) _ _ _ h3 (dN underlying172 e (j:=3) rfl (by rw[F7,G1 j5];rfl))
  have r:[c3]=[.slice g.O g.B.length g.cap]:=by
   have a:prog.cellsOf 43=1:=j8
   rw[a]at l;exact l
  clear l;simp only[List.cons.injEq,and_true]at r;rw[G1 j5]at h4;obtain⟨z,k,E⟩:=(lN underlying77) _ _ _ h4 (dN underlying172 e (j:=4) rfl (by rw[F7,G1 j5];rfl))
  have q:[c4]=[.int .u8 z]:=by
   have a:prog.cellsOf 77=1:=j8
   rw[a]at k;exact k
  clear k;simp only[List.cons.injEq,and_true]at q;obtain rfl:=u;obtain rfl:=t;obtain rfl:=s;obtain rfl:=r;obtain rfl:=q;exact⟨⟨C,B,A,g,z⟩,rfl,K,J,I,G,E,e9⟩
def bufTy:Ty jW:=⟨sU,λx=>((((pZ.slice 16).slicec 24)).deep x.K).and ((bC.pure ((Lit.int .i64 x.L).wf=true)).and (bC.true))⟩
theorem opens_buf{H:Type}{enc:TypeId×Value->H}{w:World}:sZ enc prog w 95 sU.cells bufTy.deep:=λq v x h o=>by
 obtain⟨d,n,_,rfl,a,e,p⟩:=DataW.trod_struct underlying95 h;have s:prog.cellsOf 95=2:=j8
 rw[s]at a;have m:d.length=2:=e
 match v,a with
 |[c0,c1],_=>
  have h0:DataW.trod enc prog w 0 (λ_=>true) true n 42 (([c0,c1].drop 0).take (prog.cellsOf 42))=d[0]?:=p 0 _ rfl;have h1:DataW.trod enc prog w 0 (λ_=>true) true n 3 (([c0,c1].drop 1).take (prog.cellsOf 3))=d[1]?:=p 1 _ rfl;rw[G1 j5]at h0;obtain⟨c,i,u⟩:=(tR underlying42 (iB (T:=(pZ.slice 16)) (b:=24) underlying42 j8 j8 (iB (T:=pZ) (b:=16) underlying43 j8 j8 xJ))) _ _ _ h0 (dN underlying95 o (j:=0) rfl (by rw[F7,G1 j5];rfl))
  have l:[c0]=[.slice c.O c.B.length c.cap]:=by
   have f:prog.cellsOf 42=1:=j8
   rw[f]at i;exact i
  clear i;simp only[List.cons.injEq,and_true]at l;rw[G1 j5]at h1;obtain⟨r,g,t⟩:=(lN underlying3) _ _ _ h1 (dN underlying95 o (j:=1) rfl (by rw[F7,G1 j5];rfl))
  have k:[c1]=[.int .i64 r]:=by
   have f:prog.cellsOf 3=1:=j8
   rw[f]at g;exact g
  clear g;simp only[List.cons.injEq,and_true]at k;obtain rfl:=l;obtain rfl:=k;exact⟨⟨c,r⟩,rfl,u,t,e9⟩
def bOh:Ty gA:=⟨pU,λx=>(bC.pure ((Lit.int .i64 x.N).wf=true)).and ((bC.pure ((Lit.int .i64 x.I).wf=true)).and ((((pZ.slice 16)).deep x.at_).and (((((pZ.slice 16).slicec 24)).deep x.H).and ((bC.pure ((Lit.int .u8 x.fn).wf=true)).and ((((opTy.slicec 56)).deep x.ops).and (bC.true))))))⟩
theorem opens_step{H:Type}{enc:TypeId×Value->H}{w:World}:sZ enc prog w 80 pU.cells bOh.deep:=λD Q x h e=>by
 obtain⟨d,n,_,rfl,c,l,f⟩:=DataW.trod_struct underlying80 h;have J:prog.cellsOf 80=6:=j8
 rw[J]at c;have B:d.length=6:=l
 match Q,c with
 |[c0,c1,c2,c3,c4,c5],_=>
  have h0:DataW.trod enc prog w 0 (λ_=>true) true n 3 (([c0,c1,c2,c3,c4,c5].drop 0).take (prog.cellsOf 3))=d[0]?:=f 0 _ rfl;have h1:DataW.trod enc prog w 0 (λ_=>true) true n 3 (([c0,c1,c2,c3,c4,c5].drop 1).take (prog.cellsOf 3))=d[1]?:=f 1 _ rfl;have h2:DataW.trod enc prog w 0 (λ_=>true) true n 43 (([c0,c1,c2,c3,c4,c5].drop 2).take (prog.cellsOf 43))=d[2]?:=f 2 _ rfl;have h3:DataW.trod enc prog w 0 (λ_=>true) true n 42 (([c0,c1,c2,c3,c4,c5].drop 3).take (prog.cellsOf 42))=d[3]?:=f 3 _ rfl;have h4:DataW.trod enc prog w 0 (λ_=>true) true n 77 (([c0,c1,c2,c3,c4,c5].drop 4).take (prog.cellsOf 77))=d[4]?:=f 4 _ rfl;have C:DataW.trod enc prog w 0 (λ_=>true) true n 78 (([c0,c1,c2,c3,c4,c5].drop 5).take (prog.cellsOf 78))=d[5]?:=f 5 _ rfl;rw[G1 j5]at h0;obtain⟨I,s,P⟩:=(lN underlying3) _ _ _ h0 (dN underlying80 e (j:=0) rfl (by rw[F7,G1 j5];rfl))
  have A:[c0]=[.int .i64 I]:=by
   have a:prog.cellsOf 3=1:=j8
   rw[a]at s;exact s
  clear s;simp only[List.cons.injEq,and_true]at A;rw[G1 j5]at h1;obtain⟨G,r,O⟩:=(lN underlying3) _ _ _ h1 (dN underlying80 e (j:=1) rfl (by rw[F7,G1 j5];rfl))
  have z:[c1]=[.int .i64 G]:=by
   have a:prog.cellsOf 3=1:=j8
   rw[a]at r;exact r
  clear r;simp only[List.cons.injEq,and_true]at z;rw[G1 j5]at h2;obtain⟨k,q,N⟩:=(iB (T:=pZ) (b:=16) underlying43 j8 j8 xJ) _ _ _ h2 (dN underlying80 e (j:=2) rfl (by rw[F7,G1 j5];rfl))
  have y:[c2]=[.slice k.O k.B.length k.cap]:=by
   have a:prog.cellsOf 43=1:=j8
   rw[a]at q;exact q
  clear q;simp only[List.cons.injEq,and_true]at y;rw[G1 j5]at h3;obtain⟨i,p,M⟩:=(tR underlying42 (iB (T:=(pZ.slice 16)) (b:=24) underlying42 j8 j8 (iB (T:=pZ) (b:=16) underlying43 j8 j8 xJ))) _ _ _ h3 (dN underlying80 e (j:=3) rfl (by rw[F7,G1 j5];rfl))
  have v:[c3]=[.slice i.O i.B.length i.cap]:=by
   have a:prog.cellsOf 42=1:=j8
   rw[a]at p;exact p
  clear p;simp only[List.cons.injEq,and_true]at v;rw[G1 j5]at h4;obtain⟨E,o,L⟩:=(lN underlying77) _ _ _ h4 (dN underlying80 e (j:=4) rfl (by rw[F7,G1 j5];rfl))
  have u:[c4]=[.int .u8 E]:=by
   have a:prog.cellsOf 77=1:=j8
   rw[a]at o;exact o
  clear o;simp only[List.cons.injEq,and_true]at u;rw[G1 j5]at C;obtain⟨g,m,K⟩:=(tR underlying78 (iB (T:=opTy) (b:=56) underlying78 j8 j8 opens_op)) _ _ _ C (dN underlying80 e (j:=5) rfl (by rw[F7,G1 j5];rfl))
  have t:[c5]=[.slice g.O g.B.length g.cap]:=by
   have a:prog.cellsOf 78=1:=j8
   rw[a]at m;exact m
  clear m;simp only[List.cons.injEq,and_true]at t;obtain rfl:=A;obtain rfl:=z;obtain rfl:=y;obtain rfl:=v;obtain rfl:=u;obtain rfl:=t;exact⟨⟨I,G,k,i,E,g⟩,rfl,P,O,N,M,L,K,e9⟩
def coreTy:Ty fX:=⟨coreE,λx=>(bC.pure ((Lit.int .i64 x.vars).wf=true)).and ((((bufTy.slicec 32)).deep x.C).and ((((bOh.slicec 96)).deep x.D).and ((((intTy.slicec 8)).deep x.Q).and (bC.true))))⟩
theorem opens_core{H:Type}{enc:TypeId×Value->H}{w:World}:sZ enc prog w 26 coreE.cells coreTy.deep:=λy G x h e=>by
 obtain⟨d,n,_,rfl,a,l,f⟩:=DataW.trod_struct underlying26 h;have A:prog.cellsOf 26=4:=j8
 rw[A]at a;have v:d.length=4:=l
 match G,a with
 |[c0,c1,c2,c3],_=>
  have h0:DataW.trod enc prog w 0 (λ_=>true) true n 3 (([c0,c1,c2,c3].drop 0).take (prog.cellsOf 3))=d[0]?:=f 0 _ rfl;have h1:DataW.trod enc prog w 0 (λ_=>true) true n 22 (([c0,c1,c2,c3].drop 1).take (prog.cellsOf 22))=d[1]?:=f 1 _ rfl;have h2:DataW.trod enc prog w 0 (λ_=>true) true n 23 (([c0,c1,c2,c3].drop 2).take (prog.cellsOf 23))=d[2]?:=f 2 _ rfl;have h3:DataW.trod enc prog w 0 (λ_=>true) true n 24 (([c0,c1,c2,c3].drop 3).take (prog.cellsOf 24))=d[3]?:=f 3 _ rfl;rw[G1 j5]at h0;obtain⟨z,q,E⟩:=(lN underlying3) _ _ _ h0 (dN underlying26 e (j:=0) rfl (by rw[F7,G1 j5];rfl))
  have u:[c0]=[.int .i64 z]:=by
   have c:prog.cellsOf 3=1:=j8
   rw[c]at q;exact q
  clear q;simp only[List.cons.injEq,and_true]at u;rw[G1 j5]at h1;obtain⟨k,p,D⟩:=(tR underlying22 (iB (T:=bufTy) (b:=32) underlying22 j8 j8 opens_buf)) _ _ _ h1 (dN underlying26 e (j:=1) rfl (by rw[F7,G1 j5];rfl))
  have t:[c1]=[.slice k.O k.B.length k.cap]:=by
   have c:prog.cellsOf 22=1:=j8
   rw[c]at p;exact p
  clear p;simp only[List.cons.injEq,and_true]at t;rw[G1 j5]at h2;obtain⟨i,o,C⟩:=(tR underlying23 (iB (T:=bOh) (b:=96) underlying23 j8 j8 opens_step)) _ _ _ h2 (dN underlying26 e (j:=2) rfl (by rw[F7,G1 j5];rfl))
  have s:[c2]=[.slice i.O i.B.length i.cap]:=by
   have c:prog.cellsOf 23=1:=j8
   rw[c]at o;exact o
  clear o;simp only[List.cons.injEq,and_true]at s;rw[G1 j5]at h3;obtain⟨g,m,B⟩:=(tR underlying24 (iB (T:=intTy) (b:=8) underlying24 j8 j8 (lN underlying3))) _ _ _ h3 (dN underlying26 e (j:=3) rfl (by rw[F7,G1 j5];rfl))
  have r:[c3]=[.slice g.O g.B.length g.cap]:=by
   have c:prog.cellsOf 24=1:=j8
   rw[c]at m;exact m
  clear m;simp only[List.cons.injEq,and_true]at r;obtain rfl:=u;obtain rfl:=t;obtain rfl:=s;obtain rfl:=r;exact⟨⟨z,k,i,g⟩,rfl,E,D,C,B,e9⟩
section
variable {S : Nat -> Prop} {w : World}
theorem pol_of{p:PolV}(h:((pZ.slice 16).deep p).p S w):(cR p).p S w:=by obtain⟨⟨c1,c2⟩,c3⟩:=h;have c3:p.B.length*16<=140737488355328:=c3;exact⟨c1,by show p.B.length<=8796093022208;omega⟩
theorem list_of{l:Sl PolV}(h:(((pZ.slice 16).slicec 24).deep l).p S w):(nL l).p S w:=by obtain⟨⟨⟨e,d⟩,c⟩,b⟩:=h;exact⟨⟨e,λp a=>pol_of (d p a)⟩,b,c⟩
theorem op_of{o:OpV}(h:(opTy.deep o).p S w):(opF o).p S w:=pol_of h.2.2.2.1
theorem ops_of{l:Sl OpV}(h:((opTy.slicec 56).deep l).p S w):(bRx l).p S w:=by obtain⟨⟨⟨e,d⟩,c⟩,b⟩:=h;exact⟨⟨e,λp a=>op_of (d p a)⟩,b,c⟩
theorem buf_of{b:jW}(h:(bufTy.deep b).p S w):(bSc b).p S w:=list_of h.1
theorem bufs_of{l:Sl jW}(h:((bufTy.slicec 32).deep l).p S w):(bufsF l).p S w:=by obtain⟨⟨⟨e,d⟩,c⟩,b⟩:=h;exact⟨⟨e,λp a=>buf_of (d p a)⟩,b,c⟩
theorem step_of{s:gA}(h:(bOh.deep s).p S w):(mO s).p S w:=⟨pol_of h.2.2.1,list_of h.2.2.2.1,ops_of h.2.2.2.2.2.1⟩
theorem steps_of{l:Sl gA}(h:((bOh.slicec 96).deep l).p S w):(bIr l).p S w:=by obtain⟨⟨⟨e,d⟩,c⟩,b⟩:=h;exact⟨⟨e,λp a=>step_of (d p a)⟩,b,c⟩
theorem outs_of{l:Sl Int}(h:((intTy.slicec 8).deep l).p S w):(outsF l).p S w:=by obtain⟨⟨⟨c,d⟩,b⟩,a⟩:=h;exact⟨c,a,b⟩
theorem core_of{c:fX}(h:(coreTy.deep c).p S w):(lH c).p S w:=⟨bufs_of h.2.1,steps_of h.2.2.1,outs_of h.2.2.2.1⟩
end
end
section
open Go.RowKit Go.Proofs.Tryz
def bJl (fold:Bool)(ds:List Int)(p:List Mono)(r:List (List Mono)):Int:=if fold=true/\r=[]then (bF p ds).1+1 else (bF p ds).1
def turnR (fold:Bool)(ds:List Int):List (List Mono)->Int->Bool->Option (Int×Bool)
 |[],n,z=>some (n,z)
 |p::r,n,z=>if (bF p ds).2≠0\/65536<(bF p ds).1 then none
  else turnR fold ds r (min (n*bJl fold ds p r) 2097153) (z || (bJl fold ds p r==0))
def turnsR(ds:List Int):List cT->Int->Option Int
 |[],a=>some a
 |x::r,a=>match turnR (x.N==2) ds x.H 1 false with
  |none=>none
  |some (n,z)=>turnsR ds r (if z=true then a else min (a+n*(x.ops.length:Nat)) 2097153)
theorem sat_mul{A T V:Int}(hV:1<=V)(hA:0<=A):min (min T A*V) A=min (T*V) A:=by
 rcases Ay T A with h|h
 .rw[Az h]
 .rw[AA h];have h1:A*1<=A*V:=eI hV hA;have h2:A*V<=T*V:=Int.mul_le_mul_of_nonneg_right h j5;omega
def RelT (k n m:Int)(z:Bool):Prop:=(z=true/\n=0)\/(z=false/\ ∃T,1<=T/\n=min (k*T) 4194304/\m=min T 2097153)
theorem relT_go{k n m v:Int}{z:Bool}(h:RelT k n m z)(hv:0<=v):RelT k (if v=0 then 0 else min (n*v) 4194304) (min (m*v) 2097153) (z || (v==0)):=by
 rcases Aw (v=0)with h0|h0
 .left;exact⟨by rw[h0];simp,if_pos h0⟩
 .rw[if_neg h0]
  rcases h with ⟨rfl,rfl⟩|⟨rfl,T,hT,rfl,rfl⟩
  .left;exact⟨rfl,by rw[Int.zero_mul];rfl⟩
  .right;refine⟨by simpa using h0,T*v,?_,?_,?_⟩
   .have:=Int.mul_le_mul hT (show 1<=v by omega) j5 j5;omega
   .rw[sat_mul j5 j5,Int.mul_assoc]
   .rw[sat_mul j5 j5]
theorem bVv{fold:Bool}{ds:List Int}{k:Int}(hk:1<=k): ∀{l:List (List Mono)} {n m:Int} {z:Bool},(∀p∈l,(bF p ds).2=0->0<=(bF p ds).1)->RelT k n m z->(turnG fold ds l n=none/\turnR fold ds l m z=none)\/ ∃n' m' z',turnG fold ds l n=some n'/\turnR fold ds l m z=some (m',z')/\RelT k n' m' z'
 |[],n,m,z,_,h=> .inr ⟨n,m,z,rfl,rfl,h⟩
 |p::r,n,m,z,hp,h=>by
  unfold turnG turnR
  rcases Aw ((bF p ds).2≠0\/65536<(bF p ds).1)with hb|hb
  .rw[if_pos hb,if_pos hb];exact .inl ⟨rfl,rfl⟩
  .rw[if_neg hb,if_neg hb];have h2:(bF p ds).2=0:=Ax.1 λe=>hb (.inl e);have h3:=hp p (F9 ..) h2;have a:0<=bJl fold ds p r:=by unfold bJl;split<;>omega
   exact bVv hk (λq hq=>hp q (F3 _ hq)) (relT_go h a)
theorem bSo{fold:Bool}{ds:List Int}: ∀{l:List (List Mono)} {n:Int} {z:Bool} {n':Int} {z':Bool},(∀p∈l,(bF p ds).2=0->0<=(bF p ds).1)->0<=n->turnR fold ds l n z=some (n',z')->0<=n'
 |[],n,z,n',z',_,h0,h=>by cases h;exact h0
 |p::r,n,z,n',z',hp,h0,h=>by
  unfold turnR at h;split at h
  .cases h
  .rename_i hb;have h2:(bF p ds).2=0:=Ax.1 λe=>hb (.inl e);have h3:=hp p (F9 ..) h2;have a:0<=bJl fold ds p r:=by unfold bJl;split<;>omega
   have:=aO h0 a;exact bSo (λq hq=>hp q (F3 _ hq)) j5 h
def StepsT(ds:List Int)(l:List cT):Prop:= ∀x∈l,(∀p∈x.H,(bF p ds).2=0->0<=(bF p ds).1)/\1<=x.ops.length/\x.ops.length<=1000
theorem bJg{ds:List Int}: ∀{l:List cT} {a t:Int},StepsT ds l->2097153<=a->turnsR ds l a=some t->2097153<=t
 |[],a,t,_,ha,h=>by cases h;exact ha
 |x::r,a,t,hs,ha,h=>by
  unfold turnsR at h;split at h
  .cases h
  .rename_i n z hn;have h1:=hs x (F9 ..);have hn0:=bSo h1.1 l4 hn;have:0<=n*((x.ops.length:Nat):Int):=aO hn0 j5;refine bJg (λy b=>hs y (F3 _ b)) ?_ h;split<;>omega
theorem uI{ds:List Int}: ∀{l:List cT} {a:Int},StepsT ds l->0<=a->a<=2097152->(turnsG ds l a=true↔ ∃t,turnsR ds l a=some t/\t<=2097152)
 |[],a,_,h0,h1=>⟨λ_=>⟨a,rfl,h1⟩,λ_=>rfl⟩
 |x::r,a,hs,h0,h1=>by
  have hx:=hs x (F9 ..);have hr:StepsT ds r:=λy m=>hs y (F3 _ m);have d:(1:Int)<=((x.ops.length:Nat):Int):=j5
  have e:((x.ops.length:Nat):Int)<=1000:=j5
  have b:RelT ((x.ops.length:Nat):Int) ((x.ops.length:Nat):Int) 1 false:= .inr ⟨rfl,1,l4,j5,rfl⟩;unfold turnsG turnsR;generalize n:((x.ops.length:Nat):Int)=k at d e b
  rcases bVv (fold:=x.N==2) d hx.1 b with ⟨j,i⟩|⟨s,u,q,j,i,p⟩
  .rw[j,i];exact⟨λh=>(by cases h),λ⟨t,h,_⟩=>(by cases h)⟩
  .rw[j,i];dsimp only
   rcases p with ⟨rfl,rfl⟩|⟨rfl,T,hT,rfl,rfl⟩
   .rw[if_neg j5,if_pos rfl,Int.add_zero];exact uI hr h0 h1
   .rw[if_neg (by decide: ¬(false=true))];have o:T*1<=T*k:=eI d j5;have f:k*T=T*k:=Int.mul_comm ..
    rcases Ay (a+T*k) 2097152 with c|c
    .have g:min T 2097153=T:=j5
     rw[g,f,if_neg j5,show min (T*k) 4194304=T*k by omega,show min (a+T*k) 2097153=a+T*k by omega];exact uI hr j5 c
    .rcases Aw (a+T*k=2097152)with he|he
     .have g:min T 2097153=T:=j5
      rw[g,f,if_neg j5,show min (T*k) 4194304=T*k by omega,show min (a+T*k) 2097153=a+T*k by omega];exact uI hr j5 j5
     .rw[f,if_pos j5];refine⟨λh=>(by cases h),λ⟨t,h,ht⟩=>?_⟩
      have v:2097153<=a+min T 2097153*k:=by
       rcases Ay T 2097153 with hq|hq
       .rw[Az hq];omega
       .rw[AA hq];have:(2097153:Int)*1<=2097153*k:=eI d j5;omega
      have:=bJg hr (show(2097153:Int)<=min (a+min T 2097153*k) 2097153 by omega) h;omega
