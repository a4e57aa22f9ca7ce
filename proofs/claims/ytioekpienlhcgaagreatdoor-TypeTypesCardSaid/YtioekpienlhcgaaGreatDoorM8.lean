/- A part of one proof. -/
import Derived.Test.YtioekpienlhcgaaGreatDoorM7
set_option maxRecDepth 100000
namespace Go.Proofs.YtioekpienlhcgaaGreatDoor
open Go.RowKit Go.Proofs.Tryz
open _root_.List renaming take_add_one->R6,getElem?_eq_getElem->F1,length_take->K6,length_reverse->O8,take_of_length_le->F6,getElem?_eq_some_iff->F3,drop_eq_getElem_cons->K2,drop_of_length_le->K3,length_replicate->W7,getElem?_replicate->Z3,mem_cons->E2,mem_singleton->K7,mem_cons_of_mem->E4,mem_append->E3,mem_cons_self->E8,mem_flatMap->Z4,take_zero->Z5,append_cancel_left->Z6,take_length->Z7,cons_append->R0,take_succ_eq_append_getElem->T8,flatMap_append->Z8,take_append_drop->W3,getElem?_append_left->Z9,mem_of_getElem?->aA,length_map->O4,length_take_le->O0
open _root_.Nat renaming le_refl->B0,min_eq_left->L3,eq_zero_or_pos->S8,min_eq_right->aB,zero_add->C7
open Value renaming int->M0
open _root_.Bool renaming and_eq_true->J3,eq_iff_iff->L7
open IntKind renaming wrap->J5,signed->J6,bits->J7
theorem turn_step{α:Type}{l vs:List α}{i:Nat}{p:α}(h:vs=l.reverse.take i)(hp:l[l.length-1-i]?=some p)(hi:i<l.length):vs++[p]=l.reverse.take (i+1):=by
 rw[h,R6]
 congr 1
 rw[List.getElem?_reverse hi,hp];rfl
theorem dec4(n:Nat):decide (((n:Nat):Int)<=((4:Nat):Int))=decide (n<=4):=by rw[decide_eq_decide];omega
def bOy (nums:List Int)(k:Bool)(vs:List PolV)(i:Nat):Prop:=vs.length=i/\(k=true->bIz nums vs i/\nums.length<=4)/\(k=false->gP nums=⟨if 1<nums.length then [bY nums.length]else [],false,[]⟩)
theorem bPo(nums:List Int):bOy nums (decide (nums.length<=4)) [] 0:=⟨rfl,λh=>⟨bKk nums,of_decide_eq_true h⟩,λh=>by
 have h: ¬nums.length<=4:=of_decide_eq_false h
 exact bDj (n:=nums[0]'m0) (i:=0) (F1 m0) (.inr m0)⟩
section
variable {nums : List Int} {k : Bool} {vs : List PolV} {i : Nat} {n : Int} {p : PolV}
theorem uJ(h:bOy nums k vs i)(hk:k=true)(hn:nums[i]?=some n)(hp:p.A=bY n):bOy nums ((gV n).2==0) (vs++[p]) (i+1):=by
 obtain⟨h1,h2,_⟩:=h;obtain⟨h2,h4⟩:=h2 hk;refine⟨by simp[h1],λe=>?_,λe=>?_⟩
 .exact⟨bRl h2 hn hp (beq_iff_eq.1 e) h4,h4⟩
 .exact bDj hn (.inl λh=>by rw[h]at e;cases e)
theorem bId(h:bOy nums false vs i):gP nums=⟨if 1<nums.length then [bY nums.length]else [],false,[]⟩:=h.2.2 rfl
theorem bJg(h:bOy nums true vs i)(hi:nums.length<=i):gP nums=⟨if 1<nums.length then [bY nums.length]else [],true,bO vs⟩:=by
 obtain⟨h1,h2,_⟩:=h;obtain⟨h2,h4⟩:=h2 rfl
 by_cases h0:i<=nums.length
 .exact lit_end h2 hi h0
 .have:(bO vs).length=i:=by rw[bI,h1]
  rw[h2.1]at this;simp at this;omega
end
theorem wR(b1:Bool):prog.built 38 [(1,.bool b1)]=some #[.slice none 0 0,.bool b1,.slice none 0 0]:=m7
theorem kJ(n:Int):cY prog 68 [k9 n] [] [] (λ(x:Option Addr×Nat)=> .slice x.1 (bY n).length x.2) (λ_=>[]) (λ(x:Option Addr×Nat)=>[jU ⟨x.1,x.2,bY n⟩]):=by have hT:=dL;refine j8 func68 ntmps68 ?_;intro β hM;refine g8 ?_;refine j5 func69 (bKq (n)) j1 λ⟨A1,c2⟩=>?_;refine g14 ?_;exact rs1 (A1,c2) ⟨d7,j1⟩
theorem bHb(l:Sl PolV)(hl:l.A.length<=5864062014805):cY prog 73 [k7 l] [] [cO l] (λ(x:Option Addr×Nat)=> .slice x.1 l.A.reverse.length x.2) (λ_=>[]) (λ(x:Option Addr×Nat)=>[cO ⟨x.1,x.2,l.A.reverse⟩]):=by
 have hT:=dL;refine j8 func73 ntmps73 ?_;intro β hM;refine bP<|cE l mT0 λe=>?_;refine g15 ?_;refine bJ (z':=(l.A.length:Int)-1-((0:Nat):Int)) (yN m0 m0 m0) ?_;refine g4 ?_;refine bQ (t:=40) bV<|bB (cL []) (Has.each_nil) ?_;refine cI (ι:=Nat×List PolV×Option Addr×Nat) [(0,_)] ⟨rfl,j1⟩ (λ⟨i,vs,V,cv⟩=>[(3,.slice V vs.length cv),(4,.int .i64 ((l.A.length:Int)-1-(i:Nat)))]) (λ⟨i,vs,V,cv⟩=>[bV.row (.slice V vs.length cv) 40 vs]) (λ⟨i,vs,V,cv⟩=>[Fact.pure (i<=l.A.length/\vs=l.A.reverse.take i),cL vs]) (λ⟨i,vs,V,cv⟩=>l.A.length-i) (0,[],none,0) ⟨rfl,rfl,j1⟩ (.c0 .nil) ⟨j2 (⟨m0,rfl⟩),d7,j1⟩ ?_;rintro⟨i,vs,V,cv⟩;dsimp only;refine bG d7 λa=>?_;have f:vs.length=i:=by rw[a.2,K6,O8];omega
 refine g7 ?_;refine bKs (λd=>?_) λd=>?_
 .refine g8 ?_;obtain⟨x1,b⟩:=gx l.A (l.A.length-1-i);refine ss (cC hT (k:=(l.A.length-1-i)) (bE e7) rfl rfl rfl rfl rfl rfl m0 m0) ?_;refine ss (gI b 0) ?_;refine k6 (m:=x1) λh=>?_;refine bB (cL (vs++[(x1:PolV)])) (Has.each_snoc d8 (Has.each e6 (j3 b))) ?_;refine cV kT1 (bT .head rfl) rfl rfl rfl rfl rfl rfl rfl s8 λg c5=>?_;refine g7 ?_;refine bJ (z':=(l.A.length:Int)-1-((i+1:Nat):Int)) (yN m0 m0 m0) ?_;refine g3 ?_;exact bk2 (i+1,vs++[(x1:PolV)],g,c5) ⟨j2 (⟨by dsimp only;omega,turn_step a.2 b m0⟩),d7,j1⟩
 refine g12 ?_;have he:vs=l.A.reverse:=by rw[a.2];exact F6 (by rw[O8];omega)
 subst he;refine fS .head λc=>bS .head ?_;exact rs1 (V,cv) ⟨bZ d7 (bXl (oT e9)) c,j1⟩
theorem nums9_spec(A:Option Addr)(c:Nat)(nums:List Int)(hl:nums.length<=1000000):cY prog 42 [.slice A nums.length c] [] [bNh.sl (.slice A nums.length c) nums] (λ(x:TyV)=>tyC x) (λ_=>[]) (λ(x:TyV)=>[tyF x,Fact.pure (x.t=gP nums)]):=by
 have hT:=dL;refine j8 func42 ntmps42 ?_;intro β hM;refine g2 ?_;refine j4 rW λP=>?_;refine g7 ?_;refine bF (t':=decide (nums.length<=4)) (dec4 _) ?_;refine ss (j7 (wR _)) ?_;refine j4 rW λI=>?_;refine g11 ?_;refine fA (λn=>?_) λn=>?_
 .refine g3 ?_;refine j5 func68 (kJ (((nums.length:Nat):Int))) j1 λ⟨A3,c4⟩=>?_;refine k6 (m:=⟨A3,c4,bY (((nums.length:Nat):Int))⟩) λj=>?_;refine dN (E:=bV) (xs:=[(⟨A3,c4,bY (((nums.length:Nat):Int))⟩:PolV)]) .head aa5<|bS .head<|bB (cL [(⟨A3,c4,bY (((nums.length:Nat):Int))⟩:PolV)]) (gL d8) ?_;refine g11 ?_;refine bQ (t:=40) bV<|bB (cL []) (Has.each_nil) ?_;refine cI (ι:=Nat×Bool×List PolV×Option Addr×Nat) [(0,_),(2,_),(3,_)] ⟨rfl,rfl,rfl,j1⟩ (λ⟨i,k,vs,V,cv⟩=>[(4,.int .i64 (i:Nat))]) (λ⟨i,k,vs,V,cv⟩=>[.obj I (.cells [.slice (some ⟨j,0,none⟩) ([(⟨A3,c4,bY (((nums.length:Nat):Int))⟩:PolV)].length) 1,.bool k,.slice V vs.length cv].toArray 38),bV.row (.slice V vs.length cv) 40 vs]) (λ⟨i,k,vs,V,cv⟩=>[Fact.pure (i<=nums.length/\bOy nums k vs i),cL vs]) (λ⟨i,k,vs,V,cv⟩=>nums.length-i) (0,decide (nums.length<=4),[],none,0) ⟨rfl,j1⟩ (.c1 (.c0 .nil)) ⟨j2 (⟨m0,bPo nums⟩),d7,j1⟩ ?_;rintro⟨i,k,vs,V,cv⟩;dsimp only;refine bG d7 λa=>?_;have p:=a.2.1;refine g8 ?_;refine lK (λhg23=>?_) λhg23=>?_
  .refine g5 ?_;refine fT (λhc26=>?_) λhc26=>?_
   .refine g8 ?_;obtain⟨x6,l⟩:=gx nums i;refine ss (ixs i) ?_;refine ss (gI l 0) ?_;refine j5 func69 (bKq (x6)) j1 λ⟨A8,c9⟩=>?_;refine g15 ?_;refine kP _ _ (.fl 0 (.fl 2 (.fl 3 (.fl 4 (.fl 5 (.two 1 6 (.op 6 (.op 7 (.op 8 (.fl 9 (.op 10 .nil))))) (.two 1 7 (.op 7 (.op 8 (.fl 9 (.op 10 .nil)))) (.op 1 (.op 8 (.fl 9 (.op 10 .nil))))))))))) cN o8 (.c2 .nil) bA.self ?_;refine g3 ?_;refine sqT rfl (ixs i) ?_;refine sqT rfl (gI l 0) ?_;refine gO (o:=_) (o':=_) rfl rfl ?_ ?_
    .refine g3 ?_;refine j5 func68 (kJ (x6)) j1 λ⟨A10,c11⟩=>?_;refine g2 ?_;refine k6 (m:=⟨A10,c11,bY (x6)⟩) λO=>?_;refine bB (cL (vs++[(⟨A10,c11,bY (x6)⟩:PolV)])) (Has.each_snoc e6 d7) ?_;refine g2 ?_;refine cV kT2 (bT .head rfl) rfl rfl rfl rfl rfl rfl rfl s8 λG w=>?_;refine g11 ?_;refine inc (i+1) ?_;refine g3 ?_;exact bk2 (i+1,_,vs++[(⟨A10,c11,bY (x6)⟩:PolV)],G,w) ⟨j2 (⟨by dsimp only;omega,uJ a.2 ‹_› l rfl⟩),d7,j1⟩
    refine j5 func68 (kJ (x6)) j1 λ⟨A15,c16⟩=>?_;refine one ?_;refine gO (o:=_) (o':=_) rfl rfl ?_ ?_
    .refine g3 ?_;refine k6 (m:=⟨A15,c16,bY (x6)⟩) λN=>?_;refine bB (cL (vs++[(⟨A15,c16,bY (x6)⟩:PolV)])) (Has.each_snoc e6 d7) ?_;refine g2 ?_;refine cV kT2 (bT .head rfl) rfl rfl rfl rfl rfl rfl rfl s8 λD v=>?_;refine g11 ?_;refine inc (i+1) ?_;refine g3 ?_;exact bk2 (i+1,_,vs++[(⟨A15,c16,bY (x6)⟩:PolV)],D,v) ⟨j2 (⟨by dsimp only;omega,uJ a.2 ‹_› l rfl⟩),d7,j1⟩
    refine k6 (m:=⟨A15,c16,bY (x6)⟩) λM=>?_;refine bB (cL (vs++[(⟨A15,c16,bY (x6)⟩:PolV)])) (Has.each_snoc e6 d7) ?_;refine g5 ?_;refine cV kT2 (bT .head rfl) rfl rfl rfl rfl rfl rfl rfl s8 λC u=>?_;refine g11 ?_;refine inc (i+1) ?_;refine g3 ?_;exact bk2 (i+1,_,vs++[(⟨A15,c16,bY (x6)⟩:PolV)],C,u) ⟨j2 (⟨by dsimp only;omega,uJ a.2 ‹_› l rfl⟩),d7,j1⟩
   refine g7 ?_;refine fS kT1 λh=>bS kT1 ?_;refine g6 ?_;refine iK (λd=>?_) λd=>?_
   .have g:k=false:=by assumption
    subst g;refine g12 ?_;have hr:gP nums=TyV.t ⟨⟨(some ⟨j,0,none⟩),1,[(⟨A3,c4,bY (((nums.length:Nat):Int))⟩:PolV)]⟩,false,⟨none,0,[]⟩⟩:=(bId a.2).trans w7;exact rs1 ⟨⟨(some ⟨j,0,none⟩),1,[(⟨A3,c4,bY (((nums.length:Nat):Int))⟩:PolV)]⟩,false,⟨none,0,[]⟩⟩ ⟨(bR (x:=⟨⟨(some ⟨j,0,none⟩),1,[(⟨A3,c4,bY (((nums.length:Nat):Int))⟩:PolV)]⟩,false,⟨none,0,[]⟩⟩) (bZ e8 e7 (B0 1)) bN),j2 hr.symm,j1⟩
   have f:k=true:=by assumption
   subst f;refine g9 ?_;have hr:gP nums=TyV.t ⟨⟨(some ⟨j,0,none⟩),1,[(⟨A3,c4,bY (((nums.length:Nat):Int))⟩:PolV)]⟩,true,⟨V,cv,vs⟩⟩:=(bJg a.2 ah4).trans w7;exact rs1 ⟨⟨(some ⟨j,0,none⟩),1,[(⟨A3,c4,bY (((nums.length:Nat):Int))⟩:PolV)]⟩,true,⟨V,cv,vs⟩⟩ ⟨(bR (x:=⟨⟨(some ⟨j,0,none⟩),1,[(⟨A3,c4,bY (((nums.length:Nat):Int))⟩:PolV)]⟩,true,⟨V,cv,vs⟩⟩) (bZ e8 e7 (B0 1)) (bZ d7 d9 (h))),j2 hr.symm,j1⟩
  refine g13 ?_;refine fS kT1 λh=>bS kT1 ?_;refine g6 ?_;refine iK (λd=>?_) λd=>?_
  .have g:k=false:=by assumption
   subst g;refine g12 ?_;have hr:gP nums=TyV.t ⟨⟨(some ⟨j,0,none⟩),1,[(⟨A3,c4,bY (((nums.length:Nat):Int))⟩:PolV)]⟩,false,⟨none,0,[]⟩⟩:=(bId a.2).trans w7;exact rs1 ⟨⟨(some ⟨j,0,none⟩),1,[(⟨A3,c4,bY (((nums.length:Nat):Int))⟩:PolV)]⟩,false,⟨none,0,[]⟩⟩ ⟨(bR (x:=⟨⟨(some ⟨j,0,none⟩),1,[(⟨A3,c4,bY (((nums.length:Nat):Int))⟩:PolV)]⟩,false,⟨none,0,[]⟩⟩) (bZ e8 e7 (B0 1)) bN),j2 hr.symm,j1⟩
  have f:k=true:=by assumption
  subst f;refine g9 ?_;have hr:gP nums=TyV.t ⟨⟨(some ⟨j,0,none⟩),1,[(⟨A3,c4,bY (((nums.length:Nat):Int))⟩:PolV)]⟩,true,⟨V,cv,vs⟩⟩:=(bJg a.2 ah4).trans w7;exact rs1 ⟨⟨(some ⟨j,0,none⟩),1,[(⟨A3,c4,bY (((nums.length:Nat):Int))⟩:PolV)]⟩,true,⟨V,cv,vs⟩⟩ ⟨(bR (x:=⟨⟨(some ⟨j,0,none⟩),1,[(⟨A3,c4,bY (((nums.length:Nat):Int))⟩:PolV)]⟩,true,⟨V,cv,vs⟩⟩) (bZ e8 e7 (B0 1)) (bZ d7 d9 (h))),j2 hr.symm,j1⟩
 refine g9 ?_;refine bQ (t:=40) bV<|bB (cL []) (Has.each_nil) ?_;refine cI (ι:=Nat×Bool×List PolV×Option Addr×Nat) [(0,_),(2,_),(3,_)] ⟨rfl,rfl,rfl,j1⟩ (λ⟨i,k,vs,V,cv⟩=>[(4,.int .i64 (i:Nat))]) (λ⟨i,k,vs,V,cv⟩=>[.obj I (.cells [.slice none (0) 0,.bool k,.slice V vs.length cv].toArray 38),bV.row (.slice V vs.length cv) 40 vs]) (λ⟨i,k,vs,V,cv⟩=>[Fact.pure (i<=nums.length/\bOy nums k vs i),cL vs]) (λ⟨i,k,vs,V,cv⟩=>nums.length-i) (0,decide (nums.length<=4),[],none,0) ⟨rfl,j1⟩ (.c1 (.c0 .nil)) ⟨j2 (⟨m0,bPo nums⟩),d7,j1⟩ ?_;rintro⟨i,k,vs,V,cv⟩;dsimp only;refine bG d7 λa=>?_;have p:=a.2.1;refine g8 ?_;refine lK (λhg23=>?_) λhg23=>?_
 .refine g5 ?_;refine fT (λhc26=>?_) λhc26=>?_
  .refine g8 ?_;obtain⟨b,e⟩:=gx nums i;refine ss (ixs i) ?_;refine ss (gI e 0) ?_;refine j5 func69 (bKq (b)) j1 λ⟨A25,c26⟩=>?_;refine g15 ?_;refine kP _ _ (.fl 0 (.fl 2 (.fl 3 (.fl 4 (.fl 5 (.two 1 6 (.op 6 (.op 7 (.op 8 (.fl 9 (.op 10 .nil))))) (.two 1 7 (.op 7 (.op 8 (.fl 9 (.op 10 .nil)))) (.op 1 (.op 8 (.fl 9 (.op 10 .nil))))))))))) cN o8 (.c2 .nil) bA.self ?_;refine g3 ?_;refine sqT rfl (ixs i) ?_;refine sqT rfl (gI e 0) ?_;refine gO (o:=_) (o':=_) rfl rfl ?_ ?_
   .refine g3 ?_;refine j5 func68 (kJ (b)) j1 λ⟨A27,c28⟩=>?_;refine g2 ?_;refine k6 (m:=⟨A27,c28,bY (b)⟩) λL=>?_;refine bB (cL (vs++[(⟨A27,c28,bY (b)⟩:PolV)])) (Has.each_snoc e6 d7) ?_;refine g2 ?_;refine cV kT2 (bT .head rfl) rfl rfl rfl rfl rfl rfl rfl s8 λB s=>?_;refine g11 ?_;refine inc (i+1) ?_;refine g3 ?_;exact bk2 (i+1,_,vs++[(⟨A27,c28,bY (b)⟩:PolV)],B,s) ⟨j2 (⟨by dsimp only;omega,uJ a.2 ‹_› e rfl⟩),d7,j1⟩
   refine j5 func68 (kJ (b)) j1 λ⟨A32,c33⟩=>?_;refine one ?_;refine gO (o:=_) (o':=_) rfl rfl ?_ ?_
   .refine g3 ?_;refine k6 (m:=⟨A32,c33,bY (b)⟩) λK=>?_;refine bB (cL (vs++[(⟨A32,c33,bY (b)⟩:PolV)])) (Has.each_snoc e6 d7) ?_;refine g2 ?_;refine cV kT2 (bT .head rfl) rfl rfl rfl rfl rfl rfl rfl s8 λz r=>?_;refine g11 ?_;refine inc (i+1) ?_;refine g3 ?_;exact bk2 (i+1,_,vs++[(⟨A32,c33,bY (b)⟩:PolV)],z,r) ⟨j2 (⟨by dsimp only;omega,uJ a.2 ‹_› e rfl⟩),d7,j1⟩
   refine k6 (m:=⟨A32,c33,bY (b)⟩) λJ=>?_;refine bB (cL (vs++[(⟨A32,c33,bY (b)⟩:PolV)])) (Has.each_snoc e6 d7) ?_;refine g5 ?_;refine cV kT2 (bT .head rfl) rfl rfl rfl rfl rfl rfl rfl s8 λy q=>?_;refine g11 ?_;refine inc (i+1) ?_;refine g3 ?_;exact bk2 (i+1,_,vs++[(⟨A32,c33,bY (b)⟩:PolV)],y,q) ⟨j2 (⟨by dsimp only;omega,uJ a.2 ‹_› e rfl⟩),d7,j1⟩
  refine g7 ?_;refine fS kT1 λh=>bS kT1 ?_;refine g6 ?_;refine iK (λd=>?_) λd=>?_
  .have g:k=false:=by assumption
   subst g;refine g12 ?_;have hr:gP nums=TyV.t ⟨⟨none,0,[]⟩,false,⟨none,0,[]⟩⟩:=(bId a.2).trans w7;exact rs1 ⟨⟨none,0,[]⟩,false,⟨none,0,[]⟩⟩ ⟨(bR (x:=⟨⟨none,0,[]⟩,false,⟨none,0,[]⟩⟩) bN bN),j2 hr.symm,j1⟩
  have f:k=true:=by assumption
  subst f;refine g9 ?_;have hr:gP nums=TyV.t ⟨⟨none,0,[]⟩,true,⟨V,cv,vs⟩⟩:=(bJg a.2 ah4).trans w7;exact rs1 ⟨⟨none,0,[]⟩,true,⟨V,cv,vs⟩⟩ ⟨(bR (x:=⟨⟨none,0,[]⟩,true,⟨V,cv,vs⟩⟩) bN (bZ d7 d9 (h))),j2 hr.symm,j1⟩
 refine g13 ?_;refine fS kT1 λh=>bS kT1 ?_;refine g6 ?_;refine iK (λd=>?_) λd=>?_
 .have g:k=false:=by assumption
  subst g;refine g12 ?_;have hr:gP nums=TyV.t ⟨⟨none,0,[]⟩,false,⟨none,0,[]⟩⟩:=(bId a.2).trans w7;exact rs1 ⟨⟨none,0,[]⟩,false,⟨none,0,[]⟩⟩ ⟨(bR (x:=⟨⟨none,0,[]⟩,false,⟨none,0,[]⟩⟩) bN bN),j2 hr.symm,j1⟩
 have f:k=true:=by assumption
 subst f;refine g9 ?_;have hr:gP nums=TyV.t ⟨⟨none,0,[]⟩,true,⟨V,cv,vs⟩⟩:=(bJg a.2 ah4).trans w7;exact rs1 ⟨⟨none,0,[]⟩,true,⟨V,cv,vs⟩⟩ ⟨(bR (x:=⟨⟨none,0,[]⟩,true,⟨V,cv,vs⟩⟩) bN (bZ d7 d9 (h))),j2 hr.symm,j1⟩
section
variable {P : Program} {β : fR} {n : Nat} {Γ : Env} {H : List bL} {F : List Fact} {Q : Exit -> Act -> World -> Prop} {ι : Type}
def Jx (β:fR)(n:Nat)(G:ι->Env)(HH:ι->List bL)(FF:ι->List Fact)(Q:Exit->Act->World->Prop)(e:Exit)(a:Act)(w:World):Prop:=
 match e with
 |.normal=> ∃x S,Fits n (G x) a/\St β (HH x) S w/\All (FF x) S w
 |e=>Q e a w
theorem vM{c:Code}(Δ:Env)(_hΔ:Γ.Sub Δ)(G:ι->Env)(HH:ι->List bL){H0 Hr:List bL}(_hH:tG H H0 Hr)(FF:ι->List Fact)
  (h1:At β n Γ H F (c.wp P (Jx β n (λx=>G x++Δ) (λx=>HH x++Hr) (λx=>FF x++F) Q))) (h2: ∀x,At β n (G x++Δ) (HH x++Hr) (FF x++F) (Q .normal)):At β n Γ H F (c.wp P Q):=λa w S f s k=>
 Code.wp_mono (λe i b q=>by
  cases e with
  |normal=>obtain⟨x,j,h,d,g⟩:=q;exact h2 x i b j h d g
  |_=>exact q) (h1 a w S f s k)
theorem iT{Δ:Env}{G:ι->Env}{HH:ι->List bL}{Hr:List bL}{FF:ι->List Fact}{F0:List Fact}(x:ι)(hG:Γ.Sub (G x))(hΔ:Γ.Sub Δ)(hH:Sel H (HH x++Hr))(hF:bA F (FF x))(hF0:bA F F0):
  At β n Γ H F (Jx β n (λx=>G x++Δ) (λx=>HH x++Hr) (λx=>FF x++F0) Q .normal):=λ_ w S f s k=>⟨x,S,f.sub (hG.append hΔ),s.sel hH,(hF.append hF0).all S w k⟩
theorem r_join{G:ι->Env}{HH:ι->List bL}{FF:ι->List Fact}(h:At β n Γ H F (Q .ret)):At β n Γ H F (Jx β n G HH FF Q .ret):=h
end
structure EnvV where
 P:ProgV
 V:Sl Bs
 L:Sl TyV
def envO (eb:Nat)(e:EnvV):bL:= .obj eb (.cells [.slice e.P.C.I e.P.C.A.length e.P.C.cap,.slice e.P.G.I e.P.G.A.length e.P.G.cap,.slice e.V.I e.V.A.length e.V.cap,.slice e.L.I e.L.A.length e.L.cap].toArray 72)
def bAg (vars:List Bs)(s:Bs):Pol:=if 0<=idxOf s vars 0 then (pG (idxOf s vars 0)).1 else []
def VrAt (s:Bs)(vars:List Bs)(i:Nat):Prop:=idxOf s vars 0=idxOf s (vars.drop i) (i:Nat)
section
variable {s b : Bs} {vars : List Bs} {i : Nat}
theorem vr_step(h:VrAt s vars i)(hb:vars[i]?=some b)(hne:b≠s):VrAt s vars (i+1):=by obtain⟨hi,a⟩:=F3.1 hb;unfold VrAt at*;rw[h,K2 hi,a,idxOf,if_neg hne];rfl
theorem vr_hit(h:VrAt s vars i)(hb:vars[i]?=some b)(he:b=s):idxOf s vars 0=((i:Nat):Int):=by obtain⟨hi,a⟩:=F3.1 hb;unfold VrAt at*;rw[h,K2 hi,a,idxOf,if_pos he]
theorem vr_none(h:VrAt s vars i)(hi:vars.length<=i):idxOf s vars 0= -1:=by unfold VrAt at*;rw[h,K3 hi];rfl
theorem varN_hit(h:idxOf s vars 0=((i:Nat):Int)):bAg vars s=(pG ((i:Nat):Int)).1:=by unfold bAg;rw[h];exact if_pos m0
theorem varN_no(h:idxOf s vars 0= -1):bAg vars s=[]:=by unfold bAg;rw[h];rfl
theorem vr_yes(h:idxOf s vars 0=((i:Nat):Int)):decide (0<=idxOf s vars 0)=true:=by rw[h];exact decide_eq_true m0
theorem vr_not(h:idxOf s vars 0= -1):decide (0<=idxOf s vars 0)=false:=by rw[h];rfl
end
theorem min9(a b:Nat):(if (b:Int)<(a:Int)then (b:Int)else (a:Int))=((min a b:Nat):Int):=by split<;>omega
def EachJ (f:Int)(ka kb t:Bool):Prop:=(t=true->(ka=false\/kb=false)\/rT f=none)/\(t=false->ka=true/\kb=true/\(f=1\/f=2\/f=3))
section
variable {f : Int} {ka kb : Bool}
theorem bIv(h:ka=false):EachJ f ka kb true:=⟨λ_=> .inl (.inl h),λh=>(by cases h)⟩
theorem bGz(h:kb=false):EachJ f ka kb true:=⟨λ_=> .inl (.inr h),λh=>(by cases h)⟩
theorem bIm(h:ka=true)(k:kb=true)(hf:f=1\/f=2):EachJ f ka kb false:=⟨λh=>(by cases h),λ_=>⟨h,k,m0⟩⟩
theorem bHy(h:ka=true)(k:kb=true)(h1:f≠1)(h2:f≠2):EachJ f ka kb (f !=3):=by refine⟨λe=> .inr (bNy h1 h2 (bne_iff_ne.1 e)),λe=>⟨h,k,.inr (.inr (bne_eq_false_iff_eq.1 e))⟩⟩
end
theorem op9{f:Int}(hf:f=1\/f=2\/f=3): ∃op,rT f=some op/\ ∀p q:Pol,(if f=3 then nA p q else if f=2 then cD p q (-1)else cD p q 1)=op p q:=by
 rcases hf with rfl|rfl|rfl
 .exact⟨addO,rfl,λp q=>rfl⟩
 .exact⟨yO,rfl,λp q=>rfl⟩
 .exact⟨nA,rfl,λp q=>rfl⟩
section
variable {f : Int} {op : rU} {a b : TyP} {X : List Pol}
theorem each_unk9(h:(a.known=false\/b.known=false)\/rT f=none):lP (rT f) a b=([],false):=by
 rcases h with h|h
 .cases rT f with
  |none=>rfl
  |some op=>exact bDc h
 .rw[h];rfl
theorem each_bad9(ho:rT f=some op)(h:bAd op (tT a b) (rB a b)=none)(ha:a.known=true)(hb:b.known=true):lP (rT f) a b=([],false):=by rw[ho];exact sO h ha hb
theorem each_end9(ho:rT f=some op)(h:bAd op (tT a b) (rB a b)=some X)(ha:a.known=true)(hb:b.known=true):lP (rT f) a b=(X,true):=by rw[ho];exact sA h ha hb
end
theorem bOr{a b:TyV}{n:Nat}(hab:bBr a.t b.t)(ha:a.known=true)(hb:b.known=true)(hn:n=max a.values.A.length b.values.A.length)(hs:(a.B.A.length=0/\b.B.A.length=0)\/(0<a.B.A.length/\0<b.B.A.length)):
  ∃xs ys:List PolV,tT a.t b.t=bO xs/\rB a.t b.t=bO ys/\xs.length=n/\ys.length=n/\n<=1000000/\ ∀i,i<n->0<a.values.A.length/\0<b.values.A.length/\a.values.A[min i (a.values.A.length-1)]?=xs[i]?/\b.values.A[min i (b.values.A.length-1)]?=ys[i]?:=by
 have c:a.values.A.length<=1000000:=by have:=hab.la;unfold TyV.t at this;rwa[bI]at this
 have he:=bLm hab ha hb hs;have hr:=bOl (a:=a) (b:=b) hs;exact⟨a.values.A,b.values.A,hr.1,hr.2,m0,m0,m0,λi hi=>⟨m0,m0,by rw[L3 m0],by rw[L3 m0]⟩⟩
theorem each9_lists{a b:TyV}{n:Nat}(hab:bBr a.t b.t)(ha:a.known=true)(hb:b.known=true)(hn:(a.B.A.length=0/\0<b.B.A.length->n=b.values.A.length)/\(b.B.A.length=0/\0<a.B.A.length->n=a.values.A.length)/\((a.B.A.length=0/\b.B.A.length=0)\/(0<a.B.A.length/\0<b.B.A.length)->n=max a.values.A.length b.values.A.length)):
  ∃xs ys:List PolV,tT a.t b.t=bO xs/\rB a.t b.t=bO ys/\xs.length=n/\ys.length=n/\n<=1000000/\ ∀i,i<n->0<a.values.A.length/\0<b.values.A.length/\a.values.A[min i (a.values.A.length-1)]?=xs[i]?/\b.values.A[min i (b.values.A.length-1)]?=ys[i]?:=by
 have h:a.values.A.length<=1000000:=by have:=hab.la;unfold TyV.t at this;rwa[bI]at this
 have g:b.values.A.length<=1000000:=by have:=hab.lb;unfold TyV.t at this;rwa[bI]at this
 rcases S8 a.B.A.length with d|d<;>rcases S8 b.B.A.length with c|c
 .exact bOr hab ha hb (hn.2.2 (.inl ⟨d,c⟩)) (.inl ⟨d,c⟩)
 .have h1:=hab.one ha hb (dW d);obtain⟨p,e⟩:=bHl h1;have hr:=left_rep (b:=b) e d c;have hn:=hn.1 ⟨d,c⟩;have f:a.values.A.length=1:=by rw[e];rfl
  refine⟨_,_,hr.1,hr.2,by rw[W7];omega,hn.symm,m0,λi hi=>⟨m0,m0,?_,by rw[L3 m0]⟩⟩;rw[f,e,aB m0,Z3,if_pos m0];rfl
 .have h1:=hab.two ha hb (dW c);obtain⟨p,e⟩:=bHl h1;have hr:=bXd (a:=a) e c d;have hn:=hn.2.1 ⟨c,d⟩;have f:b.values.A.length=1:=by rw[e];rfl
  refine⟨_,_,hr.1,hr.2,hn.symm,by rw[W7];omega,m0,λi hi=>⟨m0,m0,by rw[L3 m0],?_⟩⟩;rw[f,e,aB m0,Z3,if_pos m0];rfl
 .exact bOr hab ha hb (hn.2.2 (.inr ⟨d,c⟩)) (.inr ⟨d,c⟩)
theorem bWr(eb:Nat)(e:EnvV)(s:Bs)(hv:e.V.A.length<=140737488355328):cY prog 70 [.pointer (some ⟨eb,0,none⟩),.string (bs s)] [envO eb e] [lN.sl (k7 e.V) e.V.A] (λ(x:Option Addr×Nat)=> .tuple #[.slice x.1 (bAg e.V.A s).length x.2,.bool (decide (0<=idxOf s e.V.A 0))]) (λ_=>[envO eb e]) (λ(x:Option Addr×Nat)=>[jU ⟨x.1,x.2,bAg e.V.A s⟩]):=by
 have hT:=dL;generalize d:bAg e.V.A s=r;generalize hB:decide (0<=idxOf s e.V.A 0)=t;refine j8 func70 ntmps70 ?_;intro β hM;refine g13 ?_;refine cI (ι:=Nat) [(0,_),(1,_)] ⟨rfl,rfl,j1⟩ (λi=>[(6,.int .i64 (i:Nat))]) (λ_=>[]) (λi=>[Fact.pure (i<=e.V.A.length/\VrAt s e.V.A i)]) (λi=>e.V.A.length-i) 0 ⟨rfl,j1⟩ .nil ⟨j2 (⟨m0,rfl⟩),j1⟩ ?_;rintro i;refine bG d7 λa=>?_;refine g12 ?_;refine fA (λhc15=>?_) λhc15=>?_
 .refine g11 ?_;obtain⟨x1,b⟩:=gx e.V.A i;refine ss (ixs i) ?_;refine ss (gI b 0) ?_;refine g4 ?_;refine fT (λhc26=>?_) λhc26=>?_
  .have hc26:x1=s:=eq_of_beq hc26;refine g3 ?_;refine j5 func106 (refVar9 (((i:Nat):Int))) j1 λ⟨A3,c4⟩=>?_;refine g20 ?_;have hi:=vr_hit a.2 b ‹_›;obtain rfl:=d.symm.trans (varN_hit hi);have c:=hB.symm.trans (vr_yes hi);subst c;exact rs2 (A3,c4) ⟨d7,j1⟩
  have hc26:x1≠s:=λh=>absurd (beq_iff_eq.2 h) (by rw[show(x1==s)=false from hc26];simp);refine g6 ?_;refine inc (i+1) ?_;refine g3 ?_;exact bk2 (i+1) ⟨j2 (⟨m0,vr_step a.2 b ‹_›⟩),j1⟩
 refine g12 ?_;have hi:=vr_none a.2 m0;obtain rfl:=d.symm.trans (varN_no hi);have c:=hB.symm.trans (vr_not hi);subst c;exact rs2 (none,0) ⟨bIp,j1⟩
theorem bEs(f:Int)(a b:TyV)(hab:bBr a.t b.t):cY prog 74 [l5 f,.agg #[k7 a.B,.bool a.known,k7 a.values],.agg #[k7 b.B,.bool b.known,k7 b.values]] [] [tyF a,tyF b] (λ(x:EachV)=> .tuple #[k7 x.l,.bool x.k]) (λ_=>[]) (λ(x:EachV)=>[cO x.l,Fact.pure ((bO x.l.A,x.k)=lP (rT f) a.t b.t)]):=by
 have hT:=dL;have hla:a.values.A.length<=1000000:=by have:=hab.la;unfold TyV.t at this;rwa[bI]at this
 have hlb:b.values.A.length<=1000000:=by have:=hab.lb;unfold TyV.t at this;rwa[bI]at this
 refine j8 func74 ntmps74 ?_;intro β hM;refine bP<|bB (cO a.B) (jK d7) ?_;refine cE a.B mT0 λhc_as=>bB (cO a.values) (jM e6)<|cE a.values mT0 λhc_av=>bB (cO b.B) (jK f4)<|cE b.B mT0 λhc_bs=>bB (cO b.values) (jM f9)<|cE b.values mT0 λhc_bv=>?_;refine one ?_;refine j6 λb1=>?_;refine j6 λb2=>?_;refine g6 ?_;refine vM (ι:=Bool) [(0,_),(4,_),(5,_)] ⟨rfl,rfl,rfl,j1⟩ (λt=>[(34,.bool t)]) (λt=>[]) .nil (λt=>[Fact.pure (EachJ f a.known b.known t)]) ?_ ?_
 .refine g5 ?_;refine k_nt (λO=>?_) λO=>?_
  .refine g17 ?_;exact iT true ⟨rfl,j1⟩ ⟨rfl,rfl,rfl,j1⟩ (.c0 (.c0 .nil)) ⟨j2 aa9,j1⟩ (bA.drop 0)
  refine g5 ?_;refine k_nt (λhg23=>?_) λhg23=>?_
  .refine g12 ?_;exact iT true ⟨rfl,j1⟩ ⟨rfl,rfl,rfl,j1⟩ (.c0 (.c0 .nil)) ⟨j2 aa9,j1⟩ (bA.drop 0)
  refine g3 ?_;refine xJ (λN=>?_) λN=>?_
  .refine g4 ?_;refine xJ (λM=>?_) λM=>?_
   .refine g5 ?_;exact iT (f !=3) ⟨rfl,j1⟩ ⟨rfl,rfl,rfl,j1⟩ (.c0 (.c0 .nil)) ⟨j2 aa9,j1⟩ (bA.drop 0)
   refine g5 ?_;exact iT false ⟨rfl,j1⟩ ⟨rfl,rfl,rfl,j1⟩ (.c0 (.c0 .nil)) ⟨j2 aa9,j1⟩ (bA.drop 0)
  refine g9 ?_;exact iT false ⟨rfl,j1⟩ ⟨rfl,rfl,rfl,j1⟩ (.c0 (.c0 .nil)) ⟨j2 aa9,j1⟩ (bA.drop 0)
 rintro t;refine bG d7 λhjn=>?_;refine cZ<|fT (λhc34=>?_) λhc34=>?_
 .refine g8 ?_;exact rs2 (⟨⟨none,0,[]⟩,false⟩:EachV) ⟨bN,j2 ((each_unk9 (hjn.1 ‹_›)).symm),j1⟩
 refine g3 ?_;obtain⟨w,v,hf⟩:=hjn.2 ‹_›;obtain⟨op,J,I⟩:=op9 hf;refine g8 ?_;refine bJ (z':=(((max a.values.A.length b.values.A.length):Nat):Int)) (maxN _ _) ?_;refine g4 ?_;refine vM (ι:=Nat) [(0,_),(4,_),(5,_)] ⟨rfl,rfl,rfl,j1⟩ (λg=>[(8,.int .i64 (g:Nat))]) (λg=>[]) .nil (λg=>[Fact.pure ((a.B.A.length=0/\0<b.B.A.length->g=b.values.A.length)/\(¬(a.B.A.length=0/\0<b.B.A.length)->g=max a.values.A.length b.values.A.length))]) ?_ ?_
 .refine g7 ?_;refine rE (λL=>?_) λL=>?_
  .refine g7 ?_;refine fA (λW=>?_) λW=>?_
   .refine g6 ?_;exact iT b.values.A.length ⟨rfl,j1⟩ ⟨rfl,rfl,rfl,j1⟩ (.c0 (.c0 .nil)) ⟨j2 (by refine⟨λh=>?_,λh=>?_⟩<;>omega),j1⟩ (bA.drop 0)
   refine one ?_;exact iT (max a.values.A.length b.values.A.length) ⟨rfl,j1⟩ ⟨rfl,rfl,rfl,j1⟩ (.c0 (.c0 .nil)) ⟨j2 (by refine⟨λh=>?_,λh=>?_⟩<;>omega),j1⟩ (bA.drop 0)
  refine g9 ?_;exact iT (max a.values.A.length b.values.A.length) ⟨rfl,j1⟩ ⟨rfl,rfl,rfl,j1⟩ (.c0 (.c0 .nil)) ⟨j2 (by refine⟨λh=>?_,λh=>?_⟩<;>omega),j1⟩ (bA.drop 0)
 rintro g;refine bG d7 λhjn=>?_;refine g2 ?_;refine vM (ι:=Nat) [(0,_),(4,_),(5,_)] ⟨rfl,rfl,rfl,j1⟩ (λn=>[(8,.int .i64 (n:Nat))]) (λn=>[]) .nil (λn=>[Fact.pure ((a.B.A.length=0/\0<b.B.A.length->n=b.values.A.length)/\(b.B.A.length=0/\0<a.B.A.length->n=a.values.A.length)/\((a.B.A.length=0/\b.B.A.length=0)\/(0<a.B.A.length/\0<b.B.A.length)->n=max a.values.A.length b.values.A.length))]) ?_ ?_
 .refine g7 ?_;refine rE (λK=>?_) λK=>?_
  .refine g7 ?_;refine fA (λU=>?_) λU=>?_
   .refine g6 ?_;exact iT a.values.A.length ⟨rfl,j1⟩ ⟨rfl,rfl,rfl,j1⟩ (.c0 (.c0 .nil)) ⟨j2 (by refine⟨λh=>?_,λh=>?_,λh=>?_⟩<;>omega),j1⟩ (bA.drop 0)
   refine one ?_;exact iT g ⟨rfl,j1⟩ ⟨rfl,rfl,rfl,j1⟩ (.c0 (.c0 .nil)) ⟨j2 (by refine⟨λh=>?_,λh=>?_,λh=>?_⟩<;>omega),j1⟩ (bA.drop 0)
  refine g9 ?_;exact iT g ⟨rfl,j1⟩ ⟨rfl,rfl,rfl,j1⟩ (.c0 (.c0 .nil)) ⟨j2 (by refine⟨λh=>?_,λh=>?_,λh=>?_⟩<;>omega),j1⟩ (bA.drop 0)
 rintro n;refine bG d7 λhjn=>?_;refine g2 ?_;obtain⟨xs,ys,C,B,hxn,hyn,hnn,hel⟩:=each9_lists hab w v hjn;refine g11 ?_;refine bQ (t:=40) bV<|bB (cL []) (Has.each_nil) ?_;refine cI (ι:=Nat×List PolV×Option Addr×Nat) [(0,_),(4,_),(5,_),(8,_)] ⟨rfl,rfl,rfl,rfl,j1⟩ (λ⟨i,vs,V,cv⟩=>[(9,.slice V vs.length cv),(10,.int .i64 (i:Nat))]) (λ⟨i,vs,V,cv⟩=>[bV.row (.slice V vs.length cv) 40 vs]) (λ⟨i,vs,V,cv⟩=>[Fact.pure (i<=n/\wN op (bO xs) (bO ys) (bO vs) i),cL vs]) (λ⟨i,vs,V,cv⟩=>n-i) (0,[],none,0) ⟨rfl,rfl,j1⟩ (.c0 .nil) ⟨j2 (⟨m0,uU op _ _⟩),d7,j1⟩ ?_;rintro⟨i,vs,V,cv⟩;dsimp only;refine bG d7 λhinv10=>?_;have X:=hinv10.2.1;rw[bI]at X;refine g8 ?_;refine fA (λR=>?_) λR=>?_
 .refine g5 ?_;obtain⟨hpa,hpb,Q,P⟩:=hel i m0;refine g8 ?_;refine inc (a.values.A.length-1) ?_;refine one ?_;refine bJ (z':=(((min i (a.values.A.length-1)):Nat):Int)) (min9 _ _) ?_;obtain⟨x3,d⟩:=gx a.values.A (min i (a.values.A.length-1));refine ss (ixs (min i (a.values.A.length-1))) ?_;refine ss (gI d 0) ?_;refine g12 ?_;refine inc (b.values.A.length-1) ?_;refine one ?_;refine bJ (z':=(((min i (b.values.A.length-1)):Nat):Int)) (min9 _ _) ?_;obtain⟨e,c⟩:=gx b.values.A (min i (b.values.A.length-1));refine ss (ixs (min i (b.values.A.length-1))) ?_;refine ss (gI c 0) ?_;refine g7 ?_;refine bG (dG (Has.each i7 (j3 d))) λG=>bG (dG (Has.each e9 (j3 c))) λr=>?_;refine j5 func110 (refAdd9 (p:=x3) (q:=e) G r) ⟨(Has.each i7 (j3 d)),(Has.each e9 (j3 c)),j1⟩ λ⟨A7,c8⟩=>?_;refine g14 ?_;refine vM (ι:=PolV×Int) [(0,_),(4,_),(5,_),(8,_),(9,_),(10,_),(11,_),(12,_)] ⟨rfl,rfl,rfl,rfl,rfl,rfl,rfl,rfl,j1⟩ (λ⟨r1,e1⟩=>[(13,.slice r1.I r1.A.length r1.cap),(14,.int .i64 e1)]) (λ⟨r1,e1⟩=>[]) .nil (λ⟨r1,e1⟩=>[Fact.pure ((r1.A,e1)=if f=2 then cD x3.A e.A (-1)else cD x3.A e.A 1),jU r1]) ?_ ?_
  .refine gJ (λA=>?_) λA=>?_
   .refine g3 ?_;refine bG (dG (Has.each j0 (j3 d))) λu=>bG (dG (Has.each f4 (j3 c))) λo=>?_;refine j5 func111 (refSub9 (p:=x3) (q:=e) u o) ⟨(Has.each j0 (j3 d)),(Has.each f4 (j3 c)),j1⟩ λ⟨A11,c12⟩=>?_;refine g6 ?_;exact iT ((⟨A11,c12,(cD x3.A e.A (-1)).1⟩:PolV),(cD x3.A e.A (-1)).2) ⟨rfl,rfl,j1⟩ ⟨rfl,rfl,rfl,rfl,rfl,rfl,rfl,rfl,j1⟩ (.c0 (.c0 (.c0 .nil))) ⟨j2 ak2,d7,j1⟩ (bA.drop 1)
   refine one ?_;exact iT ((⟨A7,c8,(cD x3.A e.A 1).1⟩:PolV),(cD x3.A e.A 1).2) ⟨rfl,rfl,j1⟩ ⟨rfl,rfl,rfl,rfl,rfl,rfl,rfl,rfl,j1⟩ (.c0 (.c0 (.c0 .nil))) ⟨j2 ak2,d7,j1⟩ (bA.drop 0)
  rintro⟨r1,e1⟩;dsimp only;refine bG d7 λhjn=>?_;refine g8 ?_;refine vM (ι:=PolV×Int) [(0,_),(4,_),(5,_),(8,_),(9,_),(10,_),(11,_),(12,_)] ⟨rfl,rfl,rfl,rfl,rfl,rfl,rfl,rfl,j1⟩ (λ⟨r2,e2⟩=>[(13,.slice r2.I r2.A.length r2.cap),(14,.int .i64 e2)]) (λ⟨r2,e2⟩=>[]) .nil (λ⟨r2,e2⟩=>[Fact.pure ((r2.A,e2)=if f=3 then nA x3.A e.A else if f=2 then cD x3.A e.A (-1)else cD x3.A e.A 1),jU r2]) ?_ ?_
  .refine gJ (λz=>?_) λz=>?_
   .refine g3 ?_;refine bG (dG (Has.each (Has.of (u8 mT7)) (j3 d))) λs=>bG (dG (Has.each f7 (j3 c))) λj=>?_;refine j5 func72 (refMul9 (p:=x3) (q:=e) s j) ⟨(Has.each (Has.of (u8 mT7)) (j3 d)),(Has.each f7 (j3 c)),j1⟩ λ⟨A15,c16⟩=>?_;refine g6 ?_;exact iT ((⟨A15,c16,(nA x3.A e.A).1⟩:PolV),(nA x3.A e.A).2) ⟨rfl,rfl,j1⟩ ⟨rfl,rfl,rfl,rfl,rfl,rfl,rfl,rfl,j1⟩ (.c0 (.c0 (.c0 .nil))) ⟨j2 ai5,d7,j1⟩ (bA.drop 1)
   refine one ?_;exact iT ((r1:PolV),e1) ⟨rfl,rfl,j1⟩ ⟨rfl,rfl,rfl,rfl,rfl,rfl,rfl,rfl,j1⟩ (.c0 (.c0 (.c0 .nil))) ⟨j2 ai5,d8,j1⟩ (bA.drop 0)
  rintro⟨r2,e2⟩;dsimp only;refine bG d7 λhjn=>?_;refine g3 ?_;have D:=hjn.trans (I x3.A e.A);have Y:r2.A=(op x3.A e.A).1:=congrArg Prod.fst D;have E:e2=(op x3.A e.A).2:=congrArg Prod.snd D;refine g5 ?_;refine tL (λy=>?_) λy=>?_
  .refine g13 ?_;exact rs2 (⟨⟨none,0,[]⟩,false⟩:EachV) ⟨bN,j2 ((each_bad9 J (by rw[C,B];exact bBu hinv10.2 (Q.symm.trans d) (P.symm.trans c) (λh=>absurd (E.trans h) ‹_›)) w v).symm),j1⟩
  refine g5 ?_;refine k6 (m:=r2) λb19=>?_;refine bB (cL (vs++[(r2:PolV)])) (Has.each_snoc e9 d8) ?_;refine cV kT1 (bT .head rfl) rfl rfl rfl rfl rfl rfl rfl s8 λA20 c21=>?_;refine g7 ?_;refine inc (i+1) ?_;refine g3 ?_;exact bk2 (i+1,vs++[(r2:PolV)],A20,c21) ⟨j2 (⟨by dsimp only;omega,wY hinv10.2 (Q.symm.trans d) (P.symm.trans c) Y (E.symm.trans ‹_›)⟩),d7,j1⟩
 refine g13 ?_;refine fS .head λZ=>bS .head ?_;exact rs2 (⟨⟨V,cv,vs⟩,true⟩:EachV) ⟨bZ d7 d9 Z,j2 ((each_end9 J (by rw[C,B];exact bBm hinv10.2 m0) w v).symm),j1⟩
theorem mo_d9{f:Int}{a:TyV}{x:PolV}(h:f=32)(k:a.B.A.length=0)(g:a.known=true)(h1:a.values.A.length=1)(hx:a.values.A[0]?=some x)(e:lC x.A=true):hJ f a.t=(⟨bO a.values.A,false,[]⟩,0):=by
 rw[mo_d h k g hx e]
 match hl:a.values.A,h1,hx with
 |[y],_,hx=>
  cases hx;rfl
theorem each_ok9{a b:TyV}(ha:WfT a.t)(hb:WfT b.t)(h:a.B.A.length=0\/b.B.A.length=0\/bO a.B.A=bO b.B.A):bBr a.t b.t:=
 pZ ha hb (h.elim (λh=> .inl (dW h)) λh=> .inr (h.elim (λh=> .inl (dW h)) .inr))
theorem not9f{b:Bool}(h:b=false):(!b)=true:=by rw[h];rfl
theorem not9t{b:Bool}(h:b=true):(!b)=false:=by rw[h];rfl
theorem xU(b1:Bool)(a2:Option Addr)(l2 c2:Nat):prog.built 38 [(1,.bool b1),(2,.slice a2 l2 c2)]=some #[.slice none 0 0,.bool b1,.slice a2 l2 c2]:=m7
theorem bWi(f:Int)(a:TyV)(ha:WfT a.t):cY prog 44 [l5 f,.agg #[k7 a.B,.bool a.known,k7 a.values]] [] [tyF a] (λ(x:TyV)=> .tuple #[tyC x,k9 (hJ f a.t).2]) (λ_=>[]) (λ(x:TyV)=>[tyF x,Fact.pure ((hJ f a.t).2=0->x.t=(hJ f a.t).1)]):=by
 have hT:=dL;have O:=oV ha;have N:=wZ ha;generalize e:hJ f a.t=r;refine j8 func44 ntmps44 ?_;intro β hM;refine bP<|bB (cO a.B) (jK d7) ?_;refine cE a.B mT0 λK=>bB (cO a.values) (jM e6)<|cE a.values mT0 λJ=>?_;refine one ?_;refine j6 λR=>?_;refine j4 rW λQ=>?_;refine g16 ?_;refine gJ (λhc14=>?_) λhc14=>?_
 .refine g9 ?_;refine fA (λhc19=>?_) λhc19=>?_
  .refine g2 ?_;refine ss (j7 (yJ)) ?_;refine g8 ?_;have hr:=e.symm.trans (mo_a ‹_› m0);subst hr;exact rs2 (⟨⟨none,0,[]⟩,false,⟨none,0,[]⟩⟩:TyV) ⟨(bR (x:=⟨⟨none,0,[]⟩,false,⟨none,0,[]⟩⟩) bN bN),j2 (λh=>absurd (show(90:Int)=0 from h) m9),j1⟩
  refine g10 ?_;refine iK (λC=>?_) λC=>?_
  .refine g2 ?_;refine ss (j7 (yJ)) ?_;refine g8 ?_;have hr:=e.symm.trans (mo_b ‹_› m0 ‹_›);subst hr;exact rs2 (⟨⟨none,0,[]⟩,false,⟨none,0,[]⟩⟩:TyV) ⟨(bR (x:=⟨⟨none,0,[]⟩,false,⟨none,0,[]⟩⟩) bN bN),j2 (λh=>absurd (show(92:Int)=0 from h) m9),j1⟩
  refine g4 ?_;have I:=wf_one ha ‹_› m0;refine g3 ?_;obtain⟨x3,g⟩:=gx a.values.A 0;refine ss (ixs 0) ?_;refine ss (gI g 0) ?_;refine bG (dG (Has.each d7 (j3 g))) λs=>?_;refine j5 func71 (bWs (p:=x3) s) ⟨(Has.each d7 (j3 g)),j1⟩ λ_=>?_;refine g3 ?_;refine iK (λhc30=>?_) λhc30=>?_
  .refine g2 ?_;refine ss (j7 (yJ)) ?_;refine g8 ?_;have hr:=e.symm.trans (mo_c ‹_› m0 ‹_› g ‹_›);subst hr;exact rs2 (⟨⟨none,0,[]⟩,false,⟨none,0,[]⟩⟩:TyV) ⟨(bR (x:=⟨⟨none,0,[]⟩,false,⟨none,0,[]⟩⟩) bN bN),j2 (λh=>absurd (show(93:Int)=0 from h) m9),j1⟩
  refine g6 ?_;refine ss (j7 (wQ _ _ _)) ?_;refine g7 ?_;have hr:=e.symm.trans (mo_d9 ‹_› m0 ‹_› I g ‹_›);subst hr;exact rs2 (⟨a.values,false,⟨none,0,[]⟩⟩:TyV) ⟨(bR (x:=⟨a.values,false,⟨none,0,[]⟩⟩) d9 bN),j2 (λ_=>rfl),j1⟩
 refine g6 ?_;refine gJ (λB=>?_) λB=>?_
 .refine bP<|cK _ _ [k8,u0,u5,u6,A02,A06,A42,A01,A68,A04] cN o8 (.c1 .nil) bA.self ?_;refine g6 ?_;refine j5 func68 (kJ (((a.B.A.length:Nat):Int))) j1 λ⟨A6,c7⟩=>?_;refine g2 ?_;refine k6 (m:=⟨A6,c7,bY (((a.B.A.length:Nat):Int))⟩) λM=>?_;refine dN (E:=bV) (xs:=[(⟨A6,c7,bY (((a.B.A.length:Nat):Int))⟩:PolV)]) .head aa5<|bS .head<|bB (cL [(⟨A6,c7,bY (((a.B.A.length:Nat):Int))⟩:PolV)]) (gL d8) ?_;refine one ?_;refine stM rfl (j7 (vG _ _ _ _ _ _ _)) ?_;refine g9 ?_;obtain rfl:=e.symm.trans (mo_e ‹_›);exact rs2 (⟨⟨(some ⟨M,0,none⟩),1,[(⟨A6,c7,bY (((a.B.A.length:Nat):Int))⟩:PolV)]⟩,true,a.B⟩:TyV) ⟨(bR (x:=⟨⟨(some ⟨M,0,none⟩),1,[(⟨A6,c7,bY (((a.B.A.length:Nat):Int))⟩:PolV)]⟩,true,a.B⟩) (bZ d8 d7 (B0 1)) f5),j2 (λ_=>rfl),j1⟩
 refine g6 ?_;refine gJ (λhc45=>?_) λhc45=>?_
 .refine g2 ?_;refine j5 func68 (kJ (((1:Nat):Int))) j1 λ⟨A9,c10⟩=>?_;refine g10 ?_;refine cI (ι:=Nat×PolV) [(3,_),(4,_)] ⟨rfl,rfl,j1⟩ (λ⟨i,p⟩=>[(6,.slice p.I p.A.length p.cap),(7,.int .i64 (i:Nat))]) (λ_=>[]) (λ⟨i,p⟩=>[Fact.pure (i<=a.B.A.length/\bDy (bO a.B.A) p.A i),jU p]) (λ⟨i,p⟩=>a.B.A.length-i) (0,⟨A9,c10,bY (((1:Nat):Int))⟩) ⟨rfl,rfl,j1⟩ .nil ⟨j2 (⟨m0,bVr _⟩),d7,j1⟩ ?_;rintro⟨i,p⟩;dsimp only;refine bG d7 λb=>?_;refine g10 ?_;refine fA (λA=>?_) λA=>?_
  .refine g10 ?_;obtain⟨o,c⟩:=gx a.B.A i;refine ss (ixs i) ?_;refine ss (gI c 0) ?_;refine bG (dG d8) λn=>bG (dG (Has.each e9 (j3 c))) λj=>?_;refine j5 func72 (refMul9 (p:=p) (q:=o) n j) ⟨d8,(Has.each e9 (j3 c)),j1⟩ λ⟨A13,c14⟩=>?_;refine g14 ?_;refine tL (λz=>?_) λz=>?_
   .refine g2 ?_;refine ss (j7 (yJ)) ?_;refine g13 ?_;obtain rfl:=e.symm.trans (mo_f ‹_› (rav_bad b.2 c ‹_›));exact rs2 (⟨⟨none,0,[]⟩,false,⟨none,0,[]⟩⟩:TyV) ⟨(bR (x:=⟨⟨none,0,[]⟩,false,⟨none,0,[]⟩⟩) bN bN),j2 (λh=>absurd (show(95:Int)=0 from h) m9),j1⟩
   refine g11 ?_;refine inc (i+1) ?_;refine g3 ?_;exact bk2 (i+1,⟨A13,c14,(nA p.A o.A).1⟩) ⟨j2 (⟨by dsimp only;omega,rav_step b.2 c ae9⟩),d7,j1⟩
  refine g8 ?_;refine k6 (m:=p) λG=>?_;refine dN (E:=bV) (xs:=[(p:PolV)]) .head aa5<|bS .head<|bB (cL [(p:PolV)]) (gL d9) ?_;refine g4 ?_;refine ss (j7 (vG _ _ _ _ _ _ _)) ?_;refine g7 ?_;have hr:=e.symm.trans (mo_g ‹_› (rav_end b.2 m0));subst hr;exact rs2 (⟨⟨(some ⟨G,0,none⟩),1,[(p:PolV)]⟩,a.known,a.values⟩:TyV) ⟨(bR (x:=⟨⟨(some ⟨G,0,none⟩),1,[(p:PolV)]⟩,a.known,a.values⟩) (bZ d8 d7 (B0 1)) f4),j2 (λ_=>rfl),j1⟩
 refine g6 ?_;refine gJ (λy=>?_) λy=>?_
 .refine g9 ?_;refine fA (λw=>?_) λw=>?_
  .refine g3 ?_;refine j5 func73 (bHb a.values m0) ⟨d9,j1⟩ λ⟨A18,c19⟩=>?_;refine g14 ?_;have hr:=e.symm.trans (mo_h ‹_› m0);subst hr;exact rs2 (⟨a.B,a.known,⟨A18,c19,a.values.A.reverse⟩⟩:TyV) ⟨(bR (x:=⟨a.B,a.known,⟨A18,c19,a.values.A.reverse⟩⟩) e9 d7),j2 (λ_=>rfl),j1⟩
  refine g12 ?_;have hr:=e.symm.trans (mo_i ‹_› m0);subst hr;exact rs2 (⟨a.B,a.known,a.values⟩:TyV) ⟨(bR (x:=⟨a.B,a.known,a.values⟩) e8 d9),j2 (λ_=>rfl),j1⟩
 refine g6 ?_;refine gJ (λhc87=>?_) λhc87=>?_
 .refine g4 ?_;refine j5 func73 (bHb a.B m0) ⟨e8,j1⟩ λ⟨A20,c21⟩=>?_;refine g14 ?_;obtain rfl:=e.symm.trans (mo_j ‹_›);exact rs2 (⟨⟨A20,c21,a.B.A.reverse⟩,a.known,a.values⟩:TyV) ⟨(bR (x:=⟨⟨A20,c21,a.B.A.reverse⟩,a.known,a.values⟩) d7 e6),j2 (λ_=>rfl),j1⟩
 refine g6 ?_;refine gJ (λv=>?_) λv=>?_
 .refine g10 ?_;obtain rfl:=e.symm.trans (mo_k ‹_›);exact rs2 (⟨a.B,a.known,a.values⟩:TyV) ⟨(bR (x:=⟨a.B,a.known,a.values⟩) e8 d9),j2 (λ_=>rfl),j1⟩
 refine g6 ?_;refine gJ (λu=>?_) λu=>?_
 .refine g2 ?_;refine k6 (m:=⟨none,0,[]⟩) λD=>?_;refine dN (E:=bV) (xs:=[(⟨none,0,[]⟩:PolV)]) .head aa5<|bS .head<|bB (cL [(⟨none,0,[]⟩:PolV)]) (gL bIp) ?_;refine ss (j7 (xU _ _ _ _)) ?_;refine j4 rW λP=>?_;refine g7 ?_;refine j5 func74 (bEs 2 (⟨⟨none,0,[]⟩,true,⟨(some ⟨D,0,none⟩),1,[(⟨none,0,[]⟩:PolV)]⟩⟩:TyV) a (bHo ha)) ⟨(bR (x:=⟨⟨none,0,[]⟩,true,⟨(some ⟨D,0,none⟩),1,[(⟨none,0,[]⟩:PolV)]⟩⟩) bN (bZ d8 d7 (B0 1))),f5,j1⟩ λd=>?_;refine bG d8 λhE=>?_;have L:(bO d.l.A,d.k)=lP (some yO) ⟨[],true,[[]]⟩ a.t:=by have h:=hE;rwa[op_2 rfl]at h
  refine g13 ?_;refine ss (j7 (vG _ _ _ _ _ _ _)) ?_;refine g7 ?_;obtain rfl:=e.symm.trans (mo_l ‹_› L);exact rs2 (⟨a.B,d.k,d.l⟩:TyV) ⟨(bR (x:=⟨a.B,d.k,d.l⟩) f7 d7),j2 (λ_=>rfl),j1⟩
 refine g7 ?_;refine ss (j7 (wQ _ _ _)) ?_;refine g5 ?_;obtain rfl:=e.symm.trans (mo_m ‹_› ‹_› ‹_› ‹_› ‹_› ‹_› ‹_›);exact rs2 (⟨a.B,false,⟨none,0,[]⟩⟩:TyV) ⟨(bR (x:=⟨a.B,false,⟨none,0,[]⟩⟩) e8 bN),j2 (λ_=>rfl),j1⟩
theorem rho9_spec(a b:TyV)(ha:WfT a.t)(hb:WfT b.t):cY prog 75 [.agg #[k7 a.B,.bool a.known,k7 a.values],.agg #[k7 b.B,.bool b.known,k7 b.values]] [] [tyF a,tyF b] (λ(x:TyV)=> .tuple #[tyC x,k9 (zC a.t b.t).2]) (λ_=>[]) (λ(x:TyV)=>[tyF x,Fact.pure ((zC a.t b.t).2=0->x.t=(zC a.t b.t).1)]):=by
 have hT:=dL;have B:=oV ha;have z:=wZ ha;have A:=oV hb;have y:=wZ hb;generalize n:zC a.t b.t=r;refine j8 func75 ntmps75 ?_;intro β hM;refine bP<|bB (cO a.B) (jK d7) ?_;refine cE a.B mT0 λu=>bB (cO a.values) (jM e6)<|cE a.values mT0 λq=>bB (cO b.B) (jK f4)<|cE b.B mT0 λhc_bs=>bB (cO b.values) (jM f9)<|cE b.values mT0 λo=>?_;refine one ?_;refine j6 λE=>?_;refine j6 λD=>?_;refine j4 rW λC=>?_;refine g12 ?_;refine fA (λhc11=>?_) λhc11=>?_
 .refine g2 ?_;refine ss (j7 (yJ)) ?_;refine g6 ?_;have hr:=n.symm.trans (rhT_a (lenT _ m0));subst hr;exact rs2 (⟨⟨none,0,[]⟩,false,⟨none,0,[]⟩⟩:TyV) ⟨(bR (x:=⟨⟨none,0,[]⟩,false,⟨none,0,[]⟩⟩) bN bN),j2 (λh=>absurd (show(90:Int)=0 from h) m9),j1⟩
 refine g10 ?_;refine iK (λhc15=>?_) λhc15=>?_
 .refine g2 ?_;refine ss (j7 (yJ)) ?_;refine g6 ?_;have hr:=n.symm.trans (rhT_b (bLq _ m0) ‹_›);subst hr;exact rs2 (⟨⟨none,0,[]⟩,false,⟨none,0,[]⟩⟩:TyV) ⟨(bR (x:=⟨⟨none,0,[]⟩,false,⟨none,0,[]⟩⟩) bN bN),j2 (λh=>absurd (show(92:Int)=0 from h) m9),j1⟩
 refine g9 ?_;refine cI (ι:=Nat) [(2,_),(3,_),(4,_)] ⟨rfl,rfl,rfl,j1⟩ (λi=>[(6,.int .i64 (i:Nat))]) (λ_=>[]) (λi=>[Fact.pure (i<=a.values.A.length/\bDx (λv=>!lC v) a.values.A i)]) (λi=>a.values.A.length-i) 0 ⟨rfl,j1⟩ .nil ⟨j2 (⟨m0,yZ _ _⟩),j1⟩ ?_;rintro i;refine bG d7 λe=>?_;refine g10 ?_;refine fA (λm=>?_) λm=>?_
 .refine g9 ?_;obtain⟨x4,d⟩:=gx a.values.A i;refine ss (ixs i) ?_;refine ss (gI d 0) ?_;refine bG (dG (Has.each f4 (j3 d))) λj=>?_;refine j5 func71 (bWs (p:=x4) j) ⟨(Has.each f4 (j3 d)),j1⟩ λ_=>?_;refine g3 ?_;refine iK (λhc30=>?_) λhc30=>?_
  .refine g2 ?_;refine ss (j7 (yJ)) ?_;refine g10 ?_;have hr:=n.symm.trans (rhT_c (bLq _ m0) ‹_› (bIx (f:=(λv=>!lC v)) d (not9f ‹_›)));subst hr;exact rs2 (⟨⟨none,0,[]⟩,false,⟨none,0,[]⟩⟩:TyV) ⟨(bR (x:=⟨⟨none,0,[]⟩,false,⟨none,0,[]⟩⟩) bN bN),j2 (λh=>absurd (show(93:Int)=0 from h) m9),j1⟩
  refine g6 ?_;refine inc (i+1) ?_;refine g3 ?_;exact bk2 (i+1) ⟨j2 (⟨m0,bCv e.2 d (not9t ‹_›)⟩),j1⟩
 refine g7 ?_;have k:=bIy e.2 m0;refine g5 ?_;refine cI (ι:=Nat) [(2,_),(3,_),(4,_)] ⟨rfl,rfl,rfl,j1⟩ (λi=>[(7,.int .i64 (i:Nat))]) (λ_=>[]) (λi=>[Fact.pure (i<=b.B.A.length/\bDx (λs=>!fU s 1) b.B.A i)]) (λi=>b.B.A.length-i) 0 ⟨rfl,j1⟩ .nil ⟨j2 (⟨m0,yZ _ _⟩),j1⟩ ?_;rintro i;refine bG d7 λhinv11=>?_;refine g10 ?_;refine fA (λl=>?_) λl=>?_
 .refine g9 ?_;obtain⟨w,c⟩:=gx b.B.A i;refine ss (ixs i) ?_;refine ss (gI c 0) ?_;refine bG (dG (Has.each e8 (j3 c))) λg=>?_;refine j5 func112 (bSq (p:=w) 1 g) ⟨(Has.each e8 (j3 c)),j1⟩ λ_=>?_;refine g3 ?_;refine iK (λhc45=>?_) λhc45=>?_
  .refine g2 ?_;refine ss (j7 (yJ)) ?_;refine g10 ?_;have hr:=n.symm.trans (rhT_d (bLq _ m0) ‹_› k (bIx (f:=(λs=>!fU s 1)) c (not9f ‹_›)));subst hr;exact rs2 (⟨⟨none,0,[]⟩,false,⟨none,0,[]⟩⟩:TyV) ⟨(bR (x:=⟨⟨none,0,[]⟩,false,⟨none,0,[]⟩⟩) bN bN),j2 (λh=>absurd (show(94:Int)=0 from h) m9),j1⟩
  refine g6 ?_;refine inc (i+1) ?_;refine g3 ?_;exact bk2 (i+1) ⟨j2 (⟨m0,bCv hinv11.2 c (not9t ‹_›)⟩),j1⟩
 refine g9 ?_;refine ss (j7 (wQ _ _ _)) ?_;refine g5 ?_;have hr:=n.symm.trans (rhT_e (bLq _ m0) ‹_› k (bIy hinv11.2 m0));subst hr;exact rs2 (⟨a.values,false,⟨none,0,[]⟩⟩:TyV) ⟨(bR (x:=⟨a.values,false,⟨none,0,[]⟩⟩) f9 bN),j2 (λ_=>rfl),j1⟩
theorem cat9_spec(a b:TyV)(ha:WfT a.t)(hb:WfT b.t):cY prog 77 [.agg #[k7 a.B,.bool a.known,k7 a.values],.agg #[k7 b.B,.bool b.known,k7 b.values]] [] [tyF a,tyF b] (λ(x:TyV)=> .tuple #[tyC x,k9 (zQ a.t b.t).2]) (λ_=>[]) (λ(x:TyV)=>[tyF x,Fact.pure ((zQ a.t b.t).2=0->x.t=(zQ a.t b.t).1)]):=by
 have hT:=dL;have hsa:=oV ha;have hva:=wZ ha;have hsb:=oV hb;have Z:=wZ hb;generalize w:zQ a.t b.t=r;refine j8 func77 ntmps77 ?_;intro β hM;refine bP<|bB (cO a.B) (jK d7) ?_;refine cE a.B mT0 λQ=>bB (cO a.values) (jM e6)<|cE a.values mT0 λP=>bB (cO b.B) (jK f4)<|cE b.B mT0 λhc_bs=>bB (cO b.values) (jM f9)<|cE b.values mT0 λO=>?_;refine one ?_;refine j6 λb1=>?_;refine j6 λb2=>?_;refine j4 rW λb3=>?_;refine g18 ?_;refine vM (ι:=Sl PolV) [(2,_),(3,_),(4,_),(7,_)] ⟨rfl,rfl,rfl,rfl,j1⟩ (λi=>[(6,.slice i.I i.A.length i.cap)]) (λi=>[]) .nil (λi=>[Fact.pure (fD a.t.B=bO i.A/\1<=i.A.length/\i.A.length<=4),cO i]) ?_ ?_
 .refine g7 ?_;refine gJ (λI=>?_) λI=>?_
  .refine one ?_;refine j5 func68 (kJ (((1:Nat):Int))) j1 λ⟨A4,c5⟩=>?_;refine k6 (m:=⟨A4,c5,bY (((1:Nat):Int))⟩) λY=>?_;refine dN (E:=bV) (xs:=[(⟨A4,c5,bY (((1:Nat):Int))⟩:PolV)]) .head aa5<|bS .head<|bB (cL [(⟨A4,c5,bY (((1:Nat):Int))⟩:PolV)]) (gL d8) ?_;refine g2 ?_;refine bB (cO ⟨(some ⟨Y,0,none⟩),1,[(⟨A4,c5,bY (((1:Nat):Int))⟩:PolV)]⟩) ((bZ d8 d7 (B0 1))) ?_;exact iT (⟨(some ⟨Y,0,none⟩),1,[(⟨A4,c5,bY (((1:Nat):Int))⟩:PolV)]⟩:Sl PolV) ⟨rfl,j1⟩ ⟨rfl,rfl,rfl,rfl,j1⟩ (.c0 (.c0 (.c0 .nil))) ⟨j2 (⟨by first|exact pI m0|exact nP m0,by first|exact⟨B0 1,(by decide:1<=4)⟩|exact⟨m0,m0⟩⟩),d7,j1⟩ (bA.drop 4)
  refine one ?_;refine bB (cO a.B) (i6) ?_;exact iT (a.B:Sl PolV) ⟨rfl,j1⟩ ⟨rfl,rfl,rfl,rfl,j1⟩ (.c0 (.c0 (.c0 .nil))) ⟨j2 (⟨by first|exact pI m0|exact nP m0,by first|exact⟨B0 1,(by decide:1<=4)⟩|exact⟨m0,m0⟩⟩),d7,j1⟩ (bA.drop 1)
 rintro i;refine bG d7 λhjn=>?_;obtain⟨o,W,V⟩:=hjn;refine cE i mT1 λN=>?_;refine g2 ?_;refine vM (ι:=Sl PolV) [(2,_),(3,_),(4,_),(6,_)] ⟨rfl,rfl,rfl,rfl,j1⟩ (λc=>[(7,.slice c.I c.A.length c.cap)]) (λc=>[]) .nil (λc=>[Fact.pure (fD b.t.B=bO c.A/\1<=c.A.length/\c.A.length<=4),cO c]) ?_ ?_
 .refine g7 ?_;refine gJ (λG=>?_) λG=>?_
  .refine one ?_;refine j5 func68 (kJ (((1:Nat):Int))) j1 λ⟨A7,c8⟩=>?_;refine k6 (m:=⟨A7,c8,bY (((1:Nat):Int))⟩) λX=>?_;refine dN (E:=bV) (xs:=[(⟨A7,c8,bY (((1:Nat):Int))⟩:PolV)]) .head aa5<|bS .head<|bB (cL [(⟨A7,c8,bY (((1:Nat):Int))⟩:PolV)]) (gL d8) ?_;refine g2 ?_;refine bB (cO ⟨(some ⟨X,0,none⟩),1,[(⟨A7,c8,bY (((1:Nat):Int))⟩:PolV)]⟩) ((bZ d8 d7 (B0 1))) ?_;exact iT (⟨(some ⟨X,0,none⟩),1,[(⟨A7,c8,bY (((1:Nat):Int))⟩:PolV)]⟩:Sl PolV) ⟨rfl,j1⟩ ⟨rfl,rfl,rfl,rfl,j1⟩ (.c0 (.c0 (.c0 .nil))) ⟨j2 (⟨by first|exact pI m0|exact nP m0,by first|exact⟨B0 1,(by decide:1<=4)⟩|exact⟨m0,m0⟩⟩),d7,j1⟩ (bA.drop 4)
  refine one ?_;refine bB (cO b.B) (f7) ?_;exact iT (b.B:Sl PolV) ⟨rfl,j1⟩ ⟨rfl,rfl,rfl,rfl,j1⟩ (.c0 (.c0 (.c0 .nil))) ⟨j2 (⟨by first|exact pI m0|exact nP m0,by first|exact⟨B0 1,(by decide:1<=4)⟩|exact⟨m0,m0⟩⟩),d7,j1⟩ (bA.drop 1)
 rintro c;refine bG d7 λhjn=>?_;obtain⟨n,U,R⟩:=hjn;refine cE c mT1 λM=>?_;refine g3 ?_;refine cK _ _ [k8,u0,u5,u9,A00,u6,A02,A01,A03,A04,A73,A07,A09] cN o8 (.c0 (.c0 (.c0 .nil))) bA.self ?_;refine g6 ?_;refine xJ (λA=>?_) λA=>?_
 .refine g14 ?_;refine ss (j7 (yJ)) ?_;refine g6 ?_;have hr:=w.symm.trans (yQ o n ai4);subst hr;exact rs2 (⟨⟨none,0,[]⟩,false,⟨none,0,[]⟩⟩:TyV) ⟨(bR (x:=⟨⟨none,0,[]⟩,false,⟨none,0,[]⟩⟩) bN bN),j2 (λh=>absurd (show(91:Int)=0 from h) m9),j1⟩
 refine one ?_;refine stM rfl (dU hT (k:=1) rfl rfl rfl rfl rfl rfl m0) ?_;refine one ?_;refine stM rfl (dU hT (k:=1) rfl rfl rfl rfl rfl rfl m0) ?_;refine one ?_;refine bB (bV.sl (.slice (iJ i.I 1 bV.size i.cap) (i.A.length-1) (i.cap-1)) (i.A.drop 1)) (jQ e8 ad3 ab9)<|bB (cL (i.A.drop 1)) (iB 1 e8)<|bB (bV.sl (.slice (iJ c.I 1 bV.size c.cap) (c.A.length-1) (c.cap-1)) (c.A.drop 1)) (jQ e6 ad3 ab9)<|bB (cL (c.A.drop 1)) (iB 1 e6) ?_;have J:=vZ (iJ i.I 1 bV.size i.cap) (iJ c.I 1 bV.size c.cap) (i.cap-1) (c.cap-1) (i.A.drop 1) (c.A.drop 1) ae7;simp only[List.length_drop]at J;refine j5 func46 J ⟨e6,d9,d8,d7,j1⟩ λ_=>?_;refine g5 ?_;refine iK (λD=>?_) λD=>?_
 .refine g2 ?_;refine ss (j7 (yJ)) ?_;refine g6 ?_;have hr:=w.symm.trans (yQ o n ai4);subst hr;exact rs2 (⟨⟨none,0,[]⟩,false,⟨none,0,[]⟩⟩:TyV) ⟨(bR (x:=⟨⟨none,0,[]⟩,false,⟨none,0,[]⟩⟩) bN bN),j2 (λh=>absurd (show(91:Int)=0 from h) m9),j1⟩
 refine g3 ?_;refine cK _ _ [k8,u0,u5,u9,A00,u6,A17,A01,A03,A04,A08,A07] cN o8 (.c0 (.c0 (.c0 .nil))) bA.self ?_;refine one ?_;obtain⟨x10,e⟩:=gx i.A 0;refine stM rfl (ixs 0) ?_;refine stM rfl (gI e 0) ?_;refine one ?_;obtain⟨f,d⟩:=gx c.A 0;refine stM rfl (ixs 0) ?_;refine stM rfl (gI d 0) ?_;refine one ?_;refine bG (dG (Has.each f5 (j3 e))) λu=>bG (dG (Has.each e7 (j3 d))) λs=>?_;refine j5 func110 (refAdd9 (p:=x10) (q:=f) u s) ⟨(Has.each f5 (j3 e)),(Has.each e7 (j3 d)),j1⟩ λ⟨A14,c15⟩=>?_;refine g15 ?_;refine tL (λC=>?_) λC=>?_
 .refine g2 ?_;refine ss (j7 (yJ)) ?_;refine g6 ?_;have hr:=w.symm.trans (bTj o n m0 (of_decide_eq_true ‹_›) e d ‹_›);subst hr;exact rs2 (⟨⟨none,0,[]⟩,false,⟨none,0,[]⟩⟩:TyV) ⟨(bR (x:=⟨⟨none,0,[]⟩,false,⟨none,0,[]⟩⟩) bN bN),j2 (λh=>absurd (show(95:Int)=0 from h) m9),j1⟩
 refine g5 ?_;refine k6 (m:=⟨A14,c15,(cD x10.A f.A 1).1⟩) λb18=>?_;refine dN (E:=bV) (xs:=[(⟨A14,c15,(cD x10.A f.A 1).1⟩:PolV)]) .head aa5 ?_;refine one ?_;refine ss (dU hT (k:=1) rfl rfl rfl rfl rfl rfl m0) ?_;refine bB (bV.sl (.slice (iJ c.I 1 bV.size c.cap) (c.A.length-1) (c.cap-1)) (c.A.drop 1)) (jQ e9 ad3 ab9)<|bB (cL (c.A.drop 1)) (iB 1 e9) ?_;refine cV .head (bE d8) rfl rfl rfl rfl rfl rfl s9 p6 λl j=>?_;refine fS .head λg=>bS .head<|bB (cL ([(⟨A14,c15,(cD x10.A f.A 1).1⟩:PolV)]++(c.A.drop 1))) (hU (gL e6) d8) ?_;refine ss (j7 (wQ _ _ _)) ?_;refine j4 rW λb21=>?_;refine g9 ?_;refine cF (λz=>?_) (λz=>?_)
 .refine g4 ?_;refine cF (λy=>?_) (λy=>?_)
  .refine g7 ?_;refine inc (a.values.A.length+b.values.A.length) ?_;refine g4 ?_;refine bKs (λB=>?_) λB=>?_
   .refine g6 ?_;refine cK _ _ [u0,u5,A00,u6,(false,0),A06,A17,A01,A68] cN o8 (.c1 (.c1 (.c1 .nil))) bA.self ?_;refine g5 ?_;refine uG rfl rfl rfl rfl λb22=>?_;refine g2 ?_;refine cV .head (bE (Has.of (u8 (u8 (u8 mT0))))) rfl rfl rfl rfl rfl rfl s9 p6 λA23 c24=>?_;refine g2 ?_;refine cV .head (bE (Has.of (u8 (u8 mT2)))) rfl rfl rfl rfl rfl rfl s9 p6 λL K=>?_;refine g8 ?_;refine fS kT1 λv=>bS kT1<|bB (cL (([]++a.values.A)++b.values.A)) (hU (Has.of (u8 (u8 (u8 mT0)))) (Has.of (u8 (u8 mT2)))) ?_;refine g7 ?_;have hr:=w.symm.trans ((bSr o n m0 (of_decide_eq_true ‹_›) e d m0 ‹_› ‹_› ae6).trans (by rw[show a.t.values++b.t.values=bO (([]++a.values.A)++b.values.A)from (qS _ _).symm]));subst hr;exact rs2 (⟨⟨l,j,([(⟨A14,c15,(cD x10.A f.A 1).1⟩:PolV)]++(c.A.drop 1))⟩,true,⟨L,K,(([]++a.values.A)++b.values.A)⟩⟩:TyV) ⟨(bR (x:=⟨⟨l,j,([(⟨A14,c15,(cD x10.A f.A 1).1⟩:PolV)]++(c.A.drop 1))⟩,true,⟨L,K,(([]++a.values.A)++b.values.A)⟩⟩) (bZ e6 d9 (g)) (bZ d8 d7 (v))),j2 (λ_=>rfl),j1⟩
   refine g10 ?_;have hr:=w.symm.trans (qJ o n m0 (of_decide_eq_true ‹_›) e d m0 o6);subst hr;exact rs2 (⟨⟨l,j,([(⟨A14,c15,(cD x10.A f.A 1).1⟩:PolV)]++(c.A.drop 1))⟩,false,⟨none,0,[]⟩⟩:TyV) ⟨(bR (x:=⟨⟨l,j,([(⟨A14,c15,(cD x10.A f.A 1).1⟩:PolV)]++(c.A.drop 1))⟩,false,⟨none,0,[]⟩⟩) (bZ d8 d7 (g)) bN),j2 (λ_=>rfl),j1⟩
  refine g22 ?_;have hr:=w.symm.trans (qJ o n m0 (of_decide_eq_true ‹_›) e d m0 o6);subst hr;exact rs2 (⟨⟨l,j,([(⟨A14,c15,(cD x10.A f.A 1).1⟩:PolV)]++(c.A.drop 1))⟩,false,⟨none,0,[]⟩⟩:TyV) ⟨(bR (x:=⟨⟨l,j,([(⟨A14,c15,(cD x10.A f.A 1).1⟩:PolV)]++(c.A.drop 1))⟩,false,⟨none,0,[]⟩⟩) (bZ d8 d7 (g)) bN),j2 (λ_=>rfl),j1⟩
 refine g26 ?_;have hr:=w.symm.trans (qJ o n m0 (of_decide_eq_true ‹_›) e d m0 o6);subst hr;exact rs2 (⟨⟨l,j,([(⟨A14,c15,(cD x10.A f.A 1).1⟩:PolV)]++(c.A.drop 1))⟩,false,⟨none,0,[]⟩⟩:TyV) ⟨(bR (x:=⟨⟨l,j,([(⟨A14,c15,(cD x10.A f.A 1).1⟩:PolV)]++(c.A.drop 1))⟩,false,⟨none,0,[]⟩⟩) (bZ d8 d7 (g)) bN),j2 (λ_=>rfl),j1⟩
def sH (k:Bs):Prop:= ∀r,k≠lU++r/\k≠nIn++r
theorem word_plain{s:Bs}(h:WordB s):sH s:=λr=>by
 have a:kL 32=false:=m9
 constructor
 all_goals
  intro e;have:=h.all 32 (by rw[e];simp[lU,nIn]);rw[a]at this;cases this
theorem bQf{s:Bs}(h:dQ s=true):sH s:=word_plain (uN h)
theorem step_name{st st':List gB}{x:fE}(h:jO st x=some st')(k:x.H=2):dQ x.name=true:=by
 unfold jO at h;rw[if_pos (.inr k)]at h;unfold operandS at h;split at h
 .split at h
  .rename_i a;exact a.2.2
  .simp at h
 .rename_i h2;exact absurd k h2
theorem bPu: ∀{l:List fE} {st st':List gB},gK l st=some st'-> ∀x∈l,x.H=2->dQ x.name=true
 |[],_,_,_,x,hx=>by simp at hx
 |y::l,st,st',h,x,hx=>by
  rw[gK]at h
  cases h1:jO st y with
  |none=>rw[h1]at h;cases h
  |some s1=>
   rw[h1]at h
   rcases E2.1 hx with rfl|hx
   .exact step_name h1
   .exact bPu h x hx
theorem bWm{l:List fE}{m:Nat}{t:Bs}(h:gT l m=some t): ∀x∈l,x.H=2->dQ x.name=true:=by
 unfold gT at h;split at h
 .cases h
 .split at h
  .rename_i hq;exact bPu hq
  .cases h
theorem bQy: ∀{ls:List nC} {o o':Bs},gN ls o=(o',true)-> ∀l∈ls,∀x∈l.K,x.H=2->dQ x.name=true
 |[],_,_,_,l,a=>by simp at a
 |[m],o,o',h,l,a=>by
  rw[K7.1 a];simp only[gN]at h
  cases hx:gT m.K 255 with
  |none=>rw[hx]at h;simp at h
  |some t=>exact bWm hx
 |m::n::ls,o,o',h,l,a=>by
  have b:(match gT m.K 254 with
    |none=>(o,false)
    |some t=>if dQ m.name=false then (o,false)else gN (n::ls) (o++(((m.name++[58,32])++t)++[10])))=(o',true):=h
  cases hx:gT m.K 254 with
  |none=>rw[hx]at b;simp at b
  |some t=>
   rw[hx]at b;simp only at b;split at b
   .simp at b
   .rcases E2.1 a with rfl|a
    .exact bWm hx
    .exact bQy b l a
theorem bAk: ∀{ds:List oH} {acc t:Bs},lS ds acc=some t-> ∀d∈ds,d.name=[]\/dQ d.name=true
 |[],_,_,_,d,a=>by simp at a
 |e::ds,acc,t,h,d,a=>by
  rw[lS]at h;split at h
  .rename_i he
   rcases E2.1 a with rfl|a
   .exact .inl he
   .exact bAk h d a
  .split at h
   .rename_i b
    rcases E2.1 a with rfl|a
    .exact .inr b.2
    .exact bAk h d a
   .cases h
theorem bIf: ∀{xs:List iH} {o o':Bs},nZ xs o=(o',true)-> ∀x∈xs,∀d∈x.B,d.name=[]\/dQ d.name=true
 |[],_,_,_,x,hx=>by simp at hx
 |y::xs,o,o',h,x,hx=>by
  rw[nZ]at h
  cases hi:inputS y with
  |none=>rw[hi]at h;simp at h
  |some t=>
   rw[hi]at h;simp only at h
   rcases E2.1 hx with rfl|hx
   .unfold inputS at hi;split at hi
    .cases hi
    .exact bAk hi
   .exact bIf h x hx
theorem bOi: ∀{ds:List oH} {out:List Bs},(∀s∈out,dQ s=true)->(∀d∈ds,d.name=[]\/dQ d.name=true)-> ∀s∈iL ds out,dQ s=true
 |[],_,h,_=>h
 |d::ds,out,h,k=>by
  rw[iL];refine bOi (λs hs=>?_) (λx hx=>k x (E4 _ hx));split at hs
  .exact h s hs
  .rename_i hn
   rcases E3.1 hs with hs|hs
   .exact h s hs
   .rw[K7.1 hs]
    rcases k d (E8 ..)with e|e
    .exact absurd (.inl e) hn
    .exact e
theorem right_names{p:jB}(h:(dT p).2=true):(∀l∈p.G,∀x∈l.K,x.H=2->sH x.name)/\ ∀s∈dO p,sH s:=by
 unfold dT at h;split at h
 .cases h
 .cases hi:nZ p.C []with
  |mk o b=>
   rw[hi]at h
   cases b with
   |false=>cases h
   |true=>
    refine⟨λl c x hx k=>bQf (bQy (o':=(gN p.G o).1) (Prod.ext rfl h) l c x hx k),λs hs=>bQf (bOi (λs hs=>(by cases hs)) (λd a=>?_) s hs)⟩;obtain⟨x,hx,a⟩:=Z4.1 a;exact bIf hi x hx d a
def bNf:List nC->List TyP->iA->iA
 |l::ls,t::L,N=>bNf ls L ((lU++l.name,t)::N)
 |_,_,N=>N
theorem bOf(ls:List nC)(N:iA):bNf ls [] N=N:=by cases ls<;>rfl
theorem bOc: ∀{ls:List nC} {L:List TyP} {k:Nat} {l:nC} {t:TyP} {N:iA},ls[k]?=some l->L[k]?=some t->bNf ls (L.take (k+1)) N=(lU++l.name,t)::bNf ls (L.take k) N
 |x::ls,y::L,0,l,t,N,h1,h2=>by
  cases h1;cases h2;show bNf ls (L.take 0) _=_;rw[Z5,bOf];rfl
 |x::ls,y::L,k+1,l,t,N,h1,h2=>by
  show bNf ls (L.take (k+1)) _=_::bNf ls (L.take k) _;exact bOc (ls:=ls) (L:=L) h1 h2
 |[],_,_,_,_,_,h1,_=>by simp at h1
 |_::_,[],_,_,_,_,_,h2=>by simp at h2
theorem lnsN_add: ∀{ls:List nC} {L:List TyP} {l:nC} {t:TyP} {N:iA},ls[L.length]?=some l->bNf ls (L++[t]) N=(lU++l.name,t)::bNf ls L N:=λ{ls L l t N} h=>by
 have h2:(L++[t])[L.length]?=some t:=by simp
 have:=bOc (N:=N) h h2
 rwa[F6 n9,List.take_left]at this
theorem insN_at(vars:List Bs): ∀{xs:List iH} {k:Nat} {x:iH} {N:iA},xs[k]?=some x->bNg vars (xs.take (k+1)) N=(nIn++x.name,inT vars x)::bNg vars (xs.take k) N
 |y::xs,0,x,N,h=>by
  cases h;rfl
 |y::xs,k+1,x,N,h=>by
  show bNg vars (xs.take (k+1)) _=_::bNg vars (xs.take k) _;exact insN_at vars (xs:=xs) h
 |[],_,_,_,h=>by simp at h
theorem varsN_at: ∀{vs:List Bs} {k j:Nat} {s:Bs} {N:iA},vs[k]?=some s->rV (vs.take (k+1)) j N=(s,bTw (j+k))::rV (vs.take k) j N
 |v::vs,0,j,s,N,h=>by
  cases h;rfl
 |v::vs,k+1,j,s,N,h=>by
  show rV (vs.take (k+1)) (j+1) _=_::rV (vs.take k) (j+1) _;rw[varsN_at (vs:=vs) h,show j+1+k=j+(k+1)from by omega]
 |[],_,_,_,_,h=>by simp at h
theorem oM(k s:Bs)(t:TyP)(N:iA):jW k ((s,t)::N)=if k=s then some t else jW k N:=rfl
theorem line_inj{a b:Bs}(h:lU++a=lU++b):a=b:=Z6 h
theorem in_inj{a b:Bs}(h:nIn++a=nIn++b):a=b:=Z6 h
theorem line_in(a b:Bs):lU++a≠nIn++b:=λh=>by cases h
theorem lns_not{k:Bs}(hk: ∀r,k≠lU++r){N:iA}: ∀(ls:List nC) (L:List TyP),jW k (bNf ls L N)=jW k N
 |[],_=>by cases ‹List TyP›<;>rfl
 |l::ls,[]=>rfl
 |l::ls,t::L=>by
  have: ∀(ls:List nC) (L:List TyP) (M:iA),jW k M=jW k N->jW k (bNf ls L M)=jW k N:=by
   intro ls
   induction ls with
   |nil=>intro L M h;cases L<;>exact h
   |cons l ls ih=>
    intro L M h
    cases L with
    |nil=>exact h
    |cons t L=>exact ih L _ (by rw[oM,if_neg (hk _)];exact h)
  exact this (l::ls) (t::L) N rfl
theorem ins_not{vars:List Bs}{k:Bs}(hk: ∀r,k≠nIn++r): ∀(xs:List iH) {M N:iA},jW k M=jW k N->jW k (bNg vars xs M)=jW k N
 |[],_,_,h=>h
 |x::xs,M,N,h=>ins_not hk xs (by rw[oM,if_neg (hk _)];exact h)
theorem bGh{k:Bs}: ∀(vs:List Bs) (j:Nat) {M N:iA},(∀v∈vs,k≠v)->jW k M=jW k N->jW k (rV vs j M)=jW k N
 |[],_,_,_,_,h=>h
 |v::vs,j,M,N,hk,h=>bGh vs (j+1) (λx hx=>hk x (E4 _ hx)) (by rw[oM,if_neg (hk v (E8 ..))];exact h)
theorem bHu: ∀{ds:List oH} {out:List Bs},out.Nodup->(iL ds out).Nodup
 |[],_,h=>h
 |d::r,out,h=>by
  rw[iL];refine bHu ?_;split
  .exact h
  .rename_i c;rw[List.nodup_append];refine⟨h,n9,λa f b e=>?_⟩;rw[K7.1 e];rintro rfl;exact c (.inr (List.contains_iff_mem.2 f))
theorem bFp(p:jB):(dO p).Nodup:=bHu List.nodup_nil
theorem look_var{vs:List Bs}(hn:vs.Nodup){k:Nat}{s:Bs}(h:vs[k]?=some s):jW s (rV vs 0 [])=some (bTw k):=by
 have key: ∀m,k+1<=m->m<=vs.length->jW s (rV (vs.take m) 0 [])=some (bTw k):=by
  intro m
  induction m with
  |zero=>intro h1;omega
  |succ m ih=>
   intro h1 h2
   obtain⟨v,hv⟩: ∃v,vs[m]?=some v:=⟨_,F1 m0⟩
   rw[varsN_at hv,oM]
   by_cases a:m=k
   .subst a;rw[hv]at h;cases h;rw[if_pos rfl,C7]
   .rw[if_neg,ih m0 m0];rintro rfl;obtain⟨d,h4⟩:=F3.1 h;obtain⟨c,b⟩:=F3.1 hv;exact List.pairwise_iff_getElem.1 hn k m d c m0 (h4.trans b.symm)
 have e:=(F3.1 h).1;have:=key vs.length m0 (B0 _)
 rwa[Z7]at this
section
variable {p : jB} {s : Bs} {L : List TyP} {k : Nat} {t : TyP}
abbrev iW (p:jB)(L:List TyP):iA:=bNf p.G L (sI p)
def bUh (p:jB)(L:List TyP)(s:Bs)(k:Nat):Prop:=jW (lU++s) (iW p L)=jW (lU++s) (iW p (L.take k))
theorem lnN_start:bUh p L s L.length:=by unfold bUh;rw[Z7]
theorem lnN_step{l:nC}(h:bUh p L s (k+1))(hl:p.G[k]?=some l)(ht:L[k]?=some t)(hn:l.name≠s):bUh p L s k:=by unfold bUh at*;rw[h,iW,bOc hl ht,oM,if_neg λe=>hn (line_inj e).symm]
theorem lnN_hit{l:nC}(h:bUh p L s (k+1))(hl:p.G[k]?=some l)(ht:L[k]?=some t)(hn:l.name=s):nameT (iW p L) s=some t:=by unfold bUh at h;unfold nameT;rw[h,iW,bOc hl ht,oM,if_pos (by rw[hn])]
theorem check_line(hv: ∀v∈dO p,sH v):jW (lU++s) (sI p)=none:=by unfold sI;rw[ins_not (N:=[]) (λr=>line_in _ _) _ (bGh _ _ (λv a e=>((hv v a) s).1 e.symm) rfl)];rfl
theorem lnN_end(hv: ∀v∈dO p,sH v)(h:bUh p L s 0):jW (lU++s) (iW p L)=none:=by unfold bUh at h;rw[h,Z5,iW,bOf];exact check_line hv
def bRb (p:jB)(L:List TyP)(s:Bs)(k:Nat):Prop:=jW (lU++s) (iW p L)=none/\jW (nIn++s) (iW p L)=jW (nIn++s) (bNg (dO p) (p.C.take k) (rV (dO p) 0 []))
theorem inN_start(h:jW (lU++s) (iW p L)=none):bRb p L s p.C.length:=⟨h,by
 rw[iW,lns_not λr e=>line_in _ _ e.symm,Z7]
 rfl⟩
theorem inN_step{x:iH}(h:bRb p L s (k+1))(hx:p.C[k]?=some x)(hn:x.name≠s):bRb p L s k:=by refine⟨h.1,?_⟩;rw[h.2,insN_at _ hx,oM,if_neg λe=>hn (in_inj e).symm]
theorem inN_hit{x:iH}(h:bRb p L s (k+1))(hx:p.C[k]?=some x)(hn:x.name=s):nameT (iW p L) s=some (inT (dO p) x):=by unfold nameT;rw[h.1];dsimp only;rw[h.2,insN_at _ hx,oM,if_pos (by rw[hn])]
theorem inN_none(hv: ∀v∈dO p,sH v)(h:bRb p L s 0):jW (nIn++s) (iW p L)=none:=by rw[h.2,Z5];show jW (nIn++s) (rV (dO p) 0 [])=none;rw[bGh (N:=[]) _ _ (λv a e=>((hv v a) s).2 e.symm) rfl];rfl
theorem name_end(hs:sH s)(hv: ∀v∈dO p,sH v)(h:bRb p L s 0):nameT (iW p L) s=if 0<=idxOf s (dO p) 0 then some ⟨[],true,[(pG (idxOf s (dO p) 0)).1]⟩else none:=by
 unfold nameT;rw[h.1];dsimp only;rw[inN_none hv h];dsimp only;rw[iW,lns_not λr=>(hs r).1];unfold sI;rw[ins_not (N:=rV (dO p) 0 []) (λr=>(hs r).2) _ rfl]
 rcases vV s (dO p) 0 with h1|⟨j,h1,h2,b⟩
 .have h1:idxOf s (dO p) 0= -1:=h1;rw[if_neg (by rw[h1];decide)];refine(bGh (N:=[]) _ _ (λv a e=>?_) rfl).trans rfl;subst e;exact bJs a (i:=0) h1
 .have h1:idxOf s (dO p) 0=((j:Nat):Int):=by
   have h1:idxOf s (dO p) 0=((0+j:Nat):Int):=h1
   rwa[C7]at h1
  rw[h1,if_pos m0,look_var (bFp p) b];rfl
end
theorem vgo_app: ∀(a b:List oH) (out:List Bs),iL (a++b) out=iL b (iL a out)
 |[],_,_=>rfl
 |d::r,b,out=>by rw[R0,iL,iL];exact vgo_app r b _
theorem bNu: ∀(ds:List oH) (out:List Bs),∃e,iL ds out=out++e/\ ∀s∈e,s≠[]/\ ∃d∈ds,d.name=s
 |[],out=>⟨[],by simp[iL],n9⟩
 |d::r,out=>by
  obtain⟨e,h1,h2⟩:=bNu r (if d.name=[]\/out.contains d.name=true then out else out++[d.name])
  have a: ∀s∈e,s≠[]/\ ∃x∈d::r,x.name=s:=λs hs=>⟨(h2 s hs).1,(h2 s hs).2.imp λx hx=>⟨.tail _ hx.1,hx.2⟩⟩
  rw[iL,h1];split
  .exact⟨e,rfl,a⟩
  .rename_i b;refine⟨d.name::e,n9,λs hs=>?_⟩
   rcases E2.1 hs with rfl|hs
   .exact⟨λh=>b (.inl h),d,.head _,rfl⟩
   .exact a s hs
def fewW (l:List iH)(i:Nat):List Bs:=dO ⟨l.take i,[]⟩
def FewZ (vars:List Bs)(l:List iH)(z:Int):Prop:=(z= -1/\l.find? (bAf vars)=none)\/ ∃(k:Nat) (x:iH),z=(k:Int)/\l[k]?=some x/\l.find? (bAf vars)=some x
section
variable {p : jB} {x : iH} {d : oH} {i : Nat}
theorem fw_step{l:List iH}(hx:l[i]?=some x): ∃e,fewW l (i+1)=fewW l i++e/\ ∀s∈e,∃d∈x.B,d.name=s:=by
 obtain⟨e,h1,h2⟩:=bNu x.B (fewW l i);refine⟨e,?_,λs hs=>(h2 s hs).2⟩;rw[<-h1];obtain⟨hi,a⟩:=F3.1 hx;show iL (dZ (l.take (i+1))) []=iL x.B (iL (dZ (l.take i)) []);rw[T8 hi,a,<-vgo_app]
 congr 1
 simp[dZ]
theorem fw_all: ∃e,dO p=fewW p.C i++e:=by
 obtain⟨e,h1,_⟩:=bNu (dZ (p.C.drop i)) (fewW p.C i);refine⟨e,?_⟩;rw[<-h1];show iL _ []=iL _ (iL _ []);rw[<-vgo_app]
 congr 1
 show _=dZ (p.C.take i)++dZ (p.C.drop i);unfold dZ;rw[<-Z8,W3]
theorem idx_at{V:List Bs}{s:Bs}{k:Nat}(hn:V.Nodup)(h:V[k]?=some s):idxOf s V 0=(k:Int):=by
 rcases vV s V 0 with h2|⟨j,h2,b,h4⟩
 .exact absurd h2 (bJs (i:=0) (j3 h))
 .have a:j=k:=by refine(List.getElem?_inj b hn).1 ?_;rw[h4,h]
  rw[a,C7]at h2;exact h2
theorem few_six(h:zT (dO p) p.C i)(hx:p.C[i]?=some x)(hw:(fewW p.C i).length<=6)(h7:6<(fewW p.C (i+1)).length):p.C.find? (bAf (dO p))=some x:=by
 obtain⟨e,h1,h2⟩:=fw_step hx;obtain⟨c,b⟩:=fw_all (p:=p) (i:=i+1)
 obtain⟨s,hs⟩: ∃s,(fewW p.C (i+1))[6]?=some s:=⟨_,F1 h7⟩
 have hv:(dO p)[6]?=some s:=by rw[b,Z9 h7,hs]
 rw[h1,List.getElem?_append_right hw]at hs;obtain⟨d,a,hn⟩:=h2 s (j3 hs);have hf:bAf (dO p) x=true:=List.any_eq_true.2 ⟨d,a,fs_b (by rw[hn,idx_at (bFp p) hv];decide)⟩;rw[h,kR hx,List.find?_cons,hf]
theorem few_lt(hx:p.C[i]?=some x)(h7:(fewW p.C (i+1)).length<=6)(hd:d∈x.B):idxOf d.name (dO p) 0<6:=by
 rcases vV d.name (dO p) 0 with h2|⟨j,h2,o,h4⟩
 .have h2:idxOf d.name (dO p) 0= -1:=h2;omega
 .obtain⟨e,m,l⟩:=bNu (dZ p.C) [];have g:d.name∈dO p:=aA h4;have a:d.name≠[]:=(l _ (by rw[<-List.nil_append e,<-m];exact g)).1
  have f:d.name∈fewW p.C (i+1):=vars_all.2 d (Z4.2 ⟨x,by
   obtain⟨hi,c⟩:=F3.1 hx;show x∈p.C.take (i+1)
   rw[T8 hi,c];simp,hd⟩) a
  obtain⟨k,b,n⟩:=List.mem_iff_getElem.1 f;obtain⟨c,h⟩:=fw_all (p:=p) (i:=i+1);have hv:(dO p)[k]?=some d.name:=by rw[h,Z9 b,F1 b,n]
  rw[idx_at (bFp p) hv];omega
theorem fw_zero(l:List iH):(fewW l 0).length<=6:=by simp[fewW,dO,dZ,iL]
theorem fz_none(h:zT (dO p) p.C i)(hi:p.C.length<=i):FewZ (dO p) p.C (-1):= .inl ⟨rfl,few_end h hi⟩
theorem fz_some(hx:p.C[i]?=some x)(h:p.C.find? (bAf (dO p))=some x):FewZ (dO p) p.C ((i:Nat):Int):= .inr ⟨i,x,rfl,hx,h⟩
end
def uX (xs:List Bs)(s:Bs):Int:=if s∈xs then (xs.idxOf s:Nat)else-1
section
variable {xs : List Bs} {s b : Bs} {i : Nat}
theorem pz_here(h:s∉xs.take i)(hb:xs[i]?=some b)(he:b=s):((i:Nat):Int)=uX xs s:=by
 subst he;obtain⟨hi,e⟩:=F3.1 hb;have a:b∈xs:=aA hb;have d:xs=xs.take i++b::xs.drop (i+1):=by rw[<-e,List.getElem_cons_drop,W3]
 have c:xs.idxOf b=i:=by
  conv=>lhs;rw[d]
  rw[List.idxOf_append,if_neg h,List.idxOf_cons_self,K6];omega
 rw[uX,if_pos a,c]
theorem pz_more(h:s∉xs.take i)(hb:xs[i]?=some b)(he:b≠s):s∉xs.take (i+1):=by
 obtain⟨hi,e⟩:=F3.1 hb;rw[T8 hi,e];intro a
 rcases E3.1 a with a|a
 .exact h a
 .exact he (K7.1 a).symm
theorem pz_none(h:s∉xs.take i)(hi:xs.length<=i):(-1:Int)=uX xs s:=by rw[F6 hi]at h;rw[uX,if_neg h]
theorem pz_neg:uX xs s<0↔xs.contains s=false:=by
 unfold uX
 by_cases h:s∈xs
 .rw[if_pos h];simp[h]
 .rw[if_neg h];simp[h]
end
def xT (p:jB)(rest:List oH)(out:List Bs):Prop:=iL rest out=dO p/\out.length+rest.length<=8000000000000
section
variable {p : jB} {l : List iH} {x : iH} {ds R : List oH} {d : oH} {out : List Bs} {i j : Nat}
theorem vb_start(h:(dZ p.C).length<=8000000000000):xT p (dZ (p.C.drop 0)) []:=⟨rfl,by simpa using h⟩
theorem vb_in(h:xT p (dZ (l.drop i)) out)(hx:l[i]?=some x):xT p (x.B.drop 0++dZ (l.drop (i+1))) out:=by rw[kR hx]at h;exact h
theorem vb_skip(h:xT p (ds.drop j++R) out)(hd:ds[j]?=some d)(hs:d.name=[]\/ ¬uX out d.name<0):xT p (ds.drop (j+1)++R) out:=by rw[kR hd,R0]at h;obtain⟨b,c⟩:=h;refine⟨?_,by simp at c⊢;omega⟩;rw[pz_neg,Bool.not_eq_false]at hs;rw[iL,if_pos hs]at b;exact b
theorem vb_add(h:xT p (ds.drop j++R) out)(hd:ds[j]?=some d)(h1:d.name≠[])(h2:uX out d.name<0):xT p (ds.drop (j+1)++R) (out++[d.name]):=by rw[kR hd,R0]at h;obtain⟨b,c⟩:=h;refine⟨?_,by simp at c⊢;omega⟩;rw[pz_neg]at h2;rw[iL,if_neg (by rw[h2];simp[h1])]at b;exact b
theorem vb_len(h:xT p (ds.drop j++R) out)(hd:ds[j]?=some d):out.length+1<=8000000000000:=by rw[kR hd,R0]at h;have:=h.2;simp at this;omega
theorem vb_out(h:xT p (ds.drop j++R) out)(hj:ds.length<=j):xT p R out:=by rw[pK hj]at h;exact h
theorem vb_end(h:xT p (dZ (l.drop i)) out)(hi:l.length<=i):dO p=out:=by rw[pK hi]at h;exact h.1.symm
end
theorem place8_spec(A:Option Addr)(c:Nat)(xs:List Bs)(s:Bs)(hl:xs.length<=140737488355328):cY prog 41 [.slice A xs.length c,.string (bs s)] [] [lN.sl (.slice A xs.length c) xs] (λ(_:Unit)=> k9 (uX xs s)) (λ_=>[]) (λ_=>[]):=by
 have hT:=bHp;refine j8 func41 ntmps41 ?_;intro β hM;refine g12 ?_;refine cI (ι:=Nat) [(0,_),(1,_)] ⟨rfl,rfl,j1⟩ (λi=>[(5,.int .i64 (i:Nat))]) (λ_=>[]) (λi=>[Fact.pure (i<=xs.length/\s∉xs.take i)]) (λi=>xs.length-i) 0 ⟨rfl,j1⟩ .nil ⟨j2 (⟨m0,n9⟩),j1⟩ ?_;rintro i;refine bG d7 λb=>?_;refine g9 ?_;refine fA (λe=>?_) λe=>?_
 .refine g8 ?_;obtain⟨x1,d⟩:=gx xs i;refine ss (ixs i) ?_;refine ss (gI d 0) ?_;refine g4 ?_;refine fT (λa=>?_) λa=>?_
  .have a:x1=s:=eq_of_beq a;refine g12 ?_;exact rs1 () j1 (he:=congrArg (M0 .i64) (pz_here b.2 d ‹_›))
  have a:x1≠s:=λh=>absurd (beq_iff_eq.2 h) (by rw[show(x1==s)=false from a];simp);refine g6 ?_;refine inc (i+1) ?_;refine g3 ?_;exact bk2 (i+1) ⟨j2 (⟨m0,pz_more b.2 d ‹_›⟩),j1⟩
 refine g11 ?_;exact rs1 () j1 (he:=congrArg (M0 .i64) (pz_none b.2 m0))
theorem bPz(P:ProgV)(hl1:P.C.A.length<=140737488355328)(hs: ∀x∈P.C.A,x.B.A.length<=140737488355328)(hTT:(dZ P.pr.C).length<=8000000000000):cY prog 20 [.agg #[k7 P.C,k7 P.G]] [] [jN.sl (k7 P.C) P.C.A,iY P.C.A] (λ(x:Option Addr×Nat)=> .slice x.1 (dO P.pr).length x.2) (λ_=>[]) (λ(x:Option Addr×Nat)=>[lN.sl (.slice x.1 (dO P.pr).length x.2) (dO P.pr)]):=by
 have hT:=bHp;refine j8 func20 ntmps20 ?_;intro β hM;refine g2 ?_;refine j6 λo=>?_;refine g10 ?_;refine bQ (t:=9) lN ?_;refine g5 ?_;refine cI (ι:=Nat×List Bs×Option Addr×Nat) [(1,_)] ⟨rfl,j1⟩ (λ⟨i,vs,A1,c1⟩=>[(3,.slice A1 vs.length c1),(4,.int .i64 (i:Nat))]) (λ⟨i,vs,A1,c1⟩=>[lN.row (.slice A1 vs.length c1) 9 vs]) (λ⟨i,vs,A1,c1⟩=>[Fact.pure (i<=P.C.A.length/\xT P.pr (dZ (P.pr.C.drop i)) vs)]) (λ⟨i,vs,A1,c1⟩=>P.C.A.length-i) (0,[],none,0) ⟨rfl,rfl,j1⟩ (.c0 .nil) ⟨j2 (⟨m0,vb_start hTT⟩),j1⟩ ?_;rintro⟨i,vs,A1,c1⟩;dsimp only;refine bG d7 λc=>?_;refine g10 ?_;refine fA (λhc11=>?_) λhc11=>?_
 .refine g5 ?_;obtain⟨x,hx⟩:=gx P.C.A i;have hx0:P.pr.C[i]?=some x.inp:=mK hx;refine bB (nG x) (Has.each d9 (j3 hx)) ?_;have g:=hs x (j3 hx);refine g5 ?_;refine cI (ι:=Nat×List Bs×Option Addr×Nat) [(1,_),(4,_)] ⟨rfl,rfl,j1⟩ (λ⟨j,vs2,A2,c2⟩=>[(3,.slice A2 vs2.length c2),(5,.int .i64 (j:Nat))]) (λ⟨j,vs2,A2,c2⟩=>[lN.row (.slice A2 vs2.length c2) 9 vs2]) (λ⟨j,vs2,A2,c2⟩=>[Fact.pure (j<=x.B.A.length/\xT P.pr (x.inp.B.drop j++dZ (P.pr.C.drop (i+1))) vs2)]) (λ⟨j,vs2,A2,c2⟩=>x.B.A.length-j) (0,vs,A1,c1) ⟨rfl,rfl,j1⟩ (.c0 .nil) ⟨j2 (⟨m0,vb_in c.2 hx0⟩),j1⟩ ?_;rintro⟨j,vs2,A2,c2⟩;dsimp only;refine bG d7 λa=>?_;refine g7 ?_;refine ss (ixs i) ?_;refine one ?_;refine ss (gI hx 2) ?_;refine g4 ?_;refine fA (λe=>?_) λe=>?_
  .refine g5 ?_;obtain⟨d,f⟩:=gx x.B.A j;have hd0:x.inp.B[j]?=some d.sd:=mK f;have k:=vb_len a.2 hd0;refine g4 ?_;refine ss (ixs i) ?_;refine one ?_;refine ss (gI hx 2) ?_;refine one ?_;refine ss (ixs j) ?_;refine one ?_;refine ss (gI f 0) ?_;refine g8 ?_;refine cF (λb=>?_) (λb=>?_)
   .have b:d.name≠([]:Bs):=λh=>by rw[h]at b;first|(simp at b;done)|exact absurd b m9
    refine g2 ?_;refine kI (cB func41 rfl rfl) (place8_spec A2 c2 vs2 d.name m0) rfl rfl rfl rfl rfl .nil (.c0 .nil) (bCx nR) ⟨d7,j1⟩ (λ_=>True) (λ_ _ _ _=>trivial) λ_ _=>?_;refine g4 ?_;refine fA (λhc42=>?_) λhc42=>?_
    .refine g3 ?_;refine lB (m:=d.name) rfl rfl rfl rfl rfl λn=>?_;refine mJ kT1 (bT .head rfl) rfl rfl rfl rfl rfl rfl rfl s8 λl c4=>?_;refine g7 ?_;refine inc (j+1) ?_;refine g3 ?_;exact bk2 (j+1,(vs2++[d.name]),l,c4) ⟨j2 (⟨by dsimp only;omega,vb_add a.2 hd0 ‹_› ‹_›⟩),j1⟩
    refine g6 ?_;refine inc (j+1) ?_;refine g3 ?_;exact bk2 (j+1,vs2,A2,c2) ⟨j2 (⟨by dsimp only;omega,vb_skip a.2 hd0 ah1⟩),j1⟩
   have b:d.name=([]:Bs):=eq_of_beq (mL b);refine g14 ?_;refine inc (j+1) ?_;refine g3 ?_;exact bk2 (j+1,vs2,A2,c2) ⟨j2 (⟨by dsimp only;omega,vb_skip a.2 hd0 ah1⟩),j1⟩
  refine g9 ?_;refine inc (i+1) ?_;refine g3 ?_;exact bk2 (i+1,vs2,A2,c2) ⟨j2 (⟨by dsimp only;omega,vb_out a.2 aj3⟩),j1⟩
 refine g12 ?_;have he:=vb_end c.2 af7;rw[he];refine bS .head ?_;exact rs1 (A1,c1) ⟨d7,j1⟩
theorem all_cut(P:ProgV)(k:Nat):(dZ (ProgV.pr ⟨⟨P.C.I,P.C.cap,P.C.A.take k⟩,⟨none,0,[]⟩⟩).C).length<=(dZ P.pr.C).length:=by
 show(dZ ((P.C.A.take k).map InputV.inp)).length<=(dZ (P.C.A.map InputV.inp)).length;have e:P.C.A.map InputV.inp=(P.C.A.take k).map InputV.inp++(P.C.A.drop k).map InputV.inp:=by rw[<-List.map_append,W3]
 rw[e];unfold dZ;rw[Z8,List.length_append];omega
theorem vars_cut{P:ProgV}{k:Nat}:dO (ProgV.pr ⟨⟨P.C.I,P.C.cap,P.C.A.take k⟩,⟨none,0,[]⟩⟩)=fewW P.pr.C k:=by show iL (dZ ((P.C.A.take k).map InputV.inp)) []=iL (dZ ((P.C.A.map InputV.inp).take k)) [];rw[List.map_take]
theorem ins_take{F:List Fact}{A:Option Addr}{c k:Nat}{l:List InputV}(h:Has F (jN.sl (.slice A l.length c) l))(hk:k<=l.length):Has F (jN.sl (.slice A (l.take k).length c) (l.take k)):=by rw[K6,L3 hk];exact bBy h hk
theorem vI(a0:Option Addr)(l0 c0:Nat):prog.built 25 [(0,.slice a0 l0 c0)]=some #[.slice a0 l0 c0,.slice none 0 0]:=m7
theorem few8_spec(P:ProgV)(hl1:P.C.A.length<=140737488355328)(hs: ∀x∈P.C.A,x.B.A.length<=140737488355328)(hTT:(dZ P.pr.C).length<=8000000000000)(hcp:P.C.A.length<=P.C.cap):cY prog 19 [.agg #[k7 P.C,k7 P.G]] [] [jN.sl (k7 P.C) P.C.A,iY P.C.A] (λ(z:Int)=> k9 z) (λ_=>[]) (λ(z:Int)=>[Fact.pure (FewZ (dO P.pr) P.pr.C z)]):=by
 have hT:=dL;refine j8 func19 ntmps19 ?_;intro β hM;refine g2 ?_;refine j6 λo=>?_;refine g10 ?_;refine cI (ι:=Nat) [(1,_)] ⟨rfl,j1⟩ (λi=>[(3,.int .i64 (i:Nat))]) (λ_=>[]) (λi=>[Fact.pure (i<=P.C.A.length/\zT (dO P.pr) P.pr.C i/\(fewW P.pr.C i).length<=6)]) (λi=>P.C.A.length-i) 0 ⟨rfl,j1⟩ .nil ⟨j2 (⟨m0,bVt,fw_zero _⟩),j1⟩ ?_;rintro i;refine bG d7 λa=>?_;refine g10 ?_;refine fA (λhc10=>?_) λhc10=>?_
 .refine g6 ?_;obtain⟨x,hx⟩:=gx P.C.A i;have hx0:P.pr.C[i]?=some x.inp:=mK hx;have m:=hs x (j3 hx);refine bB (nG x) (Has.each d9 (j3 hx)) ?_;refine g5 ?_;refine inc (i+1) ?_;have hkl:i+1<=P.C.A.length:=m0
  refine ss (iQ hT (k:=i+1) rfl rfl rfl rfl rfl (by first|rfl|omega) m0) ?_;refine iC (v':= .slice P.C.I (P.C.A.take (i+1)).length P.C.cap) ac3 ?_;refine ss (j7 (vI _ _ _)) ?_;refine bC func20 (bPz ⟨⟨P.C.I,P.C.cap,(P.C.A.take (i+1))⟩,⟨none,0,[]⟩⟩ (by rw[K6];omega) (λx hx=>hs x (List.mem_of_mem_take hx)) (Nat.le_trans (all_cut P (i+1)) hTT)) rfl rfl .nil ⟨ins_take d9 hkl,mY e6 _,j1⟩ λ⟨A2,c3⟩=>?_;refine iC (v':= .slice A2 (fewW P.pr.C (i+1)).length c3) (by rw[<-vars_cut]) ?_;refine g4 ?_;refine fA (λl=>?_) λl=>?_
  .refine g13 ?_;exact rs1 (((i:Nat):Int):Int) ⟨j2 (fz_some hx0 (few_six a.2.1 hx0 a.2.2 m0)),j1⟩
  refine g3 ?_;have hw6:(fewW P.pr.C (i+1)).length<=6:=m0
  refine g5 ?_;refine cI (ι:=Nat) [(1,_),(3,_)] ⟨rfl,rfl,j1⟩ (λj=>[(4,.int .i64 (j:Nat))]) (λ_=>[]) (λj=>[Fact.pure (j<=x.B.A.length/\bHd (dO P.pr) x.inp.B j)]) (λj=>x.B.A.length-j) 0 ⟨rfl,j1⟩ .nil ⟨j2 (⟨m0,few_in⟩),j1⟩ ?_;rintro j;refine bG d7 λb=>?_;refine g7 ?_;refine ss (ixs i) ?_;refine one ?_;refine ss (gI hx 2) ?_;refine g4 ?_;refine fA (λg=>?_) λg=>?_
  .refine g9 ?_;refine ss (ixs i) ?_;refine one ?_;refine ss (gI hx 2) ?_;refine one ?_;obtain⟨x4,d⟩:=gx x.B.A j;refine ss (ixs j) ?_;refine ss (oZ d 0) ?_;refine j4 zE λn=>?_;refine g4 ?_;have hd0:x.inp.B[j]?=some x4.sd:=mK d;refine g5 ?_;refine cF (λc=>?_) (λc=>?_)
   .have c:x4.name=([]:Bs):=eq_of_beq c;refine g4 ?_;refine lK (λe=>?_) λe=>?_
    .refine g24 ?_;exact rs1 (((i:Nat):Int):Int) ⟨j2 (fz_some hx0 (bDp a.2.1 hx0 b.2 hd0 (fs_a ‹_› ah7))),j1⟩
    refine g7 ?_;refine fA (λf=>?_) λf=>?_
    .refine g16 ?_;exact rs1 (((i:Nat):Int):Int) ⟨j2 (fz_some hx0 (bDp a.2.1 hx0 b.2 hd0 (fs_a ‹_› ah7))),j1⟩
    refine g6 ?_;refine inc (j+1) ?_;refine g3 ?_;exact bk2 (j+1) ⟨j2 (⟨m0,bHw b.2 hd0 ae1⟩),j1⟩
   have c:x4.name≠([]:Bs):=λh=>absurd (beq_iff_eq.2 h) (by rw[show(x4.name==([]:Bs))=false from c];simp);refine g18 ?_;refine inc (j+1) ?_;refine g3 ?_;exact bk2 (j+1) ⟨j2 (⟨m0,bHw b.2 hd0 ae1⟩),j1⟩
  refine g9 ?_;refine inc (i+1) ?_;refine g3 ?_;exact bk2 (i+1) ⟨j2 (⟨m0,few_out a.2.1 hx0 b.2 aj3,hw6⟩),j1⟩
 refine g11 ?_;exact rs1 ((-1):Int) ⟨j2 (fz_none a.2.1 af7),j1⟩
theorem builtM_0:prog.built 43 []=some #[k9 0,l5 0,l5 0,l5 0,l5 0,l5 0,l5 0]:=m7
theorem run_neq_E(m:Mono)(w:World):(binOp .neq 41 (.agg #[l5 m.U.toNat,l5 m.T.toNat,l5 m.R.toNat,l5 m.Q.toNat,l5 m.O.toNat,l5 m.N.toNat]) (.agg #[l5 0,l5 0,l5 0,l5 0,l5 0,l5 0])).run prog w= .ok (.bool (!tQ m)) w:=by rw[run_neq_struct];have h:=sT 9998 m ⟨0,0,0,0,0,0,0⟩ w;have e:(Value.agg #[.int .u8 (((0:UInt8).toNat:Nat):Int),.int .u8 (((0:UInt8).toNat:Nat):Int),.int .u8 (((0:UInt8).toNat:Nat):Int),.int .u8 (((0:UInt8).toNat:Nat):Int),.int .u8 (((0:UInt8).toNat:Nat):Int),.int .u8 (((0:UInt8).toNat:Nat):Int)])= .agg #[.int .u8 0,.int .u8 0,.int .u8 0,.int .u8 0,.int .u8 0,.int .u8 0]:=rfl;rw[e]at h;rw[h];rfl
theorem sti_neq_E{β:fR}{n:Nat}{Γ:Env}{H:List bL}{F:List Fact}{o:Oper}{a b:Operand}{tt:TypeId}(m:Mono)(ho:o.op= .binOp .neq 41 a b tt)(hx:Γ.ev a=some (.agg #[l5 m.U.toNat,l5 m.T.toNat,l5 m.R.toNat,l5 m.Q.toNat,l5 m.O.toNat,l5 m.N.toNat]))(hy:Γ.ev b=some (.agg #[l5 0,l5 0,l5 0,l5 0,l5 0,l5 0])):Sti prog β n Γ H F o (.bool (!tQ m)):=λc w S f s k=>by
 have hq:prog.eqGuardType prog.depth 41=false:=m7
 have hg:(eqGuard .neq 41 a b (.agg #[.int .u8 m.U.toNat,.int .u8 m.T.toNat,.int .u8 m.R.toNat,.int .u8 m.Q.toNat,.int .u8 m.O.toNat,.int .u8 m.N.toNat]) (.agg #[.int .u8 0,.int .u8 0,.int .u8 0,.int .u8 0,.int .u8 0,.int .u8 0])).run prog w= .ok () w:=by unfold eqGuard;have d:(program:Sem Program).run prog w= .ok prog w:=rfl;simp[d,hq]
 unfold execOp;simp only[ho,f.ev hx,f.ev hy];rw[Sem.run_bind,Sem.run_bind,hg,Result.andThen_ok,run_neq_E];rfl
theorem flat_eq{m:Mono}(h:tQ m=true):m=⟨m.n,0,0,0,0,0,0⟩:=by obtain⟨n,a,b,c,d,e,f⟩:=m;simp[tQ,Mono.sameE]at h;simp[h]
def Cnt9 (v:List Mono)(i:Nat)(n:Int):Prop:=((∀m∈v.take i,tQ m=true)/\n=match (v.take i).getLast? with
 |none=>0
 |some m=>m.n)/\ -16777216<=n/\n<=16777216
theorem cnt9_start(v:List Mono):Cnt9 v 0 0:=⟨⟨λm h=>by simp at h,rfl⟩,m9,m9⟩
section
variable {v : List Mono} {i : Nat} {n : Int} {m : Mono}
theorem cnt9_step(hr:dH v=true)(h:Cnt9 v i n)(hm:v[i]?=some m)(hf:tQ m=true):Cnt9 v (i+1) m.n:=by
 have e:v.take (i+1)=v.take i++[m]:=by rw[R6,hm];rfl
 refine⟨⟨λq hq=>?_,?_⟩,right_n hr hm⟩
 .rw[e]at hq
  rcases E3.1 hq with hq|hq
  .exact h.1.1 q hq
  .rw[K7.1 hq];exact hf
 .rw[e,List.getLast?_concat]
theorem bTi(m:Mono):fU [bHc m] 1=tQ m:=by
 cases hf:tQ m with
 |false=>
  have:tQ (bHc m)=false:=hf;simp[fU,this]
 |true=>
  rw[flat_eq hf];rfl
theorem cnt9_bad(hr:dH v=true)(hm:v[i]?=some m)(hf:tQ m=false):pE v=none:=by
 match v,hm with
 |[q],hm=>
  obtain⟨hi,rfl⟩:=F3.1 hm;have h0:i=0:=by simpa using hi
  subst h0;exact if_pos ((bTi _).trans hf)
 |_::_::_,_=>rfl
theorem cnt9_end(hr:dH v=true)(h:Cnt9 v i n)(hi:v.length<=i):pE v=some n:=by
 obtain⟨⟨h1,h2⟩,_⟩:=h;rw[F6 hi]at h1 h2
 match v,h1,h2 with
 |[],_,h2=>rw[h2];rfl
 |[q],h1,h2=>
  have hf:=h1 q (K7.2 rfl);rw[h2];exact if_neg (by rw[bTi,hf];decide)
 |q::p::r,h1,_=>
  have hq:=flat_eq (h1 q (E8 ..));have a:=flat_eq (h1 p (E4 _ (E8 ..)))
  exfalso
  simp only[dH,gD,J3]at hr;have ho:=of_decide_eq_true hr.2.2.2.1;rw[hq,a]at ho;exact absurd ho (by show ¬(ord ⟨q.n,0,0,0,0,0,0⟩ ⟨p.n,0,0,0,0,0,0⟩<0);rw[show ord ⟨q.n,0,0,0,0,0,0⟩ ⟨p.n,0,0,0,0,0,0⟩=0 from rfl];decide)
end
section
variable {a b : TyV} {x y p : PolV} {n : Int} {A : Option Addr} {q : Nat} {V : Sl PolV}
theorem set_cons(hy:b.B.A[0]?=some y):((⟨⟨A,q,b.B.A.set 0 p⟩,b.known,V⟩:TyV).t,(0:Int))=((⟨⟨A,q,[p]++b.B.A.drop 1⟩,b.known,V⟩:TyV).t,0):=by
 have e:bO (b.B.A.set 0 p)=bO ([p]++b.B.A.drop 1):=by rw[bEy hy];show _=p.A::bO (b.B.A.drop 1);rw[oC];cases bO b.B.A<;>rfl
 show(_,(0:Int))=((⟨bO _,b.known,bO V.A⟩:TyP),(0:Int));rw[<-e];rfl
theorem pt9_f(h:a.B.A.length=0)(k:0<b.B.A.length)(g:a.known=true)(hx:a.values.A[0]?=some x)(hc:pE x.A=some n)(hy:b.B.A[0]?=some y)(c:fU y.A (max n (-n))=true)(hp:p.A=bY (max n (-n)))
  (hV:bO V.A=if b.known=true then xK true n (bO b.values.A)else bO b.values.A):mD true a.t b.t=((⟨⟨A,q,[p]++b.B.A.drop 1⟩,b.known,V⟩:TyV).t,0):=(bPh h k g hx hc hy c hp hV).trans (set_cons hy)
theorem pt9_g(h:a.B.A.length=0)(k:0<b.B.A.length)(g:a.known=true)(hx:a.values.A[0]?=some x)(hc:pE x.A=some n)(hy:b.B.A[0]?=some y)(c:fU y.A (max n (-n))=true)(e:(cD y.A (bY (max n (-n))) (-1)).2=0)(hp:p.A=(cD y.A (bY (max n (-n))) (-1)).1)
  (hV:bO V.A=if b.known=true then xK false n (bO b.values.A)else bO b.values.A):mD false a.t b.t=((⟨⟨A,q,[p]++b.B.A.drop 1⟩,b.known,V⟩:TyV).t,0):=(bSt h k g hx hc hy c e hp hV).trans (set_cons hy)
end
theorem bPp(dr:Bool)(a b:TyV)(ha:WfT a.t)(hb:WfT b.t):cY prog 76 [.agg #[k7 a.B,.bool a.known,k7 a.values],.agg #[k7 b.B,.bool b.known,k7 b.values],.bool dr] [] [tyF a,tyF b] (λ(x:TyV)=> .tuple #[tyC x,k9 (mD (!dr) a.t b.t).2]) (λ_=>[]) (λ(x:TyV)=>[tyF x,Fact.pure ((mD (!dr) a.t b.t).2=0->x.t=(mD (!dr) a.t b.t).1)]):=by
 have hT:=dL;have hsa:=oV ha;have hva:=wZ ha;have hsb:=oV hb;have hvb:=wZ hb;generalize y:mD (!dr) a.t b.t=r;refine j8 func76 ntmps76 ?_;intro β hM;refine bP<|bB (cO a.B) (jK d7) ?_;refine cE a.B mT0 λhc_as=>bB (cO a.values) (jM e6)<|cE a.values mT0 λhc_av=>bB (cO b.B) (jK f4)<|cE b.B mT0 λhc_bs=>bB (cO b.values) (jM f9)<|cE b.values mT0 λg=>?_;refine one ?_;refine j6 λb1=>?_;refine j6 λb2=>?_;refine j4 rW λb3=>?_;refine g11 ?_;refine lK (λU=>?_) λU=>?_
 .refine g10 ?_;refine ss (j7 (yJ)) ?_;refine g6 ?_;have hr:=y.symm.trans (ptT_a m0);subst hr;exact rs2 (⟨⟨none,0,[]⟩,false,⟨none,0,[]⟩⟩:TyV) ⟨(bR (x:=⟨⟨none,0,[]⟩,false,⟨none,0,[]⟩⟩) bN bN),j2 (λh=>absurd (show(90:Int)=0 from h) m9),j1⟩
 refine g7 ?_;refine gJ (λhc27=>?_) λhc27=>?_
 .refine g2 ?_;refine ss (j7 (yJ)) ?_;refine g6 ?_;have hr:=y.symm.trans (ptT_a m0);subst hr;exact rs2 (⟨⟨none,0,[]⟩,false,⟨none,0,[]⟩⟩:TyV) ⟨(bR (x:=⟨⟨none,0,[]⟩,false,⟨none,0,[]⟩⟩) bN bN),j2 (λh=>absurd (show(90:Int)=0 from h) m9),j1⟩
 refine g10 ?_;refine iK (λhc31=>?_) λhc31=>?_
 .refine g2 ?_;refine ss (j7 (yJ)) ?_;refine g6 ?_;have hr:=y.symm.trans (ptT_b m0 m0 ‹_›);subst hr;exact rs2 (⟨⟨none,0,[]⟩,false,⟨none,0,[]⟩⟩:TyV) ⟨(bR (x:=⟨⟨none,0,[]⟩,false,⟨none,0,[]⟩⟩) bN bN),j2 (λh=>absurd (show(92:Int)=0 from h) m9),j1⟩
 refine g3 ?_;have hv1:=wf_one ha ‹_› m0;refine g8 ?_;obtain⟨x4,f⟩:=gx a.values.A 0;refine ss (ixs 0) ?_;refine ss (gI f 0) ?_;refine bB (jU x4) (Has.each e9 (j3 f))<|bB (fL.sl (.slice x4.I x4.A.length x4.cap) x4.A) (xC d7) ?_;have B:=wf_val ha f;have hxl:=lJ B;refine g10 ?_;refine cI (ι:=Nat×Int) [(2,_),(4,_),(6,_),(9,_)] ⟨rfl,rfl,rfl,rfl,j1⟩ (λ⟨i,n⟩=>[(8,.int .i64 n),(10,.int .i64 (i:Nat))]) (λ_=>[]) (λ⟨i,n⟩=>[Fact.pure (i<=x4.A.length/\Cnt9 x4.A i n)]) (λ⟨i,n⟩=>x4.A.length-i) (0,0) ⟨rfl,rfl,j1⟩ .nil ⟨j2 (⟨m0,cnt9_start _⟩),j1⟩ ?_;rintro⟨i,n⟩;dsimp only;refine bG d7 λhinv8=>?_;refine g9 ?_;refine fA (λZ=>?_) λZ=>?_
 .refine g9 ?_;obtain⟨x6,C⟩:=gx x4.A i;refine ss (ixs i) ?_;refine one ?_;refine ss (oZ C 1) ?_;refine ss (j7 builtM_0) ?_;refine one ?_;refine ss (sti_neq_E x6 rfl rfl rfl) ?_;refine g2 ?_;refine iK (λY=>?_) λY=>?_
  .refine g2 ?_;refine ss (j7 (yJ)) ?_;refine g11 ?_;have hr:=y.symm.trans (ptT_c m0 m0 ‹_› f (cnt9_bad B C ‹_›));subst hr;exact rs2 (⟨⟨none,0,[]⟩,false,⟨none,0,[]⟩⟩:TyV) ⟨(bR (x:=⟨⟨none,0,[]⟩,false,⟨none,0,[]⟩⟩) bN bN),j2 (λh=>absurd (show(93:Int)=0 from h) m9),j1⟩
  refine g5 ?_;refine ss (ixs i) ?_;refine one ?_;refine ss (gI C 0) ?_;refine g7 ?_;refine inc (i+1) ?_;refine g3 ?_;exact bk2 (i+1,x6.n) ⟨j2 (⟨by dsimp only;omega,cnt9_step B hinv8.2 C ‹_›⟩),j1⟩
 refine g6 ?_;have v:=cnt9_end B hinv8.2 m0;have hnr:=hinv8.2.2.1;have hnr2:=hinv8.2.2.2;refine g4 ?_;refine bJ (z':= -n) ai0 ?_;refine one ?_;refine bJ (z':=max n (-n)) (maxZ _ _) ?_;refine g8 ?_;obtain⟨x8,d⟩:=gx b.B.A 0;refine ss (ixs 0) ?_;refine ss (gI d 0) ?_;refine one ?_;refine bG (dG (Has.each e9 (j3 d))) λJ=>?_;refine j5 func112 (bSq (p:=x8) (max n (-n)) J) ⟨(Has.each e9 (j3 d)),j1⟩ λ_=>?_;refine g3 ?_;refine iK (λX=>?_) λX=>?_
 .refine g2 ?_;refine ss (j7 (yJ)) ?_;refine g6 ?_;have hr:=y.symm.trans (ptT_d m0 m0 ‹_› f v d ‹_›);subst hr;exact rs2 (⟨⟨none,0,[]⟩,false,⟨none,0,[]⟩⟩:TyV) ⟨(bR (x:=⟨⟨none,0,[]⟩,false,⟨none,0,[]⟩⟩) bN bN),j2 (λh=>absurd (show(93:Int)=0 from h) m9),j1⟩
 refine g6 ?_;refine ss (j7 (wR _)) ?_;refine j4 rW λb11=>?_;refine g6 ?_;refine j5 func68 (kJ ((max n (-n)))) j1 λ⟨A12,c13⟩=>?_;refine g5 ?_
 rcases bQc dr with D|D
 .subst D;refine g9 ?_;refine ss (ixs 0) ?_;refine ss (gI d 0) ?_;refine one ?_;refine bG (dG (Has.each f4 (j3 d))) λI=>bG (dG d7) λG=>?_;refine j5 func111 (refSub9 (p:=x8) (q:=⟨A12,c13,bY ((max n (-n)))⟩) I G) ⟨(Has.each f4 (j3 d)),d7,j1⟩ λ⟨A14,c15⟩=>?_;refine g14 ?_;refine tL (λW=>?_) λW=>?_
  .refine g2 ?_;refine ss (j7 (yJ)) ?_;refine g7 ?_;have hr:=y.symm.trans (ptT_e m0 m0 ‹_› f v d ‹_› ‹_›);subst hr;exact rs2 (⟨⟨none,0,[]⟩,false,⟨none,0,[]⟩⟩:TyV) ⟨(bR (x:=⟨⟨none,0,[]⟩,false,⟨none,0,[]⟩⟩) bN bN),j2 (λh=>absurd (show(95:Int)=0 from h) m9),j1⟩
  refine g10 ?_;refine k6 (m:=⟨A14,c15,(cD x8.A (bY ((max n (-n)))) (-1)).1⟩) λb18=>?_;refine dN (E:=bV) (xs:=[(⟨A14,c15,(cD x8.A (bY ((max n (-n)))) (-1)).1⟩:PolV)]) .head aa5 ?_;refine g2 ?_;refine ss (dU hT (k:=1) rfl rfl rfl rfl rfl rfl m0) ?_;refine bB (bV.sl (.slice (iJ b.B.I 1 bV.size b.B.cap) (b.B.A.length-1) (b.B.cap-1)) (b.B.A.drop 1)) (jQ f7 ag6 ab9)<|bB (cL (b.B.A.drop 1)) (iB 1 f7) ?_;refine cV .head (bE d8) rfl rfl rfl rfl rfl rfl s9 p6 λu o=>?_;refine fS .head λc=>bS .head<|bB (cL ([(⟨A14,c15,(cD x8.A (bY ((max n (-n)))) (-1)).1⟩:PolV)]++(b.B.A.drop 1))) (hU (gL e6) d8) ?_;refine g12 ?_;refine iK (λz=>?_) λz=>?_
  .refine g9 ?_;have hr:=y.symm.trans (pt9_g (A:=u) (q:=o) (p:=⟨A14,c15,(cD x8.A (bY ((max n (-n)))) (-1)).1⟩) (V:=⟨none,0,[]⟩) m0 m0 ‹_› f v d ‹_› m0 rfl (((if_neg ag4).trans (hb.un ‹_›)).symm));subst hr;exact rs2 (⟨⟨u,o,([(⟨A14,c15,(cD x8.A (bY ((max n (-n)))) (-1)).1⟩:PolV)]++(b.B.A.drop 1))⟩,b.known,⟨none,0,[]⟩⟩:TyV) ⟨(bR (x:=⟨⟨u,o,([(⟨A14,c15,(cD x8.A (bY ((max n (-n)))) (-1)).1⟩:PolV)]++(b.B.A.drop 1))⟩,b.known,⟨none,0,[]⟩⟩) (bZ d8 d7 (c)) bN),j2 (λ_=>rfl),j1⟩
  refine g3 ?_;have hcv:=bKm hb m0 ‹_› d ‹_›;refine g20 ?_;refine fA (λw=>?_) λw=>?_
  .refine g4 ?_;refine bJ (z':=(((b.values.A.length:Nat):Int)+n)) (xF m0 m0) ?_;refine g9 ?_;refine bF (t':=true) (decide_eq_true m0) ?_;refine one ?_;refine bF (t':=true) m9 ?_;refine g3 ?_;have hkl:(((b.values.A.length:Nat):Int)+n).toNat<=b.values.A.length:=m0
   refine bB (cO ⟨b.values.I,b.values.cap,b.values.A.take ((((b.values.A.length:Nat):Int)+n).toNat)⟩) (nF i6 g hkl)<|bB (bV.sl (.slice b.values.I (b.values.A.take ((((b.values.A.length:Nat):Int)+n).toNat)).length b.values.cap) (b.values.A.take ((((b.values.A.length:Nat):Int)+n).toNat))) (nY d7)<|bB (cL (b.values.A.take ((((b.values.A.length:Nat):Int)+n).toNat))) (oT d8)<|bQ (t:=40) bV ?_;refine cK _ _ [k8,u5,u9,A00,u6,(false,1),A17,A01,A68] cN o8 (.c2 (.c2 (.c2 .nil))) bA.self ?_;refine g4 ?_;refine stM rfl (iQ hT (k:=(((b.values.A.length:Nat):Int)+n).toNat) rfl rfl rfl rfl rfl m0 m0) ?_;refine iC (v':= .slice b.values.I (b.values.A.take ((((b.values.A.length:Nat):Int)+n).toNat)).length b.values.cap) ac3 ?_;refine g4 ?_;refine cV .head (bE d8) rfl rfl rfl rfl rfl rfl s9 p6 λR N=>?_;refine g8 ?_;refine fS kT1 λe=>bS kT1<|bB (cL ([]++(b.values.A.take ((((b.values.A.length:Nat):Int)+n).toNat)))) (hU Has.each_nil d8) ?_;refine g7 ?_;have hr:=y.symm.trans (pt9_g (A:=u) (q:=o) (p:=⟨A14,c15,(cD x8.A (bY ((max n (-n)))) (-1)).1⟩) (V:=⟨R,N,([]++(b.values.A.take ((((b.values.A.length:Nat):Int)+n).toNat)))⟩) m0 m0 ‹_› f v d ‹_› m0 rfl (((if_pos (show b.known=true from by assumption)).trans (bLh (k:=(((b.values.A.length:Nat):Int)+n).toNat) (tk:=false) (n:=n) (l:=b.values.A) (decide_eq_false m0).symm (by split<;>omega))).symm));subst hr;exact rs2 (⟨⟨u,o,([(⟨A14,c15,(cD x8.A (bY ((max n (-n)))) (-1)).1⟩:PolV)]++(b.B.A.drop 1))⟩,b.known,⟨R,N,([]++(b.values.A.take ((((b.values.A.length:Nat):Int)+n).toNat)))⟩⟩:TyV) ⟨(bR (x:=⟨⟨u,o,([(⟨A14,c15,(cD x8.A (bY ((max n (-n)))) (-1)).1⟩:PolV)]++(b.B.A.drop 1))⟩,b.known,⟨R,N,([]++(b.values.A.take ((((b.values.A.length:Nat):Int)+n).toNat)))⟩⟩) (bZ e9 e8 (c)) (bZ d8 d7 (e))),j2 (λ_=>rfl),j1⟩
  refine g8 ?_;refine bF (t':=false) (decide_eq_false m0) ?_;refine one ?_;refine bF (t':=false) m9 ?_;refine g3 ?_;have hkl:n.toNat<=b.values.A.length:=m0
  refine bB (cO ⟨iJ b.values.I (n.toNat) bV.size b.values.cap,b.values.cap-n.toNat,b.values.A.drop (n.toNat)⟩) (sB i6 g hkl)<|bB (bV.sl (.slice (iJ b.values.I (n.toNat) bV.size b.values.cap) (b.values.A.drop (n.toNat)).length (b.values.cap-n.toNat)) (b.values.A.drop (n.toNat))) (nY d7)<|bB (cL (b.values.A.drop (n.toNat))) (oT d8)<|bQ (t:=40) bV ?_;refine cK _ _ [k8,u5,u9,A00,u6,(false,1),A17,A01,A68] cN o8 (.c2 (.c2 (.c2 .nil))) bA.self ?_;refine g4 ?_;refine stM rfl (dU hT (k:=n.toNat) rfl rfl rfl rfl rfl m0 m0) ?_;refine iC (v':= .slice (iJ b.values.I (n.toNat) bV.size b.values.cap) (b.values.A.drop (n.toNat)).length (b.values.cap-n.toNat)) ae2 ?_;refine g4 ?_;refine cV .head (bE d8) rfl rfl rfl rfl rfl rfl s9 p6 λQ M=>?_;refine g8 ?_;refine fS kT1 λe=>bS kT1<|bB (cL ([]++(b.values.A.drop (n.toNat)))) (hU Has.each_nil d8) ?_;refine g7 ?_;have hr:=y.symm.trans (pt9_g (A:=u) (q:=o) (p:=⟨A14,c15,(cD x8.A (bY ((max n (-n)))) (-1)).1⟩) (V:=⟨Q,M,([]++(b.values.A.drop (n.toNat)))⟩) m0 m0 ‹_› f v d ‹_› m0 rfl (((if_pos (show b.known=true from by assumption)).trans (bLd (k:=n.toNat) (tk:=false) (n:=n) (l:=b.values.A) aj6 (by split<;>omega))).symm));subst hr;exact rs2 (⟨⟨u,o,([(⟨A14,c15,(cD x8.A (bY ((max n (-n)))) (-1)).1⟩:PolV)]++(b.B.A.drop 1))⟩,b.known,⟨Q,M,([]++(b.values.A.drop (n.toNat)))⟩⟩:TyV) ⟨(bR (x:=⟨⟨u,o,([(⟨A14,c15,(cD x8.A (bY ((max n (-n)))) (-1)).1⟩:PolV)]++(b.B.A.drop 1))⟩,b.known,⟨Q,M,([]++(b.values.A.drop (n.toNat)))⟩⟩) (bZ e9 e8 (c)) (bZ d8 d7 (e))),j2 (λ_=>rfl),j1⟩
 subst D;refine g10 ?_;refine k6 (m:=⟨A12,c13,bY ((max n (-n)))⟩) λb25=>?_;refine dN (E:=bV) (xs:=[(⟨A12,c13,bY ((max n (-n)))⟩:PolV)]) .head aa5 ?_;refine g2 ?_;refine ss (dU hT (k:=1) rfl rfl rfl rfl rfl rfl m0) ?_;refine bB (bV.sl (.slice (iJ b.B.I 1 bV.size b.B.cap) (b.B.A.length-1) (b.B.cap-1)) (b.B.A.drop 1)) (jQ f5 ag6 ab9)<|bB (cL (b.B.A.drop 1)) (iB 1 f5) ?_;refine cV .head (bE d8) rfl rfl rfl rfl rfl rfl s9 p6 λs j=>?_;refine fS .head λc=>bS .head<|bB (cL ([(⟨A12,c13,bY ((max n (-n)))⟩:PolV)]++(b.B.A.drop 1))) (hU (gL e6) d8) ?_;refine g12 ?_;refine iK (λz=>?_) λz=>?_
 .refine g9 ?_;have hr:=y.symm.trans (pt9_f (A:=s) (q:=j) (p:=⟨A12,c13,bY ((max n (-n)))⟩) (V:=⟨none,0,[]⟩) m0 m0 ‹_› f v d ‹_› rfl (((if_neg ag4).trans (hb.un ‹_›)).symm));subst hr;exact rs2 (⟨⟨s,j,([(⟨A12,c13,bY ((max n (-n)))⟩:PolV)]++(b.B.A.drop 1))⟩,b.known,⟨none,0,[]⟩⟩:TyV) ⟨(bR (x:=⟨⟨s,j,([(⟨A12,c13,bY ((max n (-n)))⟩:PolV)]++(b.B.A.drop 1))⟩,b.known,⟨none,0,[]⟩⟩) (bZ d8 d7 (c)) bN),j2 (λ_=>rfl),j1⟩
 refine g3 ?_;have hcv:=bKm hb m0 ‹_› d ‹_›;refine g20 ?_;refine fA (λw=>?_) λw=>?_
 .refine g4 ?_;refine bJ (z':=(((b.values.A.length:Nat):Int)+n)) (xF m0 m0) ?_;refine g9 ?_;refine bF (t':=true) (decide_eq_true m0) ?_;refine one ?_;refine bF (t':=false) m9 ?_;refine g3 ?_;have hkl:(((b.values.A.length:Nat):Int)+n).toNat<=b.values.A.length:=m0
  refine bB (cO ⟨iJ b.values.I ((((b.values.A.length:Nat):Int)+n).toNat) bV.size b.values.cap,b.values.cap-(((b.values.A.length:Nat):Int)+n).toNat,b.values.A.drop ((((b.values.A.length:Nat):Int)+n).toNat)⟩) (sB f9 g hkl)<|bB (bV.sl (.slice (iJ b.values.I ((((b.values.A.length:Nat):Int)+n).toNat) bV.size b.values.cap) (b.values.A.drop ((((b.values.A.length:Nat):Int)+n).toNat)).length (b.values.cap-(((b.values.A.length:Nat):Int)+n).toNat)) (b.values.A.drop ((((b.values.A.length:Nat):Int)+n).toNat))) (nY d7)<|bB (cL (b.values.A.drop ((((b.values.A.length:Nat):Int)+n).toNat))) (oT d8)<|bQ (t:=40) bV ?_;refine cK _ _ [k8,u5,u9,A00,u6,(false,1),A17,A01,A68] cN o8 (.c2 (.c2 (.c2 .nil))) bA.self ?_;refine g4 ?_;refine stM rfl (dU hT (k:=(((b.values.A.length:Nat):Int)+n).toNat) rfl rfl rfl rfl rfl m0 m0) ?_;refine iC (v':= .slice (iJ b.values.I ((((b.values.A.length:Nat):Int)+n).toNat) bV.size b.values.cap) (b.values.A.drop ((((b.values.A.length:Nat):Int)+n).toNat)).length (b.values.cap-(((b.values.A.length:Nat):Int)+n).toNat)) ae2 ?_;refine g4 ?_;refine cV .head (bE d8) rfl rfl rfl rfl rfl rfl s9 p6 λP L=>?_;refine g8 ?_;refine fS kT1 λe=>bS kT1<|bB (cL ([]++(b.values.A.drop ((((b.values.A.length:Nat):Int)+n).toNat)))) (hU Has.each_nil d8) ?_;refine g7 ?_;have hr:=y.symm.trans (pt9_f (A:=s) (q:=j) (p:=⟨A12,c13,bY ((max n (-n)))⟩) (V:=⟨P,L,([]++(b.values.A.drop ((((b.values.A.length:Nat):Int)+n).toNat)))⟩) m0 m0 ‹_› f v d ‹_› rfl (((if_pos (show b.known=true from by assumption)).trans (bLd (k:=(((b.values.A.length:Nat):Int)+n).toNat) (tk:=true) (n:=n) (l:=b.values.A) aj5 (by split<;>omega))).symm));subst hr;exact rs2 (⟨⟨s,j,([(⟨A12,c13,bY ((max n (-n)))⟩:PolV)]++(b.B.A.drop 1))⟩,b.known,⟨P,L,([]++(b.values.A.drop ((((b.values.A.length:Nat):Int)+n).toNat)))⟩⟩:TyV) ⟨(bR (x:=⟨⟨s,j,([(⟨A12,c13,bY ((max n (-n)))⟩:PolV)]++(b.B.A.drop 1))⟩,b.known,⟨P,L,([]++(b.values.A.drop ((((b.values.A.length:Nat):Int)+n).toNat)))⟩⟩) (bZ e9 e8 (c)) (bZ d8 d7 (e))),j2 (λ_=>rfl),j1⟩
 refine g8 ?_;refine bF (t':=false) (decide_eq_false m0) ?_;refine one ?_;refine bF (t':=true) m9 ?_;refine g3 ?_;have hkl:n.toNat<=b.values.A.length:=m0
 refine bB (cO ⟨b.values.I,b.values.cap,b.values.A.take (n.toNat)⟩) (nF f9 g hkl)<|bB (bV.sl (.slice b.values.I (b.values.A.take (n.toNat)).length b.values.cap) (b.values.A.take (n.toNat))) (nY d7)<|bB (cL (b.values.A.take (n.toNat))) (oT d8)<|bQ (t:=40) bV ?_;refine cK _ _ [k8,u5,u9,A00,u6,(false,1),A17,A01,A68] cN o8 (.c2 (.c2 (.c2 .nil))) bA.self ?_;refine g4 ?_;refine stM rfl (iQ hT (k:=n.toNat) rfl rfl rfl rfl rfl m0 m0) ?_;refine iC (v':= .slice b.values.I (b.values.A.take (n.toNat)).length b.values.cap) ac3 ?_;refine g4 ?_;refine cV .head (bE d8) rfl rfl rfl rfl rfl rfl s9 p6 λO K=>?_;refine g8 ?_;refine fS kT1 λe=>bS kT1<|bB (cL ([]++(b.values.A.take (n.toNat)))) (hU Has.each_nil d8) ?_;refine g7 ?_;have hr:=y.symm.trans (pt9_f (A:=s) (q:=j) (p:=⟨A12,c13,bY ((max n (-n)))⟩) (V:=⟨O,K,([]++(b.values.A.take (n.toNat)))⟩) m0 m0 ‹_› f v d ‹_› rfl (((if_pos (show b.known=true from by assumption)).trans (bLh (k:=n.toNat) (tk:=true) (n:=n) (l:=b.values.A) (decide_eq_true m0).symm (by split<;>omega))).symm));subst hr;exact rs2 (⟨⟨s,j,([(⟨A12,c13,bY ((max n (-n)))⟩:PolV)]++(b.B.A.drop 1))⟩,b.known,⟨O,K,([]++(b.values.A.take (n.toNat)))⟩⟩:TyV) ⟨(bR (x:=⟨⟨s,j,([(⟨A12,c13,bY ((max n (-n)))⟩:PolV)]++(b.B.A.drop 1))⟩,b.known,⟨O,K,([]++(b.values.A.take (n.toNat)))⟩⟩) (bZ e9 e8 (c)) (bZ d8 d7 (e))),j2 (λ_=>rfl),j1⟩
theorem dy9_spec(f:Int)(a b:TyV)(ha:WfT a.t)(hb:WfT b.t):cY prog 45 [l5 f,.agg #[k7 a.B,.bool a.known,k7 a.values],.agg #[k7 b.B,.bool b.known,k7 b.values]] [] [tyF a,tyF b] (λ(x:TyV)=> .tuple #[tyC x,k9 (pO f a.t b.t).2]) (λ_=>[]) (λ(x:TyV)=>[tyF x,Fact.pure ((pO f a.t b.t).2=0->x.t=(pO f a.t b.t).1)]):=by
 have hT:=dL;have C:=oV ha;have A:=wZ ha;have B:=oV hb;have z:=wZ hb;generalize g:pO f a.t b.t=r;refine j8 func45 ntmps45 ?_;intro β hM;refine bP<|bB (cO a.B) (jK d7) ?_;refine cE a.B mT0 λs=>bB (cO a.values) (jM e6)<|cE a.values mT0 λq=>bB (cO b.B) (jK f4)<|cE b.B mT0 λhc_bs=>bB (cO b.values) (jM f9)<|cE b.values mT0 λp=>?_;refine one ?_;refine j6 λI=>?_;refine j6 λG=>?_;refine j4 rW λE=>?_;refine g16 ?_;refine gJ (λo=>?_) λo=>?_
 .refine g4 ?_;refine j5 func75 (rho9_spec a b ha hb) ⟨i7,j0,j1⟩ λy=>?_;refine bG d8 λhy=>?_;refine g9 ?_;obtain rfl:=g.symm.trans (dy_a ‹_›);exact rs2 (y:TyV) ⟨d7,j2 hy,j1⟩
 refine g7 ?_;refine gJ (λhc19=>?_) λhc19=>?_
 .refine bF (t':=true) (beq_iff_eq.2 ‹_›) ?_;refine g9 ?_;refine bF (t':=false) (by rw[hc19];rfl) ?_;refine j5 func76 (bPp false a b ha hb) ⟨i7,j0,j1⟩ λw=>?_;refine bG d8 λhy=>?_;refine g9 ?_;obtain rfl:=g.symm.trans (dy_b ‹_›);exact rs2 (w:TyV) ⟨d7,j2 hy,j1⟩
 refine g5 ?_;refine gJ (λc=>?_) λc=>?_
 .refine bF (t':=true) (beq_iff_eq.2 ‹_›) ?_;refine g6 ?_;refine bF (t':=true) (by rw[c];rfl) ?_;refine j5 func76 (bPp true a b ha hb) ⟨i7,j0,j1⟩ λv=>?_;refine bG d8 λhy=>?_;refine g9 ?_;obtain rfl:=g.symm.trans (dy_c ‹_›);exact rs2 (v:TyV) ⟨d7,j2 hy,j1⟩
 refine g6 ?_;refine gJ (λn=>?_) λn=>?_
 .refine g4 ?_;refine j5 func77 (cat9_spec a b ha hb) ⟨i7,j0,j1⟩ λu=>?_;refine bG d8 λhy=>?_;refine g9 ?_;obtain rfl:=g.symm.trans (dy_d ‹_›);exact rs2 (u:TyV) ⟨d7,j2 hy,j1⟩
 refine g4 ?_;refine vM (ι:=Unit) [(0,_),(4,_),(5,_),(6,_)] ⟨rfl,rfl,rfl,rfl,j1⟩ (λ_u=>[]) (λ_u=>[]) .nil (λ_u=>[Fact.pure (a.B.A.length=0\/b.B.A.length=0\/bO a.B.A=bO b.B.A)]) ?_ ?_
 .refine g7 ?_;refine lK (λj=>?_) λj=>?_
  .refine g6 ?_;refine lK (λi=>?_) λi=>?_
   .refine g4 ?_;refine j5 func46 (vZ a.B.I b.B.I a.B.cap b.B.cap a.B.A b.B.A m0) ⟨f9,f7,e7,e6,j1⟩ λ_=>?_;refine g4 ?_;refine iK (λhc53=>?_) λhc53=>?_
    .refine g2 ?_;refine ss (j7 (yJ)) ?_;refine g5 ?_;refine r_join ?_;refine cH ?_;have hr:=g.symm.trans (dy_e ‹_› ‹_› ‹_› ‹_› m0 m0 (of_decide_eq_false ‹_›));subst hr;exact rs2 (⟨⟨none,0,[]⟩,false,⟨none,0,[]⟩⟩:TyV) ⟨(bR (x:=⟨⟨none,0,[]⟩,false,⟨none,0,[]⟩⟩) bN bN),j2 (λh=>absurd (show(91:Int)=0 from h) m9),j1⟩
    refine one ?_;exact iT () j1 ⟨rfl,rfl,rfl,rfl,j1⟩ (.c0 (.c0 (.c0 .nil))) ⟨j2 ad6,j1⟩ (bA.drop 0)
   refine g11 ?_;exact iT () j1 ⟨rfl,rfl,rfl,rfl,j1⟩ (.c0 (.c0 (.c0 .nil))) ⟨j2 ad6,j1⟩ (bA.drop 0)
  refine g17 ?_;exact iT () j1 ⟨rfl,rfl,rfl,rfl,j1⟩ (.c0 (.c0 (.c0 .nil))) ⟨j2 ad6,j1⟩ (bA.drop 0)
 rintro _u;refine bG d7 λhjn=>?_;refine g5 ?_;refine ss (j7 (wQ _ _ _)) ?_;refine j4 rW λD=>?_;refine g12 ?_;refine gJ (λm=>?_) λm=>?_
 .refine g12 ?_;refine j5 func74 (bEs f a b (each_ok9 ha hb hjn)) ⟨j0,(Has.of zA),j1⟩ λe=>?_;refine bG d8 λhE=>?_;refine g29 ?_;have hr:=g.symm.trans (dy_f rfl ‹_› ‹_› ‹_› ‹_› m0 hE);subst hr;exact rs2 (⟨b.B,e.k,e.l⟩:TyV) ⟨(bR (x:=⟨b.B,e.k,e.l⟩) f5 d7),j2 (λ_=>rfl),j1⟩
 refine g7 ?_;refine j5 func74 (bEs f a b (each_ok9 ha hb hjn)) ⟨j0,(Has.of zA),j1⟩ λd=>?_;refine bG d8 λhE=>?_;refine g29 ?_;have hr:=g.symm.trans (dy_g rfl ‹_› ‹_› ‹_› ‹_› m0 (hjn.resolve_left m0) hE);subst hr;exact rs2 (⟨a.B,d.k,d.l⟩:TyV) ⟨(bR (x:=⟨a.B,d.k,d.l⟩) (Has.of zA) d7),j2 (λ_=>rfl),j1⟩
section
variable {vs vars : List Bs} {d : kF}
theorem var_side(hV:vs=vars)(h:decide (0<=idxOf d.name vs 0)=true):bAg vs d.name=bJo vars d.sd:=by subst hV;have h:=of_decide_eq_true h;exact(if_pos h).trans (if_pos (show 0<=idxOf d.sd.name vs 0 from h)).symm
theorem con_side(hV:vs=vars)(h:decide (0<=idxOf d.name vs 0)=false):bY d.n=bJo vars d.sd:=by subst hV;exact(if_neg (show ¬0<=idxOf d.sd.name vs 0 from of_decide_eq_false h)).symm
theorem var_pol{s:Bs}(h:decide (0<=idxOf s vs 0)=true):(⟨[],true,[bAg vs s]⟩:TyP)=⟨[],true,[(pG (idxOf s vs 0)).1]⟩:=by have h:bAg vs s=(pG (idxOf s vs 0)).1:=if_pos (of_decide_eq_true h);rw[h]
end
theorem named9_spec(eb:Nat)(e:EnvV)(hL:e.L.A.length<=e.P.G.A.length)(hV:e.V.A=dO e.P.pr)(hvl:e.V.A.length<=140737488355328)(hIl:e.P.C.A.length<=140737488355328)(hLl:e.P.G.A.length<=140737488355328)(hs4: ∀x∈e.P.C.A,x.B.A.length<=4)(hv: ∀v∈dO e.P.pr,sH v)(s:Bs)(hs:sH s):cY prog 43 [.pointer (some ⟨eb,0,none⟩),.string (bs s)] [envO eb e,tyE.row (k7 e.L) 38 e.L.A] [lN.sl (k7 e.V) e.V.A,jN.sl (k7 e.P.C) e.P.C.A,iY e.P.C.A,nW.sl (k7 e.P.G) e.P.G.A,lZ e.P.G.A,Fact.each e.L.A tyF] (λ(x:TyV)=> .tuple #[tyC x,k9 (if (nameT (iW e.P.pr (e.L.A.map TyV.t)) s).isSome=true then 0 else 83)]) (λ_=>[envO eb e,tyE.row (k7 e.L) 38 e.L.A]) (λ(x:TyV)=>[tyF x,Fact.pure (x.t=(nameT (iW e.P.pr (e.L.A.map TyV.t)) s).getD ⟨[],false,[]⟩)]):=by
 have hT:=dL;generalize I:nameT (iW e.P.pr (e.L.A.map TyV.t)) s=r;refine j8 func43 ntmps43 ?_;intro β hM;refine g2 ?_;refine j4 rW λb1=>?_;refine g5 ?_;have N:(e.L.A.map TyV.t).length=e.L.A.length:=O4 _;have O:e.P.pr.C.length=e.P.C.A.length:=O4 _;refine g7 ?_;refine bJ (z':=((e.L.A.length:Nat):Int)-1) (yN m0 m0 m0) ?_;refine g4 ?_;refine cI (ι:=Nat) [(0,_),(1,_),(4,_)] ⟨rfl,rfl,rfl,j1⟩ (λk=>[(6,.int .i64 ((k:Int)-1))]) (λ_=>[]) (λk=>[Fact.pure (k<=e.L.A.length/\bUh e.P.pr (e.L.A.map TyV.t) s k)]) (λk=>k) e.L.A.length ⟨rfl,j1⟩ .nil ⟨j2 (⟨B0 _,N▸lnN_start⟩),j1⟩ ?_;rintro k;refine bG d7 λg=>?_;refine g7 ?_;refine bKs (λD=>?_) λD=>?_
 .obtain⟨m,rfl⟩: ∃m,k=m+1:=⟨k-1,m0⟩
  refine g5 ?_;obtain⟨X,u⟩:=gx e.L.A m;have y:(e.L.A.map TyV.t)[m]?=some X.t:=sU u;refine g7 ?_;obtain⟨J,q⟩:=gx e.P.G.A m;refine ss (cC hT (k:=m) (bE e7) rfl rfl rfl rfl rfl rfl m0 m0) ?_;refine one ?_;refine ss (gI q 0) ?_;refine g4 ?_;refine fT (λf=>?_) λf=>?_
  .have f:J.name=s:=eq_of_beq f;refine g7 ?_;refine ss (cC hT (k:=m) (cM kT2) rfl rfl rfl rfl rfl rfl m0 m0) ?_;refine ss (oZ u 0) ?_;refine g10 ?_;obtain rfl:=I.symm.trans (lnN_hit g.2 (mK q) y ‹_›);exact rs2 X ⟨Has.each e9 (j3 u),j2 rfl,j1⟩
  have f:J.name≠s:=λh=>absurd (beq_iff_eq.2 h) (by rw[show(J.name==s)=false from f];simp);refine g6 ?_;refine bJ (z':=((m:Nat):Int)-1) (yN m0 m0 m0) ?_;refine g3 ?_;exact bk2 m ⟨j2 (⟨m0,lnN_step g.2 (mK q) y ‹_›⟩),j1⟩
 obtain rfl:k=0:=m0
 have M:=inN_start (lnN_end hv g.2);refine g15 ?_;refine bJ (z':=((e.P.C.A.length:Nat):Int)-1) (yN m0 m0 m0) ?_;refine g4 ?_;refine cI (ι:=Nat) [(0,_),(1,_),(4,_)] ⟨rfl,rfl,rfl,j1⟩ (λk=>[(7,.int .i64 ((k:Int)-1))]) (λ_=>[]) (λk=>[Fact.pure (k<=e.P.C.A.length/\bRb e.P.pr (e.L.A.map TyV.t) s k)]) (λk=>k) e.P.C.A.length ⟨rfl,j1⟩ .nil ⟨j2 (⟨B0 _,O▸M⟩),j1⟩ ?_;rintro k;refine bG d7 λd=>?_;refine g7 ?_;refine bKs (λC=>?_) λC=>?_
 .obtain⟨m,rfl⟩: ∃m,k=m+1:=⟨k-1,m0⟩
  refine g12 ?_;obtain⟨x4,i⟩:=gx e.P.C.A m;refine ss (cC hT (k:=m) (bE e6) rfl rfl rfl rfl rfl rfl m0 m0) ?_;refine ss (oZ i 0) ?_;refine j4 mC λb6=>?_;refine g12 ?_;refine fT (λb=>?_) λb=>?_
  .have b:x4.name≠s:=λh=>by rw[h]at b;first|(simp at b;done)|exact absurd b m9
   refine g7 ?_;refine bJ (z':=((m:Nat):Int)-1) (yN m0 m0 m0) ?_;refine g3 ?_;exact bk2 m ⟨j2 (⟨m0,inN_step d.2 (mK i) ‹_›⟩),j1⟩
  have b:x4.name=s:=eq_of_beq (mL b);refine g3 ?_;refine bB (nG x4) (Has.each e7 (j3 i)) ?_;have Z:=hs4 x4 (j3 i);refine one ?_;refine j4 rW λb7=>?_;refine g9 ?_;refine bQ (t:=40) bV<|bB (cL []) (Has.each_nil) ?_;refine cI (ι:=Nat×List PolV×Option Addr×Nat) [(0,_),(4,_),(8,_),(9,_)] ⟨rfl,rfl,rfl,rfl,j1⟩ (λ⟨j,vs,V2,cv2⟩=>[(10,.int .i64 (j:Nat))]) (λ⟨j,vs,V2,cv2⟩=>[.obj b7 (.cells [.slice V2 vs.length cv2,.bool false,.slice none 0 0].toArray 38),bV.row (.slice V2 vs.length cv2) 40 vs,envO eb e]) (λ⟨j,vs,V2,cv2⟩=>[Fact.pure (j<=x4.B.A.length/\SdAt (dO e.P.pr) x4.B.A vs j),cL vs]) (λ⟨j,vs,V2,cv2⟩=>x4.B.A.length-j) (0,[],none,0) ⟨rfl,j1⟩ (.c1 (.c0 (.c2 .nil))) ⟨j2 (⟨m0,bXp _ _⟩),d7,j1⟩ ?_;rintro⟨j,vs,V2,cv2⟩;dsimp only;refine bG d7 λa=>?_;have Y:=sdT_len a.2 a.1;refine g10 ?_;refine fA (λB=>?_) λB=>?_
  .refine g10 ?_;obtain⟨x8,o⟩:=gx x4.B.A j;refine ss (ixs j) ?_;refine one ?_;refine ss (gI o 0) ?_;refine bC func70 (bWr eb e x8.name hvl) rfl rfl (.c2 .nil) ⟨e9,j1⟩ λ⟨A10,c11⟩=>?_;refine g14 ?_;refine iK (λz=>?_) λz=>?_
   .refine g4 ?_;refine ss (ixs j) ?_;refine one ?_;refine ss (gI o 1) ?_;refine j5 func68 (kJ (x8.n)) j1 λ⟨A12,c13⟩=>?_;refine g7 ?_;refine k6 (m:=⟨A12,c13,bY (x8.n)⟩) λb14=>?_;refine bB (cL (vs++[(⟨A12,c13,bY (x8.n)⟩:PolV)])) (Has.each_snoc e6 d7) ?_;refine cV kT3 (bT .head rfl) rfl rfl rfl rfl rfl rfl rfl s8 λW R=>?_;refine g8 ?_;refine inc (j+1) ?_;refine g3 ?_;exact bk2 (j+1,vs++[(⟨A12,c13,bY (x8.n)⟩:PolV)],W,R) ⟨j2 (⟨by dsimp only;omega,bHm a.2 o (con_side hV ‹_›)⟩),d7,j1⟩
   refine g6 ?_;refine k6 (m:=⟨A10,c11,bAg e.V.A x8.name⟩) λb17=>?_;refine bB (cL (vs++[(⟨A10,c11,bAg e.V.A x8.name⟩:PolV)])) (Has.each_snoc d9 d7) ?_;refine cV kT3 (bT .head rfl) rfl rfl rfl rfl rfl rfl rfl s8 λU Q=>?_;refine g8 ?_;refine inc (j+1) ?_;refine g3 ?_;exact bk2 (j+1,vs++[(⟨A10,c11,bAg e.V.A x8.name⟩:PolV)],U,Q) ⟨j2 (⟨by dsimp only;omega,bHm a.2 o (var_side hV ‹_›)⟩),d7,j1⟩
  refine g6 ?_;refine fS kT1 λp=>bS kT1 ?_;refine g12 ?_;obtain rfl:=I.symm.trans (inN_hit d.2 (mK i) ‹_›);have K:=sdT_end (A:=V2) (c:=cv2) a.2 m0;exact rs2 (⟨⟨V2,cv2,vs⟩,false,⟨none,0,[]⟩⟩:TyV) ⟨bR (bZ d7 d9 p) bN,j2 K,j1⟩
 obtain rfl:k=0:=m0
 refine g9 ?_;refine bC func70 (bWr eb e s hvl) rfl rfl (.c1 .nil) ⟨d9,j1⟩ λ⟨A20,c21⟩=>?_;refine g14 ?_;refine iK (λw=>?_) λw=>?_
 .refine g2 ?_;refine ss (j7 (yJ)) ?_;refine g6 ?_;have l:=name_end (s:=s) hs hv d.2;rw[<-hV]at l;obtain rfl:=I.symm.trans (l.trans (if_neg (of_decide_eq_false ‹_›)));exact rs2 (⟨⟨none,0,[]⟩,false,⟨none,0,[]⟩⟩:TyV) ⟨(bR (x:=⟨⟨none,0,[]⟩,false,⟨none,0,[]⟩⟩) bN bN),j2 (rfl),j1⟩
 refine g5 ?_;refine k6 (m:=⟨A20,c21,bAg e.V.A s⟩) λG=>?_;refine dN (E:=bV) (xs:=[(⟨A20,c21,bAg e.V.A s⟩:PolV)]) .head aa5<|bS .head<|bB (cL [(⟨A20,c21,bAg e.V.A s⟩:PolV)]) (gL d8) ?_;refine ss (j7 (xU _ _ _ _)) ?_;refine g5 ?_;have l:=name_end (s:=s) hs hv d.2;rw[<-hV]at l;obtain rfl:=I.symm.trans (l.trans (if_pos (of_decide_eq_true ‹_›)));exact rs2 (⟨⟨none,0,[]⟩,true,⟨(some ⟨G,0,none⟩),1,[(⟨A20,c21,bAg e.V.A s⟩:PolV)]⟩⟩:TyV) ⟨(bR (x:=⟨⟨none,0,[]⟩,true,⟨(some ⟨G,0,none⟩),1,[(⟨A20,c21,bAg e.V.A s⟩:PolV)]⟩⟩) bN (bZ d8 d7 (B0 1))),j2 (var_pol ‹_›),j1⟩
section
variable {N : iA} {it : ItemV} {hv : List TyV} {x u : TyV} {e : Int}
theorem itT_nm(h:it.H=2):iO N it.it (stT hv)=((nameT N it.name).getD ⟨[],false,[]⟩,if (nameT N it.name).isSome=true then 0 else 83):=by
 cases k:(nameT N it.name).isSome
 .rw[itT_none h k];rfl
 .rw[itT_name h k];rfl
theorem itT_scan9(h:it.H=6)(hx:hv[hv.length-1]?=some x)(hs:0<x.B.A.length):iO N it.it (stT hv)=(⟨bO x.B.A,false,[]⟩,0):=by rw[itT_scan h hx hs,Z7]
theorem tE(h1:it.H≠1)(h2:it.H≠2)(h3:it.H≠3)(h5:it.H≠5)(h6:it.H≠6)(h4:it.H≠4)(hx:hv[hv.length-2]?=some x)(hu:hv[hv.length-1]?=some u)(hl:2<=hv.length)(he:e=if 4<x.B.A.length+u.B.A.length then 90 else 0):iO N it.it (stT hv)=(⟨bO (([]++x.B.A)++u.B.A),false,[]⟩,e):=itT_out h1 h2 h3 h5 h6 h4 hx hu hl he
end
theorem item9_spec(eb:Nat)(e:EnvV)(hL:e.L.A.length<=e.P.G.A.length)(hV:e.V.A=dO e.P.pr)(hvl:e.V.A.length<=140737488355328)(hIl:e.P.C.A.length<=140737488355328)(hLl:e.P.G.A.length<=140737488355328)(hs4: ∀x∈e.P.C.A,x.B.A.length<=4)(hv9: ∀v∈dO e.P.pr,sH v)(it:ItemV)(A:Option Addr)(c:Nat)(hv:List TyV)(hW: ∀t∈hv,WfT t.t)(hl:hv.length<=300)(hd:fI it.it<=hv.length)(h17:1<=it.H/\it.H<=7)(hnum:it.H=1->it.nums.A.length<=65536)(hnm:it.H=2->sH it.name):cY prog 21 [.pointer (some ⟨eb,0,none⟩),.agg #[k9 it.H,k9 it.at_,l5 it.fn,.string (bs it.name),k7 it.nums],.slice A hv.length c] [envO eb e,tyE.row (k7 e.L) 38 e.L.A,tyE.row (.slice A hv.length c) 38 hv] [lN.sl (k7 e.V) e.V.A,jN.sl (k7 e.P.C) e.P.C.A,iY e.P.C.A,nW.sl (k7 e.P.G) e.P.G.A,lZ e.P.G.A,Fact.each e.L.A tyF,bNh.sl (k7 it.nums) it.nums.A,Fact.each hv tyF] (λ(x:TyV)=> .tuple #[tyC x,k9 (iO (iW e.P.pr (e.L.A.map TyV.t)) it.it (stT hv)).2,k9 (fI it.it:Nat)]) (λ_=>[envO eb e,tyE.row (k7 e.L) 38 e.L.A,tyE.row (.slice A hv.length c) 38 hv]) (λ(x:TyV)=>[tyF x,Fact.pure ((iO (iW e.P.pr (e.L.A.map TyV.t)) it.it (stT hv)).2=0->x.t=(iO (iW e.P.pr (e.L.A.map TyV.t)) it.it (stT hv)).1)]):=by
 have hT:=dL;generalize j:iO (iW e.P.pr (e.L.A.map TyV.t)) it.it (stT hv)=r;generalize m:fI it.it=T at hd⊢;refine j8 func21 ntmps21 ?_;intro β hM;refine g2 ?_;refine j6 λb1=>?_;refine j4 rW λb2=>?_;refine g25 ?_;refine gJ (λD=>?_) λD=>?_
 .refine bP ?_;have f:T=0:=m.symm.trans (vA o5);subst f;refine g3 ?_;refine bC func42 (nums9_spec it.nums.I it.nums.cap it.nums.A (Nat.le_trans (hnum ‹_›) m9)) rfl rfl .nil ⟨e9,j1⟩ λZ=>?_;refine bG d8 λhy=>?_;refine g8 ?_;obtain rfl:=j.symm.trans (itT_lit ‹_›);exact rs3 (Z:TyV) ⟨d7,j2 (λ_=>hy),j1⟩
 refine g6 ?_;refine gJ (λC=>?_) λC=>?_
 .refine bP ?_;have f:T=0:=m.symm.trans (vA o5);subst f;refine g4 ?_;refine bC func43 (named9_spec eb e hL hV hvl hIl hLl hs4 hv9 it.name (hnm ‹_›)) rfl rfl (.c2 (.c2 .nil)) ⟨d7,d8,d9,e6,e7,e8,j1⟩ λY=>?_;refine bG d8 λhy=>?_;refine g3 ?_;refine j4 rW λb5=>?_;refine g16 ?_;obtain rfl:=j.symm.trans (itT_nm ‹_›);exact rs3 (Y:TyV) ⟨d7,j2 (λ_=>hy),j1⟩
 refine g6 ?_;refine gJ (λB=>?_) λB=>?_
 .refine bP ?_;have f:T=1:=m.symm.trans (qQ ab4);subst f;obtain⟨x,hx⟩:=gx hv (hv.length-1);have d:=hW x (j3 hx);refine bB (tyF x) (Has.each f4 (j3 hx)) ?_;have q:=oV d;refine bB (cO x.B) (jK d7)<|cE x.B mT0 λg=>bB (cO x.values) (jM e6)<|cE x.values mT0 λi=>?_;refine kP _ _ (.fl 0 (.fl 1 (.fl 2 (.fl 3 (.fl 4 (.fl 5 (.fl 6 (.two 7 11 (.fl 8 (.fl 9 (.fl 10 (.op 11 (.op 12 (.fl 13 .nil)))))) (.op 7 (.fl 8 (.fl 9 (.fl 10 (.op 12 (.fl 13 .nil)))))))))))))) cN o8 (.c0 (.c0 (.c0 (.c0 (.c0 .nil))))) bA.self ?_;refine g5 ?_;refine inc (hv.length-1) ?_;refine sqT rfl (ixs (hv.length-1)) ?_;refine sqT rfl (oZ hx 0) ?_;refine gO (o:=_) (o':=_) rfl rfl ?_ ?_
  .refine j5 func44 (bWi it.fn x d) ⟨e9,j1⟩ λX=>?_;refine bG d8 λhy=>?_;refine g5 ?_;refine j4 rW λb7=>?_;refine g19 ?_;obtain rfl:=j.symm.trans (itT_mon ‹_› hx);exact rs3 (X:TyV) ⟨d7,j2 (hy),j1⟩
  refine j4 rW λb8=>?_;refine g2 ?_;refine j5 func44 (bWi it.fn x d) ⟨e9,j1⟩ λW=>?_;refine bG d8 λhy=>?_;refine g22 ?_;obtain rfl:=j.symm.trans (itT_mon ‹_› hx);exact rs3 (W:TyV) ⟨d7,j2 (hy),j1⟩
 refine g7 ?_;refine gJ (λs=>?_) λs=>?_
 .refine bF (t':=true) al8 ?_;refine g4 ?_;have f:T=1:=m.symm.trans (qQ ab4);subst f;obtain⟨x,hx⟩:=gx hv (hv.length-1);have d:=hW x (j3 hx);refine bB (tyF x) (Has.each f4 (j3 hx)) ?_;have q:=oV d;refine bB (cO x.B) (jK d7)<|cE x.B mT0 λg=>bB (cO x.values) (jM e6)<|cE x.values mT0 λi=>?_;refine g4 ?_;refine inc (hv.length-1) ?_;refine ss (ixs (hv.length-1)) ?_;refine ss (oZ hx 0) ?_;refine j4 rW λb10=>?_;refine g12 ?_;refine gJ (λp=>?_) λp=>?_
  .refine g12 ?_;have hr:=j.symm.trans (bHj o5 hx m0);subst hr;exact rs3 (x:TyV) ⟨e9,j2 (λ_=>rfl),j1⟩
  refine g6 ?_;refine ss (j7 (wQ _ _ _)) ?_;refine j4 rW λb11=>?_;refine g9 ?_;refine bF (t':=true) (by rw[s];rfl) ?_;refine g10 ?_;refine inc (x.B.A.length-1) ?_;have hkl:(x.B.A.length-1)<=x.B.A.length:=m0
  refine ss (iQ hT (k:=(x.B.A.length-1)) rfl rfl rfl rfl rfl rfl m0) ?_;refine iC (v':= .slice x.B.I (x.B.A.take ((x.B.A.length-1))).length x.B.cap) ac3<|bB (cO ⟨x.B.I,x.B.cap,(x.B.A.take ((x.B.A.length-1)))⟩) (nF e8 g hkl) ?_;refine g15 ?_;have hr:=j.symm.trans (itT_fold ‹_› hx m0);subst hr;exact rs3 (⟨⟨x.B.I,x.B.cap,(x.B.A.take ((x.B.A.length-1)))⟩,false,⟨none,0,[]⟩⟩:TyV) ⟨(bR (x:=⟨⟨x.B.I,x.B.cap,(x.B.A.take ((x.B.A.length-1)))⟩,false,⟨none,0,[]⟩⟩) d7 bN),j2 (λ_=>rfl),j1⟩
 refine g5 ?_;refine gJ (λl=>?_) λl=>?_
 .refine bF (t':=true) al8 ?_;refine bP ?_;have f:T=1:=m.symm.trans (qQ ab4);subst f;obtain⟨x,hx⟩:=gx hv (hv.length-1);have d:=hW x (j3 hx);refine bB (tyF x) (Has.each f4 (j3 hx)) ?_;have q:=oV d;refine bB (cO x.B) (jK d7)<|cE x.B mT0 λg=>bB (cO x.values) (jM e6)<|cE x.values mT0 λi=>?_;refine g4 ?_;refine inc (hv.length-1) ?_;refine ss (ixs (hv.length-1)) ?_;refine ss (oZ hx 0) ?_;refine j4 rW λb13=>?_;refine g12 ?_;refine gJ (λp=>?_) λp=>?_
  .refine g12 ?_;have hr:=j.symm.trans (bHj o5 hx m0);subst hr;exact rs3 (x:TyV) ⟨e9,j2 (λ_=>rfl),j1⟩
  refine g6 ?_;refine ss (j7 (wQ _ _ _)) ?_;refine j4 rW λb14=>?_;refine g9 ?_;refine bF (t':=false) (by rw[l];rfl) ?_;refine g16 ?_;have hr:=j.symm.trans (itT_scan9 ‹_› hx m0);subst hr;exact rs3 (⟨x.B,false,⟨none,0,[]⟩⟩:TyV) ⟨(bR (x:=⟨x.B,false,⟨none,0,[]⟩⟩) e8 bN),j2 (λ_=>rfl),j1⟩
 refine g6 ?_;refine gJ (λz=>?_) λz=>?_
 .refine bP ?_;have f:T=2:=m.symm.trans (uL ab4);subst f;obtain⟨x,hx⟩:=gx hv (hv.length-2);have d:=hW x (j3 hx);refine bB (tyF x) (Has.each f4 (j3 hx)) ?_;have q:=oV d;refine bB (cO x.B) (jK d7)<|cE x.B mT0 λg=>bB (cO x.values) (jM e6)<|cE x.values mT0 λi=>?_;obtain⟨u,hu⟩:=gx hv (hv.length-1);have n:=hW u (j3 hu);refine bB (tyF u) (Has.each (Has.of zA) (j3 hu)) ?_;have U:=oV n;refine bB (cO u.B) (jK d7)<|cE u.B mT0 λy=>bB (cO u.values) (jM e6)<|cE u.values mT0 λw=>?_;refine kP _ _ (.fl 0 (.fl 1 (.fl 2 (.fl 3 (.fl 4 (.fl 5 (.fl 6 (.fl 7 (.fl 8 (.fl 9 (.fl 10 (.fl 11 (.two 12 16 (.fl 13 (.fl 14 (.fl 15 (.op 16 (.op 17 (.fl 18 .nil)))))) (.op 12 (.fl 13 (.fl 14 (.fl 15 (.op 17 (.fl 18 .nil))))))))))))))))))) cN o8 (.c0 (.c0 (.c0 (.c0 (.c0 .nil))))) bA.self ?_;refine g5 ?_;refine inc (hv.length-2) ?_;refine sqT rfl (ixs (hv.length-2)) ?_;refine sqT rfl (oZ hx 0) ?_;refine g3 ?_;refine inc (hv.length-1) ?_;refine sqT rfl (ixs (hv.length-1)) ?_;refine sqT rfl (oZ hu 0) ?_;refine gO (o:=_) (o':=_) rfl rfl ?_ ?_
  .refine j5 func45 (dy9_spec it.fn x u d n) ⟨j0,e9,j1⟩ λR=>?_;refine bG d8 λhy=>?_;refine g5 ?_;refine j4 rW λb16=>?_;refine g19 ?_;have hr:=j.symm.trans (itT_dy ‹_› hx hu m0);subst hr;exact rs3 (R:TyV) ⟨d7,j2 (hy),j1⟩
  refine j4 rW λb17=>?_;refine g2 ?_;refine j5 func45 (dy9_spec it.fn x u d n) ⟨j0,e9,j1⟩ λQ=>?_;refine bG d8 λhy=>?_;refine g22 ?_;have hr:=j.symm.trans (itT_dy ‹_› hx hu m0);subst hr;exact rs3 (Q:TyV) ⟨d7,j2 (hy),j1⟩
 refine g4 ?_;have f:T=2:=m.symm.trans (uL ab4);subst f;obtain⟨x,hx⟩:=gx hv (hv.length-2);have d:=hW x (j3 hx);refine bB (tyF x) (Has.each f4 (j3 hx)) ?_;have q:=oV d;refine bB (cO x.B) (jK d7)<|cE x.B mT0 λg=>bB (cO x.values) (jM e6)<|cE x.values mT0 λi=>?_;obtain⟨u,hu⟩:=gx hv (hv.length-1);have n:=hW u (j3 hu);refine bB (tyF u) (Has.each (Has.of zA) (j3 hu)) ?_;have U:=oV n;refine bB (cO u.B) (jK d7)<|cE u.B mT0 λy=>bB (cO u.values) (jM e6)<|cE u.values mT0 λw=>?_;refine kP _ _ (.fl 1 (.fl 2 (.fl 3 (.fl 4 (.fl 5 (.fl 6 (.fl 8 (.fl 9 (.fl 10 (.fl 11 (.fl 12 (.fl 13 (.two 0 16 (.two 7 16 (.two 14 16 (.fl 15 (.op 16 (.op 17 .nil))) (.op 14 (.fl 15 (.op 17 .nil)))) (.op 7 (.op 14 (.fl 15 (.op 17 .nil))))) (.op 0 (.op 7 (.op 14 (.fl 15 (.op 17 .nil)))))))))))))))))) cN o8 (.c0 (.c0 (.c0 (.c0 (.c0 .nil))))) bA.self ?_;refine g3 ?_;refine inc (hv.length-2) ?_;refine sqT rfl (ixs (hv.length-2)) ?_;refine one ?_;refine sqT rfl (gI hx 0) ?_;refine g3 ?_;refine inc (hv.length-1) ?_;refine sqT rfl (ixs (hv.length-1)) ?_;refine one ?_;refine sqT rfl (gI hu 0) ?_;refine gO (o:=_) (o':=_) rfl rfl ?_ ?_
 .refine uG rfl rfl rfl rfl λb19=>?_;refine one ?_;refine gO (o:=_) (o':=_) rfl rfl ?_ ?_
  .refine cV .head (bE i6) rfl rfl rfl rfl rfl rfl s9 p6 λA20 c21=>?_;refine one ?_;refine gO (o:=_) (o':=_) rfl rfl ?_ ?_
   .refine cV .head (bE e7) rfl rfl rfl rfl rfl rfl s9 p6 λO J=>?_;refine one ?_;refine sqT rfl (j7 (wQ _ _ _)) ?_;refine one ?_;refine j4 rW λb24=>?_;refine g8 ?_;refine fS kT1 λa=>bS kT1<|bB (cL (([]++x.B.A)++u.B.A)) (hU i6 e7) ?_;refine g7 ?_;refine fA (λb=>?_) λb=>?_
    .refine g2 ?_;refine ss (j7 (yJ)) ?_;refine g7 ?_;have hr:=j.symm.trans (tE (e:=90) ‹_› ‹_› ‹_› ‹_› ‹_› ‹_› hx hu m0 ad8);subst hr;exact rs3 (⟨⟨none,0,[]⟩,false,⟨none,0,[]⟩⟩:TyV) ⟨(bR (x:=⟨⟨none,0,[]⟩,false,⟨none,0,[]⟩⟩) bN bN),j2 (λh=>absurd (show(90:Int)=0 from h) m9),j1⟩
    refine g11 ?_;have hr:=j.symm.trans (tE (e:=0) ‹_› ‹_› ‹_› ‹_› ‹_› ‹_› hx hu m0 ad9);subst hr;exact rs3 (⟨⟨O,J,(([]++x.B.A)++u.B.A)⟩,false,⟨none,0,[]⟩⟩:TyV) ⟨(bR (x:=⟨⟨O,J,(([]++x.B.A)++u.B.A)⟩,false,⟨none,0,[]⟩⟩) (bZ d8 d7 (a)) bN),j2 (λ_=>rfl),j1⟩
   refine j4 rW λb25=>?_;refine g2 ?_;refine cV kT1 (bE e7) rfl rfl rfl rfl rfl rfl s9 p6 λN I=>?_;refine one ?_;refine sqT rfl (j7 (wQ _ _ _)) ?_;refine g7 ?_;refine fS kT1 λa=>bS kT1<|bB (cL (([]++x.B.A)++u.B.A)) (hU i6 e7) ?_;refine g7 ?_;refine fA (λb=>?_) λb=>?_
   .refine g2 ?_;refine ss (j7 (yJ)) ?_;refine g7 ?_;have hr:=j.symm.trans (tE (e:=90) ‹_› ‹_› ‹_› ‹_› ‹_› ‹_› hx hu m0 ad8);subst hr;exact rs3 (⟨⟨none,0,[]⟩,false,⟨none,0,[]⟩⟩:TyV) ⟨(bR (x:=⟨⟨none,0,[]⟩,false,⟨none,0,[]⟩⟩) bN bN),j2 (λh=>absurd (show(90:Int)=0 from h) m9),j1⟩
   refine g11 ?_;have hr:=j.symm.trans (tE (e:=0) ‹_› ‹_› ‹_› ‹_› ‹_› ‹_› hx hu m0 ad9);subst hr;exact rs3 (⟨⟨N,I,(([]++x.B.A)++u.B.A)⟩,false,⟨none,0,[]⟩⟩:TyV) ⟨(bR (x:=⟨⟨N,I,(([]++x.B.A)++u.B.A)⟩,false,⟨none,0,[]⟩⟩) (bZ d8 d7 (a)) bN),j2 (λ_=>rfl),j1⟩
  refine j4 rW λb28=>?_;refine g2 ?_;refine cV kT1 (bE i6) rfl rfl rfl rfl rfl rfl s9 p6 λA29 c30=>?_;refine g2 ?_;refine cV .head (bE e7) rfl rfl rfl rfl rfl rfl s9 p6 λM G=>?_;refine one ?_;refine sqT rfl (j7 (wQ _ _ _)) ?_;refine g7 ?_;refine fS kT1 λa=>bS kT1<|bB (cL (([]++x.B.A)++u.B.A)) (hU i6 e7) ?_;refine g7 ?_;refine fA (λb=>?_) λb=>?_
  .refine g2 ?_;refine ss (j7 (yJ)) ?_;refine g7 ?_;have hr:=j.symm.trans (tE (e:=90) ‹_› ‹_› ‹_› ‹_› ‹_› ‹_› hx hu m0 ad8);subst hr;exact rs3 (⟨⟨none,0,[]⟩,false,⟨none,0,[]⟩⟩:TyV) ⟨(bR (x:=⟨⟨none,0,[]⟩,false,⟨none,0,[]⟩⟩) bN bN),j2 (λh=>absurd (show(90:Int)=0 from h) m9),j1⟩
  refine g11 ?_;have hr:=j.symm.trans (tE (e:=0) ‹_› ‹_› ‹_› ‹_› ‹_› ‹_› hx hu m0 ad9);subst hr;exact rs3 (⟨⟨M,G,(([]++x.B.A)++u.B.A)⟩,false,⟨none,0,[]⟩⟩:TyV) ⟨(bR (x:=⟨⟨M,G,(([]++x.B.A)++u.B.A)⟩,false,⟨none,0,[]⟩⟩) (bZ d8 d7 (a)) bN),j2 (λ_=>rfl),j1⟩
 refine j4 rW λb33=>?_;refine g2 ?_;refine uG rfl rfl rfl rfl λb34=>?_;refine g2 ?_;refine cV .head (bE i6) rfl rfl rfl rfl rfl rfl s9 p6 λA35 c36=>?_;refine g2 ?_;refine cV .head (bE e7) rfl rfl rfl rfl rfl rfl s9 p6 λK E=>?_;refine one ?_;refine sqT rfl (j7 (wQ _ _ _)) ?_;refine g7 ?_;refine fS kT1 λa=>bS kT1<|bB (cL (([]++x.B.A)++u.B.A)) (hU i6 e7) ?_;refine g7 ?_;refine fA (λb=>?_) λb=>?_
 .refine g2 ?_;refine ss (j7 (yJ)) ?_;refine g7 ?_;have hr:=j.symm.trans (tE (e:=90) ‹_› ‹_› ‹_› ‹_› ‹_› ‹_› hx hu m0 ad8);subst hr;exact rs3 (⟨⟨none,0,[]⟩,false,⟨none,0,[]⟩⟩:TyV) ⟨(bR (x:=⟨⟨none,0,[]⟩,false,⟨none,0,[]⟩⟩) bN bN),j2 (λh=>absurd (show(90:Int)=0 from h) m9),j1⟩
 refine g11 ?_;have hr:=j.symm.trans (tE (e:=0) ‹_› ‹_› ‹_› ‹_› ‹_› ‹_› hx hu m0 ad9);subst hr;exact rs3 (⟨⟨K,E,(([]++x.B.A)++u.B.A)⟩,false,⟨none,0,[]⟩⟩:TyV) ⟨(bR (x:=⟨⟨K,E,(([]++x.B.A)++u.B.A)⟩,false,⟨none,0,[]⟩⟩) (bZ d8 d7 (a)) bN),j2 (λ_=>rfl),j1⟩
section
variable {P : Program} {β : fR} {n : Nat} {Γ : Env} {H : List bL} {F : List Fact} {Q : Exit -> Act -> World -> Prop} {K : Act -> World -> Prop} {ops : Array Oper} {rest : List Oper} {o : Oper} {d : Nat} {T : Tab}
theorem bNv{t tt:TypeId}{x y:Operand}{k:IntKind}{a b:Int}(ho:o.op= .binOp .quo t x y tt)(hx:Γ.ev x=some (.int k a))(hy:Γ.ev y=some (.int k b))(hb:b≠0):Sti P β n Γ H F o (.int k (k.wrap (a.tdiv b))):=λc w S f s _=>by unfold execOp;simp only[ho,f.ev hx,f.ev hy];simp[eqGuard,binOp,Op.intDiv,hb]
theorem sti_rem{t tt:TypeId}{x y:Operand}{k:IntKind}{a b:Int}(ho:o.op= .binOp .rem t x y tt)(hx:Γ.ev x=some (.int k a))(hy:Γ.ev y=some (.int k b))(hb:b≠0):Sti P β n Γ H F o (.int k (a.tmod b)):=λc w S f s _=>by unfold execOp;simp only[ho,f.ev hx,f.ev hy];simp[eqGuard,binOp,Op.intDiv,hb]
theorem tV{s e u:TypeId}{x:Operand}{A:Option Addr}{m c:Nat}{xs:Bs}(hr:dC β H F oP A xs)(hs:P.underlying s=some (.slice e))(he:P.underlying e=some (.int .u8))(hu:P.underlying u=some .string)(ho:o.op= .convert s u x)(hx:Γ.ev x=some (.slice A m c))(hm:m=xs.length)(h0:xs≠[]):Sti P β n Γ H F o (.string (bs xs)):=λa w S f g i=>by
 subst hm;obtain⟨⟨b,d,rfl⟩,_⟩:=hr w S g i 0 _ (F1 (List.length_pos_iff.2 h0))
 have:=run_convert_bytes_back (P:=P) w s u e ⟨b,d,none⟩ c xs hs he hu (λj k=>by
  have h:=(hr w S g i j _ (F1 k)).2 0 (.int .u8 (xs[j]).toNat) rfl;have p:(⟨b,d,none⟩:Addr).add j=⟨b,d+j,none⟩:=Addr.add_mid _ _ _;rw[p];have l:d+j*oP.size+0=d+j:=by show d+j*1+0=_;omega
  simp only[aoff,ablk]at h;rw[l]at h
  exact h)
 unfold execOp;simp only[ho,f.ev hx];rw[Sem.run_bind,this];rfl
theorem vX{x:Operand}{m:UInt8}(hw:want ops Γ o=some true)(ho:o.op= .buildSlice 102 1 #[(0,x)])(hd:o.dst=some d)(hn:Nat.blt d n=true)
  (hx:Γ.ev x=some (l5 m.toNat)) (k: ∀b,At β n ((d,.slice (some ⟨b,0,none⟩) 1 1)::Γ) (.obj b (.cells (oP.all [m]).toArray 5)::H) F (wpList prog ops Q rest)):At β n Γ H F (wpList prog ops Q (o::rest)):=by
 obtain⟨i,hi,a,hs,_⟩:=u8Info;refine jT hw ho hd hn hx underlying102 hi a m0 m0 ?_ k;rw[hs]
 kernel_rfl
end
theorem oD{z:Int}(h0:0<=z)(h1:z<18446744073709551616):IntKind.u64.wrap z=z:=by simp only[J5,J6,J7];simp;omega
theorem bRr{z:Int}(h0:0<=z)(h1:z<256):IntKind.u8.wrap z=z:=by simp only[J5,J6,J7];simp;omega
theorem wrapNeg{z:Int}(h0:z<0)(h1: -18446744073709551616<=z):IntKind.u64.wrap z=z+18446744073709551616:=by simp only[J5,J6,J7];simp;omega
def pL (l:Bool)(b:UInt8):Bool:=cW b || (l&&kT b)
theorem pL_word:pL true=kL:=by funext b;simp[pL,kL,Bool.or_comm]
theorem pL_digit:pL false=cW:=by funext b;simp[pL]
theorem sub48{b:UInt8}(h:cW b=true):IntKind.u8.wrap ((b.toNat:Int)-48)=((b.toNat-48:Nat):Int)/\b.toNat-48<=9:=by simp only[cW,J3,decide_eq_true_eq]at h;have:=b.toNat_lt;rw[bRr m0 m0];omega
theorem bMg: ∀(a b:Bs) (v:Nat),decV (a++b) v=decV b (decV a v)
 |[],_,_=>rfl
 |_::a,b,_=>bMg a b _
theorem bKg{ds:Bs}{i:Nat}{b:UInt8}(h:ds[i]?=some b):decV (ds.take (i+1)) 0=10*decV (ds.take i) 0+(b.toNat-48):=by rw[R6,h];exact bJk b _ 0
theorem decV_over{ds:Bs}{i:Nat}{b:UInt8}(h:ds[i]?=some b):10*decV (ds.take i) 0+(b.toNat-48)<=decV ds 0:=by
 rw[<-bKg h];have:decV ds 0=decV (ds.drop (i+1)) (decV (ds.take (i+1)) 0):=by rw[<-bMg,W3]
 rw[this];exact decV_ge _ _
def mostP (below:Bool):Nat:=if below then 9223372036854775808 else 9223372036854775807
theorem numP_eq(below:Bool)(ds:Bs):pB below ds=if decV ds 0<=mostP below then some (if below then-(decV ds 0:Int)else (decV ds 0:Int))else none:=by unfold pB mostP;cases below<;>rfl
def valV (o:Option Int):Value:= .tuple #[.int .i64 (o.getD 0),.bool o.isSome]
theorem val_over{below:Bool}{ds:Bs}{i:Nat}{b:UInt8}(h:ds[i]?=some b)(ho:mostP below<10*decV (ds.take i) 0+(b.toNat-48)):pB below ds=none:=by have:=decV_over h;rw[numP_eq,if_neg m0]
theorem val_done{below:Bool}{ds:Bs}{i:Nat}(hi:ds.length<=i)(hm:decV (ds.take i) 0<=mostP below):pB below ds=some (if below then-(decV (ds.take i) 0:Int)else (decV (ds.take i) 0:Int)):=by rw[F6 hi]at hm⊢;rw[numP_eq,if_pos hm]
theorem cP{b:UInt8}{r:Bs}(h:(b=60\/b=62)/\r.head?=some 61):gM (b::r)=2:=by
 simp only[gM];rw[if_pos]
 rcases h with ⟨h|h,a⟩<;>simp[h,a]
theorem cQ{b:UInt8}{r:Bs}(h:r.head?≠some 61\/b≠60/\b≠62):gM (b::r)=if fO.contains b then 1 else 0:=by
 simp only[gM];rw[if_neg];simp only[J3,Bool.or_eq_true,beq_iff_eq];rintro⟨h1,h2⟩
 rcases h with h|⟨a,h4⟩
 .exact h h2
 .rcases h1 with h1|h1
  .exact a h1
  .exact h4 h1
theorem dS{b x:UInt8}{r:Bs}(h:(b::r)[1]?=some x):r.head?=some x:=by
 cases r with
 |nil=>simp at h
 |cons c r=>simpa using h
theorem cG{b:UInt8}{r:Bs}(h:(((b::r).length:Nat):Int)<=1):r.head?≠some 61:=by
 cases r with
 |nil=>simp
 |cons c r=>simp at h;omega
theorem dF{b x:UInt8}{r:Bs}(h:(b::r)[1]?=some x)(hx:x≠61):r.head?≠some 61:=by rw[dS h];simpa using hx
def nextV:Except Int TokR->Value
 |.error e=> .tuple #[.agg #[.int .i64 0,.int .i64 0,.string (bs []),.int .i64 0],.int .i64 0,.int .i64 e]
 |.ok (k,w,v,m)=> .tuple #[.agg #[.int .i64 k,.int .i64 0,.string (bs w),.int .i64 v],.int .i64 (m:Nat),.int .i64 0]
section
variable {b : UInt8} {r : Bs}
theorem t_line(h:b=10):fC (b::r)= .ok (4,[],0,1):=by simp[fC,h]
theorem t_long(h:b≠10)(hl:kT b=true)(h16:(16:Int)<((runB kL (b::r):Nat):Int)):fC (b::r)= .error 33:=by
 have:16<runB kL (b::r):=m0
 simp[fC,h,hl,this]
theorem t_word(h:b≠10)(hl:kT b=true)(h16:((runB kL (b::r):Nat):Int)<=16):fC (b::r)= .ok (1,(b::r).take (runB kL (b::r)),0,runB kL (b::r)):=by
 have: ¬16<runB kL (b::r):=m0
 simp[fC,h,hl,this]
theorem tok_rest(h:b≠10)(hl:kT b=false):fC (b::r)=match iU b r with
  |.error e=> .error e
  |.ok (some t)=> .ok t
  |.ok none=>if gM (b::r)=0 then .error 31 else .ok (3,(b::r).take (gM (b::r)),0,gM (b::r)):=by
 have h1:(b==10)=false:=by simpa using h
 show(if (b==10)=true then _ else _)=_;rw[h1,hl];rfl
theorem t_num(h:b≠10)(hl:kT b=false){ds:Bs}(hds:ds=if b==95 then r else b::r)(hk:runB cW ds≠0):fC (b::r)=match pB (b==95) (ds.take (runB cW ds))with
  |none=> .error 32
  |some v=> .ok (2,[],v,runB cW ds+if b==95 then 1 else 0):=by subst hds;rw[tok_rest h hl];unfold iU;dsimp only;rw[if_neg hk];cases pB (b==95) ((if b==95 then r else b::r).take (runB cW (if b==95 then r else b::r)))<;>rfl
theorem t_sign(h:b≠10)(hl:kT b=false){ds:Bs}(hds:ds=if b==95 then r else b::r)(hk:runB cW ds=0):fC (b::r)=if gM (b::r)=0 then .error 31 else .ok (3,(b::r).take (gM (b::r)),0,gM (b::r)):=by subst hds;rw[tok_rest h hl];unfold iU;dsimp only;rw[if_pos hk]
end
def tS (w:Bs):Bool:=match w with
 |[]=>false
 |b::r=>decide ((b::r).length<=100)&&(b !=32&&(b !=9&&(b !=35&&match fC (b::r)with
  |.ok (k,x,v,m)=>k==1&&x==(b::r)&&v==0&&m==(b::r).length
  |.error _=>false)))
def vY (b:UInt8):Bool:=(decide (97<=b.toNat)&&decide (b.toNat<=122)) || (decide (65<=b.toNat)&&decide (b.toNat<=90))
theorem uK(b:UInt8):vY b=kT b:=by
 have key: ∀n:Fin 256,vY (UInt8.ofNat n.val)=kT (UInt8.ofNat n.val):=by decide+kernel
 have:=key ⟨b.toNat,b.toNat_lt⟩;have e:UInt8.ofNat b.toNat=b:=by simp
 simpa[e]using this
theorem negWrap{n:Nat}(h:n<=9223372036854775808):IntKind.i64.wrap (IntKind.u64.wrap (0-(n:Int)))= -(n:Int):=by simp only[J5,J6,J7];simp;omega
theorem bUt{α:Type}{o:Option α}(h:o.isSome=false):o=none:=by
 cases o with
 |none=>rfl
 |some x=>cases h
theorem bWv{o:Option Int}(h:o.isSome=true):o=some (o.getD 0):=by
 cases o with
 |none=>cases h
 |some x=>rfl
theorem bXv{b:UInt8}{r:Bs}(h:(b::r).take (gM (b::r))=[]):gM (b::r)=0:=by
 cases hs:gM (b::r)with
 |zero=>rfl
 |succ k=>rw[hs]at h;simp at h
theorem bIg{b:UInt8}{r:Bs}(h:(b::r).take (gM (b::r))≠[]): ¬gM (b::r)=0:=λe=>by rw[e]at h;exact h rfl
theorem bWk{b:UInt8}{r:Bs}:(Value.tuple #[.agg #[k9 3,k9 0,.string (bs ((b::r).take (gM (b::r)))),k9 0],k9 ((0+((b::r).take (gM (b::r))).length:Nat):Int),k9 0])=nextV (.ok (3,(b::r).take (gM (b::r)),0,gM (b::r))):=by have:=bBd (b::r);rw[C7,K6,L3 this];rfl
theorem fX.cons{P:Program}{T:Tab}(h:fX P T){t:Nat}{i:TI}(ht:(P.underlying t).map TD.of=some i.desc/\(P.info? t).map (·.size)=some i.size):fX P ((t,i)::T):=λs j hs=>by
 unfold Tab.get at hs
 cases a:Nat.beq t s with
 |true=>
  have:=Nat.eq_of_beq_eq_true a;subst this;rw[a]at hs;simp at hs;subst hs;exact ht
 |false=>
  rw[a]at hs;exact h s j hs
def refT:Tab:=(221,⟨.int .u64,1⟩)::show2T
theorem jI:fX prog refT:=kY.cons ⟨by rw[underlying221];rfl,m7⟩
theorem uA(z0:Int)(z1:Int):prog.built 110 [(0,k9 z0),(1,k9 z1)]=some #[k9 z0,k9 z1,.string (bs []),k9 0]:=m7
theorem lD(z0:Int)(z1:Int)(s2:ByteArray):prog.built 110 [(0,k9 z0),(1,k9 z1),(2,.string s2)]=some #[k9 z0,k9 z1,.string s2,k9 0]:=m7
theorem nM(z0:Int)(z1:Int)(z3:Int):prog.built 110 [(0,k9 z0),(1,k9 z1),(3,k9 z3)]=some #[k9 z0,k9 z1,.string (bs []),k9 z3]:=m7
theorem bGu(b:UInt8):cY prog 160 [l5 b.toNat] [] [] (λ(_:Unit)=> .bool (vY b)) (λ_=>[]) (λ_=>[]):=by
 have hT:=jI;refine j8 func160 ntmps160 ?_;intro β hM;refine g10 ?_;refine bRw (λd=>?_) λd=>?_
 .refine g4 ?_;refine bRw (λc=>?_) λc=>?_
  .refine g11 ?_;exact rs1 () j1 (he:=by congr 1;unfold vY;rw[L7];simp;omega)
  refine g3 ?_;refine bRw (λa=>?_) λa=>?_
  .refine g8 ?_;exact rs1 () j1 (he:=by congr 1;unfold vY;rw[L7];simp;omega)
  refine g8 ?_;exact rs1 () j1 (he:=by congr 1;unfold vY;rw[L7];simp;omega)
 refine g7 ?_;refine bRw (λa=>?_) λa=>?_
 .refine g8 ?_;exact rs1 () j1 (he:=by congr 1;unfold vY;rw[L7];simp;omega)
 refine g8 ?_;exact rs1 () j1 (he:=by congr 1;unfold vY;rw[L7];simp;omega)
theorem rdigit_spec(b:UInt8):cY prog 189 [l5 b.toNat] [] [] (λ(_:Unit)=> .bool (cW b)) (λ_=>[]) (λ_=>[]):=by
 have hT:=jI;refine j8 func189 ntmps189 ?_;intro β hM;refine g10 ?_;refine bRw (λa=>?_) λa=>?_
 .refine g7 ?_;exact rs1 () j1 (he:=by congr 1;unfold cW;rw[L7];simp;omega)
 refine g7 ?_;exact rs1 () j1 (he:=by congr 1;unfold cW;rw[L7];simp;omega)
theorem bJz(s:Bs)(at_:Nat)(l:Bool)(hs:s.length<=140737488355328)(ha:at_<=s.length):cY prog 161 [.string (bs s),k9 (at_:Nat),.bool l] [] [] (λ(_:Unit)=> k9 ((at_+runB (pL l) (s.drop at_):Nat):Int)) (λ_=>[]) (λ_=>[]):=by
 have hT:=jI;refine j8 func161 ntmps161 ?_;intro β hM;refine g7 ?_;refine cI (ι:=Nat) [(0,_),(2,_)] ⟨rfl,rfl,j1⟩ (λi=>[(1,.int .i64 (i:Nat))]) (λ_=>[]) (λi=>[Fact.pure (i<=s.length/\at_+runB (pL l) (s.drop at_)=i+runB (pL l) (s.drop i))]) (λi=>s.length-i) at_ ⟨rfl,j1⟩ .nil ⟨j2 (⟨ha,rfl⟩),j1⟩ ?_;rintro i;refine bG d7 λhinv1=>?_;refine g6 ?_;refine bJ (z':=((s.length:Nat):Int)) rfl ?_;refine g2 ?_;refine lK (λhg11=>?_) λhg11=>?_
 .refine g2 ?_;obtain⟨d,hb2⟩:=gx s i;refine ss (fJ hT (k:=i) rfl rfl rfl rfl rfl hb2) ?_;refine bC func189 (rdigit_spec _) rfl rfl .nil j1 λ_=>?_;refine one ?_;refine cF (λb=>?_) (λb=>?_)
  .refine g18 ?_;refine inc (i+1) ?_;refine g4 ?_;exact bk2 (i+1) ⟨j2 (⟨m0,by rw[hinv1.2,gX hb2,runB,if_pos af6];omega⟩),j1⟩
  refine g2 ?_;refine cF (λa=>?_) (λa=>?_)
  .refine g2 ?_;refine ss (fJ hT (k:=i) rfl rfl rfl rfl rfl hb2) ?_;refine bC func160 (bGu _) rfl rfl .nil j1 λ_=>?_;refine g5 ?_;refine fT (λc=>?_) λc=>?_
   .refine g6 ?_;refine inc (i+1) ?_;refine g4 ?_;exact bk2 (i+1) ⟨j2 (⟨m0,by rw[hinv1.2,gX hb2,runB,if_pos af6];omega⟩),j1⟩
   refine g12 ?_;exact rs1 () j1 (he:=congrArg (λn:Nat=>M0 .i64 (n:Int)) ag3)
  refine g22 ?_;exact rs1 () j1 (he:=congrArg (λn:Nat=>M0 .i64 (n:Int)) ag3)
 refine g29 ?_;exact rs1 () j1 (he:=congrArg (λn:Nat=>M0 .i64 (n:Int)) (by rw[hinv1.2,K3 m0];rfl))
theorem bQw(b:UInt8)(r:Bs):cY prog 163 [.string (bs (b::r)),k9 0] [] [] (λ(_:Unit)=> .string (bs ((b::r).take (gM (b::r))))) (λ_=>[]) (λ_=>[]):=by
 have hT:=jI;refine j8 func163 ntmps163 ?_;intro β hM;refine g10 ?_;refine inc 1 ?_;refine g2 ?_;refine bJ (z':=(((b::r).length:Nat):Int)) rfl ?_;refine g2 ?_;refine cF (λhg10=>?_) (λhg10=>?_)
 .have hg10:=of_decide_eq_true hg10;refine g2 ?_;refine ss (fJ hT (k:=0) rfl rfl rfl rfl rfl rfl) ?_;refine g2 ?_;refine cF (λhg15=>?_) (λhg15=>?_)
  .have hg15:b=60:=dJ (k:=60) (eq_of_beq hg15);refine g10 ?_;refine inc 1 ?_;obtain⟨b1,hb2⟩:=gx (b::r) 1;refine ss (fJ hT (k:=1) rfl rfl rfl rfl rfl hb2) ?_;refine g4 ?_;refine bW rfl (λhc28=>?_) (λhc28=>?_)
   .have hc28_r:=hc28;have hc28:b1=61:=dJ (k:=61) (eq_of_beq hc28);refine g6 ?_;refine inc 2 ?_;refine ss (cS hT (j:=0) (k:=2) rfl rfl rfl rfl rfl rfl rfl m9 m0) ?_;refine g5 ?_;exact rs1 () j1 (he:=l9)
   have hc28_r:=hc28;have hc28:b1≠61:=dK (k:=61) (beq_eq_false_iff_ne.1 hc28);refine g7 ?_;refine ss (fJ hT (k:=0) rfl rfl rfl rfl rfl rfl) ?_;refine g10 ?_;refine bW rfl (λa=>?_) (λa=>?_)
   .have c:=a;have a:b=43:=dJ (k:=43) (eq_of_beq a);refine g2 ?_;refine cA rfl c ?_;refine g6 ?_;refine inc 1 ?_;refine ss (cS hT (j:=0) (k:=1) rfl rfl rfl rfl rfl rfl rfl m9 n9) ?_;refine g6 ?_;exact rs1 () j1 (he:=l9)
   have c:=a;have a:b≠43:=dK (k:=43) (beq_eq_false_iff_ne.1 a);refine g6 ?_;refine bW rfl (λhc37_3=>?_) (λhc37_3=>?_)
   .have hc37_3_r:=hc37_3;have hc37_3:b=45:=dJ (k:=45) (eq_of_beq hc37_3);refine g2 ?_;refine cA rfl hc37_3_r ?_;refine g6 ?_;refine inc 1 ?_;refine ss (cS hT (j:=0) (k:=1) rfl rfl rfl rfl rfl rfl rfl m9 n9) ?_;refine g6 ?_;exact rs1 () j1 (he:=l9)
   have hc37_3_r:=hc37_3;have hc37_3:b≠45:=dK (k:=45) (beq_eq_false_iff_ne.1 hc37_3);refine g6 ?_;refine bW rfl (λhc37_4=>?_) (λhc37_4=>?_)
   .have hc37_4_r:=hc37_4;have hc37_4:b=42:=dJ (k:=42) (eq_of_beq hc37_4);refine g2 ?_;refine cA rfl hc37_4_r ?_;refine g6 ?_;refine inc 1 ?_;refine ss (cS hT (j:=0) (k:=1) rfl rfl rfl rfl rfl rfl rfl m9 n9) ?_;refine g6 ?_;exact rs1 () j1 (he:=l9)
   have hc37_4_r:=hc37_4;have hc37_4:b≠42:=dK (k:=42) (beq_eq_false_iff_ne.1 hc37_4);refine g6 ?_;refine bW rfl (λhc37_5=>?_) (λhc37_5=>?_)
   .have hc37_5_r:=hc37_5;have hc37_5:b=37:=dJ (k:=37) (eq_of_beq hc37_5);refine g2 ?_;refine cA rfl hc37_5_r ?_;refine g6 ?_;refine inc 1 ?_;refine ss (cS hT (j:=0) (k:=1) rfl rfl rfl rfl rfl rfl rfl m9 n9) ?_;refine g6 ?_;exact rs1 () j1 (he:=l9)
   have hc37_5_r:=hc37_5;have hc37_5:b≠37:=dK (k:=37) (beq_eq_false_iff_ne.1 hc37_5);refine g6 ?_;refine bW rfl (λhc37_6=>?_) (λhc37_6=>?_)
   .have hc37_6_r:=hc37_6;have hc37_6:b=124:=dJ (k:=124) (eq_of_beq hc37_6);refine g2 ?_;refine cA rfl hc37_6_r ?_;refine g6 ?_;refine inc 1 ?_;refine ss (cS hT (j:=0) (k:=1) rfl rfl rfl rfl rfl rfl rfl m9 n9) ?_;refine g6 ?_;exact rs1 () j1 (he:=l9)
   have hc37_6_r:=hc37_6;have hc37_6:b≠124:=dK (k:=124) (beq_eq_false_iff_ne.1 hc37_6);refine g6 ?_;refine bW rfl (λhc37_7=>?_) (λhc37_7=>?_)
   .have hc37_7_r:=hc37_7;have hc37_7:b=61:=dJ (k:=61) (eq_of_beq hc37_7);refine g2 ?_;refine cA rfl hc37_7_r ?_;refine g6 ?_;refine inc 1 ?_;refine ss (cS hT (j:=0) (k:=1) rfl rfl rfl rfl rfl rfl rfl m9 n9) ?_;refine g6 ?_;exact rs1 () j1 (he:=l9)
   have hc37_7_r:=hc37_7;have hc37_7:b≠61:=dK (k:=61) (beq_eq_false_iff_ne.1 hc37_7);refine g6 ?_;refine bW rfl (λhc37_8=>?_) (λhc37_8=>?_)
   .have hc37_8_r:=hc37_8;have hc37_8:b=126:=dJ (k:=126) (eq_of_beq hc37_8);refine g2 ?_;refine cA rfl hc37_8_r ?_;refine g6 ?_;refine inc 1 ?_;refine ss (cS hT (j:=0) (k:=1) rfl rfl rfl rfl rfl rfl rfl m9 n9) ?_;refine g6 ?_;exact rs1 () j1 (he:=l9)
   have hc37_8_r:=hc37_8;have hc37_8:b≠126:=dK (k:=126) (beq_eq_false_iff_ne.1 hc37_8);refine g6 ?_;refine bW rfl (λhc37_9=>?_) (λhc37_9=>?_)
   .have hc37_9_r:=hc37_9;have hc37_9:b=60:=dJ (k:=60) (eq_of_beq hc37_9);refine g2 ?_;refine cA rfl hc37_9_r ?_;refine g6 ?_;refine inc 1 ?_;refine ss (cS hT (j:=0) (k:=1) rfl rfl rfl rfl rfl rfl rfl m9 n9) ?_;refine g6 ?_;exact rs1 () j1 (he:=l9)
   have hc37_9_r:=hc37_9;have hc37_9:b≠60:=dK (k:=60) (beq_eq_false_iff_ne.1 hc37_9);refine g6 ?_;refine bW rfl (λhc37_10=>?_) (λhc37_10=>?_)
   .have hc37_10_r:=hc37_10;have hc37_10:b=62:=dJ (k:=62) (eq_of_beq hc37_10);refine g2 ?_;refine cA rfl hc37_10_r ?_;refine g6 ?_;refine inc 1 ?_;refine ss (cS hT (j:=0) (k:=1) rfl rfl rfl rfl rfl rfl rfl m9 n9) ?_;refine g6 ?_;exact rs1 () j1 (he:=l9)
   have hc37_10_r:=hc37_10;have hc37_10:b≠62:=dK (k:=62) (beq_eq_false_iff_ne.1 hc37_10);refine g6 ?_;refine bW rfl (λhc37_11=>?_) (λhc37_11=>?_)
   .have hc37_11_r:=hc37_11;have hc37_11:b=47:=dJ (k:=47) (eq_of_beq hc37_11);refine g2 ?_;refine cA rfl hc37_11_r ?_;refine g6 ?_;refine inc 1 ?_;refine ss (cS hT (j:=0) (k:=1) rfl rfl rfl rfl rfl rfl rfl m9 n9) ?_;refine g6 ?_;exact rs1 () j1 (he:=l9)
   have hc37_11_r:=hc37_11;have hc37_11:b≠47:=dK (k:=47) (beq_eq_false_iff_ne.1 hc37_11);refine g6 ?_;refine bW rfl (λhc37_12=>?_) (λhc37_12=>?_)
   .have hc37_12_r:=hc37_12;have hc37_12:b=92:=dJ (k:=92) (eq_of_beq hc37_12);refine g2 ?_;refine cA rfl hc37_12_r ?_;refine g6 ?_;refine inc 1 ?_;refine ss (cS hT (j:=0) (k:=1) rfl rfl rfl rfl rfl rfl rfl m9 n9) ?_;refine g6 ?_;exact rs1 () j1 (he:=l9)
   have hc37_12_r:=hc37_12;have hc37_12:b≠92:=dK (k:=92) (beq_eq_false_iff_ne.1 hc37_12);refine g6 ?_;refine bW rfl (λhc37_13=>?_) (λhc37_13=>?_)
   .have hc37_13_r:=hc37_13;have hc37_13:b=46:=dJ (k:=46) (eq_of_beq hc37_13);refine g2 ?_;refine cA rfl hc37_13_r ?_;refine g6 ?_;refine inc 1 ?_;refine ss (cS hT (j:=0) (k:=1) rfl rfl rfl rfl rfl rfl rfl m9 n9) ?_;refine g6 ?_;exact rs1 () j1 (he:=l9)
   have hc37_13_r:=hc37_13;have hc37_13:b≠46:=dK (k:=46) (beq_eq_false_iff_ne.1 hc37_13);refine g6 ?_;refine bW rfl (λhc37_14=>?_) (λhc37_14=>?_)
   .have hc37_14_r:=hc37_14;have hc37_14:b=58:=dJ (k:=58) (eq_of_beq hc37_14);refine g2 ?_;refine cA rfl hc37_14_r ?_;refine g6 ?_;refine inc 1 ?_;refine ss (cS hT (j:=0) (k:=1) rfl rfl rfl rfl rfl rfl rfl m9 n9) ?_;refine g6 ?_;exact rs1 () j1 (he:=l9)
   have hc37_14_r:=hc37_14;have hc37_14:b≠58:=dK (k:=58) (beq_eq_false_iff_ne.1 hc37_14);refine g6 ?_;refine bW rfl (λhc37_15=>?_) (λhc37_15=>?_)
   .have hc37_15_r:=hc37_15;have hc37_15:b=40:=dJ (k:=40) (eq_of_beq hc37_15);refine g2 ?_;refine cA rfl hc37_15_r ?_;refine g6 ?_;refine inc 1 ?_;refine ss (cS hT (j:=0) (k:=1) rfl rfl rfl rfl rfl rfl rfl m9 n9) ?_;refine g6 ?_;exact rs1 () j1 (he:=l9)
   have hc37_15_r:=hc37_15;have hc37_15:b≠40:=dK (k:=40) (beq_eq_false_iff_ne.1 hc37_15);refine g5 ?_;refine bW rfl (λhc37_16=>?_) (λhc37_16=>?_)
   .have hc37_16_r:=hc37_16;have hc37_16:b=41:=dJ (k:=41) (eq_of_beq hc37_16);refine g6 ?_;refine inc 1 ?_;refine ss (cS hT (j:=0) (k:=1) rfl rfl rfl rfl rfl rfl rfl m9 n9) ?_;refine g6 ?_;exact rs1 () j1 (he:=l9)
   have hc37_16_r:=hc37_16;have hc37_16:b≠41:=dK (k:=41) (beq_eq_false_iff_ne.1 hc37_16);refine g9 ?_;exact rs1 () j1 (he:=l9)
  have hg15:b≠60:=dK (k:=60) (beq_eq_false_iff_ne.1 hg15);refine g2 ?_;refine ss (fJ hT (k:=0) rfl rfl rfl rfl rfl rfl) ?_;refine g4 ?_;refine cF (λhg22=>?_) (λhg22=>?_)
  .have hg22:b=62:=dJ (k:=62) (eq_of_beq hg22);refine g3 ?_;refine inc 1 ?_;obtain⟨b17,hb18⟩:=gx (b::r) 1;refine ss (fJ hT (k:=1) rfl rfl rfl rfl rfl hb18) ?_;refine g4 ?_;refine bW rfl (λhc28=>?_) (λhc28=>?_)
   .have hc28_r:=hc28;have hc28:b17=61:=dJ (k:=61) (eq_of_beq hc28);refine g6 ?_;refine inc 2 ?_;refine ss (cS hT (j:=0) (k:=2) rfl rfl rfl rfl rfl rfl rfl m9 m0) ?_;refine g5 ?_;exact rs1 () j1 (he:=l9)
   have hc28_r:=hc28;have hc28:b17≠61:=dK (k:=61) (beq_eq_false_iff_ne.1 hc28);refine g7 ?_;refine ss (fJ hT (k:=0) rfl rfl rfl rfl rfl rfl) ?_;refine g10 ?_;refine bW rfl (λa=>?_) (λa=>?_)
   .have c:=a;have a:b=43:=dJ (k:=43) (eq_of_beq a);refine g2 ?_;refine cA rfl c ?_;refine g6 ?_;refine inc 1 ?_;refine ss (cS hT (j:=0) (k:=1) rfl rfl rfl rfl rfl rfl rfl m9 n9) ?_;refine g6 ?_;exact rs1 () j1 (he:=l9)
   have c:=a;have a:b≠43:=dK (k:=43) (beq_eq_false_iff_ne.1 a);refine g6 ?_;refine bW rfl (λZ=>?_) (λZ=>?_)
   .have hc37_19_r:=Z;have Z:b=45:=dJ (k:=45) (eq_of_beq Z);refine g2 ?_;refine cA rfl hc37_19_r ?_;refine g6 ?_;refine inc 1 ?_;refine ss (cS hT (j:=0) (k:=1) rfl rfl rfl rfl rfl rfl rfl m9 n9) ?_;refine g6 ?_;exact rs1 () j1 (he:=l9)
   have hc37_19_r:=Z;have Z:b≠45:=dK (k:=45) (beq_eq_false_iff_ne.1 Z);refine g6 ?_;refine bW rfl (λY=>?_) (λY=>?_)
   .have hc37_20_r:=Y;have Y:b=42:=dJ (k:=42) (eq_of_beq Y);refine g2 ?_;refine cA rfl hc37_20_r ?_;refine g6 ?_;refine inc 1 ?_;refine ss (cS hT (j:=0) (k:=1) rfl rfl rfl rfl rfl rfl rfl m9 n9) ?_;refine g6 ?_;exact rs1 () j1 (he:=l9)
   have hc37_20_r:=Y;have Y:b≠42:=dK (k:=42) (beq_eq_false_iff_ne.1 Y);refine g6 ?_;refine bW rfl (λX=>?_) (λX=>?_)
   .have hc37_21_r:=X;have X:b=37:=dJ (k:=37) (eq_of_beq X);refine g2 ?_;refine cA rfl hc37_21_r ?_;refine g6 ?_;refine inc 1 ?_;refine ss (cS hT (j:=0) (k:=1) rfl rfl rfl rfl rfl rfl rfl m9 n9) ?_;refine g6 ?_;exact rs1 () j1 (he:=l9)
   have hc37_21_r:=X;have X:b≠37:=dK (k:=37) (beq_eq_false_iff_ne.1 X);refine g6 ?_;refine bW rfl (λW=>?_) (λW=>?_)
   .have hc37_22_r:=W;have W:b=124:=dJ (k:=124) (eq_of_beq W);refine g2 ?_;refine cA rfl hc37_22_r ?_;refine g6 ?_;refine inc 1 ?_;refine ss (cS hT (j:=0) (k:=1) rfl rfl rfl rfl rfl rfl rfl m9 n9) ?_;refine g6 ?_;exact rs1 () j1 (he:=l9)
   have hc37_22_r:=W;have W:b≠124:=dK (k:=124) (beq_eq_false_iff_ne.1 W);refine g6 ?_;refine bW rfl (λV=>?_) (λV=>?_)
   .have hc37_23_r:=V;have V:b=61:=dJ (k:=61) (eq_of_beq V);refine g2 ?_;refine cA rfl hc37_23_r ?_;refine g6 ?_;refine inc 1 ?_;refine ss (cS hT (j:=0) (k:=1) rfl rfl rfl rfl rfl rfl rfl m9 n9) ?_;refine g6 ?_;exact rs1 () j1 (he:=l9)
   have hc37_23_r:=V;have V:b≠61:=dK (k:=61) (beq_eq_false_iff_ne.1 V);refine g6 ?_;refine bW rfl (λU=>?_) (λU=>?_)
   .have hc37_24_r:=U;have U:b=126:=dJ (k:=126) (eq_of_beq U);refine g2 ?_;refine cA rfl hc37_24_r ?_;refine g6 ?_;refine inc 1 ?_;refine ss (cS hT (j:=0) (k:=1) rfl rfl rfl rfl rfl rfl rfl m9 n9) ?_;refine g6 ?_;exact rs1 () j1 (he:=l9)
   have hc37_24_r:=U;have U:b≠126:=dK (k:=126) (beq_eq_false_iff_ne.1 U);refine g6 ?_;refine bW rfl (λR=>?_) (λR=>?_)
   .have hc37_25_r:=R;have R:b=60:=dJ (k:=60) (eq_of_beq R);refine g2 ?_;refine cA rfl hc37_25_r ?_;refine g6 ?_;refine inc 1 ?_;refine ss (cS hT (j:=0) (k:=1) rfl rfl rfl rfl rfl rfl rfl m9 n9) ?_;refine g6 ?_;exact rs1 () j1 (he:=l9)
   have hc37_25_r:=R;have R:b≠60:=dK (k:=60) (beq_eq_false_iff_ne.1 R);refine g6 ?_;refine bW rfl (λQ=>?_) (λQ=>?_)
   .have hc37_26_r:=Q;have Q:b=62:=dJ (k:=62) (eq_of_beq Q);refine g2 ?_;refine cA rfl hc37_26_r ?_;refine g6 ?_;refine inc 1 ?_;refine ss (cS hT (j:=0) (k:=1) rfl rfl rfl rfl rfl rfl rfl m9 n9) ?_;refine g6 ?_;exact rs1 () j1 (he:=l9)
   have hc37_26_r:=Q;have Q:b≠62:=dK (k:=62) (beq_eq_false_iff_ne.1 Q);refine g6 ?_;refine bW rfl (λP=>?_) (λP=>?_)
   .have hc37_27_r:=P;have P:b=47:=dJ (k:=47) (eq_of_beq P);refine g2 ?_;refine cA rfl hc37_27_r ?_;refine g6 ?_;refine inc 1 ?_;refine ss (cS hT (j:=0) (k:=1) rfl rfl rfl rfl rfl rfl rfl m9 n9) ?_;refine g6 ?_;exact rs1 () j1 (he:=l9)
   have hc37_27_r:=P;have P:b≠47:=dK (k:=47) (beq_eq_false_iff_ne.1 P);refine g6 ?_;refine bW rfl (λO=>?_) (λO=>?_)
   .have hc37_28_r:=O;have O:b=92:=dJ (k:=92) (eq_of_beq O);refine g2 ?_;refine cA rfl hc37_28_r ?_;refine g6 ?_;refine inc 1 ?_;refine ss (cS hT (j:=0) (k:=1) rfl rfl rfl rfl rfl rfl rfl m9 n9) ?_;refine g6 ?_;exact rs1 () j1 (he:=l9)
   have hc37_28_r:=O;have O:b≠92:=dK (k:=92) (beq_eq_false_iff_ne.1 O);refine g6 ?_;refine bW rfl (λN=>?_) (λN=>?_)
   .have hc37_29_r:=N;have N:b=46:=dJ (k:=46) (eq_of_beq N);refine g2 ?_;refine cA rfl hc37_29_r ?_;refine g6 ?_;refine inc 1 ?_;refine ss (cS hT (j:=0) (k:=1) rfl rfl rfl rfl rfl rfl rfl m9 n9) ?_;refine g6 ?_;exact rs1 () j1 (he:=l9)
   have hc37_29_r:=N;have N:b≠46:=dK (k:=46) (beq_eq_false_iff_ne.1 N);refine g6 ?_;refine bW rfl (λM=>?_) (λM=>?_)
   .have hc37_30_r:=M;have M:b=58:=dJ (k:=58) (eq_of_beq M);refine g2 ?_;refine cA rfl hc37_30_r ?_;refine g6 ?_;refine inc 1 ?_;refine ss (cS hT (j:=0) (k:=1) rfl rfl rfl rfl rfl rfl rfl m9 n9) ?_;refine g6 ?_;exact rs1 () j1 (he:=l9)
   have hc37_30_r:=M;have M:b≠58:=dK (k:=58) (beq_eq_false_iff_ne.1 M);refine g6 ?_;refine bW rfl (λL=>?_) (λL=>?_)
   .have hc37_31_r:=L;have L:b=40:=dJ (k:=40) (eq_of_beq L);refine g2 ?_;refine cA rfl hc37_31_r ?_;refine g6 ?_;refine inc 1 ?_;refine ss (cS hT (j:=0) (k:=1) rfl rfl rfl rfl rfl rfl rfl m9 n9) ?_;refine g6 ?_;exact rs1 () j1 (he:=l9)
   have hc37_31_r:=L;have L:b≠40:=dK (k:=40) (beq_eq_false_iff_ne.1 L);refine g5 ?_;refine bW rfl (λK=>?_) (λK=>?_)
   .have hc37_32_r:=K;have K:b=41:=dJ (k:=41) (eq_of_beq K);refine g6 ?_;refine inc 1 ?_;refine ss (cS hT (j:=0) (k:=1) rfl rfl rfl rfl rfl rfl rfl m9 n9) ?_;refine g6 ?_;exact rs1 () j1 (he:=l9)
   have hc37_32_r:=K;have K:b≠41:=dK (k:=41) (beq_eq_false_iff_ne.1 K);refine g9 ?_;exact rs1 () j1 (he:=l9)
  have hg22:b≠62:=dK (k:=62) (beq_eq_false_iff_ne.1 hg22);refine g16 ?_;refine ss (fJ hT (k:=0) rfl rfl rfl rfl rfl rfl) ?_;refine g10 ?_;refine bW rfl (λa=>?_) (λa=>?_)
  .have c:=a;have a:b=43:=dJ (k:=43) (eq_of_beq a);refine g2 ?_;refine cA rfl c ?_;refine g6 ?_;refine inc 1 ?_;refine ss (cS hT (j:=0) (k:=1) rfl rfl rfl rfl rfl rfl rfl m9 n9) ?_;refine g6 ?_;exact rs1 () j1 (he:=l9)
  have c:=a;have a:b≠43:=dK (k:=43) (beq_eq_false_iff_ne.1 a);refine g6 ?_;refine bW rfl (λJ=>?_) (λJ=>?_)
  .have hc37_33_r:=J;have J:b=45:=dJ (k:=45) (eq_of_beq J);refine g2 ?_;refine cA rfl hc37_33_r ?_;refine g6 ?_;refine inc 1 ?_;refine ss (cS hT (j:=0) (k:=1) rfl rfl rfl rfl rfl rfl rfl m9 n9) ?_;refine g6 ?_;exact rs1 () j1 (he:=l9)
  have hc37_33_r:=J;have J:b≠45:=dK (k:=45) (beq_eq_false_iff_ne.1 J);refine g6 ?_;refine bW rfl (λI=>?_) (λI=>?_)
  .have hc37_34_r:=I;have I:b=42:=dJ (k:=42) (eq_of_beq I);refine g2 ?_;refine cA rfl hc37_34_r ?_;refine g6 ?_;refine inc 1 ?_;refine ss (cS hT (j:=0) (k:=1) rfl rfl rfl rfl rfl rfl rfl m9 n9) ?_;refine g6 ?_;exact rs1 () j1 (he:=l9)
  have hc37_34_r:=I;have I:b≠42:=dK (k:=42) (beq_eq_false_iff_ne.1 I);refine g6 ?_;refine bW rfl (λG=>?_) (λG=>?_)
  .have hc37_35_r:=G;have G:b=37:=dJ (k:=37) (eq_of_beq G);refine g2 ?_;refine cA rfl hc37_35_r ?_;refine g6 ?_;refine inc 1 ?_;refine ss (cS hT (j:=0) (k:=1) rfl rfl rfl rfl rfl rfl rfl m9 n9) ?_;refine g6 ?_;exact rs1 () j1 (he:=l9)
  have hc37_35_r:=G;have G:b≠37:=dK (k:=37) (beq_eq_false_iff_ne.1 G);refine g6 ?_;refine bW rfl (λE=>?_) (λE=>?_)
  .have hc37_36_r:=E;have E:b=124:=dJ (k:=124) (eq_of_beq E);refine g2 ?_;refine cA rfl hc37_36_r ?_;refine g6 ?_;refine inc 1 ?_;refine ss (cS hT (j:=0) (k:=1) rfl rfl rfl rfl rfl rfl rfl m9 n9) ?_;refine g6 ?_;exact rs1 () j1 (he:=l9)
  have hc37_36_r:=E;have E:b≠124:=dK (k:=124) (beq_eq_false_iff_ne.1 E);refine g6 ?_;refine bW rfl (λD=>?_) (λD=>?_)
  .have hc37_37_r:=D;have D:b=61:=dJ (k:=61) (eq_of_beq D);refine g2 ?_;refine cA rfl hc37_37_r ?_;refine g6 ?_;refine inc 1 ?_;refine ss (cS hT (j:=0) (k:=1) rfl rfl rfl rfl rfl rfl rfl m9 n9) ?_;refine g6 ?_;exact rs1 () j1 (he:=l9)
  have hc37_37_r:=D;have D:b≠61:=dK (k:=61) (beq_eq_false_iff_ne.1 D);refine g6 ?_;refine bW rfl (λC=>?_) (λC=>?_)
  .have hc37_38_r:=C;have C:b=126:=dJ (k:=126) (eq_of_beq C);refine g2 ?_;refine cA rfl hc37_38_r ?_;refine g6 ?_;refine inc 1 ?_;refine ss (cS hT (j:=0) (k:=1) rfl rfl rfl rfl rfl rfl rfl m9 n9) ?_;refine g6 ?_;exact rs1 () j1 (he:=l9)
  have hc37_38_r:=C;have C:b≠126:=dK (k:=126) (beq_eq_false_iff_ne.1 C);refine g6 ?_;refine bW rfl (λB=>?_) (λB=>?_)
  .have hc37_39_r:=B;have B:b=60:=dJ (k:=60) (eq_of_beq B);refine g2 ?_;refine cA rfl hc37_39_r ?_;refine g6 ?_;refine inc 1 ?_;refine ss (cS hT (j:=0) (k:=1) rfl rfl rfl rfl rfl rfl rfl m9 n9) ?_;refine g6 ?_;exact rs1 () j1 (he:=l9)
  have hc37_39_r:=B;have B:b≠60:=dK (k:=60) (beq_eq_false_iff_ne.1 B);refine g6 ?_;refine bW rfl (λA=>?_) (λA=>?_)
  .have hc37_40_r:=A;have A:b=62:=dJ (k:=62) (eq_of_beq A);refine g2 ?_;refine cA rfl hc37_40_r ?_;refine g6 ?_;refine inc 1 ?_;refine ss (cS hT (j:=0) (k:=1) rfl rfl rfl rfl rfl rfl rfl m9 n9) ?_;refine g6 ?_;exact rs1 () j1 (he:=l9)
  have hc37_40_r:=A;have A:b≠62:=dK (k:=62) (beq_eq_false_iff_ne.1 A);refine g6 ?_;refine bW rfl (λz=>?_) (λz=>?_)
  .have hc37_41_r:=z;have z:b=47:=dJ (k:=47) (eq_of_beq z);refine g2 ?_;refine cA rfl hc37_41_r ?_;refine g6 ?_;refine inc 1 ?_;refine ss (cS hT (j:=0) (k:=1) rfl rfl rfl rfl rfl rfl rfl m9 n9) ?_;refine g6 ?_;exact rs1 () j1 (he:=l9)
  have hc37_41_r:=z;have z:b≠47:=dK (k:=47) (beq_eq_false_iff_ne.1 z);refine g6 ?_;refine bW rfl (λy=>?_) (λy=>?_)
  .have hc37_42_r:=y;have y:b=92:=dJ (k:=92) (eq_of_beq y);refine g2 ?_;refine cA rfl hc37_42_r ?_;refine g6 ?_;refine inc 1 ?_;refine ss (cS hT (j:=0) (k:=1) rfl rfl rfl rfl rfl rfl rfl m9 n9) ?_;refine g6 ?_;exact rs1 () j1 (he:=l9)
  have hc37_42_r:=y;have y:b≠92:=dK (k:=92) (beq_eq_false_iff_ne.1 y);refine g6 ?_;refine bW rfl (λx=>?_) (λx=>?_)
  .have hc37_43_r:=x;have x:b=46:=dJ (k:=46) (eq_of_beq x);refine g2 ?_;refine cA rfl hc37_43_r ?_;refine g6 ?_;refine inc 1 ?_;refine ss (cS hT (j:=0) (k:=1) rfl rfl rfl rfl rfl rfl rfl m9 n9) ?_;refine g6 ?_;exact rs1 () j1 (he:=l9)
  have hc37_43_r:=x;have x:b≠46:=dK (k:=46) (beq_eq_false_iff_ne.1 x);refine g6 ?_;refine bW rfl (λw=>?_) (λw=>?_)
  .have hc37_44_r:=w;have w:b=58:=dJ (k:=58) (eq_of_beq w);refine g2 ?_;refine cA rfl hc37_44_r ?_;refine g6 ?_;refine inc 1 ?_;refine ss (cS hT (j:=0) (k:=1) rfl rfl rfl rfl rfl rfl rfl m9 n9) ?_;refine g6 ?_;exact rs1 () j1 (he:=l9)
  have hc37_44_r:=w;have w:b≠58:=dK (k:=58) (beq_eq_false_iff_ne.1 w);refine g6 ?_;refine bW rfl (λv=>?_) (λv=>?_)
  .have hc37_45_r:=v;have v:b=40:=dJ (k:=40) (eq_of_beq v);refine g2 ?_;refine cA rfl hc37_45_r ?_;refine g6 ?_;refine inc 1 ?_;refine ss (cS hT (j:=0) (k:=1) rfl rfl rfl rfl rfl rfl rfl m9 n9) ?_;refine g6 ?_;exact rs1 () j1 (he:=l9)
  have hc37_45_r:=v;have v:b≠40:=dK (k:=40) (beq_eq_false_iff_ne.1 v);refine g5 ?_;refine bW rfl (λu=>?_) (λu=>?_)
  .have hc37_46_r:=u;have u:b=41:=dJ (k:=41) (eq_of_beq u);refine g6 ?_;refine inc 1 ?_;refine ss (cS hT (j:=0) (k:=1) rfl rfl rfl rfl rfl rfl rfl m9 n9) ?_;refine g6 ?_;exact rs1 () j1 (he:=l9)
  have hc37_46_r:=u;have u:b≠41:=dK (k:=41) (beq_eq_false_iff_ne.1 u);refine g9 ?_;exact rs1 () j1 (he:=l9)
 have hg10:=Int.not_lt.1 (of_decide_eq_false hg10);refine g28 ?_;refine ss (fJ hT (k:=0) rfl rfl rfl rfl rfl rfl) ?_;refine g10 ?_;refine bW rfl (λa=>?_) (λa=>?_)
 .have c:=a;have a:b=43:=dJ (k:=43) (eq_of_beq a);refine g2 ?_;refine cA rfl c ?_;refine g6 ?_;refine inc 1 ?_;refine ss (cS hT (j:=0) (k:=1) rfl rfl rfl rfl rfl rfl rfl m9 n9) ?_;refine g6 ?_;exact rs1 () j1 (he:=l9)
 have c:=a;have a:b≠43:=dK (k:=43) (beq_eq_false_iff_ne.1 a);refine g6 ?_;refine bW rfl (λt=>?_) (λt=>?_)
 .have hc37_47_r:=t;have t:b=45:=dJ (k:=45) (eq_of_beq t);refine g2 ?_;refine cA rfl hc37_47_r ?_;refine g6 ?_;refine inc 1 ?_;refine ss (cS hT (j:=0) (k:=1) rfl rfl rfl rfl rfl rfl rfl m9 n9) ?_;refine g6 ?_;exact rs1 () j1 (he:=l9)
 have hc37_47_r:=t;have t:b≠45:=dK (k:=45) (beq_eq_false_iff_ne.1 t);refine g6 ?_;refine bW rfl (λs=>?_) (λs=>?_)
 .have hc37_48_r:=s;have s:b=42:=dJ (k:=42) (eq_of_beq s);refine g2 ?_;refine cA rfl hc37_48_r ?_;refine g6 ?_;refine inc 1 ?_;refine ss (cS hT (j:=0) (k:=1) rfl rfl rfl rfl rfl rfl rfl m9 n9) ?_;refine g6 ?_;exact rs1 () j1 (he:=l9)
 have hc37_48_r:=s;have s:b≠42:=dK (k:=42) (beq_eq_false_iff_ne.1 s);refine g6 ?_;refine bW rfl (λq=>?_) (λq=>?_)
 .have hc37_49_r:=q;have q:b=37:=dJ (k:=37) (eq_of_beq q);refine g2 ?_;refine cA rfl hc37_49_r ?_;refine g6 ?_;refine inc 1 ?_;refine ss (cS hT (j:=0) (k:=1) rfl rfl rfl rfl rfl rfl rfl m9 n9) ?_;refine g6 ?_;exact rs1 () j1 (he:=l9)
 have hc37_49_r:=q;have q:b≠37:=dK (k:=37) (beq_eq_false_iff_ne.1 q);refine g6 ?_;refine bW rfl (λp=>?_) (λp=>?_)
 .have hc37_50_r:=p;have p:b=124:=dJ (k:=124) (eq_of_beq p);refine g2 ?_;refine cA rfl hc37_50_r ?_;refine g6 ?_;refine inc 1 ?_;refine ss (cS hT (j:=0) (k:=1) rfl rfl rfl rfl rfl rfl rfl m9 n9) ?_;refine g6 ?_;exact rs1 () j1 (he:=l9)
 have hc37_50_r:=p;have p:b≠124:=dK (k:=124) (beq_eq_false_iff_ne.1 p);refine g6 ?_;refine bW rfl (λo=>?_) (λo=>?_)
 .have hc37_51_r:=o;have o:b=61:=dJ (k:=61) (eq_of_beq o);refine g2 ?_;refine cA rfl hc37_51_r ?_;refine g6 ?_;refine inc 1 ?_;refine ss (cS hT (j:=0) (k:=1) rfl rfl rfl rfl rfl rfl rfl m9 n9) ?_;refine g6 ?_;exact rs1 () j1 (he:=l9)
 have hc37_51_r:=o;have o:b≠61:=dK (k:=61) (beq_eq_false_iff_ne.1 o);refine g6 ?_;refine bW rfl (λn=>?_) (λn=>?_)
 .have hc37_52_r:=n;have n:b=126:=dJ (k:=126) (eq_of_beq n);refine g2 ?_;refine cA rfl hc37_52_r ?_;refine g6 ?_;refine inc 1 ?_;refine ss (cS hT (j:=0) (k:=1) rfl rfl rfl rfl rfl rfl rfl m9 n9) ?_;refine g6 ?_;exact rs1 () j1 (he:=l9)
 have hc37_52_r:=n;have n:b≠126:=dK (k:=126) (beq_eq_false_iff_ne.1 n);refine g6 ?_;refine bW rfl (λm=>?_) (λm=>?_)
 .have hc37_53_r:=m;have m:b=60:=dJ (k:=60) (eq_of_beq m);refine g2 ?_;refine cA rfl hc37_53_r ?_;refine g6 ?_;refine inc 1 ?_;refine ss (cS hT (j:=0) (k:=1) rfl rfl rfl rfl rfl rfl rfl m9 n9) ?_;refine g6 ?_;exact rs1 () j1 (he:=l9)
 have hc37_53_r:=m;have m:b≠60:=dK (k:=60) (beq_eq_false_iff_ne.1 m);refine g6 ?_;refine bW rfl (λl=>?_) (λl=>?_)
 .have hc37_54_r:=l;have l:b=62:=dJ (k:=62) (eq_of_beq l);refine g2 ?_;refine cA rfl hc37_54_r ?_;refine g6 ?_;refine inc 1 ?_;refine ss (cS hT (j:=0) (k:=1) rfl rfl rfl rfl rfl rfl rfl m9 n9) ?_;refine g6 ?_;exact rs1 () j1 (he:=l9)
 have hc37_54_r:=l;have l:b≠62:=dK (k:=62) (beq_eq_false_iff_ne.1 l);refine g6 ?_;refine bW rfl (λi=>?_) (λi=>?_)
 .have hc37_55_r:=i;have i:b=47:=dJ (k:=47) (eq_of_beq i);refine g2 ?_;refine cA rfl hc37_55_r ?_;refine g6 ?_;refine inc 1 ?_;refine ss (cS hT (j:=0) (k:=1) rfl rfl rfl rfl rfl rfl rfl m9 n9) ?_;refine g6 ?_;exact rs1 () j1 (he:=l9)
 have hc37_55_r:=i;have i:b≠47:=dK (k:=47) (beq_eq_false_iff_ne.1 i);refine g6 ?_;refine bW rfl (λh=>?_) (λh=>?_)
 .have hc37_56_r:=h;have h:b=92:=dJ (k:=92) (eq_of_beq h);refine g2 ?_;refine cA rfl hc37_56_r ?_;refine g6 ?_;refine inc 1 ?_;refine ss (cS hT (j:=0) (k:=1) rfl rfl rfl rfl rfl rfl rfl m9 n9) ?_;refine g6 ?_;exact rs1 () j1 (he:=l9)
 have hc37_56_r:=h;have h:b≠92:=dK (k:=92) (beq_eq_false_iff_ne.1 h);refine g6 ?_;refine bW rfl (λg=>?_) (λg=>?_)
 .have hc37_57_r:=g;have g:b=46:=dJ (k:=46) (eq_of_beq g);refine g2 ?_;refine cA rfl hc37_57_r ?_;refine g6 ?_;refine inc 1 ?_;refine ss (cS hT (j:=0) (k:=1) rfl rfl rfl rfl rfl rfl rfl m9 n9) ?_;refine g6 ?_;exact rs1 () j1 (he:=l9)
 have hc37_57_r:=g;have g:b≠46:=dK (k:=46) (beq_eq_false_iff_ne.1 g);refine g6 ?_;refine bW rfl (λf=>?_) (λf=>?_)
 .have hc37_58_r:=f;have f:b=58:=dJ (k:=58) (eq_of_beq f);refine g2 ?_;refine cA rfl hc37_58_r ?_;refine g6 ?_;refine inc 1 ?_;refine ss (cS hT (j:=0) (k:=1) rfl rfl rfl rfl rfl rfl rfl m9 n9) ?_;refine g6 ?_;exact rs1 () j1 (he:=l9)
 have hc37_58_r:=f;have f:b≠58:=dK (k:=58) (beq_eq_false_iff_ne.1 f);refine g6 ?_;refine bW rfl (λe=>?_) (λe=>?_)
 .have hc37_59_r:=e;have e:b=40:=dJ (k:=40) (eq_of_beq e);refine g2 ?_;refine cA rfl hc37_59_r ?_;refine g6 ?_;refine inc 1 ?_;refine ss (cS hT (j:=0) (k:=1) rfl rfl rfl rfl rfl rfl rfl m9 n9) ?_;refine g6 ?_;exact rs1 () j1 (he:=l9)
 have hc37_59_r:=e;have e:b≠40:=dK (k:=40) (beq_eq_false_iff_ne.1 e);refine g5 ?_;refine bW rfl (λd=>?_) (λd=>?_)
 .have hc37_60_r:=d;have d:b=41:=dJ (k:=41) (eq_of_beq d);refine g6 ?_;refine inc 1 ?_;refine ss (cS hT (j:=0) (k:=1) rfl rfl rfl rfl rfl rfl rfl m9 n9) ?_;refine g6 ?_;exact rs1 () j1 (he:=l9)
 have hc37_60_r:=d;have d:b≠41:=dK (k:=41) (beq_eq_false_iff_ne.1 d);refine g9 ?_;exact rs1 () j1 (he:=l9)
theorem bMn(s:Bs)(below:Bool)(hs:s.length<=140737488355328)(hds: ∀b∈s,cW b=true):cY prog 162 [.string (bs s),.bool below] [] [] (λ(_:Unit)=>valV (pB below s)) (λ_=>[]) (λ_=>[]):=by
 have hT:=jI;refine j8 func162 ntmps162 ?_;intro β hM;refine g7 ?_;cases below
 .refine g25 ?_;refine cI (ι:=Nat×Nat) [(0,_),(1,_),(7,_)] ⟨rfl,rfl,rfl,j1⟩ (λ⟨n,i⟩=>[(6,.int .u64 (n:Nat)),(8,.int .i64 (i:Nat))]) (λ_=>[]) (λ⟨n,i⟩=>[Fact.pure (n=decV (s.take i) 0/\n<=9223372036854775807/\i<=s.length)]) (λ⟨n,i⟩=>s.length-i) (0,0) ⟨rfl,rfl,j1⟩ .nil ⟨j2 (⟨rfl,m0,m0⟩),j1⟩ ?_;rintro⟨n,i⟩;dsimp only;refine bG d7 λa=>?_;refine g6 ?_;refine bJ (z':=((s.length:Nat):Int)) rfl ?_;refine g3 ?_;refine fA (λhc14=>?_) λhc14=>?_
  .refine g8 ?_;obtain⟨g,hb2⟩:=gx s i;refine ss (fJ hT (k:=i) rfl rfl rfl rfl rfl hb2) ?_;refine one ?_;have h:=hds g (j3 hb2);have e:=sub48 h;refine bJ (z':=((g.toNat-48:Nat):Int)) e.1 ?_;refine one ?_;refine bJ (z':=((g.toNat-48:Nat):Int)) (oD m0 m0) ?_;refine g10 ?_;refine bJ (z':=((9223372036854775807-(g.toNat-48):Nat):Int)) ac0 ?_;refine ss (bNv rfl rfl rfl m9) ?_;refine bJ (z':=((((9223372036854775807-(g.toNat-48))/10:Nat):Nat):Int)) ae0 ?_;refine g3 ?_;refine fA (λc=>?_) λc=>?_
   .refine g13 ?_;exact rs2 () j1 (he:=by rw[val_over hb2 (by rw[<-a.1];show 9223372036854775807<_;omega)];rfl)
   refine g5 ?_;refine bJ (z':=((10*n:Nat):Int)) ac0 ?_;refine g2 ?_;refine bJ (z':=((10*n+(g.toNat-48):Nat):Int)) ac0 ?_;refine g7 ?_;refine inc (i+1) ?_;refine g3 ?_;exact bk2 (10*n+(g.toNat-48),i+1) ⟨j2 (⟨by rw[bKg hb2,a.1],by dsimp only;omega,by dsimp only;omega⟩),j1⟩
  refine g18 ?_;refine bJ (z':=((n:Nat):Int)) (xF m0 m0) ?_;refine g5 ?_;exact rs2 () j1 (he:=by rw[val_done (i:=i) m0 (by rw[<-a.1];exact a.2.1),<-a.1];rfl)
 refine g27 ?_;refine cI (ι:=Nat×Nat) [(0,_),(1,_),(7,_)] ⟨rfl,rfl,rfl,j1⟩ (λ⟨n,i⟩=>[(6,.int .u64 (n:Nat)),(8,.int .i64 (i:Nat))]) (λ_=>[]) (λ⟨n,i⟩=>[Fact.pure (n=decV (s.take i) 0/\n<=9223372036854775808/\i<=s.length)]) (λ⟨n,i⟩=>s.length-i) (0,0) ⟨rfl,rfl,j1⟩ .nil ⟨j2 (⟨rfl,m0,m0⟩),j1⟩ ?_;rintro⟨n,i⟩;dsimp only;refine bG d7 λa=>?_;refine g6 ?_;refine bJ (z':=((s.length:Nat):Int)) rfl ?_;refine g3 ?_;refine fA (λhc14=>?_) λhc14=>?_
 .refine g8 ?_;obtain⟨f,d⟩:=gx s i;refine ss (fJ hT (k:=i) rfl rfl rfl rfl rfl d) ?_;refine one ?_;have h:=hds f (j3 d);have e:=sub48 h;refine bJ (z':=((f.toNat-48:Nat):Int)) e.1 ?_;refine one ?_;refine bJ (z':=((f.toNat-48:Nat):Int)) (oD m0 m0) ?_;refine g10 ?_;refine bJ (z':=((9223372036854775808-(f.toNat-48):Nat):Int)) ac0 ?_;refine ss (bNv rfl rfl rfl m9) ?_;refine bJ (z':=((((9223372036854775808-(f.toNat-48))/10:Nat):Nat):Int)) ae0 ?_;refine g3 ?_;refine fA (λc=>?_) λc=>?_
  .refine g13 ?_;exact rs2 () j1 (he:=by rw[val_over d (by rw[<-a.1];show 9223372036854775808<_;omega)];rfl)
  refine g5 ?_;refine bJ (z':=((10*n:Nat):Int)) ac0 ?_;refine g2 ?_;refine bJ (z':=((10*n+(f.toNat-48):Nat):Int)) ac0 ?_;refine g7 ?_;refine inc (i+1) ?_;refine g3 ?_;exact bk2 (10*n+(f.toNat-48),i+1) ⟨j2 (⟨by rw[bKg d,a.1],by dsimp only;omega,by dsimp only;omega⟩),j1⟩
 refine g17 ?_;refine bJ (z':=(-(n:Int))) (negWrap m0) ?_;refine g6 ?_;exact rs2 () j1 (he:=by rw[val_done (i:=i) m0 (by rw[<-a.1];exact a.2.1),<-a.1];rfl)
theorem bQi(b:UInt8)(r:Bs)(hl:(b::r).length<=65536):cY prog 140 [.string (bs (b::r)),k9 0] [] [] (λ(_:Unit)=>nextV (fC (b::r))) (λ_=>[]) (λ_=>[]):=by
 have hT:=jI;refine j8 func140 ntmps140 ?_;intro β hM;refine g2 ?_;refine j4 bBt λn=>?_;refine g9 ?_;refine ss (fJ hT (k:=0) rfl rfl rfl rfl rfl rfl) ?_;refine g3 ?_;refine fT (λd=>?_) λd=>?_
 .have d:b=10:=dJ (k:=10) (eq_of_beq d);refine g3 ?_;refine ss (j7 (uA _ _)) ?_;refine g2 ?_;refine inc 1 ?_;refine g7 ?_;exact rs3 () j1 (he:=by rw[t_line ‹_›];rfl)
 have d:b≠10:=dK (k:=10) (beq_eq_false_iff_ne.1 d);refine g7 ?_;refine ss (fJ hT (k:=0) rfl rfl rfl rfl rfl rfl) ?_;refine bC func160 (bGu _) rfl rfl .nil j1 λ_=>?_;refine g2 ?_;refine fT (λhc24=>?_) λhc24=>?_
 .rw[uK]at hc24;refine g4 ?_;refine j5 func161 (bJz (b::r) 0 true m0 n9) j1 λ_=>?_;refine bJ (z':=(((runB kL (b::r)):Nat):Int)) (by rw[pL_word];simp) ?_;have l:=kU kL (b::r);have hbr:(b::r).length=r.length+1:=rfl;refine g9 ?_;refine inc ((runB kL (b::r))-0) ?_;refine g3 ?_;refine fA (λm=>?_) λm=>?_
  .refine g2 ?_;refine ss (j7 (rD)) ?_;refine g8 ?_;exact rs3 () j1 (he:=by rw[t_long ‹_› ‹_› m0];rfl)
  refine g8 ?_;refine ss (cS hT (j:=0) (k:=(runB kL (b::r))) rfl rfl rfl rfl rfl rfl rfl m0 m0) ?_;refine iC (v':= .string (bs ((b::r).take (runB kL (b::r))))) (by rfl) ?_;refine ss (j7 (lD _ _ _)) ?_;refine g8 ?_;exact rs3 () j1 (he:=by rw[t_word ‹_› ‹_› m0];rfl)
 rw[uK]at hc24;refine g13 ?_;refine ss (fJ hT (k:=0) rfl rfl rfl rfl rfl rfl) ?_;refine g3 ?_;refine fT (λc=>?_) λc=>?_
 .have c:b=95:=dJ (k:=95) (eq_of_beq c);refine g3 ?_;refine inc 1 ?_;refine g4 ?_;have a:r=if b==95 then r else b::r:=by rw[show(b==95)=true from by simp[*]];rfl
  refine g3 ?_;refine j5 func161 (bJz (b::r) 1 false m0 n9) j1 λ_=>?_;refine bJ (z':=(((1+runB cW r):Nat):Int)) (by rw[pL_digit];rfl) ?_;have l:=kU cW r;have hbr:(b::r).length=r.length+1:=rfl;refine g11 ?_;refine fA (λf=>?_) λf=>?_
  .refine g5 ?_;refine ss (cS hT (j:=1) (k:=(1+runB cW r)) rfl rfl rfl rfl rfl rfl rfl m0 m0) ?_;refine iC (v':= .string (bs (r.take (runB cW r)))) (by rw[Nat.add_sub_cancel_left];rfl) ?_;refine g3 ?_;refine bF (t':=true) m9<|bF (t':=true) m9 ?_;refine bC func162 (bMn (r.take (runB cW r)) true ae8 (yV _ _)) rfl rfl .nil j1 λ_=>?_;refine g14 ?_;refine iK (λe=>?_) λe=>?_
   .refine g2 ?_;refine ss (j7 (rD)) ?_;refine g8 ?_;exact rs3 () j1 (he:=by rw[t_num ‹_› ‹_› a m0,(show(b==95)=true from by simp[*]),bUt (by assumption:(pB true (r.take (runB cW r))).isSome=false)];rfl)
   refine g6 ?_;refine ss (j7 (nM _ _ _)) ?_;refine g8 ?_;exact rs3 () j1 (he:=by rw[t_num ‹_› ‹_› a m0,(show(b==95)=true from by simp[*]),bWv (by assumption:(pB true (r.take (runB cW r))).isSome=true)];rw[Nat.add_comm];rfl)
  refine g6 ?_;refine j5 func163 (bQw b r) j1 λ_=>?_;refine g10 ?_;refine fT (λhc75=>?_) λhc75=>?_
  .have hc75:((b::r).take (gM (b::r)))=([]:Bs):=eq_of_beq hc75;refine g2 ?_;refine ss (j7 (rD)) ?_;refine g7 ?_;exact rs3 () j1 (he:=by rw[t_sign ‹_› ‹_› a m0,if_pos (bXv ‹_›)];rfl)
  have hc75:((b::r).take (gM (b::r)))≠([]:Bs):=λh=>absurd (beq_iff_eq.2 h) ai6;refine g3 ?_;have g:=O0 (gM (b::r)) (b::r);have i:=bBd (b::r);have hbr:(b::r).length=r.length+1:=rfl;refine g3 ?_;refine ss (j7 (lD _ _ _)) ?_;refine g3 ?_;refine bJ (z':=((((b::r).take (gM (b::r))).length:Nat):Int)) rfl ?_;refine one ?_;refine inc (0+((b::r).take (gM (b::r))).length) ?_;refine g6 ?_;exact rs3 () j1 (he:=by rw[t_sign ‹_› ‹_› a m0,if_neg (bIg ‹_›)];exact bWk)
 have c:b≠95:=dK (k:=95) (beq_eq_false_iff_ne.1 c);refine g3 ?_;have a:(b::r)=if b==95 then r else b::r:=by rw[show(b==95)=false from by simp[*]];rfl
 refine g3 ?_;refine j5 func161 (bJz (b::r) 0 false m0 n9) j1 λ_=>?_;refine bJ (z':=(((runB cW (b::r)):Nat):Int)) (by rw[pL_digit];simp) ?_;have l:=kU cW (b::r);have hbr:(b::r).length=r.length+1:=rfl;refine g11 ?_;refine fA (λf=>?_) λf=>?_
 .refine g5 ?_;refine ss (cS hT (j:=0) (k:=(runB cW (b::r))) rfl rfl rfl rfl rfl rfl rfl m0 m0) ?_;refine iC (v':= .string (bs ((b::r).take (runB cW (b::r))))) (by rfl) ?_;refine g3 ?_;refine bF (t':=false) m9<|bF (t':=false) m9 ?_;refine bC func162 (bMn ((b::r).take (runB cW (b::r))) false ae8 (yV _ _)) rfl rfl .nil j1 λ_=>?_;refine g14 ?_;refine iK (λe=>?_) λe=>?_
  .refine g2 ?_;refine ss (j7 (rD)) ?_;refine g8 ?_;exact rs3 () j1 (he:=by rw[t_num ‹_› ‹_› a m0,(show(b==95)=false from by simp[*]),bUt (by assumption:(pB false ((b::r).take (runB cW (b::r)))).isSome=false)];rfl)
  refine g6 ?_;refine ss (j7 (nM _ _ _)) ?_;refine g8 ?_;exact rs3 () j1 (he:=by rw[t_num ‹_› ‹_› a m0,(show(b==95)=false from by simp[*]),bWv (by assumption:(pB false ((b::r).take (runB cW (b::r)))).isSome=true)];rfl)
 refine g6 ?_;refine j5 func163 (bQw b r) j1 λ_=>?_;refine g10 ?_;refine fT (λhc75=>?_) λhc75=>?_
 .have hc75:((b::r).take (gM (b::r)))=([]:Bs):=eq_of_beq hc75;refine g2 ?_;refine ss (j7 (rD)) ?_;refine g7 ?_;exact rs3 () j1 (he:=by rw[t_sign ‹_› ‹_› a m0,if_pos (bXv ‹_›)];rfl)
 have hc75:((b::r).take (gM (b::r)))≠([]:Bs):=λh=>absurd (beq_iff_eq.2 h) ai6;refine g3 ?_;have g:=O0 (gM (b::r)) (b::r);have i:=bBd (b::r);have hbr:(b::r).length=r.length+1:=rfl;refine g3 ?_;refine ss (j7 (lD _ _ _)) ?_;refine g3 ?_;refine bJ (z':=((((b::r).take (gM (b::r))).length:Nat):Int)) rfl ?_;refine one ?_;refine inc (0+((b::r).take (gM (b::r))).length) ?_;refine g6 ?_;exact rs3 () j1 (he:=by rw[t_sign ‹_› ‹_› a m0,if_neg (bIg ‹_›)];exact bWk)
