/- Texts of one proof, one behind the other: PartT, MonT, DyT, Lanes, PrimA, PrimB, PrimC, PrimD, PrimE, PrimF, PrimG, MeanL, MeanU. -/
import Derived.Test.YtakphiannlpnfaaGreatDoorM2
import Derived.Test.YtakphiannlpnfaaGreatDoorM12
namespace Go.Proofs.YtakphiannlpnfaaGreatDoor
open Go.RowKit Go.Proofs.Tryz
set_option maxRecDepth 100000
theorem builtM_ne(z:Int)(a b c d e f:Value):prog.built 100 [(0,.int .i64 z),(1,.agg #[a,b,c,d,e,f])]=some #[.int .i64 z,a,b,c,d,e,f]:=o0
theorem at_one_mono{β:dE}{n:Nat}{Γ:Env}{H:List bH}{F:List Fact}{Q:Exit→Act→World→Prop}{ops:Array Oper}{rest:List Oper}{o:Oper}{d:Nat}{x:Operand}{m:Mono}(hw:want ops Γ o=some true)(ho:o.op= .buildSlice 47 1 #[(0,x)])(hd:o.dst=some d)(hn:Nat.blt d n=true)
  (hx:Γ.ev x=some (.agg #[.int .i64 m.n,.int .u8 m.e0.toNat,.int .u8 m.e1.toNat,.int .u8 m.e2.toNat,.int .u8 m.e3.toNat,.int .u8 m.e4.toNat,.int .u8 m.e5.toNat])) (k: ∀b,At β n ((d,.slice (some ⟨b,0,none⟩) 1 1)::Γ) (.obj b (.cells (mN.all [m]).toArray 100)::H) F (wpList prog ops Q rest)):At β n Γ H F (wpList prog ops Q (o::rest)):=by
 obtain⟨i,hi,hz,hs,_⟩:=monoI;refine gD hw ho hd hn hx underlying47 hi hz n9 n9 ?_ k;rw [hs]
 kernel_rfl
theorem polF_own{F:List Fact}{b:Nat}{m:Mono}(h:Has F (mN.sl (.slice (some ⟨b,0,none⟩) 1 1) [m])):Has F (kR ⟨some ⟨b,0,none⟩,1,[m]⟩):=h.and (j3 o9)
theorem tk_cases(t:Bool):t=true∨t=false:=by cases t<;>simp
theorem maxZ(a b:Int):(if b>a then b else a)=max a b:=by
 split<;>omega
theorem wf_one{a:TyV}(h:WfT a.t)(k:a.known=true)(hs:a.sides.list.length=0):a.values.list.length=1:=by
 have e:a.t.values.length=1:=by
  rcases (h.kn k).2 with h | h
  ·exact h.2
  ·have h:bK a.sides.list=_:=h;rw [dC hs] at h;cases h
 have e:(bK a.values.list).length=1:=e
 rwa [bF] at e
theorem wf_val{a:TyV}(h:WfT a.t){p:PolV}{i:Nat}(hp:a.values.list[i]?=some p):dO p.list=true:=h.vr _ (j4 (fZ hp))
theorem right_n{p:List Mono}(h:dO p=true){i:Nat}{m:Mono}(hm:p[i]?=some m): -16777216≤m.n∧m.n≤16777216:=by
 simp only [dO,Bool.and_eq_true] at h;have:=wD h.2 m (j4 hm);simp only [yG,decide_eq_true_eq] at this;omega
theorem bKm{k:Nat}{n:Int}(h:gI (bT k) n=true):n≤k:=by
 unfold bT iA at h;split at h
 ·simp [gI] at h;omega
 ·split at h
  ·simp [gI] at h;omega
  ·simp [gI,num0] at h;omega
section
variable {v : List Mono} {m : Mono}
theorem cnt0(h:v.length=0):rF v=some 0:=by rw [List.length_eq_zero_iff.1 h];rfl
theorem cnt2(h:1<v.length):rF v=none:=by
 match v,h with
 | _::_::_,_=>rfl
theorem cnt1(h:v.length=1)(hm:v[0]?=some m)(c:gI [bLo m] 1=true):rF v=some m.n:=by
 match v,h with
 | [x],_=>
  simp at hm;subst hm;simp [rF,c]
theorem cnt1b(h:v.length=1)(hm:v[0]?=some m)(c:gI [bLo m] 1=false):rF v=none:=by
 match v,h with
 | [x],_=>
  simp at hm;subst hm;simp [rF,c]
end
theorem cutT_t{tk:Bool}{n:Int}{l:List PolV}{k:Nat}(h:tk=decide (0≤n))(hk:(k:Int)=if n<0 then n+l.length else n):xG tk n (bK l)=bK (l.take k):=by
 unfold xG;rw [if_pos h,bF,←hk,bKo];rfl
theorem cutT_d{tk:Bool}{n:Int}{l:List PolV}{k:Nat}(h:tk≠decide (0≤n))(hk:(k:Int)=if n<0 then n+l.length else n):xG tk n (bK l)=bK (l.drop k):=by
 unfold xG;rw [if_neg h,bF,←hk,oF];rfl
theorem bOh{l:List PolV}{y p:PolV}(h:l[0]?=some y):bK (l.set 0 p)=p.list::(bK l).tail:=by
 cases l with
 | nil=>simp at h
 | cons a l=>rfl
section
variable {F : List Fact} {l : Sl PolV} {k : Nat}
theorem pX(h:Has F (listF l))(hc:l.list.length≤l.cap)(hk:k≤l.list.length):Has F (listF ⟨l.addr,l.cap,l.list.take k⟩):=
 cG (by rw [List.length_take,Nat.min_eq_left hk];exact bMu (vT h) hk) (polsF_take k (bDx h)) (by rw [List.length_take];omega)
theorem sU(h:Has F (listF l))(hc:l.list.length≤l.cap)(hk:k≤l.list.length):Has F (listF ⟨gV l.addr k bP.size l.cap,l.cap-k,l.list.drop k⟩):=
 cG (by have:=kG (vT h) hc hk;rwa [←List.length_drop] at this) (iC k (bDx h)) ah5
theorem bAf{xs:List PolV}{p:PolV}(n:Nat)(h:Has F (cK xs))(hp:Has F (kR p)):Has F (cK (xs.set n p)):=fun S w k q hq=>by
 rcases List.mem_or_eq_of_mem_set hq with hq | rfl
 ·exact h S w k q hq
 ·exact hp S w k
end
section
variable {tk : Bool} {a b : TyV} {x y : PolV} {n : Int}
theorem ptT_a(h:0<a.sides.list.length∨b.sides.list.length=0):lT tk a.t b.t=(a.t,90):=by
 unfold lT;rw [if_pos]
 rcases h with h | h
 ·exact .inl (dW h)
 ·exact .inr (dC h)
theorem bFo(h:a.sides.list.length=0)(k:0<b.sides.list.length): ¬(a.t.sides≠[]∨b.t.sides=[]):=by
 rintro(e | e)
 ·exact e (dC h)
 ·exact dW k e
theorem ptT_b(h:a.sides.list.length=0)(k:0<b.sides.list.length)(g:a.known=false):lT tk a.t b.t=(a.t,92):=by
 unfold lT;rw [if_neg (bFo h k)];exact if_pos g
theorem ptT_c(h:a.sides.list.length=0)(k:0<b.sides.list.length)(g:a.known=true)(hx:a.values.list[0]?=some x)(hc:rF x.list=none):lT tk a.t b.t=(a.t,93):=by
 have hx':a.t.values.headD []=x.list:=iF hx;have g: ¬a.t.known=false:=by show ¬a.known=false;simp [g]
 unfold lT;rw [if_neg (bFo h k),if_neg g,hx',hc]
theorem ptT_d(h:a.sides.list.length=0)(k:0<b.sides.list.length)(g:a.known=true)(hx:a.values.list[0]?=some x)(hc:rF x.list=some n)(hy:b.sides.list[0]?=some y)(c:gI y.list (max n (-n))=false):lT tk a.t b.t=(a.t,93):=by
 have hx':a.t.values.headD []=x.list:=iF hx;have hy':b.t.sides.headD []=y.list:=iF hy;have g: ¬a.t.known=false:=by show ¬a.known=false;simp [g]
 unfold lT;rw [if_neg (bFo h k),if_neg g,hx',hc];dsimp only;rw [hy',if_pos c]
theorem ptT_e(h:a.sides.list.length=0)(k:0<b.sides.list.length)(g:a.known=true)(hx:a.values.list[0]?=some x)(hc:rF x.list=some n)(hy:b.sides.list[0]?=some y)(c:gI y.list (max n (-n))=true)(e:(cC y.list (bT (max n (-n))) (-1)).2≠0):lT false a.t b.t=(a.t,95):=by
 have hx':a.t.values.headD []=x.list:=iF hx;have hy':b.t.sides.headD []=y.list:=iF hy;have g: ¬a.t.known=false:=by show ¬a.known=false;simp [g]
 unfold lT;rw [if_neg (bFo h k),if_neg g,hx',hc];dsimp only;rw [hy',if_neg (by simp [c]),if_neg o9,if_pos e]
theorem bRk{A:Option Addr}{q:Nat}{p:PolV}{V:Sl PolV}(h:a.sides.list.length=0)(k:0<b.sides.list.length)(g:a.known=true)(hx:a.values.list[0]?=some x)(hc:rF x.list=some n)(hy:b.sides.list[0]?=some y)(c:gI y.list (max n (-n))=true)(hp:p.list=bT (max n (-n)))
  (hV:bK V.list=if b.known=true then xG true n (bK b.values.list) else bK b.values.list):lT true a.t b.t=((⟨⟨A,q,b.sides.list.set 0 p⟩,b.known,V⟩:TyV).t,0):=by
 have hx':a.t.values.headD []=x.list:=iF hx;have hy':b.t.sides.headD []=y.list:=iF hy;have g: ¬a.t.known=false:=by show ¬a.known=false;simp [g]
 unfold lT;rw [if_neg (bFo h k),if_neg g,hx',hc];dsimp only;rw [hy',if_neg (by simp [c]),if_pos rfl];show _=((⟨bK (b.sides.list.set 0 p),b.known,bK V.list⟩:TyP),(0:Int));rw [bOh hy,hp,hV];rfl
theorem bQc{A:Option Addr}{q:Nat}{p:PolV}{V:Sl PolV}(h:a.sides.list.length=0)(k:0<b.sides.list.length)(g:a.known=true)(hx:a.values.list[0]?=some x)(hc:rF x.list=some n)(hy:b.sides.list[0]?=some y)(c:gI y.list (max n (-n))=true)(e:(cC y.list (bT (max n (-n))) (-1)).2=0)(hp:p.list=(cC y.list (bT (max n (-n))) (-1)).1)
  (hV:bK V.list=if b.known=true then xG false n (bK b.values.list) else bK b.values.list):lT false a.t b.t=((⟨⟨A,q,b.sides.list.set 0 p⟩,b.known,V⟩:TyV).t,0):=by
 have hx':a.t.values.headD []=x.list:=iF hx;have hy':b.t.sides.headD []=y.list:=iF hy;have g: ¬a.t.known=false:=by show ¬a.known=false;simp [g]
 unfold lT;rw [if_neg (bFo h k),if_neg g,hx',hc];dsimp only;rw [hy',if_neg (by simp [c]),if_neg o9,if_neg ah6];show _=((⟨bK (b.sides.list.set 0 p),b.known,bK V.list⟩:TyP),(0:Int));rw [bOh hy,hp,hV];rfl
theorem ptT_le(hb:WfT b.t)(k:0<b.sides.list.length)(hk:b.known=true)(hy:b.sides.list[0]?=some y){m:Int}(c:gI y.list m=true):m≤b.values.list.length:=by
 have hy':=fZ hy
 rcases (hb.kn hk).2 with h | h
 ·exact absurd h.1 (dW k)
 ·have h:bK b.sides.list=[bT (bK b.values.list).length]:=h;rw [h,bF] at hy';simp at hy';rw [←hy'] at c;exact bKm c
end
theorem bLc(tk:Bool)(a b:TyV)(ha:WfT a.t)(hb:WfT b.t):cN prog 86 [.bool tk,.agg #[.slice a.sides.addr a.sides.list.length a.sides.cap,.bool a.known,.slice a.values.addr a.values.list.length a.values.cap],.agg #[.slice b.sides.addr b.sides.list.length b.sides.cap,.bool b.known,.slice b.values.addr b.values.list.length b.values.cap]] [] [tyF a,tyF b] (fun(x:TyV)=> .tuple #[tyC x,.int .i64 (lT tk a.t b.t).2]) (fun _=>[]) (fun(x:TyV)=>[tyF x,Fact.pure (x.t=(lT tk a.t b.t).1)]):=by
 have hT:=fC;have hsa:=yC ha;have hva:=bPf ha;have hsb:=yC hb;have hvb:=bPf hb;generalize hR:lT tk a.t b.t=r;refine k8 func86 ntmps86 ?_;intro β hM;refine cL<|bB (listF a.sides) (kZ d7) ?_;refine cF a.sides mT0 fun hc_as=>bB (listF a.values) (lC e6)<|cF a.values mT0 fun hc_av=>bB (listF b.sides) (kZ f3)<|cF b.sides mT0 fun hc_bs=>bB (listF b.values) (lC f9)<|cF b.values mT0 fun hc_bv=>?_;refine one ?_;refine j9 fun b1=>?_;refine j9 fun b2=>?_;refine j6 pO fun b3=>?_;refine g12 ?_;refine lR (fun hg19=>?_) fun hg19=>?_
 ·refine g19 ?_;have hr:=hR.symm.trans (ptT_a n9);subst hr;exact rs2 (⟨a.sides,a.known,a.values⟩:TyV) ⟨(bW (x:=⟨a.sides,a.known,a.values⟩) i6 f5),j3 rfl,j2⟩
 refine g8 ?_;refine fE (fun hc14=>?_) fun hc14=>?_
 ·refine g10 ?_;have hr:=hR.symm.trans (ptT_a n9);subst hr;exact rs2 (⟨a.sides,a.known,a.values⟩:TyV) ⟨(bW (x:=⟨a.sides,a.known,a.values⟩) i6 f5),j3 rfl,j2⟩
 refine g8 ?_;refine jB (fun hc26=>?_) fun hc26=>?_
 ·refine g10 ?_;have hr:=hR.symm.trans (ptT_b n9 n9 asd);subst hr;exact rs2 (⟨a.sides,a.known,a.values⟩:TyV) ⟨(bW (x:=⟨a.sides,a.known,a.values⟩) i6 f5),j3 rfl,j2⟩
 refine g10 ?_;have hv1:=wf_one ha asd n9;refine g3 ?_;obtain⟨x4,hx5⟩:=gx a.values.list 0;refine ss (cJ hT (k:=0) (cD f3) rfl rfl rfl rfl rfl rfl rfl n9) ?_;refine ss (j7 hT (dQ.knows (cD f3) (k:=0) (x:=x4) hx5 0)) ?_;refine bB (kR x4) (Has.each e9 (j4 hx5))<|bB (mN.sl (.slice x4.addr x4.list.length x4.cap) x4.list) (rA d7) ?_;have hxr:=wf_val ha hx5;refine g9 ?_;refine lR (fun hg38=>?_) fun hg38=>?_
 ·refine g26 ?_;have hr:=hR.symm.trans (ptT_c n9 n9 asd hx5 (cnt2 n9));subst hr;exact rs2 (⟨a.sides,a.known,a.values⟩:TyV) ⟨(bW (x:=⟨a.sides,a.known,a.values⟩) j0 f9),j3 rfl,j2⟩
 refine g4 ?_;refine mY (fun hg42=>?_) fun hg42=>?_
 ·refine one ?_;obtain⟨x6,hx7⟩:=gx x4.list 0;refine ss (cJ hT (k:=0) (cD d7) rfl rfl rfl rfl rfl rfl rfl n9) ?_;refine one ?_;refine ss (fA hT (dQ.knows (cD d7) (k:=0) (x:=x6) hx7 1) rfl rfl rfl rfl rfl) ?_;refine ss (k7 (builtM_ne _ _ _ _ _ _ _)) ?_;refine at_one_mono (m:=(bLo x6)) rfl rfl rfl rfl rfl fun b8=>?_;refine bQ (E:=mN) (xs:=[(bLo x6)]) .head q8<|bE .head<|bB (kR ⟨some ⟨b8,0,none⟩,1,[(bLo x6)]⟩) (polF_own d7)<|bC (cS d7) fun hpl9=>?_;refine j5 func118 (tR (p:=⟨some ⟨b8,0,none⟩,1,[(bLo x6)]⟩) 1 hpl9) ⟨d7,j2⟩ fun _=>?_;refine g5 ?_;refine jB (fun hc52=>?_) fun hc52=>?_
  ·refine g9 ?_;have hr:=hR.symm.trans (ptT_c n9 n9 asd hx5 (cnt1b n9 hx7 (by simpa using hc52)));subst hr;exact rs2 (⟨a.sides,a.known,a.values⟩:TyV) ⟨(bW (x:=⟨a.sides,a.known,a.values⟩) (Has.of (u8 mT7)) i7),j3 rfl,j2⟩
  refine g5 ?_;refine bL (t':=true) (decide_eq_true n9) ?_;refine g5 ?_;refine ss (cJ hT (k:=0) (cD d9) rfl rfl rfl rfl rfl rfl rfl n9) ?_;refine one ?_;refine ss (j7 hT (dQ.knows (cD d9) (k:=0) (x:=x6) hx7 0)) ?_;refine g4 ?_;have hcn:=cnt1 n9 hx7 (by simpa using hc52);have hnr:=right_n hxr hx7;refine g4 ?_;refine cP (z':= -x6.n) ah2 ?_;refine one ?_;refine cP (z':=max x6.n (-x6.n)) (maxZ _ _) ?_;refine g8 ?_;obtain⟨x10,hx11⟩:=gx b.sides.list 0;refine ss (cJ hT (k:=0) (cD f5) rfl rfl rfl rfl rfl rfl rfl n9) ?_;refine ss (j7 hT (dQ.knows (cD f5) (k:=0) (x:=x10) hx11 0)) ?_;refine one ?_;refine bC (cS (Has.each f3 (j4 hx11))) fun hpl12=>?_;refine j5 func118 (tR (p:=x10) (max x6.n (-x6.n)) hpl12) ⟨(Has.each f3 (j4 hx11)),j2⟩ fun _=>?_;refine g3 ?_;refine jB (fun hc71=>?_) fun hc71=>?_
  ·refine g9 ?_;have hr:=hR.symm.trans (ptT_d n9 n9 asd hx5 hcn hx11 asd);subst hr;exact rs2 (⟨a.sides,a.known,a.values⟩:TyV) ⟨(bW (x:=⟨a.sides,a.known,a.values⟩) (Has.of (u8 mT7)) i7),j3 rfl,j2⟩
  refine g6 ?_;refine j5 func114 (yE b.sides.addr b.sides.cap b.sides.list n9) ⟨f5,j2⟩ fun⟨A13,c14⟩=>?_;refine bB (cK b.sides.list) f3 ?_;refine g7 ?_;refine j5 func45 (jE ((max x6.n (-x6.n)))) j2 fun⟨A15,c16⟩=>?_;refine g5 ?_
  rcases tk_cases tk with htk | htk
  ·subst htk;refine g9 ?_;refine zY kT1 n9 fun g17 hg=>?_;subst hg;refine g4 ?_;refine ss (iG hT (k:=0) rfl rfl rfl rfl rfl rfl n9) ?_;refine fT hT (k:=0) (fo:=0) (y':=(⟨A15,c16,bT ((max x6.n (-x6.n)))⟩:PolV)) kT1 rfl rfl rfl rfl rfl rfl rfl rfl rfl hx11 rfl ?_;refine g4 ?_;rw [show b.sides.list.length=(b.sides.list.set 0 (⟨A15,c16,bT ((max x6.n (-x6.n)))⟩:PolV)).length from List.length_set.symm];refine bB (cK (b.sides.list.set 0 (⟨A15,c16,bT ((max x6.n (-x6.n)))⟩:PolV))) (bAf 0 d8 d7)<|bV .head fun hc_cl=>bE .head ?_;refine g5 ?_;refine iV (fun hc98=>?_) fun hc98=>?_
   ·refine cL ?_;have hcv:=ptT_le hb n9 asd hx11 asd;refine g12 ?_;refine dM (fun hc101=>?_) fun hc101=>?_
    ·refine g6 ?_;refine cP (z':=(x6.n+(b.values.list.length:Nat))) (bIg n9 n9) ?_;refine g8 ?_;refine bL (t':=false) (decide_eq_false n9) ?_;refine one ?_;refine bL (t':=false) p7 ?_;refine g7 ?_;have hkl:(x6.n+(b.values.list.length:Nat)).toNat≤b.values.list.length:=n9
     refine ss (dL hT (k:=(x6.n+(b.values.list.length:Nat)).toNat) rfl rfl rfl rfl rfl n9 n9) ?_;refine jO (v':= .slice (gV b.values.addr ((x6.n+(b.values.list.length:Nat)).toNat) bP.size b.values.cap) (b.values.list.drop ((x6.n+(b.values.list.length:Nat)).toNat)).length (b.values.cap-(x6.n+(b.values.list.length:Nat)).toNat)) ac1<|bB (listF ⟨gV b.values.addr ((x6.n+(b.values.list.length:Nat)).toNat) bP.size b.values.cap,b.values.cap-(x6.n+(b.values.list.length:Nat)).toNat,b.values.list.drop ((x6.n+(b.values.list.length:Nat)).toNat)⟩) (sU f9 hc_bv hkl) ?_;refine g12 ?_;have hr:=hR.symm.trans (bRk (A:=(some ⟨g17,0,none⟩)) (q:=c14) (p:=⟨A15,c16,bT ((max x6.n (-x6.n)))⟩) (V:=⟨gV b.values.addr ((x6.n+(b.values.list.length:Nat)).toNat) bP.size b.values.cap,b.values.cap-(x6.n+(b.values.list.length:Nat)).toNat,b.values.list.drop ((x6.n+(b.values.list.length:Nat)).toNat)⟩) n9 n9 asd hx5 hcn hx11 asd rfl (((if_pos (show b.known=true from by assumption)).trans (cutT_d (k:=(x6.n+(b.values.list.length:Nat)).toNat) (tk:=true) (n:=x6.n) (l:=b.values.list) (by rw [decide_eq_false n9];decide) (by split<;>omega))).symm));subst hr;exact rs2 (⟨⟨(some ⟨g17,0,none⟩),c14,(b.sides.list.set 0 (⟨A15,c16,bT ((max x6.n (-x6.n)))⟩:PolV))⟩,b.known,⟨gV b.values.addr ((x6.n+(b.values.list.length:Nat)).toNat) bP.size b.values.cap,b.values.cap-(x6.n+(b.values.list.length:Nat)).toNat,b.values.list.drop ((x6.n+(b.values.list.length:Nat)).toNat)⟩⟩:TyV) ⟨(bW (x:=⟨⟨(some ⟨g17,0,none⟩),c14,(b.sides.list.set 0 (⟨A15,c16,bT ((max x6.n (-x6.n)))⟩:PolV))⟩,b.known,⟨gV b.values.addr ((x6.n+(b.values.list.length:Nat)).toNat) bP.size b.values.cap,b.values.cap-(x6.n+(b.values.list.length:Nat)).toNat,b.values.list.drop ((x6.n+(b.values.list.length:Nat)).toNat)⟩⟩) (cG d8 d9 (hc_cl)) d7),j3 rfl,j2⟩
    refine g7 ?_;refine bL (t':=true) (decide_eq_true n9) ?_;refine one ?_;refine bL (t':=true) p7 ?_;refine g7 ?_;have hkl:x6.n.toNat≤b.values.list.length:=n9
    refine ss (iQ hT (k:=x6.n.toNat) rfl rfl rfl rfl rfl n9 n9) ?_;refine jO (v':= .slice b.values.addr (b.values.list.take (x6.n.toNat)).length b.values.cap) ab9<|bB (listF ⟨b.values.addr,b.values.cap,b.values.list.take (x6.n.toNat)⟩) (pX f9 hc_bv hkl) ?_;refine g12 ?_;have hr:=hR.symm.trans (bRk (A:=(some ⟨g17,0,none⟩)) (q:=c14) (p:=⟨A15,c16,bT ((max x6.n (-x6.n)))⟩) (V:=⟨b.values.addr,b.values.cap,b.values.list.take (x6.n.toNat)⟩) n9 n9 asd hx5 hcn hx11 asd rfl (((if_pos (show b.known=true from by assumption)).trans (cutT_t (k:=x6.n.toNat) (tk:=true) (n:=x6.n) (l:=b.values.list) (decide_eq_true n9).symm (by split<;>omega))).symm));subst hr;exact rs2 (⟨⟨(some ⟨g17,0,none⟩),c14,(b.sides.list.set 0 (⟨A15,c16,bT ((max x6.n (-x6.n)))⟩:PolV))⟩,b.known,⟨b.values.addr,b.values.cap,b.values.list.take (x6.n.toNat)⟩⟩:TyV) ⟨(bW (x:=⟨⟨(some ⟨g17,0,none⟩),c14,(b.sides.list.set 0 (⟨A15,c16,bT ((max x6.n (-x6.n)))⟩:PolV))⟩,b.known,⟨b.values.addr,b.values.cap,b.values.list.take (x6.n.toNat)⟩⟩) (cG d8 d9 (hc_cl)) d7),j3 rfl,j2⟩
   refine g10 ?_;have hr:=hR.symm.trans (bRk (A:=(some ⟨g17,0,none⟩)) (q:=c14) (p:=⟨A15,c16,bT ((max x6.n (-x6.n)))⟩) (V:=b.values) n9 n9 asd hx5 hcn hx11 asd rfl ((if_neg af4).symm));subst hr;exact rs2 (⟨⟨(some ⟨g17,0,none⟩),c14,(b.sides.list.set 0 (⟨A15,c16,bT ((max x6.n (-x6.n)))⟩:PolV))⟩,b.known,b.values⟩:TyV) ⟨(bW (x:=⟨⟨(some ⟨g17,0,none⟩),c14,(b.sides.list.set 0 (⟨A15,c16,bT ((max x6.n (-x6.n)))⟩:PolV))⟩,b.known,b.values⟩) (cG d7 d8 (hc_cl)) f9),j3 rfl,j2⟩
  subst htk;refine g15 ?_;refine ss (cJ hT (k:=0) (cM kT1) rfl rfl rfl rfl rfl rfl rfl n9) ?_;refine ss (j7 hT (dQ.knows (cM kT1) (k:=0) (x:=x10) hx11 0)) ?_;refine one ?_;refine bC (cS (Has.each f7 (j4 hx11))) fun hpl20=>bC (cS d7) fun hql21=>?_;refine j5 func84 (bLl (p:=x10) (q:=⟨A15,c16,bT ((max x6.n (-x6.n)))⟩) hpl20 hql21) ⟨(Has.each f7 (j4 hx11)),d7,j2⟩ fun⟨A18,c19⟩=>?_;refine g13 ?_;refine vC (fun hc91=>?_) fun hc91=>?_
  ·refine g9 ?_;have hr:=hR.symm.trans (ptT_e n9 n9 asd hx5 hcn hx11 asd asd);subst hr;exact rs2 (⟨a.sides,a.known,a.values⟩:TyV) ⟨(bW (x:=⟨a.sides,a.known,a.values⟩) (Has.of (u8 (u8 mT2))) (Has.of (u8 mT7))),j3 rfl,j2⟩
  refine g3 ?_;refine zY kT1 n9 fun g22 hg=>?_;subst hg;refine g4 ?_;refine ss (iG hT (k:=0) rfl rfl rfl rfl rfl rfl n9) ?_;refine fT hT (k:=0) (fo:=0) (y':=(⟨A18,c19,(cC x10.list (bT ((max x6.n (-x6.n)))) (-1)).1⟩:PolV)) kT1 rfl rfl rfl rfl rfl rfl rfl rfl rfl hx11 rfl ?_;refine g4 ?_;rw [show b.sides.list.length=(b.sides.list.set 0 (⟨A18,c19,(cC x10.list (bT ((max x6.n (-x6.n)))) (-1)).1⟩:PolV)).length from List.length_set.symm];refine bB (cK (b.sides.list.set 0 (⟨A18,c19,(cC x10.list (bT ((max x6.n (-x6.n)))) (-1)).1⟩:PolV))) (bAf 0 d9 d7)<|bV .head fun hc_cl=>bE .head ?_;refine g5 ?_;refine iV (fun hc98=>?_) fun hc98=>?_
  ·refine cL ?_;have hcv:=ptT_le hb n9 asd hx11 asd;refine g12 ?_;refine dM (fun hc101=>?_) fun hc101=>?_
   ·refine g6 ?_;refine cP (z':=(x6.n+(b.values.list.length:Nat))) (bIg n9 n9) ?_;refine g8 ?_;refine bL (t':=false) (decide_eq_false n9) ?_;refine one ?_;refine bL (t':=true) p7 ?_;refine g7 ?_;have hkl:(x6.n+(b.values.list.length:Nat)).toNat≤b.values.list.length:=n9
    refine ss (iQ hT (k:=(x6.n+(b.values.list.length:Nat)).toNat) rfl rfl rfl rfl rfl n9 n9) ?_;refine jO (v':= .slice b.values.addr (b.values.list.take ((x6.n+(b.values.list.length:Nat)).toNat)).length b.values.cap) ab9<|bB (listF ⟨b.values.addr,b.values.cap,b.values.list.take ((x6.n+(b.values.list.length:Nat)).toNat)⟩) (pX i6 hc_bv hkl) ?_;refine g12 ?_;have hr:=hR.symm.trans (bQc (A:=(some ⟨g22,0,none⟩)) (q:=c14) (p:=⟨A18,c19,(cC x10.list (bT ((max x6.n (-x6.n)))) (-1)).1⟩) (V:=⟨b.values.addr,b.values.cap,b.values.list.take ((x6.n+(b.values.list.length:Nat)).toNat)⟩) n9 n9 asd hx5 hcn hx11 asd n9 rfl (((if_pos (show b.known=true from by assumption)).trans (cutT_t (k:=(x6.n+(b.values.list.length:Nat)).toNat) (tk:=false) (n:=x6.n) (l:=b.values.list) (decide_eq_false n9).symm (by split<;>omega))).symm));subst hr;exact rs2 (⟨⟨(some ⟨g22,0,none⟩),c14,(b.sides.list.set 0 (⟨A18,c19,(cC x10.list (bT ((max x6.n (-x6.n)))) (-1)).1⟩:PolV))⟩,b.known,⟨b.values.addr,b.values.cap,b.values.list.take ((x6.n+(b.values.list.length:Nat)).toNat)⟩⟩:TyV) ⟨(bW (x:=⟨⟨(some ⟨g22,0,none⟩),c14,(b.sides.list.set 0 (⟨A18,c19,(cC x10.list (bT ((max x6.n (-x6.n)))) (-1)).1⟩:PolV))⟩,b.known,⟨b.values.addr,b.values.cap,b.values.list.take ((x6.n+(b.values.list.length:Nat)).toNat)⟩⟩) (cG d8 d9 (hc_cl)) d7),j3 rfl,j2⟩
   refine g7 ?_;refine bL (t':=true) (decide_eq_true n9) ?_;refine one ?_;refine bL (t':=false) p7 ?_;refine g7 ?_;have hkl:x6.n.toNat≤b.values.list.length:=n9
   refine ss (dL hT (k:=x6.n.toNat) rfl rfl rfl rfl rfl n9 n9) ?_;refine jO (v':= .slice (gV b.values.addr (x6.n.toNat) bP.size b.values.cap) (b.values.list.drop (x6.n.toNat)).length (b.values.cap-x6.n.toNat)) ac1<|bB (listF ⟨gV b.values.addr (x6.n.toNat) bP.size b.values.cap,b.values.cap-x6.n.toNat,b.values.list.drop (x6.n.toNat)⟩) (sU i6 hc_bv hkl) ?_;refine g12 ?_;have hr:=hR.symm.trans (bQc (A:=(some ⟨g22,0,none⟩)) (q:=c14) (p:=⟨A18,c19,(cC x10.list (bT ((max x6.n (-x6.n)))) (-1)).1⟩) (V:=⟨gV b.values.addr (x6.n.toNat) bP.size b.values.cap,b.values.cap-x6.n.toNat,b.values.list.drop (x6.n.toNat)⟩) n9 n9 asd hx5 hcn hx11 asd n9 rfl (((if_pos (show b.known=true from by assumption)).trans (cutT_d (k:=x6.n.toNat) (tk:=false) (n:=x6.n) (l:=b.values.list) (by rw [decide_eq_true n9];decide) (by split<;>omega))).symm));subst hr;exact rs2 (⟨⟨(some ⟨g22,0,none⟩),c14,(b.sides.list.set 0 (⟨A18,c19,(cC x10.list (bT ((max x6.n (-x6.n)))) (-1)).1⟩:PolV))⟩,b.known,⟨gV b.values.addr (x6.n.toNat) bP.size b.values.cap,b.values.cap-x6.n.toNat,b.values.list.drop (x6.n.toNat)⟩⟩:TyV) ⟨(bW (x:=⟨⟨(some ⟨g22,0,none⟩),c14,(b.sides.list.set 0 (⟨A18,c19,(cC x10.list (bT ((max x6.n (-x6.n)))) (-1)).1⟩:PolV))⟩,b.known,⟨gV b.values.addr (x6.n.toNat) bP.size b.values.cap,b.values.cap-x6.n.toNat,b.values.list.drop (x6.n.toNat)⟩⟩) (cG d8 d9 (hc_cl)) d7),j3 rfl,j2⟩
  refine g10 ?_;have hr:=hR.symm.trans (bQc (A:=(some ⟨g22,0,none⟩)) (q:=c14) (p:=⟨A18,c19,(cC x10.list (bT ((max x6.n (-x6.n)))) (-1)).1⟩) (V:=b.values) n9 n9 asd hx5 hcn hx11 asd n9 rfl ((if_neg af4).symm));subst hr;exact rs2 (⟨⟨(some ⟨g22,0,none⟩),c14,(b.sides.list.set 0 (⟨A18,c19,(cC x10.list (bT ((max x6.n (-x6.n)))) (-1)).1⟩:PolV))⟩,b.known,b.values⟩:TyV) ⟨(bW (x:=⟨⟨(some ⟨g22,0,none⟩),c14,(b.sides.list.set 0 (⟨A18,c19,(cC x10.list (bT ((max x6.n (-x6.n)))) (-1)).1⟩:PolV))⟩,b.known,b.values⟩) (cG d7 d8 (hc_cl)) i6),j3 rfl,j2⟩
 refine g18 ?_;refine bL (t':=false) (decide_eq_false n9) ?_;refine g6 ?_;have hcn:=cnt0 (v:=x4.list) n9;have hnr: -16777216≤(0:Int)∧(0:Int)≤16777216:=p7
 refine g4 ?_;refine cP (z':= -(0:Int)) ah2 ?_;refine one ?_;refine cP (z':=max (0:Int) (-(0:Int))) (maxZ _ _) ?_;refine g8 ?_;obtain⟨x23,hx24⟩:=gx b.sides.list 0;refine ss (cJ hT (k:=0) (cD e9) rfl rfl rfl rfl rfl rfl rfl n9) ?_;refine ss (j7 hT (dQ.knows (cD e9) (k:=0) (x:=x23) hx24 0)) ?_;refine one ?_;refine bC (cS (Has.each e8 (j4 hx24))) fun hpl25=>?_;refine j5 func118 (tR (p:=x23) (max (0:Int) (-(0:Int))) hpl25) ⟨(Has.each e8 (j4 hx24)),j2⟩ fun _=>?_;refine g3 ?_;refine jB (fun hc71=>?_) fun hc71=>?_
 ·refine g9 ?_;have hr:=hR.symm.trans (ptT_d n9 n9 asd hx5 hcn hx24 asd);subst hr;exact rs2 (⟨a.sides,a.known,a.values⟩:TyV) ⟨(bW (x:=⟨a.sides,a.known,a.values⟩) j0 f9),j3 rfl,j2⟩
 refine g6 ?_;refine j5 func114 (yE b.sides.addr b.sides.cap b.sides.list n9) ⟨e9,j2⟩ fun⟨A26,c27⟩=>?_;refine bB (cK b.sides.list) e8 ?_;refine g7 ?_;refine j5 func45 (jE ((max (0:Int) (-(0:Int))))) j2 fun⟨A28,c29⟩=>?_;refine g5 ?_
 rcases tk_cases tk with htk | htk
 ·subst htk;refine g9 ?_;refine zY kT1 n9 fun g30 hg=>?_;subst hg;refine g4 ?_;refine ss (iG hT (k:=0) rfl rfl rfl rfl rfl rfl n9) ?_;refine fT hT (k:=0) (fo:=0) (y':=(⟨A28,c29,bT ((max (0:Int) (-(0:Int))))⟩:PolV)) kT1 rfl rfl rfl rfl rfl rfl rfl rfl rfl hx24 rfl ?_;refine g4 ?_;rw [show b.sides.list.length=(b.sides.list.set 0 (⟨A28,c29,bT ((max (0:Int) (-(0:Int))))⟩:PolV)).length from List.length_set.symm];refine bB (cK (b.sides.list.set 0 (⟨A28,c29,bT ((max (0:Int) (-(0:Int))))⟩:PolV))) (bAf 0 d8 d7)<|bV .head fun hc_cl=>bE .head ?_;refine g5 ?_;refine iV (fun hc98=>?_) fun hc98=>?_
  ·refine cL ?_;have hcv:=ptT_le hb n9 asd hx24 asd;refine g12 ?_;refine dM (fun hc101=>?_) fun hc101=>?_
   ·refine g6 ?_;refine cP (z':=((0:Int)+(b.values.list.length:Nat))) (bIg n9 n9) ?_;refine g8 ?_;refine bL (t':=false) (decide_eq_false n9) ?_;refine one ?_;refine bL (t':=false) p7 ?_;refine g7 ?_;have hkl:((0:Int)+(b.values.list.length:Nat)).toNat≤b.values.list.length:=n9
    refine ss (dL hT (k:=((0:Int)+(b.values.list.length:Nat)).toNat) rfl rfl rfl rfl rfl n9 n9) ?_;refine jO (v':= .slice (gV b.values.addr (((0:Int)+(b.values.list.length:Nat)).toNat) bP.size b.values.cap) (b.values.list.drop (((0:Int)+(b.values.list.length:Nat)).toNat)).length (b.values.cap-((0:Int)+(b.values.list.length:Nat)).toNat)) ac1<|bB (listF ⟨gV b.values.addr (((0:Int)+(b.values.list.length:Nat)).toNat) bP.size b.values.cap,b.values.cap-((0:Int)+(b.values.list.length:Nat)).toNat,b.values.list.drop (((0:Int)+(b.values.list.length:Nat)).toNat)⟩) (sU f5 hc_bv hkl) ?_;refine g12 ?_;have hr:=hR.symm.trans (bRk (A:=(some ⟨g30,0,none⟩)) (q:=c27) (p:=⟨A28,c29,bT ((max (0:Int) (-(0:Int))))⟩) (V:=⟨gV b.values.addr (((0:Int)+(b.values.list.length:Nat)).toNat) bP.size b.values.cap,b.values.cap-((0:Int)+(b.values.list.length:Nat)).toNat,b.values.list.drop (((0:Int)+(b.values.list.length:Nat)).toNat)⟩) n9 n9 asd hx5 hcn hx24 asd rfl (((if_pos (show b.known=true from by assumption)).trans (cutT_d (k:=((0:Int)+(b.values.list.length:Nat)).toNat) (tk:=true) (n:=(0:Int)) (l:=b.values.list) (by rw [decide_eq_false n9];decide) (by split<;>omega))).symm));subst hr;exact rs2 (⟨⟨(some ⟨g30,0,none⟩),c27,(b.sides.list.set 0 (⟨A28,c29,bT ((max (0:Int) (-(0:Int))))⟩:PolV))⟩,b.known,⟨gV b.values.addr (((0:Int)+(b.values.list.length:Nat)).toNat) bP.size b.values.cap,b.values.cap-((0:Int)+(b.values.list.length:Nat)).toNat,b.values.list.drop (((0:Int)+(b.values.list.length:Nat)).toNat)⟩⟩:TyV) ⟨(bW (x:=⟨⟨(some ⟨g30,0,none⟩),c27,(b.sides.list.set 0 (⟨A28,c29,bT ((max (0:Int) (-(0:Int))))⟩:PolV))⟩,b.known,⟨gV b.values.addr (((0:Int)+(b.values.list.length:Nat)).toNat) bP.size b.values.cap,b.values.cap-((0:Int)+(b.values.list.length:Nat)).toNat,b.values.list.drop (((0:Int)+(b.values.list.length:Nat)).toNat)⟩⟩) (cG d8 d9 (hc_cl)) d7),j3 rfl,j2⟩
   refine g7 ?_;refine bL (t':=true) (decide_eq_true n9) ?_;refine one ?_;refine bL (t':=true) p7 ?_;refine g7 ?_;have hkl:(0:Int).toNat≤b.values.list.length:=n9
   refine ss (iQ hT (k:=(0:Int).toNat) rfl rfl rfl rfl rfl n9 n9) ?_;refine jO (v':= .slice b.values.addr (b.values.list.take ((0:Int).toNat)).length b.values.cap) ab9<|bB (listF ⟨b.values.addr,b.values.cap,b.values.list.take ((0:Int).toNat)⟩) (pX f5 hc_bv hkl) ?_;refine g12 ?_;have hr:=hR.symm.trans (bRk (A:=(some ⟨g30,0,none⟩)) (q:=c27) (p:=⟨A28,c29,bT ((max (0:Int) (-(0:Int))))⟩) (V:=⟨b.values.addr,b.values.cap,b.values.list.take ((0:Int).toNat)⟩) n9 n9 asd hx5 hcn hx24 asd rfl (((if_pos (show b.known=true from by assumption)).trans (cutT_t (k:=(0:Int).toNat) (tk:=true) (n:=(0:Int)) (l:=b.values.list) (decide_eq_true n9).symm (by split<;>omega))).symm));subst hr;exact rs2 (⟨⟨(some ⟨g30,0,none⟩),c27,(b.sides.list.set 0 (⟨A28,c29,bT ((max (0:Int) (-(0:Int))))⟩:PolV))⟩,b.known,⟨b.values.addr,b.values.cap,b.values.list.take ((0:Int).toNat)⟩⟩:TyV) ⟨(bW (x:=⟨⟨(some ⟨g30,0,none⟩),c27,(b.sides.list.set 0 (⟨A28,c29,bT ((max (0:Int) (-(0:Int))))⟩:PolV))⟩,b.known,⟨b.values.addr,b.values.cap,b.values.list.take ((0:Int).toNat)⟩⟩) (cG d8 d9 (hc_cl)) d7),j3 rfl,j2⟩
  refine g10 ?_;have hr:=hR.symm.trans (bRk (A:=(some ⟨g30,0,none⟩)) (q:=c27) (p:=⟨A28,c29,bT ((max (0:Int) (-(0:Int))))⟩) (V:=b.values) n9 n9 asd hx5 hcn hx24 asd rfl ((if_neg af4).symm));subst hr;exact rs2 (⟨⟨(some ⟨g30,0,none⟩),c27,(b.sides.list.set 0 (⟨A28,c29,bT ((max (0:Int) (-(0:Int))))⟩:PolV))⟩,b.known,b.values⟩:TyV) ⟨(bW (x:=⟨⟨(some ⟨g30,0,none⟩),c27,(b.sides.list.set 0 (⟨A28,c29,bT ((max (0:Int) (-(0:Int))))⟩:PolV))⟩,b.known,b.values⟩) (cG d7 d8 (hc_cl)) f5),j3 rfl,j2⟩
 subst htk;refine g15 ?_;refine ss (cJ hT (k:=0) (cM kT1) rfl rfl rfl rfl rfl rfl rfl n9) ?_;refine ss (j7 hT (dQ.knows (cM kT1) (k:=0) (x:=x23) hx24 0)) ?_;refine one ?_;refine bC (cS (Has.each f3 (j4 hx24))) fun hpl33=>bC (cS d7) fun hql34=>?_;refine j5 func84 (bLl (p:=x23) (q:=⟨A28,c29,bT ((max (0:Int) (-(0:Int))))⟩) hpl33 hql34) ⟨(Has.each f3 (j4 hx24)),d7,j2⟩ fun⟨A31,c32⟩=>?_;refine g13 ?_;refine vC (fun hc91=>?_) fun hc91=>?_
 ·refine g9 ?_;have hr:=hR.symm.trans (ptT_e n9 n9 asd hx5 hcn hx24 asd asd);subst hr;exact rs2 (⟨a.sides,a.known,a.values⟩:TyV) ⟨(bW (x:=⟨a.sides,a.known,a.values⟩) (Has.of (u8 (u8 mT0))) j0),j3 rfl,j2⟩
 refine g3 ?_;refine zY kT1 n9 fun g35 hg=>?_;subst hg;refine g4 ?_;refine ss (iG hT (k:=0) rfl rfl rfl rfl rfl rfl n9) ?_;refine fT hT (k:=0) (fo:=0) (y':=(⟨A31,c32,(cC x23.list (bT ((max (0:Int) (-(0:Int))))) (-1)).1⟩:PolV)) kT1 rfl rfl rfl rfl rfl rfl rfl rfl rfl hx24 rfl ?_;refine g4 ?_;rw [show b.sides.list.length=(b.sides.list.set 0 (⟨A31,c32,(cC x23.list (bT ((max (0:Int) (-(0:Int))))) (-1)).1⟩:PolV)).length from List.length_set.symm];refine bB (cK (b.sides.list.set 0 (⟨A31,c32,(cC x23.list (bT ((max (0:Int) (-(0:Int))))) (-1)).1⟩:PolV))) (bAf 0 d9 d7)<|bV .head fun hc_cl=>bE .head ?_;refine g5 ?_;refine iV (fun hc98=>?_) fun hc98=>?_
 ·refine cL ?_;have hcv:=ptT_le hb n9 asd hx24 asd;refine g12 ?_;refine dM (fun hc101=>?_) fun hc101=>?_
  ·refine g6 ?_;refine cP (z':=((0:Int)+(b.values.list.length:Nat))) (bIg n9 n9) ?_;refine g8 ?_;refine bL (t':=false) (decide_eq_false n9) ?_;refine one ?_;refine bL (t':=true) p7 ?_;refine g7 ?_;have hkl:((0:Int)+(b.values.list.length:Nat)).toNat≤b.values.list.length:=n9
   refine ss (iQ hT (k:=((0:Int)+(b.values.list.length:Nat)).toNat) rfl rfl rfl rfl rfl n9 n9) ?_;refine jO (v':= .slice b.values.addr (b.values.list.take (((0:Int)+(b.values.list.length:Nat)).toNat)).length b.values.cap) ab9<|bB (listF ⟨b.values.addr,b.values.cap,b.values.list.take (((0:Int)+(b.values.list.length:Nat)).toNat)⟩) (pX f7 hc_bv hkl) ?_;refine g12 ?_;have hr:=hR.symm.trans (bQc (A:=(some ⟨g35,0,none⟩)) (q:=c27) (p:=⟨A31,c32,(cC x23.list (bT ((max (0:Int) (-(0:Int))))) (-1)).1⟩) (V:=⟨b.values.addr,b.values.cap,b.values.list.take (((0:Int)+(b.values.list.length:Nat)).toNat)⟩) n9 n9 asd hx5 hcn hx24 asd n9 rfl (((if_pos (show b.known=true from by assumption)).trans (cutT_t (k:=((0:Int)+(b.values.list.length:Nat)).toNat) (tk:=false) (n:=(0:Int)) (l:=b.values.list) (decide_eq_false n9).symm (by split<;>omega))).symm));subst hr;exact rs2 (⟨⟨(some ⟨g35,0,none⟩),c27,(b.sides.list.set 0 (⟨A31,c32,(cC x23.list (bT ((max (0:Int) (-(0:Int))))) (-1)).1⟩:PolV))⟩,b.known,⟨b.values.addr,b.values.cap,b.values.list.take (((0:Int)+(b.values.list.length:Nat)).toNat)⟩⟩:TyV) ⟨(bW (x:=⟨⟨(some ⟨g35,0,none⟩),c27,(b.sides.list.set 0 (⟨A31,c32,(cC x23.list (bT ((max (0:Int) (-(0:Int))))) (-1)).1⟩:PolV))⟩,b.known,⟨b.values.addr,b.values.cap,b.values.list.take (((0:Int)+(b.values.list.length:Nat)).toNat)⟩⟩) (cG d8 d9 (hc_cl)) d7),j3 rfl,j2⟩
  refine g7 ?_;refine bL (t':=true) (decide_eq_true n9) ?_;refine one ?_;refine bL (t':=false) p7 ?_;refine g7 ?_;have hkl:(0:Int).toNat≤b.values.list.length:=n9
  refine ss (dL hT (k:=(0:Int).toNat) rfl rfl rfl rfl rfl n9 n9) ?_;refine jO (v':= .slice (gV b.values.addr ((0:Int).toNat) bP.size b.values.cap) (b.values.list.drop ((0:Int).toNat)).length (b.values.cap-(0:Int).toNat)) ac1<|bB (listF ⟨gV b.values.addr ((0:Int).toNat) bP.size b.values.cap,b.values.cap-(0:Int).toNat,b.values.list.drop ((0:Int).toNat)⟩) (sU f7 hc_bv hkl) ?_;refine g12 ?_;have hr:=hR.symm.trans (bQc (A:=(some ⟨g35,0,none⟩)) (q:=c27) (p:=⟨A31,c32,(cC x23.list (bT ((max (0:Int) (-(0:Int))))) (-1)).1⟩) (V:=⟨gV b.values.addr ((0:Int).toNat) bP.size b.values.cap,b.values.cap-(0:Int).toNat,b.values.list.drop ((0:Int).toNat)⟩) n9 n9 asd hx5 hcn hx24 asd n9 rfl (((if_pos (show b.known=true from by assumption)).trans (cutT_d (k:=(0:Int).toNat) (tk:=false) (n:=(0:Int)) (l:=b.values.list) (by rw [decide_eq_true n9];decide) (by split<;>omega))).symm));subst hr;exact rs2 (⟨⟨(some ⟨g35,0,none⟩),c27,(b.sides.list.set 0 (⟨A31,c32,(cC x23.list (bT ((max (0:Int) (-(0:Int))))) (-1)).1⟩:PolV))⟩,b.known,⟨gV b.values.addr ((0:Int).toNat) bP.size b.values.cap,b.values.cap-(0:Int).toNat,b.values.list.drop ((0:Int).toNat)⟩⟩:TyV) ⟨(bW (x:=⟨⟨(some ⟨g35,0,none⟩),c27,(b.sides.list.set 0 (⟨A31,c32,(cC x23.list (bT ((max (0:Int) (-(0:Int))))) (-1)).1⟩:PolV))⟩,b.known,⟨gV b.values.addr ((0:Int).toNat) bP.size b.values.cap,b.values.cap-(0:Int).toNat,b.values.list.drop ((0:Int).toNat)⟩⟩) (cG d8 d9 (hc_cl)) d7),j3 rfl,j2⟩
 refine g10 ?_;have hr:=hR.symm.trans (bQc (A:=(some ⟨g35,0,none⟩)) (q:=c27) (p:=⟨A31,c32,(cC x23.list (bT ((max (0:Int) (-(0:Int))))) (-1)).1⟩) (V:=b.values) n9 n9 asd hx5 hcn hx24 asd n9 rfl ((if_neg af4).symm));subst hr;exact rs2 (⟨⟨(some ⟨g35,0,none⟩),c27,(b.sides.list.set 0 (⟨A31,c32,(cC x23.list (bT ((max (0:Int) (-(0:Int))))) (-1)).1⟩:PolV))⟩,b.known,b.values⟩:TyV) ⟨(bW (x:=⟨⟨(some ⟨g35,0,none⟩),c27,(b.sides.list.set 0 (⟨A31,c32,(cC x23.list (bT ((max (0:Int) (-(0:Int))))) (-1)).1⟩:PolV))⟩,b.known,b.values⟩) (cG d7 d8 (hc_cl)) f7),j3 rfl,j2⟩
theorem addFn:PolFn 89 addO:=fun p q hp hq=>yY p q hp hq
theorem bPi:PolFn 84 xV:=fun p q hp hq=>bLl p q hp hq
theorem mulFn:PolFn 81 qD:=fun p q hp hq=>bKh p q hp hq
theorem qL{t:TyP}(h:WfT t):t.values.length≤4:=by
 cases k:t.known
 ·rw [h.un k];decide
 ·exact(h.kn k).1
theorem bAb{t:TyP}(h:WfT t)(k:t.known=true)(hs:t.sides=[]):t.values.length=1:=by
 rcases (h.kn k).2 with h | h
 ·exact h.2
 ·rw [hs] at h;cases h
theorem bLh{t:TyP}(h:WfT t):EachOk ⟨[],true,[[]]⟩ t where
 la:=by simp
 lb:=Nat.le_trans (qL h) p7
 one:=fun _ _ _=>rfl
 two:=fun _ k e=>bAb h k e
 same:=fun _ _ e=>absurd rfl e
def bAv (S:List Pol)(p:Pol)(i:Nat):Prop:=mG (bT 1) S=mG p (S.drop i)
theorem bSj(S:List Pol):bAv S (bT 1) 0:=rfl
section
variable {l : List PolV} {p : Pol} {x : PolV} {i : Nat}
theorem rav_step(h:bAv (bK l) p i)(hx:l[i]?=some x)(e:(qD p x.list).2=0):bAv (bK l) (qD p x.list).1 (i+1):=by
 obtain⟨hi,ei⟩:=List.getElem?_eq_some_iff.1 (fZ hx);unfold bAv at*;rw [h,List.drop_eq_getElem_cons hi,ei];exact if_neg ah6
theorem rav_bad(h:bAv (bK l) p i)(hx:l[i]?=some x)(e:(qD p x.list).2≠0):mG (bT 1) (bK l)=none:=by
 obtain⟨hi,ei⟩:=List.getElem?_eq_some_iff.1 (fZ hx);unfold bAv at*;rw [h,List.drop_eq_getElem_cons hi,ei];exact if_pos e
theorem rav_end(h:bAv (bK l) p i)(hi:l.length≤i):mG (bT 1) (bK l)=some p:=by
 unfold bAv at*;rw [h,List.drop_of_length_le ai1];rfl
end
theorem bQm(l:List PolV):bK l.reverse=(bK l).reverse:=List.map_reverse
section
variable {f : Int} {a : TyV}
theorem mo_a(h:f=32)(k:0<a.sides.list.length):gG f a.t=(a.t,90):=by
 unfold gG;rw [if_pos h];exact if_pos (dW k)
theorem mo_b(h:f=32)(k:a.sides.list.length=0)(g:a.known=false):gG f a.t=(a.t,92):=by
 unfold gG;rw [if_pos h,if_neg (show ¬a.t.sides≠[] from fun e=>e (dC k))];exact if_pos g
theorem mo_c{x:PolV}(h:f=32)(k:a.sides.list.length=0)(g:a.known=true)(hx:a.values.list[0]?=some x)(e:mE x.list=false):gG f a.t=(a.t,93):=by
 have hx':a.t.values.headD []=x.list:=iF hx;unfold gG;rw [if_pos h,if_neg (show ¬a.t.sides≠[] from fun e=>e (dC k)),if_neg (show ¬a.t.known=false by show ¬a.known=false;simp [g]),hx',if_pos e]
theorem mo_d{x:PolV}(h:f=32)(k:a.sides.list.length=0)(g:a.known=true)(hx:a.values.list[0]?=some x)(e:mE x.list=true):gG f a.t=(⟨[x.list],false,[]⟩,0):=by
 have hx':a.t.values.headD []=x.list:=iF hx;unfold gG;rw [if_pos h,if_neg (show ¬a.t.sides≠[] from fun e=>e (dC k)),if_neg (show ¬a.t.known=false by show ¬a.known=false;simp [g]),hx',if_neg ah6]
theorem mo_e(h:f=33):gG f a.t=(⟨[bT (a.sides.list.length:Nat)],true,bK a.sides.list⟩,0):=by
 subst h;unfold gG;rw [if_neg (show ¬(33:Int)=32 by decide),if_pos rfl,show a.t.sides.length=a.sides.list.length from bF _];rfl
theorem mo_f(h:f=34)(e:mG (bT 1) (bK a.sides.list)=none):gG f a.t=(a.t,95):=by
 subst h;unfold gG;rw [if_neg (show ¬(34:Int)=32 by decide),if_neg (show ¬(34:Int)=33 by decide),if_pos rfl,show mG (bT 1) a.t.sides=none from e]
theorem mo_g{p:Pol}(h:f=34)(e:mG (bT 1) (bK a.sides.list)=some p):gG f a.t=(⟨[p],a.known,bK a.values.list⟩,0):=by
 subst h;unfold gG;rw [if_neg (show ¬(34:Int)=32 by decide),if_neg (show ¬(34:Int)=33 by decide),if_pos rfl,show mG (bT 1) a.t.sides=some p from e];rfl
theorem mo_35:gG 35 a.t=(if a.t.sides≠[] then ⟨a.t.sides,a.t.known,a.t.values.reverse⟩ else a.t,0):=by
 unfold gG;rw [if_neg (show ¬(35:Int)=32 by decide),if_neg (show ¬(35:Int)=33 by decide),if_neg (show ¬(35:Int)=34 by decide),if_pos rfl]
theorem mo_h(h:f=35)(k:0<a.sides.list.length):gG f a.t=(⟨bK a.sides.list,a.known,bK a.values.list.reverse⟩,0):=by
 subst h;rw [mo_35,if_pos (show a.t.sides≠[] from dW k),bQm];rfl
theorem mo_i(h:f=35)(k:a.sides.list.length=0):gG f a.t=(a.t,0):=by
 subst h;rw [mo_35,if_neg (show ¬a.t.sides≠[] from fun e=>e (dC k))]
theorem mo_j(h:f=36):gG f a.t=(⟨bK a.sides.list.reverse,a.known,bK a.values.list⟩,0):=by
 subst h;unfold gG;rw [if_neg (show ¬(36:Int)=32 by decide),if_neg (show ¬(36:Int)=33 by decide),if_neg (show ¬(36:Int)=34 by decide),if_neg (show ¬(36:Int)=35 by decide),if_pos rfl,bQm];rfl
theorem mo_k(h:f=1):gG f a.t=(a.t,0):=by
 subst h;unfold gG;rw [if_neg (show ¬(1:Int)=32 by decide),if_neg (show ¬(1:Int)=33 by decide),if_neg (show ¬(1:Int)=34 by decide),if_neg (show ¬(1:Int)=35 by decide),if_neg (show ¬(1:Int)=36 by decide),if_pos rfl]
theorem mo_l{y:List PolV}{k:Bool}(h:f=2)(e:(bK y,k)=lF (some xV) ⟨[],true,[[]]⟩ a.t):gG f a.t=(⟨bK a.sides.list,k,bK y⟩,0):=by
 subst h;unfold gG;rw [if_neg (show ¬(2:Int)=32 by decide),if_neg (show ¬(2:Int)=33 by decide),if_neg (show ¬(2:Int)=34 by decide),if_neg (show ¬(2:Int)=35 by decide),if_neg (show ¬(2:Int)=36 by decide),if_neg (show ¬(2:Int)=1 by decide),if_pos rfl,←e];rfl
theorem mo_m(h1:f≠32)(h2:f≠33)(h3:f≠34)(h4:f≠35)(h5:f≠36)(h6:f≠1)(h7:f≠2):gG f a.t=(⟨bK a.sides.list,false,[]⟩,0):=by
 unfold gG;rw [if_neg h1,if_neg h2,if_neg h3,if_neg h4,if_neg h5,if_neg h6,if_neg h7];rfl
end
theorem monT_spec(f:Int)(a:TyV)(ha:WfT a.t):cN prog 49 [.int .u8 f,.agg #[.slice a.sides.addr a.sides.list.length a.sides.cap,.bool a.known,.slice a.values.addr a.values.list.length a.values.cap]] [] [tyF a] (fun(x:TyV)=> .tuple #[tyC x,.int .i64 (gG f a.t).2]) (fun _=>[]) (fun(x:TyV)=>[tyF x,Fact.pure (x.t=(gG f a.t).1)]):=by
 have hT:=fC;have hsa:=yC ha;have hva:=bPf ha;generalize hR:gG f a.t=r;refine k8 func49 ntmps49 ?_;intro β hM;refine cL<|bB (listF a.sides) (kZ d7) ?_;refine cF a.sides mT0 fun hc_as=>bB (listF a.values) (lC e6)<|cF a.values mT0 fun hc_av=>?_;refine one ?_;refine j9 fun b1=>?_;refine j6 pO fun b2=>?_;refine g16 ?_;refine fE (fun hc14=>?_) fun hc14=>?_
 ·refine g11 ?_;refine dM (fun hc16=>?_) fun hc16=>?_
  ·refine g12 ?_;have hr:=hR.symm.trans (mo_a asd n9);subst hr;exact rs2 (⟨a.sides,a.known,a.values⟩:TyV) ⟨(bW (x:=⟨a.sides,a.known,a.values⟩) e8 d9),j3 rfl,j2⟩
  refine g8 ?_;refine jB (fun hc22=>?_) fun hc22=>?_
  ·refine g12 ?_;have hr:=hR.symm.trans (mo_b asd n9 asd);subst hr;exact rs2 (⟨a.sides,a.known,a.values⟩:TyV) ⟨(bW (x:=⟨a.sides,a.known,a.values⟩) e8 d9),j3 rfl,j2⟩
  refine cL ?_;have hv1:=wf_one ha asd n9;refine g3 ?_;obtain⟨x3,hx4⟩:=gx a.values.list 0;refine ss (ixs 0) ?_;refine ss (dH hx4 0) ?_;refine bC (cS (Has.each d7 (j4 hx4))) fun hpl5=>?_;refine j5 func66 (bLu (p:=x3) hpl5) ⟨(Has.each d7 (j4 hx4)),j2⟩ fun _=>?_;refine g4 ?_;refine jB (fun hc27=>?_) fun hc27=>?_
  ·refine g12 ?_;have hr:=hR.symm.trans (mo_c asd n9 asd hx4 (by simpa using (asd:(!mE _)=true)));subst hr;exact rs2 (⟨a.sides,a.known,a.values⟩:TyV) ⟨(bW (x:=⟨a.sides,a.known,a.values⟩) e8 d9),j3 rfl,j2⟩
  refine g7 ?_;refine ss (ixs 0) ?_;refine ss (dH hx4 0) ?_;refine cU (m:=x3) rfl rfl rfl rfl rfl fun b6=>?_;refine bQ (E:=bP) (xs:=[(x3:PolV)]) .head q8<|bE .head<|bB (cK [(x3:PolV)]) (iS (Has.each d8 (j4 hx4))) ?_;refine j5 func46 (dA (some ⟨b6,0,none⟩) (1) 1) j2 fun _=>?_;refine g7 ?_;have hr:=hR.symm.trans (mo_d asd n9 asd hx4 (by simpa using (asd:(!mE _)=false)));subst hr;exact rs2 (⟨⟨(some ⟨b6,0,none⟩),1,[(x3:PolV)]⟩,false,⟨none,0,[]⟩⟩:TyV) ⟨(bW (x:=⟨⟨(some ⟨b6,0,none⟩),1,[(x3:PolV)]⟩,false,⟨none,0,[]⟩⟩) (cG d8 d7 (Nat.le_refl 1)) cI),j3 rfl,j2⟩
 refine g6 ?_;refine fE (fun hc41=>?_) fun hc41=>?_
 ·refine cL<|bU _ _ [(true,0),(true,1),(true,2),(true,5),(true,6),(false,3),(false,4),(false,7),(false,8),(true,9)] bX o6 (.c1 .nil) bA.self ?_;refine g6 ?_;refine j5 func45 (jE (((a.sides.list.length:Nat):Int))) j2 fun⟨A7,c8⟩=>?_;refine g2 ?_;refine cU (m:=⟨A7,c8,bT (((a.sides.list.length:Nat):Int))⟩) rfl rfl rfl rfl rfl fun b9=>?_;refine bQ (E:=bP) (xs:=[(⟨A7,c8,bT (((a.sides.list.length:Nat):Int))⟩:PolV)]) .head q8<|bE .head<|bB (cK [(⟨A7,c8,bT (((a.sides.list.length:Nat):Int))⟩:PolV)]) (iS d8) ?_;refine g2 ?_;refine j5 func44 (iI (some ⟨b9,0,none⟩) a.sides.addr (1) (a.sides.list.length) 1 a.sides.cap) j2 fun _=>?_;refine g10 ?_;obtain rfl:=hR.symm.trans (mo_e asd);exact rs2 (⟨⟨(some ⟨b9,0,none⟩),1,[(⟨A7,c8,bT (((a.sides.list.length:Nat):Int))⟩:PolV)]⟩,true,a.sides⟩:TyV) ⟨(bW (x:=⟨⟨(some ⟨b9,0,none⟩),1,[(⟨A7,c8,bT (((a.sides.list.length:Nat):Int))⟩:PolV)]⟩,true,a.sides⟩) (cG d8 d7 (Nat.le_refl 1)) f5),j3 rfl,j2⟩
 refine g6 ?_;refine fE (fun hc51=>?_) fun hc51=>?_
 ·refine g2 ?_;refine j5 func45 (jE (((1:Nat):Int))) j2 fun⟨A10,c11⟩=>?_;refine g13 ?_;refine cE (ι:=Nat×PolV) [(3,_),(4,_),(55,_),(56,_)] ⟨rfl,rfl,rfl,rfl,j2⟩ (fun⟨i,p⟩=>[(6,.slice p.addr p.list.length p.cap),(57,.int .i64 (i:Nat))]) (fun _=>[]) (fun⟨i,p⟩=>[Fact.pure (i≤a.sides.list.length∧bAv (bK a.sides.list) p.list i),kR p]) (fun⟨i,p⟩=>a.sides.list.length-i) (0,⟨A10,c11,bT (((1:Nat):Int))⟩) ⟨rfl,rfl,j2⟩ .nil ⟨j3 (⟨n9,bSj _⟩),d7,j2⟩ ?_;rintro⟨i,p⟩;dsimp only;refine bC d7 fun hinv16=>?_;refine g6 ?_;refine dM (fun hc58=>?_) fun hc58=>?_
  ·refine g6 ?_;obtain⟨x12,hx13⟩:=gx a.sides.list i;refine ss (ixs i) ?_;refine ss (dH hx13 0) ?_;refine g12 ?_;refine bC (cS d8) fun hpl16=>bC (cS (Has.each e9 (j4 hx13))) fun hql17=>?_;refine j5 func81 (bKh (p:=p) (q:=x12) hpl16 hql17) ⟨d8,(Has.each e9 (j4 hx13)),j2⟩ fun⟨A14,c15⟩=>?_;refine g13 ?_;refine vC (fun hc68=>?_) fun hc68=>?_
   ·refine g15 ?_;obtain rfl:=hR.symm.trans (mo_f asd (rav_bad hinv16.2 hx13 asd));exact rs2 (⟨a.sides,a.known,a.values⟩:TyV) ⟨(bW (x:=⟨a.sides,a.known,a.values⟩) f7 e9),j3 rfl,j2⟩
   refine g5 ?_;refine inc (i+1) ?_;refine g3 ?_;exact bk2 (i+1,⟨A14,c15,(qD p.list x12.list).1⟩) ⟨j3 (⟨by dsimp only;omega,rav_step hinv16.2 hx13 ac2⟩),d7,j2⟩
  refine g7 ?_;refine cU (m:=p) rfl rfl rfl rfl rfl fun b18=>?_;refine bQ (E:=bP) (xs:=[(p:PolV)]) .head q8<|bE .head<|bB (cK [(p:PolV)]) (iS d9) ?_;refine g13 ?_;have hr:=hR.symm.trans (mo_g asd (rav_end hinv16.2 n9));subst hr;exact rs2 (⟨⟨(some ⟨b18,0,none⟩),1,[(p:PolV)]⟩,a.known,a.values⟩:TyV) ⟨(bW (x:=⟨⟨(some ⟨b18,0,none⟩),1,[(p:PolV)]⟩,a.known,a.values⟩) (cG d8 d7 (Nat.le_refl 1)) f3),j3 rfl,j2⟩
 refine g6 ?_;refine fE (fun hc74=>?_) fun hc74=>?_
 ·refine g8 ?_;refine dM (fun hc79=>?_) fun hc79=>?_
  ·refine g3 ?_;refine j5 func82 (bLf a.values n9) ⟨d9,j2⟩ fun⟨A19,c20⟩=>?_;refine g13 ?_;have hr:=hR.symm.trans (mo_h asd n9);subst hr;exact rs2 (⟨a.sides,a.known,⟨A19,c20,a.values.list.reverse⟩⟩:TyV) ⟨(bW (x:=⟨a.sides,a.known,⟨A19,c20,a.values.list.reverse⟩⟩) e9 d7),j3 rfl,j2⟩
  refine g11 ?_;have hr:=hR.symm.trans (mo_i asd n9);subst hr;exact rs2 (⟨a.sides,a.known,a.values⟩:TyV) ⟨(bW (x:=⟨a.sides,a.known,a.values⟩) e8 d9),j3 rfl,j2⟩
 refine g6 ?_;refine fE (fun hc84=>?_) fun hc84=>?_
 ·refine g3 ?_;refine j5 func82 (bLf a.sides n9) ⟨e8,j2⟩ fun⟨A21,c22⟩=>?_;refine g13 ?_;obtain rfl:=hR.symm.trans (mo_j asd);exact rs2 (⟨⟨A21,c22,a.sides.list.reverse⟩,a.known,a.values⟩:TyV) ⟨(bW (x:=⟨⟨A21,c22,a.sides.list.reverse⟩,a.known,a.values⟩) d7 e6),j3 rfl,j2⟩
 refine g6 ?_;refine fE (fun hc90=>?_) fun hc90=>?_
 ·refine g11 ?_;obtain rfl:=hR.symm.trans (mo_k asd);exact rs2 (⟨a.sides,a.known,a.values⟩:TyV) ⟨(bW (x:=⟨a.sides,a.known,a.values⟩) e8 d9),j3 rfl,j2⟩
 refine g6 ?_;refine fE (fun hc92=>?_) fun hc92=>?_
 ·refine lL _ _ (.two 0 2 (.two 1 2 (.op 2 (.op 3 (.fl 4 (.fl 5 (.fl 6 (.fl 7 (.op 8 (.fl 9 (.op 10 .nil))))))))) (.op 1 (.op 3 (.fl 4 (.fl 5 (.fl 6 (.fl 7 (.op 8 (.fl 9 (.op 10 .nil)))))))))) (.op 0 (.op 1 (.op 3 (.fl 4 (.fl 5 (.fl 6 (.fl 7 (.op 8 (.fl 9 (.op 10 .nil))))))))))) bX o6 (.c0 .nil) bA.self ?_;refine jD (o:=_) (o':=_) rfl rfl ?_ ?_
  ·refine cU (m:=⟨none,0,[]⟩) rfl rfl rfl rfl rfl fun b23=>?_;refine bQ (E:=bP) (xs:=[(⟨none,0,[]⟩:PolV)]) .head q8<|bE .head<|bB (cK [(⟨none,0,[]⟩:PolV)]) (iS hZ) ?_;refine one ?_;refine jD (o:=_) (o':=_) rfl rfl ?_ ?_
   ·refine j5 func44 (iI none (some ⟨b23,0,none⟩) (0) (1) 0 1) j2 fun _=>?_;refine g5 ?_;refine j5 func83 (iT 84 xV (bS func84 rfl rfl) bPi (⟨⟨none,0,[]⟩,true,⟨(some ⟨b23,0,none⟩),1,[(⟨none,0,[]⟩:PolV)]⟩⟩:TyV) a (bLh ha)) ⟨(bW (x:=⟨⟨none,0,[]⟩,true,⟨(some ⟨b23,0,none⟩),1,[(⟨none,0,[]⟩:PolV)]⟩⟩) cI (cG d8 d7 (Nat.le_refl 1))),f5,j2⟩ fun y24=>?_;refine bC d8 fun hE=>?_;refine g23 ?_;obtain rfl:=hR.symm.trans (mo_l asd hE);exact rs2 (⟨a.sides,y24.k,y24.l⟩:TyV) ⟨(bW (x:=⟨a.sides,y24.k,y24.l⟩) f7 d7),j3 rfl,j2⟩
   refine g3 ?_;refine j5 func44 (iI none (some ⟨b23,0,none⟩) (0) (1) 0 1) j2 fun _=>?_;refine g2 ?_;refine j5 func83 (iT 84 xV (bS func84 rfl rfl) bPi (⟨⟨none,0,[]⟩,true,⟨(some ⟨b23,0,none⟩),1,[(⟨none,0,[]⟩:PolV)]⟩⟩:TyV) a (bLh ha)) ⟨(bW (x:=⟨⟨none,0,[]⟩,true,⟨(some ⟨b23,0,none⟩),1,[(⟨none,0,[]⟩:PolV)]⟩⟩) cI (cG d8 d7 (Nat.le_refl 1))),f5,j2⟩ fun y25=>?_;refine bC d8 fun hE=>?_;refine g23 ?_;obtain rfl:=hR.symm.trans (mo_l asd hE);exact rs2 (⟨a.sides,y25.k,y25.l⟩:TyV) ⟨(bW (x:=⟨a.sides,y25.k,y25.l⟩) f7 d7),j3 rfl,j2⟩
  refine g3 ?_;refine cU (m:=⟨none,0,[]⟩) rfl rfl rfl rfl rfl fun b26=>?_;refine bQ (E:=bP) (xs:=[(⟨none,0,[]⟩:PolV)]) .head q8<|bE .head<|bB (cK [(⟨none,0,[]⟩:PolV)]) (iS hZ) ?_;refine g2 ?_;refine j5 func44 (iI none (some ⟨b26,0,none⟩) (0) (1) 0 1) j2 fun _=>?_;refine g2 ?_;refine j5 func83 (iT 84 xV (bS func84 rfl rfl) bPi (⟨⟨none,0,[]⟩,true,⟨(some ⟨b26,0,none⟩),1,[(⟨none,0,[]⟩:PolV)]⟩⟩:TyV) a (bLh ha)) ⟨(bW (x:=⟨⟨none,0,[]⟩,true,⟨(some ⟨b26,0,none⟩),1,[(⟨none,0,[]⟩:PolV)]⟩⟩) cI (cG d8 d7 (Nat.le_refl 1))),f5,j2⟩ fun y27=>?_;refine bC d8 fun hE=>?_;refine g23 ?_;obtain rfl:=hR.symm.trans (mo_l asd hE);exact rs2 (⟨a.sides,y27.k,y27.l⟩:TyV) ⟨(bW (x:=⟨a.sides,y27.k,y27.l⟩) f7 d7),j3 rfl,j2⟩
 refine g4 ?_;refine j5 func46 (dA a.sides.addr (a.sides.list.length) a.sides.cap) j2 fun _=>?_;refine g7 ?_;obtain rfl:=hR.symm.trans (mo_m asd asd asd asd asd asd asd);exact rs2 (⟨a.sides,false,⟨none,0,[]⟩⟩:TyV) ⟨(bW (x:=⟨a.sides,false,⟨none,0,[]⟩⟩) e8 cI),j3 rfl,j2⟩
theorem numT_inj{j k:Nat}(hj:j≤4)(hk:k≤4)(h:bT (j:Nat)=bT (k:Nat)):j=k:=by
 have e: ∀n:Nat,n≤4→bT (n:Nat)=if n=0 then [] else [num0 n]:=fun n hn=>by
  unfold bT iA
  by_cases h0:n=0
  ·subst h0;rfl
  ·rw [if_neg n9,if_neg n9,if_neg h0]
 rw [e j hj,e k hk] at h;split at h<;>split at h<;>simp [num0] at h<;>omega
theorem oX{a b:TyP}(ha:WfT a)(hb:WfT b)(h:a.sides=[]∨b.sides=[]∨a.sides=b.sides):EachOk a b where
 la:=Nat.le_trans (qL ha) p7
 lb:=Nat.le_trans (qL hb) p7
 one:=fun k _ e=>bAb ha k e
 two:=fun _ k e=>bAb hb k e
 same:=fun k l e g=>by
  rcases h with h | h | h
  ·exact absurd h e
  ·exact absurd h g
  ·rcases (ha.kn k).2 with x | x
   ·exact absurd x.1 e
   ·rcases (hb.kn l).2 with y | y
    ·exact absurd y.1 g
    ·rw [x,y] at h;exact numT_inj (qL ha) (qL hb) (List.cons.inj h).1
theorem op_none{f:Int}(h1:f≠1)(h2:f≠2)(h3:f≠3):xI f=none:=by
 unfold xI;rw [if_neg h1,if_neg h2,if_neg h3]
theorem op_1{f:Int}(h:f=1):xI f=some addO:=by rw [h];rfl
theorem op_2{f:Int}(h:f=2):xI f=some xV:=by rw [h];rfl
theorem op_3{f:Int}(h:f=3):xI f=some qD:=by rw [h];rfl
section
variable {f : Int} {a b : TyV}
theorem dy_a(h:f=37):pN f a.t b.t=bBw a.t b.t:=by rw [h];rfl
theorem dy_b(h:f=38):pN f a.t b.t=lT true a.t b.t:=by rw [h];rfl
theorem dy_c(h:f=39):pN f a.t b.t=lT false a.t b.t:=by rw [h];rfl
theorem dy_d(h:f=40):pN f a.t b.t=bBn a.t b.t:=by rw [h];rfl
theorem dy_e(h1:f≠37)(h2:f≠38)(h3:f≠39)(h4:f≠40)(ha:0<a.sides.list.length)(hb:0<b.sides.list.length)(h:bK a.sides.list≠bK b.sides.list):pN f a.t b.t=(⟨bK a.sides.list,false,[]⟩,91):=by
 unfold pN;rw [if_neg h1,if_neg h2,if_neg h3,if_neg h4];exact if_pos ⟨dW ha,dW hb,h⟩
theorem dy_f{op:Option rD}{y:List PolV}{k:Bool}(ho:xI f=op)(h1:f≠37)(h2:f≠38)(h3:f≠39)(h4:f≠40)(ha:a.sides.list.length=0)(e:(bK y,k)=lF op a.t b.t):pN f a.t b.t=(⟨bK b.sides.list,k,bK y⟩,0):=by
 unfold pN;rw [if_neg h1,if_neg h2,if_neg h3,if_neg h4,if_neg (show ¬(a.t.sides≠[]∧b.t.sides≠[]∧a.t.sides≠b.t.sides) from fun h=>h.1 (dC ha)),if_pos (show a.t.sides=[] from dC ha),ho,←e];rfl
theorem dy_g{op:Option rD}{y:List PolV}{k:Bool}(ho:xI f=op)(h1:f≠37)(h2:f≠38)(h3:f≠39)(h4:f≠40)(ha:0<a.sides.list.length)(h:b.sides.list.length=0∨bK a.sides.list=bK b.sides.list)(e:(bK y,k)=lF op a.t b.t):pN f a.t b.t=(⟨bK a.sides.list,k,bK y⟩,0):=by
 unfold pN;rw [if_neg h1,if_neg h2,if_neg h3,if_neg h4,if_neg (show ¬(a.t.sides≠[]∧b.t.sides≠[]∧a.t.sides≠b.t.sides) from fun g=>h.elim (fun h=>g.2.1 (dC h)) (fun h=>g.2.2 h)),if_neg (show ¬a.t.sides=[] from dW ha),ho,←e];rfl
end
theorem dyT_spec(f:Int)(a b:TyV)(ha:WfT a.t)(hb:WfT b.t):cN prog 50 [.int .u8 f,.agg #[.slice a.sides.addr a.sides.list.length a.sides.cap,.bool a.known,.slice a.values.addr a.values.list.length a.values.cap],.agg #[.slice b.sides.addr b.sides.list.length b.sides.cap,.bool b.known,.slice b.values.addr b.values.list.length b.values.cap]] [] [tyF a,tyF b] (fun(x:TyV)=> .tuple #[tyC x,.int .i64 (pN f a.t b.t).2]) (fun _=>[]) (fun(x:TyV)=>[tyF x,Fact.pure (x.t=(pN f a.t b.t).1)]):=by
 have hT:=fC;have hsa:=yC ha;have hva:=bPf ha;have hsb:=yC hb;have hvb:=bPf hb;generalize hR:pN f a.t b.t=r;refine k8 func50 ntmps50 ?_;intro β hM;refine cL<|bB (listF a.sides) (kZ d7) ?_;refine cF a.sides mT0 fun hc_as=>bB (listF a.values) (lC e6)<|cF a.values mT0 fun hc_av=>bB (listF b.sides) (kZ f3)<|cF b.sides mT0 fun hc_bs=>bB (listF b.values) (lC f9)<|cF b.values mT0 fun hc_bv=>?_;refine one ?_;refine j9 fun b1=>?_;refine j9 fun b2=>?_;refine j6 pO fun b3=>?_;refine g16 ?_;refine fE (fun hc11=>?_) fun hc11=>?_
 ·refine g4 ?_;refine j5 func85 (rhoT_spec a b ha hb) ⟨i7,j0,j2⟩ fun y4=>?_;refine bC d8 fun hy=>?_;refine g9 ?_;obtain rfl:=hR.symm.trans (dy_a asd);exact rs2 (y4:TyV) ⟨d7,j3 hy,j2⟩
 refine g7 ?_;refine fE (fun hc18=>?_) fun hc18=>?_
 ·refine bL (t':=true) asd ?_;refine g7 ?_;refine bL (t':=true) (by rw [hc18];rfl) ?_;refine g2 ?_;refine j5 func86 (bLc true a b ha hb) ⟨i7,j0,j2⟩ fun y5=>?_;refine bC d8 fun hy=>?_;refine g9 ?_;obtain rfl:=hR.symm.trans (dy_b asd);exact rs2 (y5:TyV) ⟨d7,j3 hy,j2⟩
 refine g5 ?_;refine fE (fun hc18_6=>?_) fun hc18_6=>?_
 ·refine bL (t':=true) asd ?_;refine g4 ?_;refine bL (t':=false) (by rw [hc18_6];rfl) ?_;refine g2 ?_;refine j5 func86 (bLc false a b ha hb) ⟨i7,j0,j2⟩ fun y7=>?_;refine bC d8 fun hy=>?_;refine g9 ?_;obtain rfl:=hR.symm.trans (dy_c asd);exact rs2 (y7:TyV) ⟨d7,j3 hy,j2⟩
 refine g6 ?_;refine fE (fun hc28=>?_) fun hc28=>?_
 ·refine g4 ?_;refine j5 func87 (catT_spec a b ha hb) ⟨i7,j0,j2⟩ fun y8=>?_;refine bC d8 fun hy=>?_;refine g9 ?_;obtain rfl:=hR.symm.trans (dy_d asd);exact rs2 (y8:TyV) ⟨d7,j3 hy,j2⟩
 refine g7 ?_;refine j5 func46 (dA a.sides.addr (a.sides.list.length) a.sides.cap) j2 fun _=>?_;refine j6 pO fun b9=>?_;refine g14 ?_;refine fE (fun hc38=>?_) fun hc38=>?_
 ·refine g3 ?_;refine j5 func46 (dA b.sides.addr (b.sides.list.length) b.sides.cap) j2 fun _=>?_;refine g22 ?_;refine fE (fun hc61=>?_) fun hc61=>?_
  ·refine g10 ?_;refine j5 func83 (iT 89 addO (bS func89 rfl rfl) addFn a b (oX ha hb (.inl (dC n9)))) ⟨i7,j0,j2⟩ fun y10=>?_;refine bC d8 fun hE=>?_;refine g17 ?_;have hr:=hR.symm.trans (dy_f (op_1 asd) asd asd asd asd n9 hE);subst hr;exact rs2 (⟨b.sides,y10.k,y10.l⟩:TyV) ⟨(bW (x:=⟨b.sides,y10.k,y10.l⟩) f3 d7),j3 rfl,j2⟩
  refine g6 ?_;refine fE (fun hc63=>?_) fun hc63=>?_
  ·refine g10 ?_;refine j5 func83 (iT 84 xV (bS func84 rfl rfl) bPi a b (oX ha hb (.inl (dC n9)))) ⟨i7,j0,j2⟩ fun y11=>?_;refine bC d8 fun hE=>?_;refine g17 ?_;have hr:=hR.symm.trans (dy_f (op_2 asd) asd asd asd asd n9 hE);subst hr;exact rs2 (⟨b.sides,y11.k,y11.l⟩:TyV) ⟨(bW (x:=⟨b.sides,y11.k,y11.l⟩) f3 d7),j3 rfl,j2⟩
  refine g6 ?_;refine fE (fun hc65=>?_) fun hc65=>?_
  ·refine g10 ?_;refine j5 func83 (iT 81 qD (bS func81 rfl rfl) mulFn a b (oX ha hb (.inl (dC n9)))) ⟨i7,j0,j2⟩ fun y12=>?_;refine bC d8 fun hE=>?_;refine g17 ?_;have hr:=hR.symm.trans (dy_f (op_3 asd) asd asd asd asd n9 hE);subst hr;exact rs2 (⟨b.sides,y12.k,y12.l⟩:TyV) ⟨(bW (x:=⟨b.sides,y12.k,y12.l⟩) f3 d7),j3 rfl,j2⟩
  refine g8 ?_;refine j5 func83 (bBs a b) j2 fun y13=>?_;refine bC d8 fun hE=>?_;refine g17 ?_;have hr:=hR.symm.trans (dy_f (op_none asd asd asd) asd asd asd asd n9 hE);subst hr;exact rs2 (⟨b.sides,y13.k,y13.l⟩:TyV) ⟨(bW (x:=⟨b.sides,y13.k,y13.l⟩) f3 d7),j3 rfl,j2⟩
 refine g7 ?_;refine lR (fun hg51=>?_) fun hg51=>?_
 ·refine g4 ?_;refine j5 func88 (tG a.sides.addr b.sides.addr a.sides.cap b.sides.cap a.sides.list b.sides.list n9) ⟨f9,f7,e7,e6,j2⟩ fun _=>?_;refine g5 ?_;refine jB (fun hc46=>?_) fun hc46=>?_
  ·refine g10 ?_;have hr:=hR.symm.trans (dy_e asd asd asd asd n9 n9 (nd_t asd));subst hr;exact rs2 (⟨a.sides,false,⟨none,0,[]⟩⟩:TyV) ⟨(bW (x:=⟨a.sides,false,⟨none,0,[]⟩⟩) i6 cI),j3 rfl,j2⟩
  refine g21 ?_;refine fE (fun hc61=>?_) fun hc61=>?_
  ·refine g10 ?_;refine j5 func83 (iT 89 addO (bS func89 rfl rfl) addFn a b (oX ha hb (.inr (.inr (pY asd))))) ⟨i7,j0,j2⟩ fun y14=>?_;refine bC d8 fun hE=>?_;refine g17 ?_;have hr:=hR.symm.trans (dy_g (op_1 asd) asd asd asd asd n9 (.inr (pY asd)) hE);subst hr;exact rs2 (⟨a.sides,y14.k,y14.l⟩:TyV) ⟨(bW (x:=⟨a.sides,y14.k,y14.l⟩) j0 d7),j3 rfl,j2⟩
  refine g6 ?_;refine fE (fun hc63=>?_) fun hc63=>?_
  ·refine g10 ?_;refine j5 func83 (iT 84 xV (bS func84 rfl rfl) bPi a b (oX ha hb (.inr (.inr (pY asd))))) ⟨i7,j0,j2⟩ fun y15=>?_;refine bC d8 fun hE=>?_;refine g17 ?_;have hr:=hR.symm.trans (dy_g (op_2 asd) asd asd asd asd n9 (.inr (pY asd)) hE);subst hr;exact rs2 (⟨a.sides,y15.k,y15.l⟩:TyV) ⟨(bW (x:=⟨a.sides,y15.k,y15.l⟩) j0 d7),j3 rfl,j2⟩
  refine g6 ?_;refine fE (fun hc65=>?_) fun hc65=>?_
  ·refine g10 ?_;refine j5 func83 (iT 81 qD (bS func81 rfl rfl) mulFn a b (oX ha hb (.inr (.inr (pY asd))))) ⟨i7,j0,j2⟩ fun y16=>?_;refine bC d8 fun hE=>?_;refine g17 ?_;have hr:=hR.symm.trans (dy_g (op_3 asd) asd asd asd asd n9 (.inr (pY asd)) hE);subst hr;exact rs2 (⟨a.sides,y16.k,y16.l⟩:TyV) ⟨(bW (x:=⟨a.sides,y16.k,y16.l⟩) j0 d7),j3 rfl,j2⟩
  refine g8 ?_;refine j5 func83 (bBs a b) j2 fun y17=>?_;refine bC d8 fun hE=>?_;refine g17 ?_;have hr:=hR.symm.trans (dy_g (op_none asd asd asd) asd asd asd asd n9 (.inr (pY asd)) hE);subst hr;exact rs2 (⟨a.sides,y17.k,y17.l⟩:TyV) ⟨(bW (x:=⟨a.sides,y17.k,y17.l⟩) j0 d7),j3 rfl,j2⟩
 refine g32 ?_;refine fE (fun hc61=>?_) fun hc61=>?_
 ·refine g10 ?_;refine j5 func83 (iT 89 addO (bS func89 rfl rfl) addFn a b (oX ha hb (.inr (.inl (dC n9))))) ⟨i7,j0,j2⟩ fun y18=>?_;refine bC d8 fun hE=>?_;refine g17 ?_;have hr:=hR.symm.trans (dy_g (op_1 asd) asd asd asd asd n9 (.inl n9) hE);subst hr;exact rs2 (⟨a.sides,y18.k,y18.l⟩:TyV) ⟨(bW (x:=⟨a.sides,y18.k,y18.l⟩) j0 d7),j3 rfl,j2⟩
 refine g6 ?_;refine fE (fun hc63=>?_) fun hc63=>?_
 ·refine g10 ?_;refine j5 func83 (iT 84 xV (bS func84 rfl rfl) bPi a b (oX ha hb (.inr (.inl (dC n9))))) ⟨i7,j0,j2⟩ fun y19=>?_;refine bC d8 fun hE=>?_;refine g17 ?_;have hr:=hR.symm.trans (dy_g (op_2 asd) asd asd asd asd n9 (.inl n9) hE);subst hr;exact rs2 (⟨a.sides,y19.k,y19.l⟩:TyV) ⟨(bW (x:=⟨a.sides,y19.k,y19.l⟩) j0 d7),j3 rfl,j2⟩
 refine g6 ?_;refine fE (fun hc65=>?_) fun hc65=>?_
 ·refine g10 ?_;refine j5 func83 (iT 81 qD (bS func81 rfl rfl) mulFn a b (oX ha hb (.inr (.inl (dC n9))))) ⟨i7,j0,j2⟩ fun y20=>?_;refine bC d8 fun hE=>?_;refine g17 ?_;have hr:=hR.symm.trans (dy_g (op_3 asd) asd asd asd asd n9 (.inl n9) hE);subst hr;exact rs2 (⟨a.sides,y20.k,y20.l⟩:TyV) ⟨(bW (x:=⟨a.sides,y20.k,y20.l⟩) j0 d7),j3 rfl,j2⟩
 refine g8 ?_;refine j5 func83 (bBs a b) j2 fun y21=>?_;refine bC d8 fun hE=>?_;refine g17 ?_;have hr:=hR.symm.trans (dy_g (op_none asd asd asd) asd asd asd asd n9 (.inl n9) hE);subst hr;exact rs2 (⟨a.sides,y21.k,y21.l⟩:TyV) ⟨(bW (x:=⟨a.sides,y21.k,y21.l⟩) j0 d7),j3 rfl,j2⟩
section
variable {P : Program} {β : dE} {n : Nat} {Γ : Env} {H : List bH} {F : List Fact} {Q : Exit → Act → World → Prop} {K : Act → World → Prop}
theorem Perm.last{A B:List bH}:(A++B).Perm (B++A):=List.perm_append_comm
theorem all_set{xs:List (Sl Int)}{x y:Sl Int}{i:Nat}(h:xs[i]?=some x)(h1:y.addr=x.addr)(h2:y.cap=x.cap)(h3:y.list.length=x.list.length):bRc.all (xs.set i y)=bRc.all xs:=by
 have e:bRc.cells y=bRc.cells x:=by
  show [Value.slice y.addr y.list.length y.cap]=[Value.slice x.addr x.list.length x.cap];rw [h1,h2,h3]
 unfold Flat.all;rw [List.flatMap_def,List.flatMap_def,List.map_set,e]
 congr 1
 have hx:(xs.map bRc.cells)[i]?=some (bRc.cells x):=by rw [List.getElem?_map,h];rfl
 obtain⟨hlt,e2⟩:=List.getElem?_eq_some_iff.1 hx;rw [←e2];exact List.set_getElem_self hlt
end
def lX:List cT→Nat→Option Nat
 | [],n=>some n
 | x::r,n=>if dF x≤n∧1≤x.how∧x.how≤7∧(x.how=1→x.nums≠[]∧x.nums.length≤65536) then lX r (n-dF x+1) else none
theorem sJ{x:cT}(h:x.how=1∨x.how=2):dF x=0:=by
 unfold dF;rw [if_neg n9,if_neg n9]
theorem qF{x:cT}(h:x.how=4∨x.how=7):dF x=2:=by
 unfold dF;rw [if_neg n9,if_pos h]
theorem oJ{x:cT}(h:x.how=3∨x.how=5∨x.how=6):dF x=1:=by
 unfold dF;rw [if_pos h]
theorem step_depth{st st':List dZ}{x:cT}(h:hY st x=some st'):dF x≤st.length∧st'.length=st.length-dF x+1∧1≤x.how∧x.how≤7∧(x.how=1→x.nums≠[]∧x.nums.length≤65536):=by
 unfold hY at h;split at h
 ·rename_i hh;rw [sJ hh]
  cases ho:operandS x with
  | none=>simp [ho] at h
  | some p=>
   simp only [ho,Option.map_some,Option.some.injEq] at h;subst h;refine⟨n9,o9,n9,n9,fun h1=>?_⟩;unfold operandS at ho;rw [if_neg n9] at ho;split at ho
   ·cases ho
   ·rename_i hb;simp only [not_or,ne_eq,Classical.not_not,Nat.not_lt] at hb;exact⟨hb.2.2.1,n9⟩
 ·split at h
  ·cases h
  ·rename_i h12 hk;simp only [not_or,Int.not_lt] at hk h12;unfold qC at h
   by_cases h2:x.how=4∨x.how=7
   ·have e:xD x.how=true:=by unfold xD;rcases h2 with h2 | h2<;>rw [h2]<;>rfl
    rw [if_pos e] at h;rw [qF h2]
    match st,h with
    | p::q::r,h=>
     simp only [Option.some.injEq] at h;subst h;exact⟨o9,o9,n9,n9,fun h1=>by omega⟩
    | [p],h=>cases h
    | [],h=>cases h
   ·have e:xD x.how=false:=by
     unfold xD;simp only [Bool.or_eq_false_iff,beq_eq_false_iff_ne,ne_eq];omega
    rw [if_neg (by rw [e];simp)] at h;rw [oJ n9]
    match st,h with
    | p::r,h=>
     simp only [Option.some.injEq] at h;subst h;exact⟨o9,o9,n9,n9,fun h1=>by omega⟩
    | [],h=>cases h
theorem bHt: ∀{l:List cT} {st st':List dZ},fR l st=some st'→lX l st.length=some st'.length
 | [],st,st',h=>by
  simp only [fR,Option.some.injEq] at h;subst h;rfl
 | x::l,st,st',h=>by
  rw [fR] at h
  cases h1:hY st x with
  | none=>rw [h1] at h;cases h
  | some s1=>
   rw [h1] at h;obtain⟨a,b,c,d,e⟩:=step_depth h1;rw [lX,if_pos ⟨a,c,d,e⟩,←b];exact bHt h
theorem bNw{l:List cT}{m:Nat}{t:Bs}(h:gP l m=some t):lX l 0=some 1:=by
 unfold gP at h;split at h
 ·cases h
 ·split at h
  ·rename_i hq;exact bHt (st:=[]) hq
  ·cases h
theorem bHr: ∀{ls:List kY} {o o':Bs},fF ls o=(o',true)→ ∀l∈ls,lX l.items 0=some 1
 | [],_,_,_,l,hl=>by simp at hl
 | [m],o,o',h,l,hl=>by
  rw [List.mem_singleton.1 hl];simp only [fF] at h
  cases hx:gP m.items 255 with
  | none=>rw [hx] at h;simp at h
  | some t=>exact bNw hx
 | m::n::ls,o,o',h,l,hl=>by
  have h':(match gP m.items 254 with
    | none=>(o,false)
    | some t=>if cZ m.name=false then (o,false) else fF (n::ls) (o++(((m.name++[58,32])++t)++[10])))=(o',true):=h
  cases hx:gP m.items 254 with
  | none=>rw [hx] at h';simp at h'
  | some t=>
   rw [hx] at h';simp only at h';split at h'
   ·simp at h'
   ·rcases List.mem_cons.1 hl with rfl | hl
    ·exact bNw hx
    ·exact bHr h' l hl
theorem bHs{p:gQ}(h:(cX p).2=true): ∀l∈p.lines,lX l.items 0=some 1:=by
 unfold cX at h;split at h
 ·cases h
 ·cases hi:mC p.inputs [] with
  | mk o b=>
   rw [hi] at h
   cases b with
   | false=>cases h
   | true=>exact bHr (o':=(fF p.lines o).1) (Prod.ext rfl h)
def bDz (N:bAy):Prop:= ∀p∈N,rightA p.2=true
theorem look_mem{k:Bs}{a:Arr}: ∀{N:bAy},look k N=some a→ ∃p∈N,p.2=a
 | [],h=>by cases h
 | p::r,h=>by
  unfold look at h;split at h
  ·injection h with h
   exact⟨p,List.mem_cons_self ..,h⟩
  ·obtain⟨q,hq,e⟩:=look_mem h;exact⟨q,List.mem_cons_of_mem _ hq,e⟩
theorem bDz.look{N:bAy}(h:bDz N){k:Bs}{a:Arr}(hk:look k N=some a):rightA a=true:=by
 obtain⟨p,hp,e⟩:=look_mem hk;rw [←e];exact h p hp
theorem bDz.cons{N:bAy}(h:bDz N){k:Bs}{a:Arr}(ha:rightA a=true):bDz ((k,a)::N):=fun p hp=>by
 rcases List.mem_cons.1 hp with rfl | hp
 ·exact ha
 ·exact h p hp
def nUnused:Bs:=[117,110,117,115,101,100]
def SameBut(N' N:bAy):Prop:= ∀k,k≠nUnused→look k N'=look k N
theorem SameBut.cons{N' N:bAy}(h:SameBut N' N)(s:Bs)(a:Arr):SameBut ((s,a)::N') ((s,a)::N):=fun k hk=>by
 unfold look;split
 ·rfl
 ·exact h k hk
end Go.Proofs.YtakphiannlpnfaaGreatDoor
