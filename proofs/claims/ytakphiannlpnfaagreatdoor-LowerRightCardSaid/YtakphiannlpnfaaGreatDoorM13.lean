/- Texts of one proof, one behind the other: PartT, MonT, DyT, Lanes, PrimA, PrimB, PrimC, PrimD, PrimE, PrimF, PrimG, MeanL, MeanU. -/
import Derived.Test.YtakphiannlpnfaaGreatDoorM2
import Derived.Test.YtakphiannlpnfaaGreatDoorM12
namespace Go.Proofs.YtakphiannlpnfaaGreatDoor
open Go.RowKit Go.Proofs.Tryz
set_option maxRecDepth 100000
theorem builtM_ne(z:Int)(a b c d e f:Value):prog.built 100 [(0,.int .i64 z),(1,.agg #[a,b,c,d,e,f])]=some #[.int .i64 z,a,b,c,d,e,f]:=n9
theorem at_one_mono{β:dF}{n:Nat}{Γ:Env}{H:List bH}{F:List Fact}{Q:Exit→Act→World→Prop}{ops:Array Oper}{rest:List Oper}{o:Oper}{d:Nat}{x:Operand}{m:Mono}(hw:want ops Γ o=some true)(ho:o.op= .buildSlice 47 1 #[(0,x)])(hd:o.dst=some d)(hn:Nat.blt d n=true)
  (hx:Γ.ev x=some (.agg #[.int .i64 m.n,.int .u8 m.e0.toNat,.int .u8 m.e1.toNat,.int .u8 m.e2.toNat,.int .u8 m.e3.toNat,.int .u8 m.e4.toNat,.int .u8 m.e5.toNat])) (k: ∀b,At β n ((d,.slice (some ⟨b,0,none⟩) 1 1)::Γ) (.obj b (.cells (nH.all [m]).toArray 100)::H) F (wpList prog ops Q rest)):At β n Γ H F (wpList prog ops Q (o::rest)):=by
 obtain⟨i,hi,hz,hs,_⟩:=monoI;refine gG hw ho hd hn hx underlying47 hi hz n7 n7 ?_ k;rw [hs]
 kernel_rfl
theorem polF_own{F:List Fact}{b:Nat}{m:Mono}(h:Has F (nH.sl (.slice (some ⟨b,0,none⟩) 1 1) [m])):Has F (kT ⟨some ⟨b,0,none⟩,1,[m]⟩):=h.and (j3 o6)
theorem tk_cases(t:Bool):t=true∨t=false:=by cases t<;>simp
theorem maxZ(a b:Int):(if b>a then b else a)=max a b:=by
 split<;>omega
theorem wf_one{a:TyV}(h:WfT a.t)(k:a.known=true)(hs:a.sides.list.length=0):a.values.list.length=1:=by
 have e:a.t.values.length=1:=by
  rcases (h.kn k).2 with h | h
  ·exact h.2
  ·have h:bJ a.sides.list=_:=h;rw [dI hs] at h;cases h
 have e:(bJ a.values.list).length=1:=e
 rwa [bF] at e
theorem wf_val{a:TyV}(h:WfT a.t){p:PolV}{i:Nat}(hp:a.values.list[i]?=some p):cU p.list=true:=h.vr _ (j4 (gD hp))
theorem right_n{p:List Mono}(h:cU p=true){i:Nat}{m:Mono}(hm:p[i]?=some m): -16777216≤m.n∧m.n≤16777216:=by
 simp only [cU,Bool.and_eq_true] at h;have:=yJ h.2 m (j4 hm);simp only [nU,decide_eq_true_eq] at this;omega
theorem bNy{k:Nat}{n:Int}(h:gA (bT k) n=true):n≤k:=by
 unfold bT iN at h;split at h
 ·simp [gA] at h;omega
 ·split at h
  ·simp [gA] at h;omega
  ·simp [gA,bAl] at h;omega
section
variable {v : List Mono} {m : Mono}
theorem cnt0(h:v.length=0):rO v=some 0:=by rw [List.length_eq_zero_iff.1 h];rfl
theorem cnt2(h:1<v.length):rO v=none:=by
 match v,h with
 | _::_::_,_=>rfl
theorem cnt1(h:v.length=1)(hm:v[0]?=some m)(c:gA [bTi m] 1=true):rO v=some m.n:=by
 match v,h with
 | [x],_=>
  simp at hm;subst hm;simp [rO,c]
theorem cnt1b(h:v.length=1)(hm:v[0]?=some m)(c:gA [bTi m] 1=false):rO v=none:=by
 match v,h with
 | [x],_=>
  simp at hm;subst hm;simp [rO,c]
end
theorem cutT_t{tk:Bool}{n:Int}{l:List PolV}{k:Nat}(h:tk=decide (0≤n))(hk:(k:Int)=if n<0 then n+l.length else n):yX tk n (bJ l)=bJ (l.take k):=by
 unfold yX;rw [if_pos h,bF,←hk,bOo];rfl
theorem cutT_d{tk:Bool}{n:Int}{l:List PolV}{k:Nat}(h:tk≠decide (0≤n))(hk:(k:Int)=if n<0 then n+l.length else n):yX tk n (bJ l)=bJ (l.drop k):=by
 unfold yX;rw [if_neg h,bF,←hk,pS];rfl
theorem bTf{l:List PolV}{y p:PolV}(h:l[0]?=some y):bJ (l.set 0 p)=p.list::(bJ l).tail:=by
 cases l with
 | nil=>simp at h
 | cons a l=>rfl
section
variable {F : List Fact} {l : Sl PolV} {k : Nat}
theorem rA(h:Has F (listF l))(hc:l.list.length≤l.cap)(hk:k≤l.list.length):Has F (listF ⟨l.addr,l.cap,l.list.take k⟩):=
 cH (by rw [List.length_take,Nat.min_eq_left hk];exact has_take (xQ h) hk) (polsF_take k (bGf h)) (by rw [List.length_take];omega)
theorem uJ(h:Has F (listF l))(hc:l.list.length≤l.cap)(hk:k≤l.list.length):Has F (listF ⟨iE l.addr k bS.size l.cap,l.cap-k,l.list.drop k⟩):=
 cH (by have:=lF (xQ h) hc hk;rwa [←List.length_drop] at this) (iV k (bGf h)) ai2
theorem bDh{xs:List PolV}{p:PolV}(n:Nat)(h:Has F (cQ xs))(hp:Has F (kT p)):Has F (cQ (xs.set n p)):=fun S w k q hq=>by
 rcases List.mem_or_eq_of_mem_set hq with hq | rfl
 ·exact h S w k q hq
 ·exact hp S w k
end
section
variable {tk : Bool} {a b : TyV} {x y : PolV} {n : Int}
theorem ptT_a(h:0<a.sides.list.length∨b.sides.list.length=0):kO tk a.t b.t=(a.t,90):=by
 unfold kO;rw [if_pos]
 rcases h with h | h
 ·exact .inl (fE h)
 ·exact .inr (dI h)
theorem bJf(h:a.sides.list.length=0)(k:0<b.sides.list.length): ¬(a.t.sides≠[]∨b.t.sides=[]):=by
 rintro(e | e)
 ·exact e (dI h)
 ·exact fE k e
theorem ptT_b(h:a.sides.list.length=0)(k:0<b.sides.list.length)(g:a.known=false):kO tk a.t b.t=(a.t,92):=by
 unfold kO;rw [if_neg (bJf h k)];exact if_pos g
theorem ptT_c(h:a.sides.list.length=0)(k:0<b.sides.list.length)(g:a.known=true)(hx:a.values.list[0]?=some x)(hc:rO x.list=none):kO tk a.t b.t=(a.t,93):=by
 have hx':a.t.values.headD []=x.list:=iZ hx;have g: ¬a.t.known=false:=by show ¬a.known=false;simp [g]
 unfold kO;rw [if_neg (bJf h k),if_neg g,hx',hc]
theorem ptT_d(h:a.sides.list.length=0)(k:0<b.sides.list.length)(g:a.known=true)(hx:a.values.list[0]?=some x)(hc:rO x.list=some n)(hy:b.sides.list[0]?=some y)(c:gA y.list (max n (-n))=false):kO tk a.t b.t=(a.t,93):=by
 have hx':a.t.values.headD []=x.list:=iZ hx;have hy':b.t.sides.headD []=y.list:=iZ hy;have g: ¬a.t.known=false:=by show ¬a.known=false;simp [g]
 unfold kO;rw [if_neg (bJf h k),if_neg g,hx',hc];dsimp only;rw [hy',if_pos c]
theorem ptT_e(h:a.sides.list.length=0)(k:0<b.sides.list.length)(g:a.known=true)(hx:a.values.list[0]?=some x)(hc:rO x.list=some n)(hy:b.sides.list[0]?=some y)(c:gA y.list (max n (-n))=true)(e:(bY y.list (bT (max n (-n))) (-1)).2≠0):kO false a.t b.t=(a.t,95):=by
 have hx':a.t.values.headD []=x.list:=iZ hx;have hy':b.t.sides.headD []=y.list:=iZ hy;have g: ¬a.t.known=false:=by show ¬a.known=false;simp [g]
 unfold kO;rw [if_neg (bJf h k),if_neg g,hx',hc];dsimp only;rw [hy',if_neg (by simp [c]),if_neg o6,if_pos e]
theorem bVc{A:Option Addr}{q:Nat}{p:PolV}{V:Sl PolV}(h:a.sides.list.length=0)(k:0<b.sides.list.length)(g:a.known=true)(hx:a.values.list[0]?=some x)(hc:rO x.list=some n)(hy:b.sides.list[0]?=some y)(c:gA y.list (max n (-n))=true)(hp:p.list=bT (max n (-n)))
  (hV:bJ V.list=if b.known=true then yX true n (bJ b.values.list) else bJ b.values.list):kO true a.t b.t=((⟨⟨A,q,b.sides.list.set 0 p⟩,b.known,V⟩:TyV).t,0):=by
 have hx':a.t.values.headD []=x.list:=iZ hx;have hy':b.t.sides.headD []=y.list:=iZ hy;have g: ¬a.t.known=false:=by show ¬a.known=false;simp [g]
 unfold kO;rw [if_neg (bJf h k),if_neg g,hx',hc];dsimp only;rw [hy',if_neg (by simp [c]),if_pos rfl];show _=((⟨bJ (b.sides.list.set 0 p),b.known,bJ V.list⟩:TyP),(0:Int));rw [bTf hy,hp,hV];rfl
theorem bWd{A:Option Addr}{q:Nat}{p:PolV}{V:Sl PolV}(h:a.sides.list.length=0)(k:0<b.sides.list.length)(g:a.known=true)(hx:a.values.list[0]?=some x)(hc:rO x.list=some n)(hy:b.sides.list[0]?=some y)(c:gA y.list (max n (-n))=true)(e:(bY y.list (bT (max n (-n))) (-1)).2=0)(hp:p.list=(bY y.list (bT (max n (-n))) (-1)).1)
  (hV:bJ V.list=if b.known=true then yX false n (bJ b.values.list) else bJ b.values.list):kO false a.t b.t=((⟨⟨A,q,b.sides.list.set 0 p⟩,b.known,V⟩:TyV).t,0):=by
 have hx':a.t.values.headD []=x.list:=iZ hx;have hy':b.t.sides.headD []=y.list:=iZ hy;have g: ¬a.t.known=false:=by show ¬a.known=false;simp [g]
 unfold kO;rw [if_neg (bJf h k),if_neg g,hx',hc];dsimp only;rw [hy',if_neg (by simp [c]),if_neg o6,if_neg ai3];show _=((⟨bJ (b.sides.list.set 0 p),b.known,bJ V.list⟩:TyP),(0:Int));rw [bTf hy,hp,hV];rfl
theorem ptT_le(hb:WfT b.t)(k:0<b.sides.list.length)(hk:b.known=true)(hy:b.sides.list[0]?=some y){m:Int}(c:gA y.list m=true):m≤b.values.list.length:=by
 have hy':=gD hy
 rcases (hb.kn hk).2 with h | h
 ·exact absurd h.1 (fE k)
 ·have h:bJ b.sides.list=[bT (bJ b.values.list).length]:=h;rw [h,bF] at hy';simp at hy';rw [←hy'] at c;exact bNy c
end
theorem bRd(tk:Bool)(a b:TyV)(ha:WfT a.t)(hb:WfT b.t):cM prog 86 [.bool tk,.agg #[.slice a.sides.addr a.sides.list.length a.sides.cap,.bool a.known,.slice a.values.addr a.values.list.length a.values.cap],.agg #[.slice b.sides.addr b.sides.list.length b.sides.cap,.bool b.known,.slice b.values.addr b.values.list.length b.values.cap]] [] [tyF a,tyF b] (fun(x:TyV)=> .tuple #[tyC x,.int .i64 (kO tk a.t b.t).2]) (fun _=>[]) (fun(x:TyV)=>[tyF x,Fact.pure (x.t=(kO tk a.t b.t).1)]):=by
 have hT:=fK;have hsa:=bCd ha;have hva:=bTs ha;have hsb:=bCd hb;have hvb:=bTs hb;generalize hR:kO tk a.t b.t=r;refine k6 func86 ntmps86 ?_;intro β hM;refine cO<|bB (listF a.sides) (mA d7) ?_;refine cG a.sides mT0 fun hc_as=>bB (listF a.values) (mD e6)<|cG a.values mT0 fun hc_av=>bB (listF b.sides) (mA f3)<|cG b.sides mT0 fun hc_bs=>bB (listF b.values) (mD f7)<|cG b.values mT0 fun hc_bv=>?_;refine one ?_;refine j9 fun b1=>?_;refine j9 fun b2=>?_;refine j6 qV fun b3=>?_;refine g12 ?_;refine jX (fun hg19=>?_) fun hg19=>?_
 ·refine g19 ?_;have hr:=hR.symm.trans (ptT_a n7);subst hr;exact rs2 (⟨a.sides,a.known,a.values⟩:TyV) ⟨(bZ (x:=⟨a.sides,a.known,a.values⟩) f9 f4),j3 rfl,j0⟩
 refine g8 ?_;refine fN (fun hc14=>?_) fun hc14=>?_
 ·refine g10 ?_;have hr:=hR.symm.trans (ptT_a n7);subst hr;exact rs2 (⟨a.sides,a.known,a.values⟩:TyV) ⟨(bZ (x:=⟨a.sides,a.known,a.values⟩) f9 f4),j3 rfl,j0⟩
 refine g8 ?_;refine jJ (fun hc26=>?_) fun hc26=>?_
 ·refine g10 ?_;have hr:=hR.symm.trans (ptT_b n7 n7 asd);subst hr;exact rs2 (⟨a.sides,a.known,a.values⟩:TyV) ⟨(bZ (x:=⟨a.sides,a.known,a.values⟩) f9 f4),j3 rfl,j0⟩
 refine g10 ?_;have hv1:=wf_one ha asd n7;refine g3 ?_;obtain⟨x4,hx5⟩:=gx a.values.list 0;refine ss (cF hT (k:=0) (cE f3) rfl rfl rfl rfl rfl rfl rfl n7) ?_;refine ss (j7 hT (dQ.knows (cE f3) (k:=0) (x:=x4) hx5 0)) ?_;refine bB (kT x4) (Has.each e9 (j4 hx5))<|bB (nH.sl (.slice x4.addr x4.list.length x4.cap) x4.list) (qI d7) ?_;have hxr:=wf_val ha hx5;refine g9 ?_;refine jX (fun hg38=>?_) fun hg38=>?_
 ·refine g26 ?_;have hr:=hR.symm.trans (ptT_c n7 n7 asd hx5 (cnt2 n7));subst hr;exact rs2 (⟨a.sides,a.known,a.values⟩:TyV) ⟨(bZ (x:=⟨a.sides,a.known,a.values⟩) i7 f7),j3 rfl,j0⟩
 refine g4 ?_;refine oX (fun hg42=>?_) fun hg42=>?_
 ·refine one ?_;obtain⟨x6,hx7⟩:=gx x4.list 0;refine ss (cF hT (k:=0) (cE d7) rfl rfl rfl rfl rfl rfl rfl n7) ?_;refine one ?_;refine ss (fJ hT (dQ.knows (cE d7) (k:=0) (x:=x6) hx7 1) rfl rfl rfl rfl rfl) ?_;refine ss (k7 (builtM_ne _ _ _ _ _ _ _)) ?_;refine at_one_mono (m:=(bTi x6)) rfl rfl rfl rfl rfl fun b8=>?_;refine bR (E:=nH) (xs:=[(bTi x6)]) .head q7<|bE .head<|bB (kT ⟨some ⟨b8,0,none⟩,1,[(bTi x6)]⟩) (polF_own d7)<|bC (dC d7) fun hpl9=>?_;refine j5 func118 (vH (p:=⟨some ⟨b8,0,none⟩,1,[(bTi x6)]⟩) 1 hpl9) ⟨d7,j0⟩ fun _=>?_;refine g5 ?_;refine jJ (fun hc52=>?_) fun hc52=>?_
  ·refine g9 ?_;have hr:=hR.symm.trans (ptT_c n7 n7 asd hx5 (cnt1b n7 hx7 (by simpa using hc52)));subst hr;exact rs2 (⟨a.sides,a.known,a.values⟩:TyV) ⟨(bZ (x:=⟨a.sides,a.known,a.values⟩) (Has.of (u8 mT7)) i6),j3 rfl,j0⟩
  refine g5 ?_;refine bM (t':=true) (decide_eq_true n7) ?_;refine g5 ?_;refine ss (cF hT (k:=0) (cE d9) rfl rfl rfl rfl rfl rfl rfl n7) ?_;refine one ?_;refine ss (j7 hT (dQ.knows (cE d9) (k:=0) (x:=x6) hx7 0)) ?_;refine g4 ?_;have hcn:=cnt1 n7 hx7 (by simpa using hc52);have hnr:=right_n hxr hx7;refine g4 ?_;refine cP (z':= -x6.n) ah6 ?_;refine one ?_;refine cP (z':=max x6.n (-x6.n)) (maxZ _ _) ?_;refine g8 ?_;obtain⟨x10,hx11⟩:=gx b.sides.list 0;refine ss (cF hT (k:=0) (cE f4) rfl rfl rfl rfl rfl rfl rfl n7) ?_;refine ss (j7 hT (dQ.knows (cE f4) (k:=0) (x:=x10) hx11 0)) ?_;refine one ?_;refine bC (dC (Has.each f3 (j4 hx11))) fun hpl12=>?_;refine j5 func118 (vH (p:=x10) (max x6.n (-x6.n)) hpl12) ⟨(Has.each f3 (j4 hx11)),j0⟩ fun _=>?_;refine g3 ?_;refine jJ (fun hc71=>?_) fun hc71=>?_
  ·refine g9 ?_;have hr:=hR.symm.trans (ptT_d n7 n7 asd hx5 hcn hx11 asd);subst hr;exact rs2 (⟨a.sides,a.known,a.values⟩:TyV) ⟨(bZ (x:=⟨a.sides,a.known,a.values⟩) (Has.of (u8 mT7)) i6),j3 rfl,j0⟩
  refine g6 ?_;refine j5 func114 (bAr b.sides.addr b.sides.cap b.sides.list n7) ⟨f4,j0⟩ fun⟨A13,c14⟩=>?_;refine bB (cQ b.sides.list) f3 ?_;refine g7 ?_;refine j5 func45 (jO ((max x6.n (-x6.n)))) j0 fun⟨A15,c16⟩=>?_;refine g5 ?_
  rcases tk_cases tk with htk | htk
  ·subst htk;refine g9 ?_;refine bCl kT1 n7 fun g17 hg=>?_;subst hg;refine g4 ?_;refine ss (iX hT (k:=0) rfl rfl rfl rfl rfl rfl n7) ?_;refine fH hT (k:=0) (fo:=0) (y':=(⟨A15,c16,bT ((max x6.n (-x6.n)))⟩:PolV)) kT1 rfl rfl rfl rfl rfl rfl rfl rfl rfl hx11 rfl ?_;refine g4 ?_;rw [show b.sides.list.length=(b.sides.list.set 0 (⟨A15,c16,bT ((max x6.n (-x6.n)))⟩:PolV)).length from List.length_set.symm];refine bB (cQ (b.sides.list.set 0 (⟨A15,c16,bT ((max x6.n (-x6.n)))⟩:PolV))) (bDh 0 d8 d7)<|bX .head fun hc_cl=>bE .head ?_;refine g5 ?_;refine jA (fun hc98=>?_) fun hc98=>?_
   ·refine cO ?_;have hcv:=ptT_le hb n7 asd hx11 asd;refine g12 ?_;refine dJ (fun hc101=>?_) fun hc101=>?_
    ·refine g6 ?_;refine cP (z':=(x6.n+(b.values.list.length:Nat))) (bEm n7 n7) ?_;refine g8 ?_;refine bM (t':=false) (decide_eq_false n7) ?_;refine one ?_;refine bM (t':=false) o9 ?_;refine g7 ?_;have hkl:(x6.n+(b.values.list.length:Nat)).toNat≤b.values.list.length:=n7
     refine ss (dO hT (k:=(x6.n+(b.values.list.length:Nat)).toNat) rfl rfl rfl rfl rfl n7 n7) ?_;refine lX (v':= .slice (iE b.values.addr ((x6.n+(b.values.list.length:Nat)).toNat) bS.size b.values.cap) (b.values.list.drop ((x6.n+(b.values.list.length:Nat)).toNat)).length (b.values.cap-(x6.n+(b.values.list.length:Nat)).toNat)) ac2<|bB (listF ⟨iE b.values.addr ((x6.n+(b.values.list.length:Nat)).toNat) bS.size b.values.cap,b.values.cap-(x6.n+(b.values.list.length:Nat)).toNat,b.values.list.drop ((x6.n+(b.values.list.length:Nat)).toNat)⟩) (uJ f7 hc_bv hkl) ?_;refine g12 ?_;have hr:=hR.symm.trans (bVc (A:=(some ⟨g17,0,none⟩)) (q:=c14) (p:=⟨A15,c16,bT ((max x6.n (-x6.n)))⟩) (V:=⟨iE b.values.addr ((x6.n+(b.values.list.length:Nat)).toNat) bS.size b.values.cap,b.values.cap-(x6.n+(b.values.list.length:Nat)).toNat,b.values.list.drop ((x6.n+(b.values.list.length:Nat)).toNat)⟩) n7 n7 asd hx5 hcn hx11 asd rfl (((if_pos (show b.known=true from by assumption)).trans (cutT_d (k:=(x6.n+(b.values.list.length:Nat)).toNat) (tk:=true) (n:=x6.n) (l:=b.values.list) (by rw [decide_eq_false n7];decide) (by split<;>omega))).symm));subst hr;exact rs2 (⟨⟨(some ⟨g17,0,none⟩),c14,(b.sides.list.set 0 (⟨A15,c16,bT ((max x6.n (-x6.n)))⟩:PolV))⟩,b.known,⟨iE b.values.addr ((x6.n+(b.values.list.length:Nat)).toNat) bS.size b.values.cap,b.values.cap-(x6.n+(b.values.list.length:Nat)).toNat,b.values.list.drop ((x6.n+(b.values.list.length:Nat)).toNat)⟩⟩:TyV) ⟨(bZ (x:=⟨⟨(some ⟨g17,0,none⟩),c14,(b.sides.list.set 0 (⟨A15,c16,bT ((max x6.n (-x6.n)))⟩:PolV))⟩,b.known,⟨iE b.values.addr ((x6.n+(b.values.list.length:Nat)).toNat) bS.size b.values.cap,b.values.cap-(x6.n+(b.values.list.length:Nat)).toNat,b.values.list.drop ((x6.n+(b.values.list.length:Nat)).toNat)⟩⟩) (cH d8 d9 (hc_cl)) d7),j3 rfl,j0⟩
    refine g7 ?_;refine bM (t':=true) (decide_eq_true n7) ?_;refine one ?_;refine bM (t':=true) o9 ?_;refine g7 ?_;have hkl:x6.n.toNat≤b.values.list.length:=n7
    refine ss (mC hT (k:=x6.n.toNat) rfl rfl rfl rfl rfl n7 n7) ?_;refine lX (v':= .slice b.values.addr (b.values.list.take (x6.n.toNat)).length b.values.cap) ab9<|bB (listF ⟨b.values.addr,b.values.cap,b.values.list.take (x6.n.toNat)⟩) (rA f7 hc_bv hkl) ?_;refine g12 ?_;have hr:=hR.symm.trans (bVc (A:=(some ⟨g17,0,none⟩)) (q:=c14) (p:=⟨A15,c16,bT ((max x6.n (-x6.n)))⟩) (V:=⟨b.values.addr,b.values.cap,b.values.list.take (x6.n.toNat)⟩) n7 n7 asd hx5 hcn hx11 asd rfl (((if_pos (show b.known=true from by assumption)).trans (cutT_t (k:=x6.n.toNat) (tk:=true) (n:=x6.n) (l:=b.values.list) (decide_eq_true n7).symm (by split<;>omega))).symm));subst hr;exact rs2 (⟨⟨(some ⟨g17,0,none⟩),c14,(b.sides.list.set 0 (⟨A15,c16,bT ((max x6.n (-x6.n)))⟩:PolV))⟩,b.known,⟨b.values.addr,b.values.cap,b.values.list.take (x6.n.toNat)⟩⟩:TyV) ⟨(bZ (x:=⟨⟨(some ⟨g17,0,none⟩),c14,(b.sides.list.set 0 (⟨A15,c16,bT ((max x6.n (-x6.n)))⟩:PolV))⟩,b.known,⟨b.values.addr,b.values.cap,b.values.list.take (x6.n.toNat)⟩⟩) (cH d8 d9 (hc_cl)) d7),j3 rfl,j0⟩
   refine g10 ?_;have hr:=hR.symm.trans (bVc (A:=(some ⟨g17,0,none⟩)) (q:=c14) (p:=⟨A15,c16,bT ((max x6.n (-x6.n)))⟩) (V:=b.values) n7 n7 asd hx5 hcn hx11 asd rfl ((if_neg af7).symm));subst hr;exact rs2 (⟨⟨(some ⟨g17,0,none⟩),c14,(b.sides.list.set 0 (⟨A15,c16,bT ((max x6.n (-x6.n)))⟩:PolV))⟩,b.known,b.values⟩:TyV) ⟨(bZ (x:=⟨⟨(some ⟨g17,0,none⟩),c14,(b.sides.list.set 0 (⟨A15,c16,bT ((max x6.n (-x6.n)))⟩:PolV))⟩,b.known,b.values⟩) (cH d7 d8 (hc_cl)) f7),j3 rfl,j0⟩
  subst htk;refine g15 ?_;refine ss (cF hT (k:=0) (cN kT1) rfl rfl rfl rfl rfl rfl rfl n7) ?_;refine ss (j7 hT (dQ.knows (cN kT1) (k:=0) (x:=x10) hx11 0)) ?_;refine one ?_;refine bC (dC (Has.each f5 (j4 hx11))) fun hpl20=>bC (dC d7) fun hql21=>?_;refine j5 func84 (bQs (p:=x10) (q:=⟨A15,c16,bT ((max x6.n (-x6.n)))⟩) hpl20 hql21) ⟨(Has.each f5 (j4 hx11)),d7,j0⟩ fun⟨A18,c19⟩=>?_;refine g13 ?_;refine wG (fun hc91=>?_) fun hc91=>?_
  ·refine g9 ?_;have hr:=hR.symm.trans (ptT_e n7 n7 asd hx5 hcn hx11 asd asd);subst hr;exact rs2 (⟨a.sides,a.known,a.values⟩:TyV) ⟨(bZ (x:=⟨a.sides,a.known,a.values⟩) (Has.of (u8 (u8 mT2))) (Has.of (u8 mT7))),j3 rfl,j0⟩
  refine g3 ?_;refine bCl kT1 n7 fun g22 hg=>?_;subst hg;refine g4 ?_;refine ss (iX hT (k:=0) rfl rfl rfl rfl rfl rfl n7) ?_;refine fH hT (k:=0) (fo:=0) (y':=(⟨A18,c19,(bY x10.list (bT ((max x6.n (-x6.n)))) (-1)).1⟩:PolV)) kT1 rfl rfl rfl rfl rfl rfl rfl rfl rfl hx11 rfl ?_;refine g4 ?_;rw [show b.sides.list.length=(b.sides.list.set 0 (⟨A18,c19,(bY x10.list (bT ((max x6.n (-x6.n)))) (-1)).1⟩:PolV)).length from List.length_set.symm];refine bB (cQ (b.sides.list.set 0 (⟨A18,c19,(bY x10.list (bT ((max x6.n (-x6.n)))) (-1)).1⟩:PolV))) (bDh 0 d9 d7)<|bX .head fun hc_cl=>bE .head ?_;refine g5 ?_;refine jA (fun hc98=>?_) fun hc98=>?_
  ·refine cO ?_;have hcv:=ptT_le hb n7 asd hx11 asd;refine g12 ?_;refine dJ (fun hc101=>?_) fun hc101=>?_
   ·refine g6 ?_;refine cP (z':=(x6.n+(b.values.list.length:Nat))) (bEm n7 n7) ?_;refine g8 ?_;refine bM (t':=false) (decide_eq_false n7) ?_;refine one ?_;refine bM (t':=true) o9 ?_;refine g7 ?_;have hkl:(x6.n+(b.values.list.length:Nat)).toNat≤b.values.list.length:=n7
    refine ss (mC hT (k:=(x6.n+(b.values.list.length:Nat)).toNat) rfl rfl rfl rfl rfl n7 n7) ?_;refine lX (v':= .slice b.values.addr (b.values.list.take ((x6.n+(b.values.list.length:Nat)).toNat)).length b.values.cap) ab9<|bB (listF ⟨b.values.addr,b.values.cap,b.values.list.take ((x6.n+(b.values.list.length:Nat)).toNat)⟩) (rA f9 hc_bv hkl) ?_;refine g12 ?_;have hr:=hR.symm.trans (bWd (A:=(some ⟨g22,0,none⟩)) (q:=c14) (p:=⟨A18,c19,(bY x10.list (bT ((max x6.n (-x6.n)))) (-1)).1⟩) (V:=⟨b.values.addr,b.values.cap,b.values.list.take ((x6.n+(b.values.list.length:Nat)).toNat)⟩) n7 n7 asd hx5 hcn hx11 asd n7 rfl (((if_pos (show b.known=true from by assumption)).trans (cutT_t (k:=(x6.n+(b.values.list.length:Nat)).toNat) (tk:=false) (n:=x6.n) (l:=b.values.list) (decide_eq_false n7).symm (by split<;>omega))).symm));subst hr;exact rs2 (⟨⟨(some ⟨g22,0,none⟩),c14,(b.sides.list.set 0 (⟨A18,c19,(bY x10.list (bT ((max x6.n (-x6.n)))) (-1)).1⟩:PolV))⟩,b.known,⟨b.values.addr,b.values.cap,b.values.list.take ((x6.n+(b.values.list.length:Nat)).toNat)⟩⟩:TyV) ⟨(bZ (x:=⟨⟨(some ⟨g22,0,none⟩),c14,(b.sides.list.set 0 (⟨A18,c19,(bY x10.list (bT ((max x6.n (-x6.n)))) (-1)).1⟩:PolV))⟩,b.known,⟨b.values.addr,b.values.cap,b.values.list.take ((x6.n+(b.values.list.length:Nat)).toNat)⟩⟩) (cH d8 d9 (hc_cl)) d7),j3 rfl,j0⟩
   refine g7 ?_;refine bM (t':=true) (decide_eq_true n7) ?_;refine one ?_;refine bM (t':=false) o9 ?_;refine g7 ?_;have hkl:x6.n.toNat≤b.values.list.length:=n7
   refine ss (dO hT (k:=x6.n.toNat) rfl rfl rfl rfl rfl n7 n7) ?_;refine lX (v':= .slice (iE b.values.addr (x6.n.toNat) bS.size b.values.cap) (b.values.list.drop (x6.n.toNat)).length (b.values.cap-x6.n.toNat)) ac2<|bB (listF ⟨iE b.values.addr (x6.n.toNat) bS.size b.values.cap,b.values.cap-x6.n.toNat,b.values.list.drop (x6.n.toNat)⟩) (uJ f9 hc_bv hkl) ?_;refine g12 ?_;have hr:=hR.symm.trans (bWd (A:=(some ⟨g22,0,none⟩)) (q:=c14) (p:=⟨A18,c19,(bY x10.list (bT ((max x6.n (-x6.n)))) (-1)).1⟩) (V:=⟨iE b.values.addr (x6.n.toNat) bS.size b.values.cap,b.values.cap-x6.n.toNat,b.values.list.drop (x6.n.toNat)⟩) n7 n7 asd hx5 hcn hx11 asd n7 rfl (((if_pos (show b.known=true from by assumption)).trans (cutT_d (k:=x6.n.toNat) (tk:=false) (n:=x6.n) (l:=b.values.list) (by rw [decide_eq_true n7];decide) (by split<;>omega))).symm));subst hr;exact rs2 (⟨⟨(some ⟨g22,0,none⟩),c14,(b.sides.list.set 0 (⟨A18,c19,(bY x10.list (bT ((max x6.n (-x6.n)))) (-1)).1⟩:PolV))⟩,b.known,⟨iE b.values.addr (x6.n.toNat) bS.size b.values.cap,b.values.cap-x6.n.toNat,b.values.list.drop (x6.n.toNat)⟩⟩:TyV) ⟨(bZ (x:=⟨⟨(some ⟨g22,0,none⟩),c14,(b.sides.list.set 0 (⟨A18,c19,(bY x10.list (bT ((max x6.n (-x6.n)))) (-1)).1⟩:PolV))⟩,b.known,⟨iE b.values.addr (x6.n.toNat) bS.size b.values.cap,b.values.cap-x6.n.toNat,b.values.list.drop (x6.n.toNat)⟩⟩) (cH d8 d9 (hc_cl)) d7),j3 rfl,j0⟩
  refine g10 ?_;have hr:=hR.symm.trans (bWd (A:=(some ⟨g22,0,none⟩)) (q:=c14) (p:=⟨A18,c19,(bY x10.list (bT ((max x6.n (-x6.n)))) (-1)).1⟩) (V:=b.values) n7 n7 asd hx5 hcn hx11 asd n7 rfl ((if_neg af7).symm));subst hr;exact rs2 (⟨⟨(some ⟨g22,0,none⟩),c14,(b.sides.list.set 0 (⟨A18,c19,(bY x10.list (bT ((max x6.n (-x6.n)))) (-1)).1⟩:PolV))⟩,b.known,b.values⟩:TyV) ⟨(bZ (x:=⟨⟨(some ⟨g22,0,none⟩),c14,(b.sides.list.set 0 (⟨A18,c19,(bY x10.list (bT ((max x6.n (-x6.n)))) (-1)).1⟩:PolV))⟩,b.known,b.values⟩) (cH d7 d8 (hc_cl)) f9),j3 rfl,j0⟩
 refine g18 ?_;refine bM (t':=false) (decide_eq_false n7) ?_;refine g6 ?_;have hcn:=cnt0 (v:=x4.list) n7;have hnr: -16777216≤(0:Int)∧(0:Int)≤16777216:=o9
 refine g4 ?_;refine cP (z':= -(0:Int)) ah6 ?_;refine one ?_;refine cP (z':=max (0:Int) (-(0:Int))) (maxZ _ _) ?_;refine g8 ?_;obtain⟨x23,hx24⟩:=gx b.sides.list 0;refine ss (cF hT (k:=0) (cE e9) rfl rfl rfl rfl rfl rfl rfl n7) ?_;refine ss (j7 hT (dQ.knows (cE e9) (k:=0) (x:=x23) hx24 0)) ?_;refine one ?_;refine bC (dC (Has.each e8 (j4 hx24))) fun hpl25=>?_;refine j5 func118 (vH (p:=x23) (max (0:Int) (-(0:Int))) hpl25) ⟨(Has.each e8 (j4 hx24)),j0⟩ fun _=>?_;refine g3 ?_;refine jJ (fun hc71=>?_) fun hc71=>?_
 ·refine g9 ?_;have hr:=hR.symm.trans (ptT_d n7 n7 asd hx5 hcn hx24 asd);subst hr;exact rs2 (⟨a.sides,a.known,a.values⟩:TyV) ⟨(bZ (x:=⟨a.sides,a.known,a.values⟩) i7 f7),j3 rfl,j0⟩
 refine g6 ?_;refine j5 func114 (bAr b.sides.addr b.sides.cap b.sides.list n7) ⟨e9,j0⟩ fun⟨A26,c27⟩=>?_;refine bB (cQ b.sides.list) e8 ?_;refine g7 ?_;refine j5 func45 (jO ((max (0:Int) (-(0:Int))))) j0 fun⟨A28,c29⟩=>?_;refine g5 ?_
 rcases tk_cases tk with htk | htk
 ·subst htk;refine g9 ?_;refine bCl kT1 n7 fun g30 hg=>?_;subst hg;refine g4 ?_;refine ss (iX hT (k:=0) rfl rfl rfl rfl rfl rfl n7) ?_;refine fH hT (k:=0) (fo:=0) (y':=(⟨A28,c29,bT ((max (0:Int) (-(0:Int))))⟩:PolV)) kT1 rfl rfl rfl rfl rfl rfl rfl rfl rfl hx24 rfl ?_;refine g4 ?_;rw [show b.sides.list.length=(b.sides.list.set 0 (⟨A28,c29,bT ((max (0:Int) (-(0:Int))))⟩:PolV)).length from List.length_set.symm];refine bB (cQ (b.sides.list.set 0 (⟨A28,c29,bT ((max (0:Int) (-(0:Int))))⟩:PolV))) (bDh 0 d8 d7)<|bX .head fun hc_cl=>bE .head ?_;refine g5 ?_;refine jA (fun hc98=>?_) fun hc98=>?_
  ·refine cO ?_;have hcv:=ptT_le hb n7 asd hx24 asd;refine g12 ?_;refine dJ (fun hc101=>?_) fun hc101=>?_
   ·refine g6 ?_;refine cP (z':=((0:Int)+(b.values.list.length:Nat))) (bEm n7 n7) ?_;refine g8 ?_;refine bM (t':=false) (decide_eq_false n7) ?_;refine one ?_;refine bM (t':=false) o9 ?_;refine g7 ?_;have hkl:((0:Int)+(b.values.list.length:Nat)).toNat≤b.values.list.length:=n7
    refine ss (dO hT (k:=((0:Int)+(b.values.list.length:Nat)).toNat) rfl rfl rfl rfl rfl n7 n7) ?_;refine lX (v':= .slice (iE b.values.addr (((0:Int)+(b.values.list.length:Nat)).toNat) bS.size b.values.cap) (b.values.list.drop (((0:Int)+(b.values.list.length:Nat)).toNat)).length (b.values.cap-((0:Int)+(b.values.list.length:Nat)).toNat)) ac2<|bB (listF ⟨iE b.values.addr (((0:Int)+(b.values.list.length:Nat)).toNat) bS.size b.values.cap,b.values.cap-((0:Int)+(b.values.list.length:Nat)).toNat,b.values.list.drop (((0:Int)+(b.values.list.length:Nat)).toNat)⟩) (uJ f4 hc_bv hkl) ?_;refine g12 ?_;have hr:=hR.symm.trans (bVc (A:=(some ⟨g30,0,none⟩)) (q:=c27) (p:=⟨A28,c29,bT ((max (0:Int) (-(0:Int))))⟩) (V:=⟨iE b.values.addr (((0:Int)+(b.values.list.length:Nat)).toNat) bS.size b.values.cap,b.values.cap-((0:Int)+(b.values.list.length:Nat)).toNat,b.values.list.drop (((0:Int)+(b.values.list.length:Nat)).toNat)⟩) n7 n7 asd hx5 hcn hx24 asd rfl (((if_pos (show b.known=true from by assumption)).trans (cutT_d (k:=((0:Int)+(b.values.list.length:Nat)).toNat) (tk:=true) (n:=(0:Int)) (l:=b.values.list) (by rw [decide_eq_false n7];decide) (by split<;>omega))).symm));subst hr;exact rs2 (⟨⟨(some ⟨g30,0,none⟩),c27,(b.sides.list.set 0 (⟨A28,c29,bT ((max (0:Int) (-(0:Int))))⟩:PolV))⟩,b.known,⟨iE b.values.addr (((0:Int)+(b.values.list.length:Nat)).toNat) bS.size b.values.cap,b.values.cap-((0:Int)+(b.values.list.length:Nat)).toNat,b.values.list.drop (((0:Int)+(b.values.list.length:Nat)).toNat)⟩⟩:TyV) ⟨(bZ (x:=⟨⟨(some ⟨g30,0,none⟩),c27,(b.sides.list.set 0 (⟨A28,c29,bT ((max (0:Int) (-(0:Int))))⟩:PolV))⟩,b.known,⟨iE b.values.addr (((0:Int)+(b.values.list.length:Nat)).toNat) bS.size b.values.cap,b.values.cap-((0:Int)+(b.values.list.length:Nat)).toNat,b.values.list.drop (((0:Int)+(b.values.list.length:Nat)).toNat)⟩⟩) (cH d8 d9 (hc_cl)) d7),j3 rfl,j0⟩
   refine g7 ?_;refine bM (t':=true) (decide_eq_true n7) ?_;refine one ?_;refine bM (t':=true) o9 ?_;refine g7 ?_;have hkl:(0:Int).toNat≤b.values.list.length:=n7
   refine ss (mC hT (k:=(0:Int).toNat) rfl rfl rfl rfl rfl n7 n7) ?_;refine lX (v':= .slice b.values.addr (b.values.list.take ((0:Int).toNat)).length b.values.cap) ab9<|bB (listF ⟨b.values.addr,b.values.cap,b.values.list.take ((0:Int).toNat)⟩) (rA f4 hc_bv hkl) ?_;refine g12 ?_;have hr:=hR.symm.trans (bVc (A:=(some ⟨g30,0,none⟩)) (q:=c27) (p:=⟨A28,c29,bT ((max (0:Int) (-(0:Int))))⟩) (V:=⟨b.values.addr,b.values.cap,b.values.list.take ((0:Int).toNat)⟩) n7 n7 asd hx5 hcn hx24 asd rfl (((if_pos (show b.known=true from by assumption)).trans (cutT_t (k:=(0:Int).toNat) (tk:=true) (n:=(0:Int)) (l:=b.values.list) (decide_eq_true n7).symm (by split<;>omega))).symm));subst hr;exact rs2 (⟨⟨(some ⟨g30,0,none⟩),c27,(b.sides.list.set 0 (⟨A28,c29,bT ((max (0:Int) (-(0:Int))))⟩:PolV))⟩,b.known,⟨b.values.addr,b.values.cap,b.values.list.take ((0:Int).toNat)⟩⟩:TyV) ⟨(bZ (x:=⟨⟨(some ⟨g30,0,none⟩),c27,(b.sides.list.set 0 (⟨A28,c29,bT ((max (0:Int) (-(0:Int))))⟩:PolV))⟩,b.known,⟨b.values.addr,b.values.cap,b.values.list.take ((0:Int).toNat)⟩⟩) (cH d8 d9 (hc_cl)) d7),j3 rfl,j0⟩
  refine g10 ?_;have hr:=hR.symm.trans (bVc (A:=(some ⟨g30,0,none⟩)) (q:=c27) (p:=⟨A28,c29,bT ((max (0:Int) (-(0:Int))))⟩) (V:=b.values) n7 n7 asd hx5 hcn hx24 asd rfl ((if_neg af7).symm));subst hr;exact rs2 (⟨⟨(some ⟨g30,0,none⟩),c27,(b.sides.list.set 0 (⟨A28,c29,bT ((max (0:Int) (-(0:Int))))⟩:PolV))⟩,b.known,b.values⟩:TyV) ⟨(bZ (x:=⟨⟨(some ⟨g30,0,none⟩),c27,(b.sides.list.set 0 (⟨A28,c29,bT ((max (0:Int) (-(0:Int))))⟩:PolV))⟩,b.known,b.values⟩) (cH d7 d8 (hc_cl)) f4),j3 rfl,j0⟩
 subst htk;refine g15 ?_;refine ss (cF hT (k:=0) (cN kT1) rfl rfl rfl rfl rfl rfl rfl n7) ?_;refine ss (j7 hT (dQ.knows (cN kT1) (k:=0) (x:=x23) hx24 0)) ?_;refine one ?_;refine bC (dC (Has.each f3 (j4 hx24))) fun hpl33=>bC (dC d7) fun hql34=>?_;refine j5 func84 (bQs (p:=x23) (q:=⟨A28,c29,bT ((max (0:Int) (-(0:Int))))⟩) hpl33 hql34) ⟨(Has.each f3 (j4 hx24)),d7,j0⟩ fun⟨A31,c32⟩=>?_;refine g13 ?_;refine wG (fun hc91=>?_) fun hc91=>?_
 ·refine g9 ?_;have hr:=hR.symm.trans (ptT_e n7 n7 asd hx5 hcn hx24 asd asd);subst hr;exact rs2 (⟨a.sides,a.known,a.values⟩:TyV) ⟨(bZ (x:=⟨a.sides,a.known,a.values⟩) (Has.of (u8 (u8 mT0))) i7),j3 rfl,j0⟩
 refine g3 ?_;refine bCl kT1 n7 fun g35 hg=>?_;subst hg;refine g4 ?_;refine ss (iX hT (k:=0) rfl rfl rfl rfl rfl rfl n7) ?_;refine fH hT (k:=0) (fo:=0) (y':=(⟨A31,c32,(bY x23.list (bT ((max (0:Int) (-(0:Int))))) (-1)).1⟩:PolV)) kT1 rfl rfl rfl rfl rfl rfl rfl rfl rfl hx24 rfl ?_;refine g4 ?_;rw [show b.sides.list.length=(b.sides.list.set 0 (⟨A31,c32,(bY x23.list (bT ((max (0:Int) (-(0:Int))))) (-1)).1⟩:PolV)).length from List.length_set.symm];refine bB (cQ (b.sides.list.set 0 (⟨A31,c32,(bY x23.list (bT ((max (0:Int) (-(0:Int))))) (-1)).1⟩:PolV))) (bDh 0 d9 d7)<|bX .head fun hc_cl=>bE .head ?_;refine g5 ?_;refine jA (fun hc98=>?_) fun hc98=>?_
 ·refine cO ?_;have hcv:=ptT_le hb n7 asd hx24 asd;refine g12 ?_;refine dJ (fun hc101=>?_) fun hc101=>?_
  ·refine g6 ?_;refine cP (z':=((0:Int)+(b.values.list.length:Nat))) (bEm n7 n7) ?_;refine g8 ?_;refine bM (t':=false) (decide_eq_false n7) ?_;refine one ?_;refine bM (t':=true) o9 ?_;refine g7 ?_;have hkl:((0:Int)+(b.values.list.length:Nat)).toNat≤b.values.list.length:=n7
   refine ss (mC hT (k:=((0:Int)+(b.values.list.length:Nat)).toNat) rfl rfl rfl rfl rfl n7 n7) ?_;refine lX (v':= .slice b.values.addr (b.values.list.take (((0:Int)+(b.values.list.length:Nat)).toNat)).length b.values.cap) ab9<|bB (listF ⟨b.values.addr,b.values.cap,b.values.list.take (((0:Int)+(b.values.list.length:Nat)).toNat)⟩) (rA f5 hc_bv hkl) ?_;refine g12 ?_;have hr:=hR.symm.trans (bWd (A:=(some ⟨g35,0,none⟩)) (q:=c27) (p:=⟨A31,c32,(bY x23.list (bT ((max (0:Int) (-(0:Int))))) (-1)).1⟩) (V:=⟨b.values.addr,b.values.cap,b.values.list.take (((0:Int)+(b.values.list.length:Nat)).toNat)⟩) n7 n7 asd hx5 hcn hx24 asd n7 rfl (((if_pos (show b.known=true from by assumption)).trans (cutT_t (k:=((0:Int)+(b.values.list.length:Nat)).toNat) (tk:=false) (n:=(0:Int)) (l:=b.values.list) (decide_eq_false n7).symm (by split<;>omega))).symm));subst hr;exact rs2 (⟨⟨(some ⟨g35,0,none⟩),c27,(b.sides.list.set 0 (⟨A31,c32,(bY x23.list (bT ((max (0:Int) (-(0:Int))))) (-1)).1⟩:PolV))⟩,b.known,⟨b.values.addr,b.values.cap,b.values.list.take (((0:Int)+(b.values.list.length:Nat)).toNat)⟩⟩:TyV) ⟨(bZ (x:=⟨⟨(some ⟨g35,0,none⟩),c27,(b.sides.list.set 0 (⟨A31,c32,(bY x23.list (bT ((max (0:Int) (-(0:Int))))) (-1)).1⟩:PolV))⟩,b.known,⟨b.values.addr,b.values.cap,b.values.list.take (((0:Int)+(b.values.list.length:Nat)).toNat)⟩⟩) (cH d8 d9 (hc_cl)) d7),j3 rfl,j0⟩
  refine g7 ?_;refine bM (t':=true) (decide_eq_true n7) ?_;refine one ?_;refine bM (t':=false) o9 ?_;refine g7 ?_;have hkl:(0:Int).toNat≤b.values.list.length:=n7
  refine ss (dO hT (k:=(0:Int).toNat) rfl rfl rfl rfl rfl n7 n7) ?_;refine lX (v':= .slice (iE b.values.addr ((0:Int).toNat) bS.size b.values.cap) (b.values.list.drop ((0:Int).toNat)).length (b.values.cap-(0:Int).toNat)) ac2<|bB (listF ⟨iE b.values.addr ((0:Int).toNat) bS.size b.values.cap,b.values.cap-(0:Int).toNat,b.values.list.drop ((0:Int).toNat)⟩) (uJ f5 hc_bv hkl) ?_;refine g12 ?_;have hr:=hR.symm.trans (bWd (A:=(some ⟨g35,0,none⟩)) (q:=c27) (p:=⟨A31,c32,(bY x23.list (bT ((max (0:Int) (-(0:Int))))) (-1)).1⟩) (V:=⟨iE b.values.addr ((0:Int).toNat) bS.size b.values.cap,b.values.cap-(0:Int).toNat,b.values.list.drop ((0:Int).toNat)⟩) n7 n7 asd hx5 hcn hx24 asd n7 rfl (((if_pos (show b.known=true from by assumption)).trans (cutT_d (k:=(0:Int).toNat) (tk:=false) (n:=(0:Int)) (l:=b.values.list) (by rw [decide_eq_true n7];decide) (by split<;>omega))).symm));subst hr;exact rs2 (⟨⟨(some ⟨g35,0,none⟩),c27,(b.sides.list.set 0 (⟨A31,c32,(bY x23.list (bT ((max (0:Int) (-(0:Int))))) (-1)).1⟩:PolV))⟩,b.known,⟨iE b.values.addr ((0:Int).toNat) bS.size b.values.cap,b.values.cap-(0:Int).toNat,b.values.list.drop ((0:Int).toNat)⟩⟩:TyV) ⟨(bZ (x:=⟨⟨(some ⟨g35,0,none⟩),c27,(b.sides.list.set 0 (⟨A31,c32,(bY x23.list (bT ((max (0:Int) (-(0:Int))))) (-1)).1⟩:PolV))⟩,b.known,⟨iE b.values.addr ((0:Int).toNat) bS.size b.values.cap,b.values.cap-(0:Int).toNat,b.values.list.drop ((0:Int).toNat)⟩⟩) (cH d8 d9 (hc_cl)) d7),j3 rfl,j0⟩
 refine g10 ?_;have hr:=hR.symm.trans (bWd (A:=(some ⟨g35,0,none⟩)) (q:=c27) (p:=⟨A31,c32,(bY x23.list (bT ((max (0:Int) (-(0:Int))))) (-1)).1⟩) (V:=b.values) n7 n7 asd hx5 hcn hx24 asd n7 rfl ((if_neg af7).symm));subst hr;exact rs2 (⟨⟨(some ⟨g35,0,none⟩),c27,(b.sides.list.set 0 (⟨A31,c32,(bY x23.list (bT ((max (0:Int) (-(0:Int))))) (-1)).1⟩:PolV))⟩,b.known,b.values⟩:TyV) ⟨(bZ (x:=⟨⟨(some ⟨g35,0,none⟩),c27,(b.sides.list.set 0 (⟨A31,c32,(bY x23.list (bT ((max (0:Int) (-(0:Int))))) (-1)).1⟩:PolV))⟩,b.known,b.values⟩) (cH d7 d8 (hc_cl)) f5),j3 rfl,j0⟩
theorem addFn:PolFn 89 addO:=fun p q hp hq=>bAm p q hp hq
theorem bXi:PolFn 84 bBv:=fun p q hp hq=>bQs p q hp hq
theorem mulFn:PolFn 81 nJ:=fun p q hp hq=>bRi p q hp hq
theorem sD{t:TyP}(h:WfT t):t.values.length≤4:=by
 cases k:t.known
 ·rw [h.un k];decide
 ·exact(h.kn k).1
theorem bCi{t:TyP}(h:WfT t)(k:t.known=true)(hs:t.sides=[]):t.values.length=1:=by
 rcases (h.kn k).2 with h | h
 ·exact h.2
 ·rw [hs] at h;cases h
theorem bOn{t:TyP}(h:WfT t):EachOk ⟨[],true,[[]]⟩ t where
 la:=by simp
 lb:=Nat.le_trans (sD h) o9
 one:=fun _ _ _=>rfl
 two:=fun _ k e=>bCi h k e
 same:=fun _ _ e=>absurd rfl e
def bDx (S:List Pol)(p:Pol)(i:Nat):Prop:=lK (bT 1) S=lK p (S.drop i)
theorem bVu(S:List Pol):bDx S (bT 1) 0:=rfl
section
variable {l : List PolV} {p : Pol} {x : PolV} {i : Nat}
theorem rav_step(h:bDx (bJ l) p i)(hx:l[i]?=some x)(e:(nJ p x.list).2=0):bDx (bJ l) (nJ p x.list).1 (i+1):=by
 obtain⟨hi,ei⟩:=List.getElem?_eq_some_iff.1 (gD hx);unfold bDx at*;rw [h,List.drop_eq_getElem_cons hi,ei];exact if_neg ai3
theorem rav_bad(h:bDx (bJ l) p i)(hx:l[i]?=some x)(e:(nJ p x.list).2≠0):lK (bT 1) (bJ l)=none:=by
 obtain⟨hi,ei⟩:=List.getElem?_eq_some_iff.1 (gD hx);unfold bDx at*;rw [h,List.drop_eq_getElem_cons hi,ei];exact if_pos e
theorem rav_end(h:bDx (bJ l) p i)(hi:l.length≤i):lK (bT 1) (bJ l)=some p:=by
 unfold bDx at*;rw [h,List.drop_of_length_le ai8];rfl
end
theorem bTz(l:List PolV):bJ l.reverse=(bJ l).reverse:=List.map_reverse
section
variable {f : Int} {a : TyV}
theorem mo_a(h:f=32)(k:0<a.sides.list.length):fA f a.t=(a.t,90):=by
 unfold fA;rw [if_pos h];exact if_pos (fE k)
theorem mo_b(h:f=32)(k:a.sides.list.length=0)(g:a.known=false):fA f a.t=(a.t,92):=by
 unfold fA;rw [if_pos h,if_neg (show ¬a.t.sides≠[] from fun e=>e (dI k))];exact if_pos g
theorem mo_c{x:PolV}(h:f=32)(k:a.sides.list.length=0)(g:a.known=true)(hx:a.values.list[0]?=some x)(e:fS x.list=false):fA f a.t=(a.t,93):=by
 have hx':a.t.values.headD []=x.list:=iZ hx;unfold fA;rw [if_pos h,if_neg (show ¬a.t.sides≠[] from fun e=>e (dI k)),if_neg (show ¬a.t.known=false by show ¬a.known=false;simp [g]),hx',if_pos e]
theorem mo_d{x:PolV}(h:f=32)(k:a.sides.list.length=0)(g:a.known=true)(hx:a.values.list[0]?=some x)(e:fS x.list=true):fA f a.t=(⟨[x.list],false,[]⟩,0):=by
 have hx':a.t.values.headD []=x.list:=iZ hx;unfold fA;rw [if_pos h,if_neg (show ¬a.t.sides≠[] from fun e=>e (dI k)),if_neg (show ¬a.t.known=false by show ¬a.known=false;simp [g]),hx',if_neg ai3]
theorem mo_e(h:f=33):fA f a.t=(⟨[bT (a.sides.list.length:Nat)],true,bJ a.sides.list⟩,0):=by
 subst h;unfold fA;rw [if_neg (show ¬(33:Int)=32 by decide),if_pos rfl,show a.t.sides.length=a.sides.list.length from bF _];rfl
theorem mo_f(h:f=34)(e:lK (bT 1) (bJ a.sides.list)=none):fA f a.t=(a.t,95):=by
 subst h;unfold fA;rw [if_neg (show ¬(34:Int)=32 by decide),if_neg (show ¬(34:Int)=33 by decide),if_pos rfl,show lK (bT 1) a.t.sides=none from e]
theorem mo_g{p:Pol}(h:f=34)(e:lK (bT 1) (bJ a.sides.list)=some p):fA f a.t=(⟨[p],a.known,bJ a.values.list⟩,0):=by
 subst h;unfold fA;rw [if_neg (show ¬(34:Int)=32 by decide),if_neg (show ¬(34:Int)=33 by decide),if_pos rfl,show lK (bT 1) a.t.sides=some p from e];rfl
theorem mo_35:fA 35 a.t=(if a.t.sides≠[] then ⟨a.t.sides,a.t.known,a.t.values.reverse⟩ else a.t,0):=by
 unfold fA;rw [if_neg (show ¬(35:Int)=32 by decide),if_neg (show ¬(35:Int)=33 by decide),if_neg (show ¬(35:Int)=34 by decide),if_pos rfl]
theorem mo_h(h:f=35)(k:0<a.sides.list.length):fA f a.t=(⟨bJ a.sides.list,a.known,bJ a.values.list.reverse⟩,0):=by
 subst h;rw [mo_35,if_pos (show a.t.sides≠[] from fE k),bTz];rfl
theorem mo_i(h:f=35)(k:a.sides.list.length=0):fA f a.t=(a.t,0):=by
 subst h;rw [mo_35,if_neg (show ¬a.t.sides≠[] from fun e=>e (dI k))]
theorem mo_j(h:f=36):fA f a.t=(⟨bJ a.sides.list.reverse,a.known,bJ a.values.list⟩,0):=by
 subst h;unfold fA;rw [if_neg (show ¬(36:Int)=32 by decide),if_neg (show ¬(36:Int)=33 by decide),if_neg (show ¬(36:Int)=34 by decide),if_neg (show ¬(36:Int)=35 by decide),if_pos rfl,bTz];rfl
theorem mo_k(h:f=1):fA f a.t=(a.t,0):=by
 subst h;unfold fA;rw [if_neg (show ¬(1:Int)=32 by decide),if_neg (show ¬(1:Int)=33 by decide),if_neg (show ¬(1:Int)=34 by decide),if_neg (show ¬(1:Int)=35 by decide),if_neg (show ¬(1:Int)=36 by decide),if_pos rfl]
theorem mo_l{y:List PolV}{k:Bool}(h:f=2)(e:(bJ y,k)=lR (some bBv) ⟨[],true,[[]]⟩ a.t):fA f a.t=(⟨bJ a.sides.list,k,bJ y⟩,0):=by
 subst h;unfold fA;rw [if_neg (show ¬(2:Int)=32 by decide),if_neg (show ¬(2:Int)=33 by decide),if_neg (show ¬(2:Int)=34 by decide),if_neg (show ¬(2:Int)=35 by decide),if_neg (show ¬(2:Int)=36 by decide),if_neg (show ¬(2:Int)=1 by decide),if_pos rfl,←e];rfl
theorem mo_m(h1:f≠32)(h2:f≠33)(h3:f≠34)(h4:f≠35)(h5:f≠36)(h6:f≠1)(h7:f≠2):fA f a.t=(⟨bJ a.sides.list,false,[]⟩,0):=by
 unfold fA;rw [if_neg h1,if_neg h2,if_neg h3,if_neg h4,if_neg h5,if_neg h6,if_neg h7];rfl
end
theorem monT_spec(f:Int)(a:TyV)(ha:WfT a.t):cM prog 49 [.int .u8 f,.agg #[.slice a.sides.addr a.sides.list.length a.sides.cap,.bool a.known,.slice a.values.addr a.values.list.length a.values.cap]] [] [tyF a] (fun(x:TyV)=> .tuple #[tyC x,.int .i64 (fA f a.t).2]) (fun _=>[]) (fun(x:TyV)=>[tyF x,Fact.pure (x.t=(fA f a.t).1)]):=by
 have hT:=fK;have hsa:=bCd ha;have hva:=bTs ha;generalize hR:fA f a.t=r;refine k6 func49 ntmps49 ?_;intro β hM;refine cO<|bB (listF a.sides) (mA d7) ?_;refine cG a.sides mT0 fun hc_as=>bB (listF a.values) (mD e6)<|cG a.values mT0 fun hc_av=>?_;refine one ?_;refine j9 fun b1=>?_;refine j6 qV fun b2=>?_;refine g16 ?_;refine fN (fun hc14=>?_) fun hc14=>?_
 ·refine g11 ?_;refine dJ (fun hc16=>?_) fun hc16=>?_
  ·refine g12 ?_;have hr:=hR.symm.trans (mo_a asd n7);subst hr;exact rs2 (⟨a.sides,a.known,a.values⟩:TyV) ⟨(bZ (x:=⟨a.sides,a.known,a.values⟩) e8 d9),j3 rfl,j0⟩
  refine g8 ?_;refine jJ (fun hc22=>?_) fun hc22=>?_
  ·refine g12 ?_;have hr:=hR.symm.trans (mo_b asd n7 asd);subst hr;exact rs2 (⟨a.sides,a.known,a.values⟩:TyV) ⟨(bZ (x:=⟨a.sides,a.known,a.values⟩) e8 d9),j3 rfl,j0⟩
  refine cO ?_;have hv1:=wf_one ha asd n7;refine g3 ?_;obtain⟨x3,hx4⟩:=gx a.values.list 0;refine ss (ixs 0) ?_;refine ss (fL hx4 0) ?_;refine bC (dC (Has.each d7 (j4 hx4))) fun hpl5=>?_;refine j5 func66 (yD (p:=x3) hpl5) ⟨(Has.each d7 (j4 hx4)),j0⟩ fun _=>?_;refine g4 ?_;refine jJ (fun hc27=>?_) fun hc27=>?_
  ·refine g12 ?_;have hr:=hR.symm.trans (mo_c asd n7 asd hx4 (by simpa using (asd:(!fS _)=true)));subst hr;exact rs2 (⟨a.sides,a.known,a.values⟩:TyV) ⟨(bZ (x:=⟨a.sides,a.known,a.values⟩) e8 d9),j3 rfl,j0⟩
  refine g7 ?_;refine ss (ixs 0) ?_;refine ss (fL hx4 0) ?_;refine dA (m:=x3) rfl rfl rfl rfl rfl fun b6=>?_;refine bR (E:=bS) (xs:=[(x3:PolV)]) .head q7<|bE .head<|bB (cQ [(x3:PolV)]) (jH (Has.each d8 (j4 hx4))) ?_;refine j5 func46 (dE (some ⟨b6,0,none⟩) (1) 1) j0 fun _=>?_;refine g7 ?_;have hr:=hR.symm.trans (mo_d asd n7 asd hx4 (by simpa using (asd:(!fS _)=false)));subst hr;exact rs2 (⟨⟨(some ⟨b6,0,none⟩),1,[(x3:PolV)]⟩,false,⟨none,0,[]⟩⟩:TyV) ⟨(bZ (x:=⟨⟨(some ⟨b6,0,none⟩),1,[(x3:PolV)]⟩,false,⟨none,0,[]⟩⟩) (cH d8 d7 (Nat.le_refl 1)) cL),j3 rfl,j0⟩
 refine g6 ?_;refine fN (fun hc41=>?_) fun hc41=>?_
 ·refine cO<|bU _ _ [(true,0),(true,1),(true,2),(true,5),(true,6),(false,3),(false,4),(false,7),(false,8),(true,9)] bV o5 (.c1 .nil) bA.self ?_;refine g6 ?_;refine j5 func45 (jO (((a.sides.list.length:Nat):Int))) j0 fun⟨A7,c8⟩=>?_;refine g2 ?_;refine dA (m:=⟨A7,c8,bT (((a.sides.list.length:Nat):Int))⟩) rfl rfl rfl rfl rfl fun b9=>?_;refine bR (E:=bS) (xs:=[(⟨A7,c8,bT (((a.sides.list.length:Nat):Int))⟩:PolV)]) .head q7<|bE .head<|bB (cQ [(⟨A7,c8,bT (((a.sides.list.length:Nat):Int))⟩:PolV)]) (jH d8) ?_;refine g2 ?_;refine j5 func44 (jD (some ⟨b9,0,none⟩) a.sides.addr (1) (a.sides.list.length) 1 a.sides.cap) j0 fun _=>?_;refine g10 ?_;obtain rfl:=hR.symm.trans (mo_e asd);exact rs2 (⟨⟨(some ⟨b9,0,none⟩),1,[(⟨A7,c8,bT (((a.sides.list.length:Nat):Int))⟩:PolV)]⟩,true,a.sides⟩:TyV) ⟨(bZ (x:=⟨⟨(some ⟨b9,0,none⟩),1,[(⟨A7,c8,bT (((a.sides.list.length:Nat):Int))⟩:PolV)]⟩,true,a.sides⟩) (cH d8 d7 (Nat.le_refl 1)) f4),j3 rfl,j0⟩
 refine g6 ?_;refine fN (fun hc51=>?_) fun hc51=>?_
 ·refine g2 ?_;refine j5 func45 (jO (((1:Nat):Int))) j0 fun⟨A10,c11⟩=>?_;refine g13 ?_;refine cB (ι:=Nat×PolV) [(3,_),(4,_),(55,_),(56,_)] ⟨rfl,rfl,rfl,rfl,j0⟩ (fun⟨i,p⟩=>[(6,.slice p.addr p.list.length p.cap),(57,.int .i64 (i:Nat))]) (fun _=>[]) (fun⟨i,p⟩=>[Fact.pure (i≤a.sides.list.length∧bDx (bJ a.sides.list) p.list i),kT p]) (fun⟨i,p⟩=>a.sides.list.length-i) (0,⟨A10,c11,bT (((1:Nat):Int))⟩) ⟨rfl,rfl,j0⟩ .nil ⟨j3 (⟨n7,bVu _⟩),d7,j0⟩ ?_;rintro⟨i,p⟩;dsimp only;refine bC d7 fun hinv16=>?_;refine g6 ?_;refine dJ (fun hc58=>?_) fun hc58=>?_
  ·refine g6 ?_;obtain⟨x12,hx13⟩:=gx a.sides.list i;refine ss (ixs i) ?_;refine ss (fL hx13 0) ?_;refine g12 ?_;refine bC (dC d8) fun hpl16=>bC (dC (Has.each e9 (j4 hx13))) fun hql17=>?_;refine j5 func81 (bRi (p:=p) (q:=x12) hpl16 hql17) ⟨d8,(Has.each e9 (j4 hx13)),j0⟩ fun⟨A14,c15⟩=>?_;refine g13 ?_;refine wG (fun hc68=>?_) fun hc68=>?_
   ·refine g15 ?_;obtain rfl:=hR.symm.trans (mo_f asd (rav_bad hinv16.2 hx13 asd));exact rs2 (⟨a.sides,a.known,a.values⟩:TyV) ⟨(bZ (x:=⟨a.sides,a.known,a.values⟩) f5 e9),j3 rfl,j0⟩
   refine g5 ?_;refine inc (i+1) ?_;refine g3 ?_;exact bk2 (i+1,⟨A14,c15,(nJ p.list x12.list).1⟩) ⟨j3 (⟨by dsimp only;omega,rav_step hinv16.2 hx13 ac3⟩),d7,j0⟩
  refine g7 ?_;refine dA (m:=p) rfl rfl rfl rfl rfl fun b18=>?_;refine bR (E:=bS) (xs:=[(p:PolV)]) .head q7<|bE .head<|bB (cQ [(p:PolV)]) (jH d9) ?_;refine g13 ?_;have hr:=hR.symm.trans (mo_g asd (rav_end hinv16.2 n7));subst hr;exact rs2 (⟨⟨(some ⟨b18,0,none⟩),1,[(p:PolV)]⟩,a.known,a.values⟩:TyV) ⟨(bZ (x:=⟨⟨(some ⟨b18,0,none⟩),1,[(p:PolV)]⟩,a.known,a.values⟩) (cH d8 d7 (Nat.le_refl 1)) f3),j3 rfl,j0⟩
 refine g6 ?_;refine fN (fun hc74=>?_) fun hc74=>?_
 ·refine g8 ?_;refine dJ (fun hc79=>?_) fun hc79=>?_
  ·refine g3 ?_;refine j5 func82 (bOk a.values n7) ⟨d9,j0⟩ fun⟨A19,c20⟩=>?_;refine g13 ?_;have hr:=hR.symm.trans (mo_h asd n7);subst hr;exact rs2 (⟨a.sides,a.known,⟨A19,c20,a.values.list.reverse⟩⟩:TyV) ⟨(bZ (x:=⟨a.sides,a.known,⟨A19,c20,a.values.list.reverse⟩⟩) e9 d7),j3 rfl,j0⟩
  refine g11 ?_;have hr:=hR.symm.trans (mo_i asd n7);subst hr;exact rs2 (⟨a.sides,a.known,a.values⟩:TyV) ⟨(bZ (x:=⟨a.sides,a.known,a.values⟩) e8 d9),j3 rfl,j0⟩
 refine g6 ?_;refine fN (fun hc84=>?_) fun hc84=>?_
 ·refine g3 ?_;refine j5 func82 (bOk a.sides n7) ⟨e8,j0⟩ fun⟨A21,c22⟩=>?_;refine g13 ?_;obtain rfl:=hR.symm.trans (mo_j asd);exact rs2 (⟨⟨A21,c22,a.sides.list.reverse⟩,a.known,a.values⟩:TyV) ⟨(bZ (x:=⟨⟨A21,c22,a.sides.list.reverse⟩,a.known,a.values⟩) d7 e6),j3 rfl,j0⟩
 refine g6 ?_;refine fN (fun hc90=>?_) fun hc90=>?_
 ·refine g11 ?_;obtain rfl:=hR.symm.trans (mo_k asd);exact rs2 (⟨a.sides,a.known,a.values⟩:TyV) ⟨(bZ (x:=⟨a.sides,a.known,a.values⟩) e8 d9),j3 rfl,j0⟩
 refine g6 ?_;refine fN (fun hc92=>?_) fun hc92=>?_
 ·refine mV _ _ (.two 0 2 (.two 1 2 (.op 2 (.op 3 (.fl 4 (.fl 5 (.fl 6 (.fl 7 (.op 8 (.fl 9 (.op 10 .nil))))))))) (.op 1 (.op 3 (.fl 4 (.fl 5 (.fl 6 (.fl 7 (.op 8 (.fl 9 (.op 10 .nil)))))))))) (.op 0 (.op 1 (.op 3 (.fl 4 (.fl 5 (.fl 6 (.fl 7 (.op 8 (.fl 9 (.op 10 .nil))))))))))) bV o5 (.c0 .nil) bA.self ?_;refine jP (o:=_) (o':=_) rfl rfl ?_ ?_
  ·refine dA (m:=⟨none,0,[]⟩) rfl rfl rfl rfl rfl fun b23=>?_;refine bR (E:=bS) (xs:=[(⟨none,0,[]⟩:PolV)]) .head q7<|bE .head<|bB (cQ [(⟨none,0,[]⟩:PolV)]) (jH iP) ?_;refine one ?_;refine jP (o:=_) (o':=_) rfl rfl ?_ ?_
   ·refine j5 func44 (jD none (some ⟨b23,0,none⟩) (0) (1) 0 1) j0 fun _=>?_;refine g5 ?_;refine j5 func83 (jK 84 bBv (bO func84 rfl rfl) bXi (⟨⟨none,0,[]⟩,true,⟨(some ⟨b23,0,none⟩),1,[(⟨none,0,[]⟩:PolV)]⟩⟩:TyV) a (bOn ha)) ⟨(bZ (x:=⟨⟨none,0,[]⟩,true,⟨(some ⟨b23,0,none⟩),1,[(⟨none,0,[]⟩:PolV)]⟩⟩) cL (cH d8 d7 (Nat.le_refl 1))),f4,j0⟩ fun y24=>?_;refine bC d8 fun hE=>?_;refine g23 ?_;obtain rfl:=hR.symm.trans (mo_l asd hE);exact rs2 (⟨a.sides,y24.k,y24.l⟩:TyV) ⟨(bZ (x:=⟨a.sides,y24.k,y24.l⟩) f5 d7),j3 rfl,j0⟩
   refine g3 ?_;refine j5 func44 (jD none (some ⟨b23,0,none⟩) (0) (1) 0 1) j0 fun _=>?_;refine g2 ?_;refine j5 func83 (jK 84 bBv (bO func84 rfl rfl) bXi (⟨⟨none,0,[]⟩,true,⟨(some ⟨b23,0,none⟩),1,[(⟨none,0,[]⟩:PolV)]⟩⟩:TyV) a (bOn ha)) ⟨(bZ (x:=⟨⟨none,0,[]⟩,true,⟨(some ⟨b23,0,none⟩),1,[(⟨none,0,[]⟩:PolV)]⟩⟩) cL (cH d8 d7 (Nat.le_refl 1))),f4,j0⟩ fun y25=>?_;refine bC d8 fun hE=>?_;refine g23 ?_;obtain rfl:=hR.symm.trans (mo_l asd hE);exact rs2 (⟨a.sides,y25.k,y25.l⟩:TyV) ⟨(bZ (x:=⟨a.sides,y25.k,y25.l⟩) f5 d7),j3 rfl,j0⟩
  refine g3 ?_;refine dA (m:=⟨none,0,[]⟩) rfl rfl rfl rfl rfl fun b26=>?_;refine bR (E:=bS) (xs:=[(⟨none,0,[]⟩:PolV)]) .head q7<|bE .head<|bB (cQ [(⟨none,0,[]⟩:PolV)]) (jH iP) ?_;refine g2 ?_;refine j5 func44 (jD none (some ⟨b26,0,none⟩) (0) (1) 0 1) j0 fun _=>?_;refine g2 ?_;refine j5 func83 (jK 84 bBv (bO func84 rfl rfl) bXi (⟨⟨none,0,[]⟩,true,⟨(some ⟨b26,0,none⟩),1,[(⟨none,0,[]⟩:PolV)]⟩⟩:TyV) a (bOn ha)) ⟨(bZ (x:=⟨⟨none,0,[]⟩,true,⟨(some ⟨b26,0,none⟩),1,[(⟨none,0,[]⟩:PolV)]⟩⟩) cL (cH d8 d7 (Nat.le_refl 1))),f4,j0⟩ fun y27=>?_;refine bC d8 fun hE=>?_;refine g23 ?_;obtain rfl:=hR.symm.trans (mo_l asd hE);exact rs2 (⟨a.sides,y27.k,y27.l⟩:TyV) ⟨(bZ (x:=⟨a.sides,y27.k,y27.l⟩) f5 d7),j3 rfl,j0⟩
 refine g4 ?_;refine j5 func46 (dE a.sides.addr (a.sides.list.length) a.sides.cap) j0 fun _=>?_;refine g7 ?_;obtain rfl:=hR.symm.trans (mo_m asd asd asd asd asd asd asd);exact rs2 (⟨a.sides,false,⟨none,0,[]⟩⟩:TyV) ⟨(bZ (x:=⟨a.sides,false,⟨none,0,[]⟩⟩) e8 cL),j3 rfl,j0⟩
theorem numT_inj{j k:Nat}(hj:j≤4)(hk:k≤4)(h:bT (j:Nat)=bT (k:Nat)):j=k:=by
 have e: ∀n:Nat,n≤4→bT (n:Nat)=if n=0 then [] else [bAl n]:=fun n hn=>by
  unfold bT iN
  by_cases h0:n=0
  ·subst h0;rfl
  ·rw [if_neg n7,if_neg n7,if_neg h0]
 rw [e j hj,e k hk] at h;split at h<;>split at h<;>simp [bAl] at h<;>omega
theorem qG{a b:TyP}(ha:WfT a)(hb:WfT b)(h:a.sides=[]∨b.sides=[]∨a.sides=b.sides):EachOk a b where
 la:=Nat.le_trans (sD ha) o9
 lb:=Nat.le_trans (sD hb) o9
 one:=fun k _ e=>bCi ha k e
 two:=fun _ k e=>bCi hb k e
 same:=fun k l e g=>by
  rcases h with h | h | h
  ·exact absurd h e
  ·exact absurd h g
  ·rcases (ha.kn k).2 with x | x
   ·exact absurd x.1 e
   ·rcases (hb.kn l).2 with y | y
    ·exact absurd y.1 g
    ·rw [x,y] at h;exact numT_inj (sD ha) (sD hb) (List.cons.inj h).1
theorem op_none{f:Int}(h1:f≠1)(h2:f≠2)(h3:f≠3):xF f=none:=by
 unfold xF;rw [if_neg h1,if_neg h2,if_neg h3]
theorem op_1{f:Int}(h:f=1):xF f=some addO:=by rw [h];rfl
theorem op_2{f:Int}(h:f=2):xF f=some bBv:=by rw [h];rfl
theorem op_3{f:Int}(h:f=3):xF f=some nJ:=by rw [h];rfl
section
variable {f : Int} {a b : TyV}
theorem dy_a(h:f=37):kI f a.t b.t=bBj a.t b.t:=by rw [h];rfl
theorem dy_b(h:f=38):kI f a.t b.t=kO true a.t b.t:=by rw [h];rfl
theorem dy_c(h:f=39):kI f a.t b.t=kO false a.t b.t:=by rw [h];rfl
theorem dy_d(h:f=40):kI f a.t b.t=bAs a.t b.t:=by rw [h];rfl
theorem dy_e(h1:f≠37)(h2:f≠38)(h3:f≠39)(h4:f≠40)(ha:0<a.sides.list.length)(hb:0<b.sides.list.length)(h:bJ a.sides.list≠bJ b.sides.list):kI f a.t b.t=(⟨bJ a.sides.list,false,[]⟩,91):=by
 unfold kI;rw [if_neg h1,if_neg h2,if_neg h3,if_neg h4];exact if_pos ⟨fE ha,fE hb,h⟩
theorem dy_f{op:Option pF}{y:List PolV}{k:Bool}(ho:xF f=op)(h1:f≠37)(h2:f≠38)(h3:f≠39)(h4:f≠40)(ha:a.sides.list.length=0)(e:(bJ y,k)=lR op a.t b.t):kI f a.t b.t=(⟨bJ b.sides.list,k,bJ y⟩,0):=by
 unfold kI;rw [if_neg h1,if_neg h2,if_neg h3,if_neg h4,if_neg (show ¬(a.t.sides≠[]∧b.t.sides≠[]∧a.t.sides≠b.t.sides) from fun h=>h.1 (dI ha)),if_pos (show a.t.sides=[] from dI ha),ho,←e];rfl
theorem dy_g{op:Option pF}{y:List PolV}{k:Bool}(ho:xF f=op)(h1:f≠37)(h2:f≠38)(h3:f≠39)(h4:f≠40)(ha:0<a.sides.list.length)(h:b.sides.list.length=0∨bJ a.sides.list=bJ b.sides.list)(e:(bJ y,k)=lR op a.t b.t):kI f a.t b.t=(⟨bJ a.sides.list,k,bJ y⟩,0):=by
 unfold kI;rw [if_neg h1,if_neg h2,if_neg h3,if_neg h4,if_neg (show ¬(a.t.sides≠[]∧b.t.sides≠[]∧a.t.sides≠b.t.sides) from fun g=>h.elim (fun h=>g.2.1 (dI h)) (fun h=>g.2.2 h)),if_neg (show ¬a.t.sides=[] from fE ha),ho,←e];rfl
end
theorem dyT_spec(f:Int)(a b:TyV)(ha:WfT a.t)(hb:WfT b.t):cM prog 50 [.int .u8 f,.agg #[.slice a.sides.addr a.sides.list.length a.sides.cap,.bool a.known,.slice a.values.addr a.values.list.length a.values.cap],.agg #[.slice b.sides.addr b.sides.list.length b.sides.cap,.bool b.known,.slice b.values.addr b.values.list.length b.values.cap]] [] [tyF a,tyF b] (fun(x:TyV)=> .tuple #[tyC x,.int .i64 (kI f a.t b.t).2]) (fun _=>[]) (fun(x:TyV)=>[tyF x,Fact.pure (x.t=(kI f a.t b.t).1)]):=by
 have hT:=fK;have hsa:=bCd ha;have hva:=bTs ha;have hsb:=bCd hb;have hvb:=bTs hb;generalize hR:kI f a.t b.t=r;refine k6 func50 ntmps50 ?_;intro β hM;refine cO<|bB (listF a.sides) (mA d7) ?_;refine cG a.sides mT0 fun hc_as=>bB (listF a.values) (mD e6)<|cG a.values mT0 fun hc_av=>bB (listF b.sides) (mA f3)<|cG b.sides mT0 fun hc_bs=>bB (listF b.values) (mD f7)<|cG b.values mT0 fun hc_bv=>?_;refine one ?_;refine j9 fun b1=>?_;refine j9 fun b2=>?_;refine j6 qV fun b3=>?_;refine g16 ?_;refine fN (fun hc11=>?_) fun hc11=>?_
 ·refine g4 ?_;refine j5 func85 (rhoT_spec a b ha hb) ⟨i6,i7,j0⟩ fun y4=>?_;refine bC d8 fun hy=>?_;refine g9 ?_;obtain rfl:=hR.symm.trans (dy_a asd);exact rs2 (y4:TyV) ⟨d7,j3 hy,j0⟩
 refine g7 ?_;refine fN (fun hc18=>?_) fun hc18=>?_
 ·refine bM (t':=true) asd ?_;refine g7 ?_;refine bM (t':=true) (by rw [hc18];rfl) ?_;refine g2 ?_;refine j5 func86 (bRd true a b ha hb) ⟨i6,i7,j0⟩ fun y5=>?_;refine bC d8 fun hy=>?_;refine g9 ?_;obtain rfl:=hR.symm.trans (dy_b asd);exact rs2 (y5:TyV) ⟨d7,j3 hy,j0⟩
 refine g5 ?_;refine fN (fun hc18_6=>?_) fun hc18_6=>?_
 ·refine bM (t':=true) asd ?_;refine g4 ?_;refine bM (t':=false) (by rw [hc18_6];rfl) ?_;refine g2 ?_;refine j5 func86 (bRd false a b ha hb) ⟨i6,i7,j0⟩ fun y7=>?_;refine bC d8 fun hy=>?_;refine g9 ?_;obtain rfl:=hR.symm.trans (dy_c asd);exact rs2 (y7:TyV) ⟨d7,j3 hy,j0⟩
 refine g6 ?_;refine fN (fun hc28=>?_) fun hc28=>?_
 ·refine g4 ?_;refine j5 func87 (catT_spec a b ha hb) ⟨i6,i7,j0⟩ fun y8=>?_;refine bC d8 fun hy=>?_;refine g9 ?_;obtain rfl:=hR.symm.trans (dy_d asd);exact rs2 (y8:TyV) ⟨d7,j3 hy,j0⟩
 refine g7 ?_;refine j5 func46 (dE a.sides.addr (a.sides.list.length) a.sides.cap) j0 fun _=>?_;refine j6 qV fun b9=>?_;refine g14 ?_;refine fN (fun hc38=>?_) fun hc38=>?_
 ·refine g3 ?_;refine j5 func46 (dE b.sides.addr (b.sides.list.length) b.sides.cap) j0 fun _=>?_;refine g22 ?_;refine fN (fun hc61=>?_) fun hc61=>?_
  ·refine g10 ?_;refine j5 func83 (jK 89 addO (bO func89 rfl rfl) addFn a b (qG ha hb (.inl (dI n7)))) ⟨i6,i7,j0⟩ fun y10=>?_;refine bC d8 fun hE=>?_;refine g17 ?_;have hr:=hR.symm.trans (dy_f (op_1 asd) asd asd asd asd n7 hE);subst hr;exact rs2 (⟨b.sides,y10.k,y10.l⟩:TyV) ⟨(bZ (x:=⟨b.sides,y10.k,y10.l⟩) f3 d7),j3 rfl,j0⟩
  refine g6 ?_;refine fN (fun hc63=>?_) fun hc63=>?_
  ·refine g10 ?_;refine j5 func83 (jK 84 bBv (bO func84 rfl rfl) bXi a b (qG ha hb (.inl (dI n7)))) ⟨i6,i7,j0⟩ fun y11=>?_;refine bC d8 fun hE=>?_;refine g17 ?_;have hr:=hR.symm.trans (dy_f (op_2 asd) asd asd asd asd n7 hE);subst hr;exact rs2 (⟨b.sides,y11.k,y11.l⟩:TyV) ⟨(bZ (x:=⟨b.sides,y11.k,y11.l⟩) f3 d7),j3 rfl,j0⟩
  refine g6 ?_;refine fN (fun hc65=>?_) fun hc65=>?_
  ·refine g10 ?_;refine j5 func83 (jK 81 nJ (bO func81 rfl rfl) mulFn a b (qG ha hb (.inl (dI n7)))) ⟨i6,i7,j0⟩ fun y12=>?_;refine bC d8 fun hE=>?_;refine g17 ?_;have hr:=hR.symm.trans (dy_f (op_3 asd) asd asd asd asd n7 hE);subst hr;exact rs2 (⟨b.sides,y12.k,y12.l⟩:TyV) ⟨(bZ (x:=⟨b.sides,y12.k,y12.l⟩) f3 d7),j3 rfl,j0⟩
  refine g8 ?_;refine j5 func83 (bEu a b) j0 fun y13=>?_;refine bC d8 fun hE=>?_;refine g17 ?_;have hr:=hR.symm.trans (dy_f (op_none asd asd asd) asd asd asd asd n7 hE);subst hr;exact rs2 (⟨b.sides,y13.k,y13.l⟩:TyV) ⟨(bZ (x:=⟨b.sides,y13.k,y13.l⟩) f3 d7),j3 rfl,j0⟩
 refine g7 ?_;refine jX (fun hg51=>?_) fun hg51=>?_
 ·refine g4 ?_;refine j5 func88 (uQ a.sides.addr b.sides.addr a.sides.cap b.sides.cap a.sides.list b.sides.list n7) ⟨f7,f5,e7,e6,j0⟩ fun _=>?_;refine g5 ?_;refine jJ (fun hc46=>?_) fun hc46=>?_
  ·refine g10 ?_;have hr:=hR.symm.trans (dy_e asd asd asd asd n7 n7 (nd_t asd));subst hr;exact rs2 (⟨a.sides,false,⟨none,0,[]⟩⟩:TyV) ⟨(bZ (x:=⟨a.sides,false,⟨none,0,[]⟩⟩) f9 cL),j3 rfl,j0⟩
  refine g21 ?_;refine fN (fun hc61=>?_) fun hc61=>?_
  ·refine g10 ?_;refine j5 func83 (jK 89 addO (bO func89 rfl rfl) addFn a b (qG ha hb (.inr (.inr (rZ asd))))) ⟨i6,i7,j0⟩ fun y14=>?_;refine bC d8 fun hE=>?_;refine g17 ?_;have hr:=hR.symm.trans (dy_g (op_1 asd) asd asd asd asd n7 (.inr (rZ asd)) hE);subst hr;exact rs2 (⟨a.sides,y14.k,y14.l⟩:TyV) ⟨(bZ (x:=⟨a.sides,y14.k,y14.l⟩) i7 d7),j3 rfl,j0⟩
  refine g6 ?_;refine fN (fun hc63=>?_) fun hc63=>?_
  ·refine g10 ?_;refine j5 func83 (jK 84 bBv (bO func84 rfl rfl) bXi a b (qG ha hb (.inr (.inr (rZ asd))))) ⟨i6,i7,j0⟩ fun y15=>?_;refine bC d8 fun hE=>?_;refine g17 ?_;have hr:=hR.symm.trans (dy_g (op_2 asd) asd asd asd asd n7 (.inr (rZ asd)) hE);subst hr;exact rs2 (⟨a.sides,y15.k,y15.l⟩:TyV) ⟨(bZ (x:=⟨a.sides,y15.k,y15.l⟩) i7 d7),j3 rfl,j0⟩
  refine g6 ?_;refine fN (fun hc65=>?_) fun hc65=>?_
  ·refine g10 ?_;refine j5 func83 (jK 81 nJ (bO func81 rfl rfl) mulFn a b (qG ha hb (.inr (.inr (rZ asd))))) ⟨i6,i7,j0⟩ fun y16=>?_;refine bC d8 fun hE=>?_;refine g17 ?_;have hr:=hR.symm.trans (dy_g (op_3 asd) asd asd asd asd n7 (.inr (rZ asd)) hE);subst hr;exact rs2 (⟨a.sides,y16.k,y16.l⟩:TyV) ⟨(bZ (x:=⟨a.sides,y16.k,y16.l⟩) i7 d7),j3 rfl,j0⟩
  refine g8 ?_;refine j5 func83 (bEu a b) j0 fun y17=>?_;refine bC d8 fun hE=>?_;refine g17 ?_;have hr:=hR.symm.trans (dy_g (op_none asd asd asd) asd asd asd asd n7 (.inr (rZ asd)) hE);subst hr;exact rs2 (⟨a.sides,y17.k,y17.l⟩:TyV) ⟨(bZ (x:=⟨a.sides,y17.k,y17.l⟩) i7 d7),j3 rfl,j0⟩
 refine g32 ?_;refine fN (fun hc61=>?_) fun hc61=>?_
 ·refine g10 ?_;refine j5 func83 (jK 89 addO (bO func89 rfl rfl) addFn a b (qG ha hb (.inr (.inl (dI n7))))) ⟨i6,i7,j0⟩ fun y18=>?_;refine bC d8 fun hE=>?_;refine g17 ?_;have hr:=hR.symm.trans (dy_g (op_1 asd) asd asd asd asd n7 (.inl n7) hE);subst hr;exact rs2 (⟨a.sides,y18.k,y18.l⟩:TyV) ⟨(bZ (x:=⟨a.sides,y18.k,y18.l⟩) i7 d7),j3 rfl,j0⟩
 refine g6 ?_;refine fN (fun hc63=>?_) fun hc63=>?_
 ·refine g10 ?_;refine j5 func83 (jK 84 bBv (bO func84 rfl rfl) bXi a b (qG ha hb (.inr (.inl (dI n7))))) ⟨i6,i7,j0⟩ fun y19=>?_;refine bC d8 fun hE=>?_;refine g17 ?_;have hr:=hR.symm.trans (dy_g (op_2 asd) asd asd asd asd n7 (.inl n7) hE);subst hr;exact rs2 (⟨a.sides,y19.k,y19.l⟩:TyV) ⟨(bZ (x:=⟨a.sides,y19.k,y19.l⟩) i7 d7),j3 rfl,j0⟩
 refine g6 ?_;refine fN (fun hc65=>?_) fun hc65=>?_
 ·refine g10 ?_;refine j5 func83 (jK 81 nJ (bO func81 rfl rfl) mulFn a b (qG ha hb (.inr (.inl (dI n7))))) ⟨i6,i7,j0⟩ fun y20=>?_;refine bC d8 fun hE=>?_;refine g17 ?_;have hr:=hR.symm.trans (dy_g (op_3 asd) asd asd asd asd n7 (.inl n7) hE);subst hr;exact rs2 (⟨a.sides,y20.k,y20.l⟩:TyV) ⟨(bZ (x:=⟨a.sides,y20.k,y20.l⟩) i7 d7),j3 rfl,j0⟩
 refine g8 ?_;refine j5 func83 (bEu a b) j0 fun y21=>?_;refine bC d8 fun hE=>?_;refine g17 ?_;have hr:=hR.symm.trans (dy_g (op_none asd asd asd) asd asd asd asd n7 (.inl n7) hE);subst hr;exact rs2 (⟨a.sides,y21.k,y21.l⟩:TyV) ⟨(bZ (x:=⟨a.sides,y21.k,y21.l⟩) i7 d7),j3 rfl,j0⟩
section
variable {P : Program} {β : dF} {n : Nat} {Γ : Env} {H : List bH} {F : List Fact} {Q : Exit → Act → World → Prop} {K : Act → World → Prop}
theorem Perm.last{A B:List bH}:(A++B).Perm (B++A):=List.perm_append_comm
theorem all_set{xs:List (Sl Int)}{x y:Sl Int}{i:Nat}(h:xs[i]?=some x)(h1:y.addr=x.addr)(h2:y.cap=x.cap)(h3:y.list.length=x.list.length):bXw.all (xs.set i y)=bXw.all xs:=by
 have e:bXw.cells y=bXw.cells x:=by
  show [Value.slice y.addr y.list.length y.cap]=[Value.slice x.addr x.list.length x.cap];rw [h1,h2,h3]
 unfold Flat.all;rw [List.flatMap_def,List.flatMap_def,List.map_set,e]
 congr 1
 have hx:(xs.map bXw.cells)[i]?=some (bXw.cells x):=by rw [List.getElem?_map,h];rfl
 obtain⟨hlt,e2⟩:=List.getElem?_eq_some_iff.1 hx;rw [←e2];exact List.set_getElem_self hlt
end
def lL:List cT→Nat→Option Nat
 | [],n=>some n
 | x::r,n=>if dG x≤n∧1≤x.how∧x.how≤7∧(x.how=1→x.nums≠[]∧x.nums.length≤65536) then lL r (n-dG x+1) else none
theorem tU{x:cT}(h:x.how=1∨x.how=2):dG x=0:=by
 unfold dG;rw [if_neg n7,if_neg n7]
theorem qB{x:cT}(h:x.how=4∨x.how=7):dG x=2:=by
 unfold dG;rw [if_neg n7,if_pos h]
theorem oF{x:cT}(h:x.how=3∨x.how=5∨x.how=6):dG x=1:=by
 unfold dG;rw [if_pos h]
theorem step_depth{st st':List fC}{x:cT}(h:iF st x=some st'):dG x≤st.length∧st'.length=st.length-dG x+1∧1≤x.how∧x.how≤7∧(x.how=1→x.nums≠[]∧x.nums.length≤65536):=by
 unfold iF at h;split at h
 ·rename_i hh;rw [tU hh]
  cases ho:operandS x with
  | none=>simp [ho] at h
  | some p=>
   simp only [ho,Option.map_some,Option.some.injEq] at h;subst h;refine⟨n7,o6,n7,n7,fun h1=>?_⟩;unfold operandS at ho;rw [if_neg n7] at ho;split at ho
   ·cases ho
   ·rename_i hb;simp only [not_or,ne_eq,Classical.not_not,Nat.not_lt] at hb;exact⟨hb.2.2.1,n7⟩
 ·split at h
  ·cases h
  ·rename_i h12 hk;simp only [not_or,Int.not_lt] at hk h12;unfold rK at h
   by_cases h2:x.how=4∨x.how=7
   ·have e:zR x.how=true:=by unfold zR;rcases h2 with h2 | h2<;>rw [h2]<;>rfl
    rw [if_pos e] at h;rw [qB h2]
    match st,h with
    | p::q::r,h=>
     simp only [Option.some.injEq] at h;subst h;exact⟨o6,o6,n7,n7,fun h1=>by omega⟩
    | [p],h=>cases h
    | [],h=>cases h
   ·have e:zR x.how=false:=by
     unfold zR;simp only [Bool.or_eq_false_iff,beq_eq_false_iff_ne,ne_eq];omega
    rw [if_neg (by rw [e];simp)] at h;rw [oF n7]
    match st,h with
    | p::r,h=>
     simp only [Option.some.injEq] at h;subst h;exact⟨o6,o6,n7,n7,fun h1=>by omega⟩
    | [],h=>cases h
theorem bLc: ∀{l:List cT} {st st':List fC},fT l st=some st'→lL l st.length=some st'.length
 | [],st,st',h=>by
  simp only [fT,Option.some.injEq] at h;subst h;rfl
 | x::l,st,st',h=>by
  rw [fT] at h
  cases h1:iF st x with
  | none=>rw [h1] at h;cases h
  | some s1=>
   rw [h1] at h;obtain⟨a,b,c,d,e⟩:=step_depth h1;rw [lL,if_pos ⟨a,c,d,e⟩,←b];exact bLc h
theorem bTc{l:List cT}{m:Nat}{t:Bs}(h:gH l m=some t):lL l 0=some 1:=by
 unfold gH at h;split at h
 ·cases h
 ·split at h
  ·rename_i hq;exact bLc (st:=[]) hq
  ·cases h
theorem bLr: ∀{ls:List mT} {o o':Bs},fB ls o=(o',true)→ ∀l∈ls,lL l.items 0=some 1
 | [],_,_,_,l,hl=>by simp at hl
 | [m],o,o',h,l,hl=>by
  rw [List.mem_singleton.1 hl];simp only [fB] at h
  cases hx:gH m.items 255 with
  | none=>rw [hx] at h;simp at h
  | some t=>exact bTc hx
 | m::n::ls,o,o',h,l,hl=>by
  have h':(match gH m.items 254 with
    | none=>(o,false)
    | some t=>if dD m.name=false then (o,false) else fB (n::ls) (o++(((m.name++[58,32])++t)++[10])))=(o',true):=h
  cases hx:gH m.items 254 with
  | none=>rw [hx] at h';simp at h'
  | some t=>
   rw [hx] at h';simp only at h';split at h'
   ·simp at h'
   ·rcases List.mem_cons.1 hl with rfl | hl
    ·exact bTc hx
    ·exact bLr h' l hl
theorem bBk{p:gN}(h:(cV p).2=true): ∀l∈p.lines,lL l.items 0=some 1:=by
 unfold cV at h;split at h
 ·cases h
 ·cases hi:mU p.inputs [] with
  | mk o b=>
   rw [hi] at h
   cases b with
   | false=>cases h
   | true=>exact bLr (o':=(fB p.lines o).1) (Prod.ext rfl h)
def bHn (N:bEh):Prop:= ∀p∈N,rightA p.2=true
theorem look_mem{k:Bs}{a:Arr}: ∀{N:bEh},look k N=some a→ ∃p∈N,p.2=a
 | [],h=>by cases h
 | p::r,h=>by
  unfold look at h;split at h
  ·injection h with h
   exact⟨p,List.mem_cons_self ..,h⟩
  ·obtain⟨q,hq,e⟩:=look_mem h;exact⟨q,List.mem_cons_of_mem _ hq,e⟩
theorem bHn.look{N:bEh}(h:bHn N){k:Bs}{a:Arr}(hk:look k N=some a):rightA a=true:=by
 obtain⟨p,hp,e⟩:=look_mem hk;rw [←e];exact h p hp
theorem bHn.cons{N:bEh}(h:bHn N){k:Bs}{a:Arr}(ha:rightA a=true):bHn ((k,a)::N):=fun p hp=>by
 rcases List.mem_cons.1 hp with rfl | hp
 ·exact ha
 ·exact h p hp
def nUnused:Bs:=[117,110,117,115,101,100]
def SameBut(N' N:bEh):Prop:= ∀k,k≠nUnused→look k N'=look k N
theorem SameBut.cons{N' N:bEh}(h:SameBut N' N)(s:Bs)(a:Arr):SameBut ((s,a)::N') ((s,a)::N):=fun k hk=>by
 unfold look;split
 ·rfl
 ·exact h k hk
end Go.Proofs.YtakphiannlpnfaaGreatDoor
