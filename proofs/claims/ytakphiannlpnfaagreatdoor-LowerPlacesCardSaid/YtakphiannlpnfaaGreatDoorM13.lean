/- Texts of one proof, one behind the other: PartT, MonT, DyT, Lanes, PrimA, PrimB, PrimC, PrimD, PrimE, PrimF, PrimG, MeanL, MeanU. -/
import Derived.Test.YtakphiannlpnfaaGreatDoorM2
import Derived.Test.YtakphiannlpnfaaGreatDoorM12
namespace Go.Proofs.YtakphiannlpnfaaGreatDoor
open Go.RowKit Go.Proofs.Tryz
set_option maxRecDepth 100000
theorem builtM_ne(z:Int)(a b c d e f:Value):prog.built 100 [(0,.int .i64 z),(1,.agg #[a,b,c,d,e,f])]=some #[.int .i64 z,a,b,c,d,e,f]:=n7
theorem at_one_mono{β:dG}{n:Nat}{Γ:Env}{H:List bI}{F:List Fact}{Q:Exit→Act→World→Prop}{ops:Array Oper}{rest:List Oper}{o:Oper}{d:Nat}{x:Operand}{m:Mono}(hw:want ops Γ o=some true)(ho:o.op= .buildSlice 47 1 #[(0,x)])(hd:o.dst=some d)(hn:Nat.blt d n=true)
  (hx:Γ.ev x=some (.agg #[.int .i64 m.n,.int .u8 m.e0.toNat,.int .u8 m.e1.toNat,.int .u8 m.e2.toNat,.int .u8 m.e3.toNat,.int .u8 m.e4.toNat,.int .u8 m.e5.toNat])) (k: ∀b,At β n ((d,.slice (some ⟨b,0,none⟩) 1 1)::Γ) (.obj b (.cells (mL.all [m]).toArray 100)::H) F (wpList prog ops Q rest)):At β n Γ H F (wpList prog ops Q (o::rest)):=by
 obtain⟨i,hi,hz,hs,_⟩:=monoI;refine gF hw ho hd hn hx underlying47 hi hz n0 n0 ?_ k;rw [hs]
 kernel_rfl
theorem polF_own{F:List Fact}{b:Nat}{m:Mono}(h:Has F (mL.sl (.slice (some ⟨b,0,none⟩) 1 1) [m])):Has F (kV ⟨some ⟨b,0,none⟩,1,[m]⟩):=h.and (j2 o3)
theorem tk_cases(t:Bool):t=true∨t=false:=by cases t<;>simp
theorem maxZ(a b:Int):(if b>a then b else a)=max a b:=by
 split<;>omega
theorem wf_one{a:TyV}(h:WfT a.t)(k:a.known=true)(hs:a.sides.list.length=0):a.values.list.length=1:=by
 have e:a.t.values.length=1:=by
  rcases (h.kn k).2 with h | h
  ·exact h.2
  ·have h:bK a.sides.list=_:=h;rw [dF hs] at h;cases h
 have e:(bK a.values.list).length=1:=e
 rwa [bF] at e
theorem wf_val{a:TyV}(h:WfT a.t){p:PolV}{i:Nat}(hp:a.values.list[i]?=some p):dR p.list=true:=h.vr _ (j3 (gC hp))
theorem right_n{p:List Mono}(h:dR p=true){i:Nat}{m:Mono}(hm:p[i]?=some m): -16777216≤m.n∧m.n≤16777216:=by
 simp only [dR,Bool.and_eq_true] at h;have:=vY h.2 m (j3 hm);simp only [xR,decide_eq_true_eq] at this;omega
theorem bKk{k:Nat}{n:Int}(h:gL (bT k) n=true):n≤k:=by
 unfold bT iE at h;split at h
 ·simp [gL] at h;omega
 ·split at h
  ·simp [gL] at h;omega
  ·simp [gL,num0] at h;omega
section
variable {v : List Mono} {m : Mono}
theorem cnt0(h:v.length=0):rM v=some 0:=by rw [List.length_eq_zero_iff.1 h];rfl
theorem cnt2(h:1<v.length):rM v=none:=by
 match v,h with
 | _::_::_,_=>rfl
theorem cnt1(h:v.length=1)(hm:v[0]?=some m)(c:gL [bMh m] 1=true):rM v=some m.n:=by
 match v,h with
 | [x],_=>
  simp at hm;subst hm;simp [rM,c]
theorem cnt1b(h:v.length=1)(hm:v[0]?=some m)(c:gL [bMh m] 1=false):rM v=none:=by
 match v,h with
 | [x],_=>
  simp at hm;subst hm;simp [rM,c]
end
theorem cutT_t{tk:Bool}{n:Int}{l:List PolV}{k:Nat}(h:tk=decide (0≤n))(hk:(k:Int)=if n<0 then n+l.length else n):xD tk n (bK l)=bK (l.take k):=by
 unfold xD;rw [if_pos h,bF,←hk,bOf];rfl
theorem cutT_d{tk:Bool}{n:Int}{l:List PolV}{k:Nat}(h:tk≠decide (0≤n))(hk:(k:Int)=if n<0 then n+l.length else n):xD tk n (bK l)=bK (l.drop k):=by
 unfold xD;rw [if_neg h,bF,←hk,oH];rfl
theorem bMs{l:List PolV}{y p:PolV}(h:l[0]?=some y):bK (l.set 0 p)=p.list::(bK l).tail:=by
 cases l with
 | nil=>simp at h
 | cons a l=>rfl
section
variable {F : List Fact} {l : Sl PolV} {k : Nat}
theorem qO(h:Has F (listF l))(hc:l.list.length≤l.cap)(hk:k≤l.list.length):Has F (listF ⟨l.addr,l.cap,l.list.take k⟩):=
 cG (by rw [List.length_take,Nat.min_eq_left hk];exact has_take (vV h) hk) (polsF_take k (bCq h)) (by rw [List.length_take];omega)
theorem sU(h:Has F (listF l))(hc:l.list.length≤l.cap)(hk:k≤l.list.length):Has F (listF ⟨gX l.addr k bP.size l.cap,l.cap-k,l.list.drop k⟩):=
 cG (by have:=kH (vV h) hc hk;rwa [←List.length_drop] at this) (iG k (bCq h)) ah4
theorem bAd{xs:List PolV}{p:PolV}(n:Nat)(h:Has F (cL xs))(hp:Has F (kV p)):Has F (cL (xs.set n p)):=fun S w k q hq=>by
 rcases List.mem_or_eq_of_mem_set hq with hq | rfl
 ·exact h S w k q hq
 ·exact hp S w k
end
section
variable {tk : Bool} {a b : TyV} {x y : PolV} {n : Int}
theorem ptT_a(h:0<a.sides.list.length∨b.sides.list.length=0):lX tk a.t b.t=(a.t,90):=by
 unfold lX;rw [if_pos]
 rcases h with h | h
 ·exact .inl (fD h)
 ·exact .inr (dF h)
theorem bGj(h:a.sides.list.length=0)(k:0<b.sides.list.length): ¬(a.t.sides≠[]∨b.t.sides=[]):=by
 rintro(e | e)
 ·exact e (dF h)
 ·exact fD k e
theorem ptT_b(h:a.sides.list.length=0)(k:0<b.sides.list.length)(g:a.known=false):lX tk a.t b.t=(a.t,92):=by
 unfold lX;rw [if_neg (bGj h k)];exact if_pos g
theorem ptT_c(h:a.sides.list.length=0)(k:0<b.sides.list.length)(g:a.known=true)(hx:a.values.list[0]?=some x)(hc:rM x.list=none):lX tk a.t b.t=(a.t,93):=by
 have hx':a.t.values.headD []=x.list:=iH hx;have g: ¬a.t.known=false:=by show ¬a.known=false;simp [g]
 unfold lX;rw [if_neg (bGj h k),if_neg g,hx',hc]
theorem ptT_d(h:a.sides.list.length=0)(k:0<b.sides.list.length)(g:a.known=true)(hx:a.values.list[0]?=some x)(hc:rM x.list=some n)(hy:b.sides.list[0]?=some y)(c:gL y.list (max n (-n))=false):lX tk a.t b.t=(a.t,93):=by
 have hx':a.t.values.headD []=x.list:=iH hx;have hy':b.t.sides.headD []=y.list:=iH hy;have g: ¬a.t.known=false:=by show ¬a.known=false;simp [g]
 unfold lX;rw [if_neg (bGj h k),if_neg g,hx',hc];dsimp only;rw [hy',if_pos c]
theorem ptT_e(h:a.sides.list.length=0)(k:0<b.sides.list.length)(g:a.known=true)(hx:a.values.list[0]?=some x)(hc:rM x.list=some n)(hy:b.sides.list[0]?=some y)(c:gL y.list (max n (-n))=true)(e:(cC y.list (bT (max n (-n))) (-1)).2≠0):lX false a.t b.t=(a.t,95):=by
 have hx':a.t.values.headD []=x.list:=iH hx;have hy':b.t.sides.headD []=y.list:=iH hy;have g: ¬a.t.known=false:=by show ¬a.known=false;simp [g]
 unfold lX;rw [if_neg (bGj h k),if_neg g,hx',hc];dsimp only;rw [hy',if_neg (by simp [c]),if_neg o3,if_pos e]
theorem bTb{A:Option Addr}{q:Nat}{p:PolV}{V:Sl PolV}(h:a.sides.list.length=0)(k:0<b.sides.list.length)(g:a.known=true)(hx:a.values.list[0]?=some x)(hc:rM x.list=some n)(hy:b.sides.list[0]?=some y)(c:gL y.list (max n (-n))=true)(hp:p.list=bT (max n (-n)))
  (hV:bK V.list=if b.known=true then xD true n (bK b.values.list) else bK b.values.list):lX true a.t b.t=((⟨⟨A,q,b.sides.list.set 0 p⟩,b.known,V⟩:TyV).t,0):=by
 have hx':a.t.values.headD []=x.list:=iH hx;have hy':b.t.sides.headD []=y.list:=iH hy;have g: ¬a.t.known=false:=by show ¬a.known=false;simp [g]
 unfold lX;rw [if_neg (bGj h k),if_neg g,hx',hc];dsimp only;rw [hy',if_neg (by simp [c]),if_pos rfl];show _=((⟨bK (b.sides.list.set 0 p),b.known,bK V.list⟩:TyP),(0:Int));rw [bMs hy,hp,hV];rfl
theorem bSm{A:Option Addr}{q:Nat}{p:PolV}{V:Sl PolV}(h:a.sides.list.length=0)(k:0<b.sides.list.length)(g:a.known=true)(hx:a.values.list[0]?=some x)(hc:rM x.list=some n)(hy:b.sides.list[0]?=some y)(c:gL y.list (max n (-n))=true)(e:(cC y.list (bT (max n (-n))) (-1)).2=0)(hp:p.list=(cC y.list (bT (max n (-n))) (-1)).1)
  (hV:bK V.list=if b.known=true then xD false n (bK b.values.list) else bK b.values.list):lX false a.t b.t=((⟨⟨A,q,b.sides.list.set 0 p⟩,b.known,V⟩:TyV).t,0):=by
 have hx':a.t.values.headD []=x.list:=iH hx;have hy':b.t.sides.headD []=y.list:=iH hy;have g: ¬a.t.known=false:=by show ¬a.known=false;simp [g]
 unfold lX;rw [if_neg (bGj h k),if_neg g,hx',hc];dsimp only;rw [hy',if_neg (by simp [c]),if_neg o3,if_neg ah5];show _=((⟨bK (b.sides.list.set 0 p),b.known,bK V.list⟩:TyP),(0:Int));rw [bMs hy,hp,hV];rfl
theorem ptT_le(hb:WfT b.t)(k:0<b.sides.list.length)(hk:b.known=true)(hy:b.sides.list[0]?=some y){m:Int}(c:gL y.list m=true):m≤b.values.list.length:=by
 have hy':=gC hy
 rcases (hb.kn hk).2 with h | h
 ·exact absurd h.1 (fD k)
 ·have h:bK b.sides.list=[bT (bK b.values.list).length]:=h;rw [h,bF] at hy';simp at hy';rw [←hy'] at c;exact bKk c
end
theorem bNu(tk:Bool)(a b:TyV)(ha:WfT a.t)(hb:WfT b.t):cO prog 86 [.bool tk,.agg #[.slice a.sides.addr a.sides.list.length a.sides.cap,.bool a.known,.slice a.values.addr a.values.list.length a.values.cap],.agg #[.slice b.sides.addr b.sides.list.length b.sides.cap,.bool b.known,.slice b.values.addr b.values.list.length b.values.cap]] [] [tyF a,tyF b] (fun(x:TyV)=> .tuple #[tyC x,.int .i64 (lX tk a.t b.t).2]) (fun _=>[]) (fun(x:TyV)=>[tyF x,Fact.pure (x.t=(lX tk a.t b.t).1)]):=by
 have hT:=fH;have hsa:=xI ha;have hva:=bPn ha;have hsb:=xI hb;have hvb:=bPn hb;generalize hR:lX tk a.t b.t=r;refine k6 func86 ntmps86 ?_;intro β hM;refine cN<|bB (listF a.sides) (lK d7) ?_;refine cE a.sides mT0 fun hc_as=>bB (listF a.values) (lJ e6)<|cE a.values mT0 fun hc_av=>bB (listF b.sides) (lK f3)<|cE b.sides mT0 fun hc_bs=>bB (listF b.values) (lJ f9)<|cE b.values mT0 fun hc_bv=>?_;refine one ?_;refine j8 fun b1=>?_;refine j8 fun b2=>?_;refine j5 pW fun b3=>?_;refine g12 ?_;refine lY (fun hg19=>?_) fun hg19=>?_
 ·refine g19 ?_;have hr:=hR.symm.trans (ptT_a n0);subst hr;exact rs2 (⟨a.sides,a.known,a.values⟩:TyV) ⟨(bW (x:=⟨a.sides,a.known,a.values⟩) i6 f4),j2 rfl,j1⟩
 refine g8 ?_;refine fM (fun hc14=>?_) fun hc14=>?_
 ·refine g10 ?_;have hr:=hR.symm.trans (ptT_a n0);subst hr;exact rs2 (⟨a.sides,a.known,a.values⟩:TyV) ⟨(bW (x:=⟨a.sides,a.known,a.values⟩) i6 f4),j2 rfl,j1⟩
 refine g8 ?_;refine jG (fun hc26=>?_) fun hc26=>?_
 ·refine g10 ?_;have hr:=hR.symm.trans (ptT_b n0 n0 asd);subst hr;exact rs2 (⟨a.sides,a.known,a.values⟩:TyV) ⟨(bW (x:=⟨a.sides,a.known,a.values⟩) i6 f4),j2 rfl,j1⟩
 refine g10 ?_;have hv1:=wf_one ha asd n0;refine g3 ?_;obtain⟨x4,hx5⟩:=gx a.values.list 0;refine ss (cK hT (k:=0) (cF f3) rfl rfl rfl rfl rfl rfl rfl n0) ?_;refine ss (j6 hT (dU.knows (cF f3) (k:=0) (x:=x4) hx5 0)) ?_;refine bB (kV x4) (Has.each e9 (j3 hx5))<|bB (mL.sl (.slice x4.addr x4.list.length x4.cap) x4.list) (rI d7) ?_;have hxr:=wf_val ha hx5;refine g9 ?_;refine lY (fun hg38=>?_) fun hg38=>?_
 ·refine g26 ?_;have hr:=hR.symm.trans (ptT_c n0 n0 asd hx5 (cnt2 n0));subst hr;exact rs2 (⟨a.sides,a.known,a.values⟩:TyV) ⟨(bW (x:=⟨a.sides,a.known,a.values⟩) j0 f9),j2 rfl,j1⟩
 refine g4 ?_;refine nP (fun hg42=>?_) fun hg42=>?_
 ·refine one ?_;obtain⟨x6,hx7⟩:=gx x4.list 0;refine ss (cK hT (k:=0) (cF d7) rfl rfl rfl rfl rfl rfl rfl n0) ?_;refine one ?_;refine ss (fG hT (dU.knows (cF d7) (k:=0) (x:=x6) hx7 1) rfl rfl rfl rfl rfl) ?_;refine ss (j9 (builtM_ne _ _ _ _ _ _ _)) ?_;refine at_one_mono (m:=(bMh x6)) rfl rfl rfl rfl rfl fun b8=>?_;refine bQ (E:=mL) (xs:=[(bMh x6)]) .head p8<|bE .head<|bB (kV ⟨some ⟨b8,0,none⟩,1,[(bMh x6)]⟩) (polF_own d7)<|bC (cV d7) fun hpl9=>?_;refine j4 func118 (tU (p:=⟨some ⟨b8,0,none⟩,1,[(bMh x6)]⟩) 1 hpl9) ⟨d7,j1⟩ fun _=>?_;refine g5 ?_;refine jG (fun hc52=>?_) fun hc52=>?_
  ·refine g9 ?_;have hr:=hR.symm.trans (ptT_c n0 n0 asd hx5 (cnt1b n0 hx7 (by simpa using hc52)));subst hr;exact rs2 (⟨a.sides,a.known,a.values⟩:TyV) ⟨(bW (x:=⟨a.sides,a.known,a.values⟩) (Has.of (u8 mT7)) i7),j2 rfl,j1⟩
  refine g5 ?_;refine bM (t':=true) (decide_eq_true n0) ?_;refine g5 ?_;refine ss (cK hT (k:=0) (cF d9) rfl rfl rfl rfl rfl rfl rfl n0) ?_;refine one ?_;refine ss (j6 hT (dU.knows (cF d9) (k:=0) (x:=x6) hx7 0)) ?_;refine g4 ?_;have hcn:=cnt1 n0 hx7 (by simpa using hc52);have hnr:=right_n hxr hx7;refine g4 ?_;refine cP (z':= -x6.n) ah0 ?_;refine one ?_;refine cP (z':=max x6.n (-x6.n)) (maxZ _ _) ?_;refine g8 ?_;obtain⟨x10,hx11⟩:=gx b.sides.list 0;refine ss (cK hT (k:=0) (cF f4) rfl rfl rfl rfl rfl rfl rfl n0) ?_;refine ss (j6 hT (dU.knows (cF f4) (k:=0) (x:=x10) hx11 0)) ?_;refine one ?_;refine bC (cV (Has.each f3 (j3 hx11))) fun hpl12=>?_;refine j4 func118 (tU (p:=x10) (max x6.n (-x6.n)) hpl12) ⟨(Has.each f3 (j3 hx11)),j1⟩ fun _=>?_;refine g3 ?_;refine jG (fun hc71=>?_) fun hc71=>?_
  ·refine g9 ?_;have hr:=hR.symm.trans (ptT_d n0 n0 asd hx5 hcn hx11 asd);subst hr;exact rs2 (⟨a.sides,a.known,a.values⟩:TyV) ⟨(bW (x:=⟨a.sides,a.known,a.values⟩) (Has.of (u8 mT7)) i7),j2 rfl,j1⟩
  refine g6 ?_;refine j4 func114 (yG b.sides.addr b.sides.cap b.sides.list n0) ⟨f4,j1⟩ fun⟨A13,c14⟩=>?_;refine bB (cL b.sides.list) f3 ?_;refine g7 ?_;refine j4 func45 (jI ((max x6.n (-x6.n)))) j1 fun⟨A15,c16⟩=>?_;refine g5 ?_
  rcases tk_cases tk with htk | htk
  ·subst htk;refine g9 ?_;refine zW kT1 n0 fun g17 hg=>?_;subst hg;refine g4 ?_;refine ss (iJ hT (k:=0) rfl rfl rfl rfl rfl rfl n0) ?_;refine gE hT (k:=0) (fo:=0) (y':=(⟨A15,c16,bT ((max x6.n (-x6.n)))⟩:PolV)) kT1 rfl rfl rfl rfl rfl rfl rfl rfl rfl hx11 rfl ?_;refine g4 ?_;rw [show b.sides.list.length=(b.sides.list.set 0 (⟨A15,c16,bT ((max x6.n (-x6.n)))⟩:PolV)).length from List.length_set.symm];refine bB (cL (b.sides.list.set 0 (⟨A15,c16,bT ((max x6.n (-x6.n)))⟩:PolV))) (bAd 0 d8 d7)<|bV .head fun hc_cl=>bE .head ?_;refine g5 ?_;refine jE (fun hc98=>?_) fun hc98=>?_
   ·refine cN ?_;have hcv:=ptT_le hb n0 asd hx11 asd;refine g12 ?_;refine dO (fun hc101=>?_) fun hc101=>?_
    ·refine g6 ?_;refine cP (z':=(x6.n+(b.values.list.length:Nat))) (bIq n0 n0) ?_;refine g8 ?_;refine bM (t':=false) (decide_eq_false n0) ?_;refine one ?_;refine bM (t':=false) o8 ?_;refine g7 ?_;have hkl:(x6.n+(b.values.list.length:Nat)).toNat≤b.values.list.length:=n0
     refine ss (dK hT (k:=(x6.n+(b.values.list.length:Nat)).toNat) rfl rfl rfl rfl rfl n0 n0) ?_;refine jY (v':= .slice (gX b.values.addr ((x6.n+(b.values.list.length:Nat)).toNat) bP.size b.values.cap) (b.values.list.drop ((x6.n+(b.values.list.length:Nat)).toNat)).length (b.values.cap-(x6.n+(b.values.list.length:Nat)).toNat)) ab9<|bB (listF ⟨gX b.values.addr ((x6.n+(b.values.list.length:Nat)).toNat) bP.size b.values.cap,b.values.cap-(x6.n+(b.values.list.length:Nat)).toNat,b.values.list.drop ((x6.n+(b.values.list.length:Nat)).toNat)⟩) (sU f9 hc_bv hkl) ?_;refine g12 ?_;have hr:=hR.symm.trans (bTb (A:=(some ⟨g17,0,none⟩)) (q:=c14) (p:=⟨A15,c16,bT ((max x6.n (-x6.n)))⟩) (V:=⟨gX b.values.addr ((x6.n+(b.values.list.length:Nat)).toNat) bP.size b.values.cap,b.values.cap-(x6.n+(b.values.list.length:Nat)).toNat,b.values.list.drop ((x6.n+(b.values.list.length:Nat)).toNat)⟩) n0 n0 asd hx5 hcn hx11 asd rfl (((if_pos (show b.known=true from by assumption)).trans (cutT_d (k:=(x6.n+(b.values.list.length:Nat)).toNat) (tk:=true) (n:=x6.n) (l:=b.values.list) (by rw [decide_eq_false n0];decide) (by split<;>omega))).symm));subst hr;exact rs2 (⟨⟨(some ⟨g17,0,none⟩),c14,(b.sides.list.set 0 (⟨A15,c16,bT ((max x6.n (-x6.n)))⟩:PolV))⟩,b.known,⟨gX b.values.addr ((x6.n+(b.values.list.length:Nat)).toNat) bP.size b.values.cap,b.values.cap-(x6.n+(b.values.list.length:Nat)).toNat,b.values.list.drop ((x6.n+(b.values.list.length:Nat)).toNat)⟩⟩:TyV) ⟨(bW (x:=⟨⟨(some ⟨g17,0,none⟩),c14,(b.sides.list.set 0 (⟨A15,c16,bT ((max x6.n (-x6.n)))⟩:PolV))⟩,b.known,⟨gX b.values.addr ((x6.n+(b.values.list.length:Nat)).toNat) bP.size b.values.cap,b.values.cap-(x6.n+(b.values.list.length:Nat)).toNat,b.values.list.drop ((x6.n+(b.values.list.length:Nat)).toNat)⟩⟩) (cG d8 d9 (hc_cl)) d7),j2 rfl,j1⟩
    refine g7 ?_;refine bM (t':=true) (decide_eq_true n0) ?_;refine one ?_;refine bM (t':=true) o8 ?_;refine g7 ?_;have hkl:x6.n.toNat≤b.values.list.length:=n0
    refine ss (lC hT (k:=x6.n.toNat) rfl rfl rfl rfl rfl n0 n0) ?_;refine jY (v':= .slice b.values.addr (b.values.list.take (x6.n.toNat)).length b.values.cap) ab7<|bB (listF ⟨b.values.addr,b.values.cap,b.values.list.take (x6.n.toNat)⟩) (qO f9 hc_bv hkl) ?_;refine g12 ?_;have hr:=hR.symm.trans (bTb (A:=(some ⟨g17,0,none⟩)) (q:=c14) (p:=⟨A15,c16,bT ((max x6.n (-x6.n)))⟩) (V:=⟨b.values.addr,b.values.cap,b.values.list.take (x6.n.toNat)⟩) n0 n0 asd hx5 hcn hx11 asd rfl (((if_pos (show b.known=true from by assumption)).trans (cutT_t (k:=x6.n.toNat) (tk:=true) (n:=x6.n) (l:=b.values.list) (decide_eq_true n0).symm (by split<;>omega))).symm));subst hr;exact rs2 (⟨⟨(some ⟨g17,0,none⟩),c14,(b.sides.list.set 0 (⟨A15,c16,bT ((max x6.n (-x6.n)))⟩:PolV))⟩,b.known,⟨b.values.addr,b.values.cap,b.values.list.take (x6.n.toNat)⟩⟩:TyV) ⟨(bW (x:=⟨⟨(some ⟨g17,0,none⟩),c14,(b.sides.list.set 0 (⟨A15,c16,bT ((max x6.n (-x6.n)))⟩:PolV))⟩,b.known,⟨b.values.addr,b.values.cap,b.values.list.take (x6.n.toNat)⟩⟩) (cG d8 d9 (hc_cl)) d7),j2 rfl,j1⟩
   refine g10 ?_;have hr:=hR.symm.trans (bTb (A:=(some ⟨g17,0,none⟩)) (q:=c14) (p:=⟨A15,c16,bT ((max x6.n (-x6.n)))⟩) (V:=b.values) n0 n0 asd hx5 hcn hx11 asd rfl ((if_neg ad1).symm));subst hr;exact rs2 (⟨⟨(some ⟨g17,0,none⟩),c14,(b.sides.list.set 0 (⟨A15,c16,bT ((max x6.n (-x6.n)))⟩:PolV))⟩,b.known,b.values⟩:TyV) ⟨(bW (x:=⟨⟨(some ⟨g17,0,none⟩),c14,(b.sides.list.set 0 (⟨A15,c16,bT ((max x6.n (-x6.n)))⟩:PolV))⟩,b.known,b.values⟩) (cG d7 d8 (hc_cl)) f9),j2 rfl,j1⟩
  subst htk;refine g15 ?_;refine ss (cK hT (k:=0) (cQ kT1) rfl rfl rfl rfl rfl rfl rfl n0) ?_;refine ss (j6 hT (dU.knows (cQ kT1) (k:=0) (x:=x10) hx11 0)) ?_;refine one ?_;refine bC (cV (Has.each f7 (j3 hx11))) fun hpl20=>bC (cV d7) fun hql21=>?_;refine j4 func84 (bLs (p:=x10) (q:=⟨A15,c16,bT ((max x6.n (-x6.n)))⟩) hpl20 hql21) ⟨(Has.each f7 (j3 hx11)),d7,j1⟩ fun⟨A18,c19⟩=>?_;refine g13 ?_;refine tY (fun hc91=>?_) fun hc91=>?_
  ·refine g9 ?_;have hr:=hR.symm.trans (ptT_e n0 n0 asd hx5 hcn hx11 asd asd);subst hr;exact rs2 (⟨a.sides,a.known,a.values⟩:TyV) ⟨(bW (x:=⟨a.sides,a.known,a.values⟩) (Has.of (u8 (u8 mT2))) (Has.of (u8 mT7))),j2 rfl,j1⟩
  refine g3 ?_;refine zW kT1 n0 fun g22 hg=>?_;subst hg;refine g4 ?_;refine ss (iJ hT (k:=0) rfl rfl rfl rfl rfl rfl n0) ?_;refine gE hT (k:=0) (fo:=0) (y':=(⟨A18,c19,(cC x10.list (bT ((max x6.n (-x6.n)))) (-1)).1⟩:PolV)) kT1 rfl rfl rfl rfl rfl rfl rfl rfl rfl hx11 rfl ?_;refine g4 ?_;rw [show b.sides.list.length=(b.sides.list.set 0 (⟨A18,c19,(cC x10.list (bT ((max x6.n (-x6.n)))) (-1)).1⟩:PolV)).length from List.length_set.symm];refine bB (cL (b.sides.list.set 0 (⟨A18,c19,(cC x10.list (bT ((max x6.n (-x6.n)))) (-1)).1⟩:PolV))) (bAd 0 d9 d7)<|bV .head fun hc_cl=>bE .head ?_;refine g5 ?_;refine jE (fun hc98=>?_) fun hc98=>?_
  ·refine cN ?_;have hcv:=ptT_le hb n0 asd hx11 asd;refine g12 ?_;refine dO (fun hc101=>?_) fun hc101=>?_
   ·refine g6 ?_;refine cP (z':=(x6.n+(b.values.list.length:Nat))) (bIq n0 n0) ?_;refine g8 ?_;refine bM (t':=false) (decide_eq_false n0) ?_;refine one ?_;refine bM (t':=true) o8 ?_;refine g7 ?_;have hkl:(x6.n+(b.values.list.length:Nat)).toNat≤b.values.list.length:=n0
    refine ss (lC hT (k:=(x6.n+(b.values.list.length:Nat)).toNat) rfl rfl rfl rfl rfl n0 n0) ?_;refine jY (v':= .slice b.values.addr (b.values.list.take ((x6.n+(b.values.list.length:Nat)).toNat)).length b.values.cap) ab7<|bB (listF ⟨b.values.addr,b.values.cap,b.values.list.take ((x6.n+(b.values.list.length:Nat)).toNat)⟩) (qO i6 hc_bv hkl) ?_;refine g12 ?_;have hr:=hR.symm.trans (bSm (A:=(some ⟨g22,0,none⟩)) (q:=c14) (p:=⟨A18,c19,(cC x10.list (bT ((max x6.n (-x6.n)))) (-1)).1⟩) (V:=⟨b.values.addr,b.values.cap,b.values.list.take ((x6.n+(b.values.list.length:Nat)).toNat)⟩) n0 n0 asd hx5 hcn hx11 asd n0 rfl (((if_pos (show b.known=true from by assumption)).trans (cutT_t (k:=(x6.n+(b.values.list.length:Nat)).toNat) (tk:=false) (n:=x6.n) (l:=b.values.list) (decide_eq_false n0).symm (by split<;>omega))).symm));subst hr;exact rs2 (⟨⟨(some ⟨g22,0,none⟩),c14,(b.sides.list.set 0 (⟨A18,c19,(cC x10.list (bT ((max x6.n (-x6.n)))) (-1)).1⟩:PolV))⟩,b.known,⟨b.values.addr,b.values.cap,b.values.list.take ((x6.n+(b.values.list.length:Nat)).toNat)⟩⟩:TyV) ⟨(bW (x:=⟨⟨(some ⟨g22,0,none⟩),c14,(b.sides.list.set 0 (⟨A18,c19,(cC x10.list (bT ((max x6.n (-x6.n)))) (-1)).1⟩:PolV))⟩,b.known,⟨b.values.addr,b.values.cap,b.values.list.take ((x6.n+(b.values.list.length:Nat)).toNat)⟩⟩) (cG d8 d9 (hc_cl)) d7),j2 rfl,j1⟩
   refine g7 ?_;refine bM (t':=true) (decide_eq_true n0) ?_;refine one ?_;refine bM (t':=false) o8 ?_;refine g7 ?_;have hkl:x6.n.toNat≤b.values.list.length:=n0
   refine ss (dK hT (k:=x6.n.toNat) rfl rfl rfl rfl rfl n0 n0) ?_;refine jY (v':= .slice (gX b.values.addr (x6.n.toNat) bP.size b.values.cap) (b.values.list.drop (x6.n.toNat)).length (b.values.cap-x6.n.toNat)) ab9<|bB (listF ⟨gX b.values.addr (x6.n.toNat) bP.size b.values.cap,b.values.cap-x6.n.toNat,b.values.list.drop (x6.n.toNat)⟩) (sU i6 hc_bv hkl) ?_;refine g12 ?_;have hr:=hR.symm.trans (bSm (A:=(some ⟨g22,0,none⟩)) (q:=c14) (p:=⟨A18,c19,(cC x10.list (bT ((max x6.n (-x6.n)))) (-1)).1⟩) (V:=⟨gX b.values.addr (x6.n.toNat) bP.size b.values.cap,b.values.cap-x6.n.toNat,b.values.list.drop (x6.n.toNat)⟩) n0 n0 asd hx5 hcn hx11 asd n0 rfl (((if_pos (show b.known=true from by assumption)).trans (cutT_d (k:=x6.n.toNat) (tk:=false) (n:=x6.n) (l:=b.values.list) (by rw [decide_eq_true n0];decide) (by split<;>omega))).symm));subst hr;exact rs2 (⟨⟨(some ⟨g22,0,none⟩),c14,(b.sides.list.set 0 (⟨A18,c19,(cC x10.list (bT ((max x6.n (-x6.n)))) (-1)).1⟩:PolV))⟩,b.known,⟨gX b.values.addr (x6.n.toNat) bP.size b.values.cap,b.values.cap-x6.n.toNat,b.values.list.drop (x6.n.toNat)⟩⟩:TyV) ⟨(bW (x:=⟨⟨(some ⟨g22,0,none⟩),c14,(b.sides.list.set 0 (⟨A18,c19,(cC x10.list (bT ((max x6.n (-x6.n)))) (-1)).1⟩:PolV))⟩,b.known,⟨gX b.values.addr (x6.n.toNat) bP.size b.values.cap,b.values.cap-x6.n.toNat,b.values.list.drop (x6.n.toNat)⟩⟩) (cG d8 d9 (hc_cl)) d7),j2 rfl,j1⟩
  refine g10 ?_;have hr:=hR.symm.trans (bSm (A:=(some ⟨g22,0,none⟩)) (q:=c14) (p:=⟨A18,c19,(cC x10.list (bT ((max x6.n (-x6.n)))) (-1)).1⟩) (V:=b.values) n0 n0 asd hx5 hcn hx11 asd n0 rfl ((if_neg ad1).symm));subst hr;exact rs2 (⟨⟨(some ⟨g22,0,none⟩),c14,(b.sides.list.set 0 (⟨A18,c19,(cC x10.list (bT ((max x6.n (-x6.n)))) (-1)).1⟩:PolV))⟩,b.known,b.values⟩:TyV) ⟨(bW (x:=⟨⟨(some ⟨g22,0,none⟩),c14,(b.sides.list.set 0 (⟨A18,c19,(cC x10.list (bT ((max x6.n (-x6.n)))) (-1)).1⟩:PolV))⟩,b.known,b.values⟩) (cG d7 d8 (hc_cl)) i6),j2 rfl,j1⟩
 refine g18 ?_;refine bM (t':=false) (decide_eq_false n0) ?_;refine g6 ?_;have hcn:=cnt0 (v:=x4.list) n0;have hnr: -16777216≤(0:Int)∧(0:Int)≤16777216:=o8
 refine g4 ?_;refine cP (z':= -(0:Int)) ah0 ?_;refine one ?_;refine cP (z':=max (0:Int) (-(0:Int))) (maxZ _ _) ?_;refine g8 ?_;obtain⟨x23,hx24⟩:=gx b.sides.list 0;refine ss (cK hT (k:=0) (cF e9) rfl rfl rfl rfl rfl rfl rfl n0) ?_;refine ss (j6 hT (dU.knows (cF e9) (k:=0) (x:=x23) hx24 0)) ?_;refine one ?_;refine bC (cV (Has.each e8 (j3 hx24))) fun hpl25=>?_;refine j4 func118 (tU (p:=x23) (max (0:Int) (-(0:Int))) hpl25) ⟨(Has.each e8 (j3 hx24)),j1⟩ fun _=>?_;refine g3 ?_;refine jG (fun hc71=>?_) fun hc71=>?_
 ·refine g9 ?_;have hr:=hR.symm.trans (ptT_d n0 n0 asd hx5 hcn hx24 asd);subst hr;exact rs2 (⟨a.sides,a.known,a.values⟩:TyV) ⟨(bW (x:=⟨a.sides,a.known,a.values⟩) j0 f9),j2 rfl,j1⟩
 refine g6 ?_;refine j4 func114 (yG b.sides.addr b.sides.cap b.sides.list n0) ⟨e9,j1⟩ fun⟨A26,c27⟩=>?_;refine bB (cL b.sides.list) e8 ?_;refine g7 ?_;refine j4 func45 (jI ((max (0:Int) (-(0:Int))))) j1 fun⟨A28,c29⟩=>?_;refine g5 ?_
 rcases tk_cases tk with htk | htk
 ·subst htk;refine g9 ?_;refine zW kT1 n0 fun g30 hg=>?_;subst hg;refine g4 ?_;refine ss (iJ hT (k:=0) rfl rfl rfl rfl rfl rfl n0) ?_;refine gE hT (k:=0) (fo:=0) (y':=(⟨A28,c29,bT ((max (0:Int) (-(0:Int))))⟩:PolV)) kT1 rfl rfl rfl rfl rfl rfl rfl rfl rfl hx24 rfl ?_;refine g4 ?_;rw [show b.sides.list.length=(b.sides.list.set 0 (⟨A28,c29,bT ((max (0:Int) (-(0:Int))))⟩:PolV)).length from List.length_set.symm];refine bB (cL (b.sides.list.set 0 (⟨A28,c29,bT ((max (0:Int) (-(0:Int))))⟩:PolV))) (bAd 0 d8 d7)<|bV .head fun hc_cl=>bE .head ?_;refine g5 ?_;refine jE (fun hc98=>?_) fun hc98=>?_
  ·refine cN ?_;have hcv:=ptT_le hb n0 asd hx24 asd;refine g12 ?_;refine dO (fun hc101=>?_) fun hc101=>?_
   ·refine g6 ?_;refine cP (z':=((0:Int)+(b.values.list.length:Nat))) (bIq n0 n0) ?_;refine g8 ?_;refine bM (t':=false) (decide_eq_false n0) ?_;refine one ?_;refine bM (t':=false) o8 ?_;refine g7 ?_;have hkl:((0:Int)+(b.values.list.length:Nat)).toNat≤b.values.list.length:=n0
    refine ss (dK hT (k:=((0:Int)+(b.values.list.length:Nat)).toNat) rfl rfl rfl rfl rfl n0 n0) ?_;refine jY (v':= .slice (gX b.values.addr (((0:Int)+(b.values.list.length:Nat)).toNat) bP.size b.values.cap) (b.values.list.drop (((0:Int)+(b.values.list.length:Nat)).toNat)).length (b.values.cap-((0:Int)+(b.values.list.length:Nat)).toNat)) ab9<|bB (listF ⟨gX b.values.addr (((0:Int)+(b.values.list.length:Nat)).toNat) bP.size b.values.cap,b.values.cap-((0:Int)+(b.values.list.length:Nat)).toNat,b.values.list.drop (((0:Int)+(b.values.list.length:Nat)).toNat)⟩) (sU f4 hc_bv hkl) ?_;refine g12 ?_;have hr:=hR.symm.trans (bTb (A:=(some ⟨g30,0,none⟩)) (q:=c27) (p:=⟨A28,c29,bT ((max (0:Int) (-(0:Int))))⟩) (V:=⟨gX b.values.addr (((0:Int)+(b.values.list.length:Nat)).toNat) bP.size b.values.cap,b.values.cap-((0:Int)+(b.values.list.length:Nat)).toNat,b.values.list.drop (((0:Int)+(b.values.list.length:Nat)).toNat)⟩) n0 n0 asd hx5 hcn hx24 asd rfl (((if_pos (show b.known=true from by assumption)).trans (cutT_d (k:=((0:Int)+(b.values.list.length:Nat)).toNat) (tk:=true) (n:=(0:Int)) (l:=b.values.list) (by rw [decide_eq_false n0];decide) (by split<;>omega))).symm));subst hr;exact rs2 (⟨⟨(some ⟨g30,0,none⟩),c27,(b.sides.list.set 0 (⟨A28,c29,bT ((max (0:Int) (-(0:Int))))⟩:PolV))⟩,b.known,⟨gX b.values.addr (((0:Int)+(b.values.list.length:Nat)).toNat) bP.size b.values.cap,b.values.cap-((0:Int)+(b.values.list.length:Nat)).toNat,b.values.list.drop (((0:Int)+(b.values.list.length:Nat)).toNat)⟩⟩:TyV) ⟨(bW (x:=⟨⟨(some ⟨g30,0,none⟩),c27,(b.sides.list.set 0 (⟨A28,c29,bT ((max (0:Int) (-(0:Int))))⟩:PolV))⟩,b.known,⟨gX b.values.addr (((0:Int)+(b.values.list.length:Nat)).toNat) bP.size b.values.cap,b.values.cap-((0:Int)+(b.values.list.length:Nat)).toNat,b.values.list.drop (((0:Int)+(b.values.list.length:Nat)).toNat)⟩⟩) (cG d8 d9 (hc_cl)) d7),j2 rfl,j1⟩
   refine g7 ?_;refine bM (t':=true) (decide_eq_true n0) ?_;refine one ?_;refine bM (t':=true) o8 ?_;refine g7 ?_;have hkl:(0:Int).toNat≤b.values.list.length:=n0
   refine ss (lC hT (k:=(0:Int).toNat) rfl rfl rfl rfl rfl n0 n0) ?_;refine jY (v':= .slice b.values.addr (b.values.list.take ((0:Int).toNat)).length b.values.cap) ab7<|bB (listF ⟨b.values.addr,b.values.cap,b.values.list.take ((0:Int).toNat)⟩) (qO f4 hc_bv hkl) ?_;refine g12 ?_;have hr:=hR.symm.trans (bTb (A:=(some ⟨g30,0,none⟩)) (q:=c27) (p:=⟨A28,c29,bT ((max (0:Int) (-(0:Int))))⟩) (V:=⟨b.values.addr,b.values.cap,b.values.list.take ((0:Int).toNat)⟩) n0 n0 asd hx5 hcn hx24 asd rfl (((if_pos (show b.known=true from by assumption)).trans (cutT_t (k:=(0:Int).toNat) (tk:=true) (n:=(0:Int)) (l:=b.values.list) (decide_eq_true n0).symm (by split<;>omega))).symm));subst hr;exact rs2 (⟨⟨(some ⟨g30,0,none⟩),c27,(b.sides.list.set 0 (⟨A28,c29,bT ((max (0:Int) (-(0:Int))))⟩:PolV))⟩,b.known,⟨b.values.addr,b.values.cap,b.values.list.take ((0:Int).toNat)⟩⟩:TyV) ⟨(bW (x:=⟨⟨(some ⟨g30,0,none⟩),c27,(b.sides.list.set 0 (⟨A28,c29,bT ((max (0:Int) (-(0:Int))))⟩:PolV))⟩,b.known,⟨b.values.addr,b.values.cap,b.values.list.take ((0:Int).toNat)⟩⟩) (cG d8 d9 (hc_cl)) d7),j2 rfl,j1⟩
  refine g10 ?_;have hr:=hR.symm.trans (bTb (A:=(some ⟨g30,0,none⟩)) (q:=c27) (p:=⟨A28,c29,bT ((max (0:Int) (-(0:Int))))⟩) (V:=b.values) n0 n0 asd hx5 hcn hx24 asd rfl ((if_neg ad1).symm));subst hr;exact rs2 (⟨⟨(some ⟨g30,0,none⟩),c27,(b.sides.list.set 0 (⟨A28,c29,bT ((max (0:Int) (-(0:Int))))⟩:PolV))⟩,b.known,b.values⟩:TyV) ⟨(bW (x:=⟨⟨(some ⟨g30,0,none⟩),c27,(b.sides.list.set 0 (⟨A28,c29,bT ((max (0:Int) (-(0:Int))))⟩:PolV))⟩,b.known,b.values⟩) (cG d7 d8 (hc_cl)) f4),j2 rfl,j1⟩
 subst htk;refine g15 ?_;refine ss (cK hT (k:=0) (cQ kT1) rfl rfl rfl rfl rfl rfl rfl n0) ?_;refine ss (j6 hT (dU.knows (cQ kT1) (k:=0) (x:=x23) hx24 0)) ?_;refine one ?_;refine bC (cV (Has.each f3 (j3 hx24))) fun hpl33=>bC (cV d7) fun hql34=>?_;refine j4 func84 (bLs (p:=x23) (q:=⟨A28,c29,bT ((max (0:Int) (-(0:Int))))⟩) hpl33 hql34) ⟨(Has.each f3 (j3 hx24)),d7,j1⟩ fun⟨A31,c32⟩=>?_;refine g13 ?_;refine tY (fun hc91=>?_) fun hc91=>?_
 ·refine g9 ?_;have hr:=hR.symm.trans (ptT_e n0 n0 asd hx5 hcn hx24 asd asd);subst hr;exact rs2 (⟨a.sides,a.known,a.values⟩:TyV) ⟨(bW (x:=⟨a.sides,a.known,a.values⟩) (Has.of (u8 (u8 mT0))) j0),j2 rfl,j1⟩
 refine g3 ?_;refine zW kT1 n0 fun g35 hg=>?_;subst hg;refine g4 ?_;refine ss (iJ hT (k:=0) rfl rfl rfl rfl rfl rfl n0) ?_;refine gE hT (k:=0) (fo:=0) (y':=(⟨A31,c32,(cC x23.list (bT ((max (0:Int) (-(0:Int))))) (-1)).1⟩:PolV)) kT1 rfl rfl rfl rfl rfl rfl rfl rfl rfl hx24 rfl ?_;refine g4 ?_;rw [show b.sides.list.length=(b.sides.list.set 0 (⟨A31,c32,(cC x23.list (bT ((max (0:Int) (-(0:Int))))) (-1)).1⟩:PolV)).length from List.length_set.symm];refine bB (cL (b.sides.list.set 0 (⟨A31,c32,(cC x23.list (bT ((max (0:Int) (-(0:Int))))) (-1)).1⟩:PolV))) (bAd 0 d9 d7)<|bV .head fun hc_cl=>bE .head ?_;refine g5 ?_;refine jE (fun hc98=>?_) fun hc98=>?_
 ·refine cN ?_;have hcv:=ptT_le hb n0 asd hx24 asd;refine g12 ?_;refine dO (fun hc101=>?_) fun hc101=>?_
  ·refine g6 ?_;refine cP (z':=((0:Int)+(b.values.list.length:Nat))) (bIq n0 n0) ?_;refine g8 ?_;refine bM (t':=false) (decide_eq_false n0) ?_;refine one ?_;refine bM (t':=true) o8 ?_;refine g7 ?_;have hkl:((0:Int)+(b.values.list.length:Nat)).toNat≤b.values.list.length:=n0
   refine ss (lC hT (k:=((0:Int)+(b.values.list.length:Nat)).toNat) rfl rfl rfl rfl rfl n0 n0) ?_;refine jY (v':= .slice b.values.addr (b.values.list.take (((0:Int)+(b.values.list.length:Nat)).toNat)).length b.values.cap) ab7<|bB (listF ⟨b.values.addr,b.values.cap,b.values.list.take (((0:Int)+(b.values.list.length:Nat)).toNat)⟩) (qO f7 hc_bv hkl) ?_;refine g12 ?_;have hr:=hR.symm.trans (bSm (A:=(some ⟨g35,0,none⟩)) (q:=c27) (p:=⟨A31,c32,(cC x23.list (bT ((max (0:Int) (-(0:Int))))) (-1)).1⟩) (V:=⟨b.values.addr,b.values.cap,b.values.list.take (((0:Int)+(b.values.list.length:Nat)).toNat)⟩) n0 n0 asd hx5 hcn hx24 asd n0 rfl (((if_pos (show b.known=true from by assumption)).trans (cutT_t (k:=((0:Int)+(b.values.list.length:Nat)).toNat) (tk:=false) (n:=(0:Int)) (l:=b.values.list) (decide_eq_false n0).symm (by split<;>omega))).symm));subst hr;exact rs2 (⟨⟨(some ⟨g35,0,none⟩),c27,(b.sides.list.set 0 (⟨A31,c32,(cC x23.list (bT ((max (0:Int) (-(0:Int))))) (-1)).1⟩:PolV))⟩,b.known,⟨b.values.addr,b.values.cap,b.values.list.take (((0:Int)+(b.values.list.length:Nat)).toNat)⟩⟩:TyV) ⟨(bW (x:=⟨⟨(some ⟨g35,0,none⟩),c27,(b.sides.list.set 0 (⟨A31,c32,(cC x23.list (bT ((max (0:Int) (-(0:Int))))) (-1)).1⟩:PolV))⟩,b.known,⟨b.values.addr,b.values.cap,b.values.list.take (((0:Int)+(b.values.list.length:Nat)).toNat)⟩⟩) (cG d8 d9 (hc_cl)) d7),j2 rfl,j1⟩
  refine g7 ?_;refine bM (t':=true) (decide_eq_true n0) ?_;refine one ?_;refine bM (t':=false) o8 ?_;refine g7 ?_;have hkl:(0:Int).toNat≤b.values.list.length:=n0
  refine ss (dK hT (k:=(0:Int).toNat) rfl rfl rfl rfl rfl n0 n0) ?_;refine jY (v':= .slice (gX b.values.addr ((0:Int).toNat) bP.size b.values.cap) (b.values.list.drop ((0:Int).toNat)).length (b.values.cap-(0:Int).toNat)) ab9<|bB (listF ⟨gX b.values.addr ((0:Int).toNat) bP.size b.values.cap,b.values.cap-(0:Int).toNat,b.values.list.drop ((0:Int).toNat)⟩) (sU f7 hc_bv hkl) ?_;refine g12 ?_;have hr:=hR.symm.trans (bSm (A:=(some ⟨g35,0,none⟩)) (q:=c27) (p:=⟨A31,c32,(cC x23.list (bT ((max (0:Int) (-(0:Int))))) (-1)).1⟩) (V:=⟨gX b.values.addr ((0:Int).toNat) bP.size b.values.cap,b.values.cap-(0:Int).toNat,b.values.list.drop ((0:Int).toNat)⟩) n0 n0 asd hx5 hcn hx24 asd n0 rfl (((if_pos (show b.known=true from by assumption)).trans (cutT_d (k:=(0:Int).toNat) (tk:=false) (n:=(0:Int)) (l:=b.values.list) (by rw [decide_eq_true n0];decide) (by split<;>omega))).symm));subst hr;exact rs2 (⟨⟨(some ⟨g35,0,none⟩),c27,(b.sides.list.set 0 (⟨A31,c32,(cC x23.list (bT ((max (0:Int) (-(0:Int))))) (-1)).1⟩:PolV))⟩,b.known,⟨gX b.values.addr ((0:Int).toNat) bP.size b.values.cap,b.values.cap-(0:Int).toNat,b.values.list.drop ((0:Int).toNat)⟩⟩:TyV) ⟨(bW (x:=⟨⟨(some ⟨g35,0,none⟩),c27,(b.sides.list.set 0 (⟨A31,c32,(cC x23.list (bT ((max (0:Int) (-(0:Int))))) (-1)).1⟩:PolV))⟩,b.known,⟨gX b.values.addr ((0:Int).toNat) bP.size b.values.cap,b.values.cap-(0:Int).toNat,b.values.list.drop ((0:Int).toNat)⟩⟩) (cG d8 d9 (hc_cl)) d7),j2 rfl,j1⟩
 refine g10 ?_;have hr:=hR.symm.trans (bSm (A:=(some ⟨g35,0,none⟩)) (q:=c27) (p:=⟨A31,c32,(cC x23.list (bT ((max (0:Int) (-(0:Int))))) (-1)).1⟩) (V:=b.values) n0 n0 asd hx5 hcn hx24 asd n0 rfl ((if_neg ad1).symm));subst hr;exact rs2 (⟨⟨(some ⟨g35,0,none⟩),c27,(b.sides.list.set 0 (⟨A31,c32,(cC x23.list (bT ((max (0:Int) (-(0:Int))))) (-1)).1⟩:PolV))⟩,b.known,b.values⟩:TyV) ⟨(bW (x:=⟨⟨(some ⟨g35,0,none⟩),c27,(b.sides.list.set 0 (⟨A31,c32,(cC x23.list (bT ((max (0:Int) (-(0:Int))))) (-1)).1⟩:PolV))⟩,b.known,b.values⟩) (cG d7 d8 (hc_cl)) f7),j2 rfl,j1⟩
theorem addFn:PolFn 89 addO:=fun p q hp hq=>yA p q hp hq
theorem bPz:PolFn 84 yI:=fun p q hp hq=>bLs p q hp hq
theorem mulFn:PolFn 81 qB:=fun p q hp hq=>bNm p q hp hq
theorem qW{t:TyP}(h:WfT t):t.values.length≤4:=by
 cases k:t.known
 ·rw [h.un k];decide
 ·exact(h.kn k).1
theorem zI{t:TyP}(h:WfT t)(k:t.known=true)(hs:t.sides=[]):t.values.length=1:=by
 rcases (h.kn k).2 with h | h
 ·exact h.2
 ·rw [hs] at h;cases h
theorem bNw{t:TyP}(h:WfT t):EachOk ⟨[],true,[[]]⟩ t where
 la:=by simp
 lb:=Nat.le_trans (qW h) o8
 one:=fun _ _ _=>rfl
 two:=fun _ k e=>zI h k e
 same:=fun _ _ e=>absurd rfl e
def bAx (S:List Pol)(p:Pol)(i:Nat):Prop:=nT (bT 1) S=nT p (S.drop i)
theorem bSp(S:List Pol):bAx S (bT 1) 0:=rfl
section
variable {l : List PolV} {p : Pol} {x : PolV} {i : Nat}
theorem rav_step(h:bAx (bK l) p i)(hx:l[i]?=some x)(e:(qB p x.list).2=0):bAx (bK l) (qB p x.list).1 (i+1):=by
 obtain⟨hi,ei⟩:=List.getElem?_eq_some_iff.1 (gC hx);unfold bAx at*;rw [h,List.drop_eq_getElem_cons hi,ei];exact if_neg ah5
theorem rav_bad(h:bAx (bK l) p i)(hx:l[i]?=some x)(e:(qB p x.list).2≠0):nT (bT 1) (bK l)=none:=by
 obtain⟨hi,ei⟩:=List.getElem?_eq_some_iff.1 (gC hx);unfold bAx at*;rw [h,List.drop_eq_getElem_cons hi,ei];exact if_pos e
theorem rav_end(h:bAx (bK l) p i)(hi:l.length≤i):nT (bT 1) (bK l)=some p:=by
 unfold bAx at*;rw [h,List.drop_of_length_le ai0];rfl
end
theorem bQz(l:List PolV):bK l.reverse=(bK l).reverse:=List.map_reverse
section
variable {f : Int} {a : TyV}
theorem mo_a(h:f=32)(k:0<a.sides.list.length):gI f a.t=(a.t,90):=by
 unfold gI;rw [if_pos h];exact if_pos (fD k)
theorem mo_b(h:f=32)(k:a.sides.list.length=0)(g:a.known=false):gI f a.t=(a.t,92):=by
 unfold gI;rw [if_pos h,if_neg (show ¬a.t.sides≠[] from fun e=>e (dF k))];exact if_pos g
theorem mo_c{x:PolV}(h:f=32)(k:a.sides.list.length=0)(g:a.known=true)(hx:a.values.list[0]?=some x)(e:mY x.list=false):gI f a.t=(a.t,93):=by
 have hx':a.t.values.headD []=x.list:=iH hx;unfold gI;rw [if_pos h,if_neg (show ¬a.t.sides≠[] from fun e=>e (dF k)),if_neg (show ¬a.t.known=false by show ¬a.known=false;simp [g]),hx',if_pos e]
theorem mo_d{x:PolV}(h:f=32)(k:a.sides.list.length=0)(g:a.known=true)(hx:a.values.list[0]?=some x)(e:mY x.list=true):gI f a.t=(⟨[x.list],false,[]⟩,0):=by
 have hx':a.t.values.headD []=x.list:=iH hx;unfold gI;rw [if_pos h,if_neg (show ¬a.t.sides≠[] from fun e=>e (dF k)),if_neg (show ¬a.t.known=false by show ¬a.known=false;simp [g]),hx',if_neg ah5]
theorem mo_e(h:f=33):gI f a.t=(⟨[bT (a.sides.list.length:Nat)],true,bK a.sides.list⟩,0):=by
 subst h;unfold gI;rw [if_neg (show ¬(33:Int)=32 by decide),if_pos rfl,show a.t.sides.length=a.sides.list.length from bF _];rfl
theorem mo_f(h:f=34)(e:nT (bT 1) (bK a.sides.list)=none):gI f a.t=(a.t,95):=by
 subst h;unfold gI;rw [if_neg (show ¬(34:Int)=32 by decide),if_neg (show ¬(34:Int)=33 by decide),if_pos rfl,show nT (bT 1) a.t.sides=none from e]
theorem mo_g{p:Pol}(h:f=34)(e:nT (bT 1) (bK a.sides.list)=some p):gI f a.t=(⟨[p],a.known,bK a.values.list⟩,0):=by
 subst h;unfold gI;rw [if_neg (show ¬(34:Int)=32 by decide),if_neg (show ¬(34:Int)=33 by decide),if_pos rfl,show nT (bT 1) a.t.sides=some p from e];rfl
theorem mo_35:gI 35 a.t=(if a.t.sides≠[] then ⟨a.t.sides,a.t.known,a.t.values.reverse⟩ else a.t,0):=by
 unfold gI;rw [if_neg (show ¬(35:Int)=32 by decide),if_neg (show ¬(35:Int)=33 by decide),if_neg (show ¬(35:Int)=34 by decide),if_pos rfl]
theorem mo_h(h:f=35)(k:0<a.sides.list.length):gI f a.t=(⟨bK a.sides.list,a.known,bK a.values.list.reverse⟩,0):=by
 subst h;rw [mo_35,if_pos (show a.t.sides≠[] from fD k),bQz];rfl
theorem mo_i(h:f=35)(k:a.sides.list.length=0):gI f a.t=(a.t,0):=by
 subst h;rw [mo_35,if_neg (show ¬a.t.sides≠[] from fun e=>e (dF k))]
theorem mo_j(h:f=36):gI f a.t=(⟨bK a.sides.list.reverse,a.known,bK a.values.list⟩,0):=by
 subst h;unfold gI;rw [if_neg (show ¬(36:Int)=32 by decide),if_neg (show ¬(36:Int)=33 by decide),if_neg (show ¬(36:Int)=34 by decide),if_neg (show ¬(36:Int)=35 by decide),if_pos rfl,bQz];rfl
theorem mo_k(h:f=1):gI f a.t=(a.t,0):=by
 subst h;unfold gI;rw [if_neg (show ¬(1:Int)=32 by decide),if_neg (show ¬(1:Int)=33 by decide),if_neg (show ¬(1:Int)=34 by decide),if_neg (show ¬(1:Int)=35 by decide),if_neg (show ¬(1:Int)=36 by decide),if_pos rfl]
theorem mo_l{y:List PolV}{k:Bool}(h:f=2)(e:(bK y,k)=lL (some yI) ⟨[],true,[[]]⟩ a.t):gI f a.t=(⟨bK a.sides.list,k,bK y⟩,0):=by
 subst h;unfold gI;rw [if_neg (show ¬(2:Int)=32 by decide),if_neg (show ¬(2:Int)=33 by decide),if_neg (show ¬(2:Int)=34 by decide),if_neg (show ¬(2:Int)=35 by decide),if_neg (show ¬(2:Int)=36 by decide),if_neg (show ¬(2:Int)=1 by decide),if_pos rfl,←e];rfl
theorem mo_m(h1:f≠32)(h2:f≠33)(h3:f≠34)(h4:f≠35)(h5:f≠36)(h6:f≠1)(h7:f≠2):gI f a.t=(⟨bK a.sides.list,false,[]⟩,0):=by
 unfold gI;rw [if_neg h1,if_neg h2,if_neg h3,if_neg h4,if_neg h5,if_neg h6,if_neg h7];rfl
end
theorem monT_spec(f:Int)(a:TyV)(ha:WfT a.t):cO prog 49 [.int .u8 f,.agg #[.slice a.sides.addr a.sides.list.length a.sides.cap,.bool a.known,.slice a.values.addr a.values.list.length a.values.cap]] [] [tyF a] (fun(x:TyV)=> .tuple #[tyC x,.int .i64 (gI f a.t).2]) (fun _=>[]) (fun(x:TyV)=>[tyF x,Fact.pure (x.t=(gI f a.t).1)]):=by
 have hT:=fH;have hsa:=xI ha;have hva:=bPn ha;generalize hR:gI f a.t=r;refine k6 func49 ntmps49 ?_;intro β hM;refine cN<|bB (listF a.sides) (lK d7) ?_;refine cE a.sides mT0 fun hc_as=>bB (listF a.values) (lJ e6)<|cE a.values mT0 fun hc_av=>?_;refine one ?_;refine j8 fun b1=>?_;refine j5 pW fun b2=>?_;refine g16 ?_;refine fM (fun hc14=>?_) fun hc14=>?_
 ·refine g11 ?_;refine dO (fun hc16=>?_) fun hc16=>?_
  ·refine g12 ?_;have hr:=hR.symm.trans (mo_a asd n0);subst hr;exact rs2 (⟨a.sides,a.known,a.values⟩:TyV) ⟨(bW (x:=⟨a.sides,a.known,a.values⟩) e8 d9),j2 rfl,j1⟩
  refine g8 ?_;refine jG (fun hc22=>?_) fun hc22=>?_
  ·refine g12 ?_;have hr:=hR.symm.trans (mo_b asd n0 asd);subst hr;exact rs2 (⟨a.sides,a.known,a.values⟩:TyV) ⟨(bW (x:=⟨a.sides,a.known,a.values⟩) e8 d9),j2 rfl,j1⟩
  refine cN ?_;have hv1:=wf_one ha asd n0;refine g3 ?_;obtain⟨x3,hx4⟩:=gx a.values.list 0;refine ss (ixs 0) ?_;refine ss (dH hx4 0) ?_;refine bC (cV (Has.each d7 (j3 hx4))) fun hpl5=>?_;refine j4 func66 (bOj (p:=x3) hpl5) ⟨(Has.each d7 (j3 hx4)),j1⟩ fun _=>?_;refine g4 ?_;refine jG (fun hc27=>?_) fun hc27=>?_
  ·refine g12 ?_;have hr:=hR.symm.trans (mo_c asd n0 asd hx4 (by simpa using (asd:(!mY _)=true)));subst hr;exact rs2 (⟨a.sides,a.known,a.values⟩:TyV) ⟨(bW (x:=⟨a.sides,a.known,a.values⟩) e8 d9),j2 rfl,j1⟩
  refine g7 ?_;refine ss (ixs 0) ?_;refine ss (dH hx4 0) ?_;refine cX (m:=x3) rfl rfl rfl rfl rfl fun b6=>?_;refine bQ (E:=bP) (xs:=[(x3:PolV)]) .head p8<|bE .head<|bB (cL [(x3:PolV)]) (iR (Has.each d8 (j3 hx4))) ?_;refine j4 func46 (dB (some ⟨b6,0,none⟩) (1) 1) j1 fun _=>?_;refine g7 ?_;have hr:=hR.symm.trans (mo_d asd n0 asd hx4 (by simpa using (asd:(!mY _)=false)));subst hr;exact rs2 (⟨⟨(some ⟨b6,0,none⟩),1,[(x3:PolV)]⟩,false,⟨none,0,[]⟩⟩:TyV) ⟨(bW (x:=⟨⟨(some ⟨b6,0,none⟩),1,[(x3:PolV)]⟩,false,⟨none,0,[]⟩⟩) (cG d8 d7 (Nat.le_refl 1)) cJ),j2 rfl,j1⟩
 refine g6 ?_;refine fM (fun hc41=>?_) fun hc41=>?_
 ·refine cN<|bU _ _ [(true,0),(true,1),(true,2),(true,5),(true,6),(false,3),(false,4),(false,7),(false,8),(true,9)] bX o5 (.c1 .nil) bA.self ?_;refine g6 ?_;refine j4 func45 (jI (((a.sides.list.length:Nat):Int))) j1 fun⟨A7,c8⟩=>?_;refine g2 ?_;refine cX (m:=⟨A7,c8,bT (((a.sides.list.length:Nat):Int))⟩) rfl rfl rfl rfl rfl fun b9=>?_;refine bQ (E:=bP) (xs:=[(⟨A7,c8,bT (((a.sides.list.length:Nat):Int))⟩:PolV)]) .head p8<|bE .head<|bB (cL [(⟨A7,c8,bT (((a.sides.list.length:Nat):Int))⟩:PolV)]) (iR d8) ?_;refine g2 ?_;refine j4 func44 (iM (some ⟨b9,0,none⟩) a.sides.addr (1) (a.sides.list.length) 1 a.sides.cap) j1 fun _=>?_;refine g10 ?_;obtain rfl:=hR.symm.trans (mo_e asd);exact rs2 (⟨⟨(some ⟨b9,0,none⟩),1,[(⟨A7,c8,bT (((a.sides.list.length:Nat):Int))⟩:PolV)]⟩,true,a.sides⟩:TyV) ⟨(bW (x:=⟨⟨(some ⟨b9,0,none⟩),1,[(⟨A7,c8,bT (((a.sides.list.length:Nat):Int))⟩:PolV)]⟩,true,a.sides⟩) (cG d8 d7 (Nat.le_refl 1)) f4),j2 rfl,j1⟩
 refine g6 ?_;refine fM (fun hc51=>?_) fun hc51=>?_
 ·refine g2 ?_;refine j4 func45 (jI (((1:Nat):Int))) j1 fun⟨A10,c11⟩=>?_;refine g13 ?_;refine cD (ι:=Nat×PolV) [(3,_),(4,_),(55,_),(56,_)] ⟨rfl,rfl,rfl,rfl,j1⟩ (fun⟨i,p⟩=>[(6,.slice p.addr p.list.length p.cap),(57,.int .i64 (i:Nat))]) (fun _=>[]) (fun⟨i,p⟩=>[Fact.pure (i≤a.sides.list.length∧bAx (bK a.sides.list) p.list i),kV p]) (fun⟨i,p⟩=>a.sides.list.length-i) (0,⟨A10,c11,bT (((1:Nat):Int))⟩) ⟨rfl,rfl,j1⟩ .nil ⟨j2 (⟨n0,bSp _⟩),d7,j1⟩ ?_;rintro⟨i,p⟩;dsimp only;refine bC d7 fun hinv16=>?_;refine g6 ?_;refine dO (fun hc58=>?_) fun hc58=>?_
  ·refine g6 ?_;obtain⟨x12,hx13⟩:=gx a.sides.list i;refine ss (ixs i) ?_;refine ss (dH hx13 0) ?_;refine g12 ?_;refine bC (cV d8) fun hpl16=>bC (cV (Has.each e9 (j3 hx13))) fun hql17=>?_;refine j4 func81 (bNm (p:=p) (q:=x12) hpl16 hql17) ⟨d8,(Has.each e9 (j3 hx13)),j1⟩ fun⟨A14,c15⟩=>?_;refine g13 ?_;refine tY (fun hc68=>?_) fun hc68=>?_
   ·refine g15 ?_;obtain rfl:=hR.symm.trans (mo_f asd (rav_bad hinv16.2 hx13 asd));exact rs2 (⟨a.sides,a.known,a.values⟩:TyV) ⟨(bW (x:=⟨a.sides,a.known,a.values⟩) f7 e9),j2 rfl,j1⟩
   refine g5 ?_;refine inc (i+1) ?_;refine g3 ?_;exact bk2 (i+1,⟨A14,c15,(qB p.list x12.list).1⟩) ⟨j2 (⟨by dsimp only;omega,rav_step hinv16.2 hx13 ac0⟩),d7,j1⟩
  refine g7 ?_;refine cX (m:=p) rfl rfl rfl rfl rfl fun b18=>?_;refine bQ (E:=bP) (xs:=[(p:PolV)]) .head p8<|bE .head<|bB (cL [(p:PolV)]) (iR d9) ?_;refine g13 ?_;have hr:=hR.symm.trans (mo_g asd (rav_end hinv16.2 n0));subst hr;exact rs2 (⟨⟨(some ⟨b18,0,none⟩),1,[(p:PolV)]⟩,a.known,a.values⟩:TyV) ⟨(bW (x:=⟨⟨(some ⟨b18,0,none⟩),1,[(p:PolV)]⟩,a.known,a.values⟩) (cG d8 d7 (Nat.le_refl 1)) f3),j2 rfl,j1⟩
 refine g6 ?_;refine fM (fun hc74=>?_) fun hc74=>?_
 ·refine g8 ?_;refine dO (fun hc79=>?_) fun hc79=>?_
  ·refine g3 ?_;refine j4 func82 (bKh a.values n0) ⟨d9,j1⟩ fun⟨A19,c20⟩=>?_;refine g13 ?_;have hr:=hR.symm.trans (mo_h asd n0);subst hr;exact rs2 (⟨a.sides,a.known,⟨A19,c20,a.values.list.reverse⟩⟩:TyV) ⟨(bW (x:=⟨a.sides,a.known,⟨A19,c20,a.values.list.reverse⟩⟩) e9 d7),j2 rfl,j1⟩
  refine g11 ?_;have hr:=hR.symm.trans (mo_i asd n0);subst hr;exact rs2 (⟨a.sides,a.known,a.values⟩:TyV) ⟨(bW (x:=⟨a.sides,a.known,a.values⟩) e8 d9),j2 rfl,j1⟩
 refine g6 ?_;refine fM (fun hc84=>?_) fun hc84=>?_
 ·refine g3 ?_;refine j4 func82 (bKh a.sides n0) ⟨e8,j1⟩ fun⟨A21,c22⟩=>?_;refine g13 ?_;obtain rfl:=hR.symm.trans (mo_j asd);exact rs2 (⟨⟨A21,c22,a.sides.list.reverse⟩,a.known,a.values⟩:TyV) ⟨(bW (x:=⟨⟨A21,c22,a.sides.list.reverse⟩,a.known,a.values⟩) d7 e6),j2 rfl,j1⟩
 refine g6 ?_;refine fM (fun hc90=>?_) fun hc90=>?_
 ·refine g11 ?_;obtain rfl:=hR.symm.trans (mo_k asd);exact rs2 (⟨a.sides,a.known,a.values⟩:TyV) ⟨(bW (x:=⟨a.sides,a.known,a.values⟩) e8 d9),j2 rfl,j1⟩
 refine g6 ?_;refine fM (fun hc92=>?_) fun hc92=>?_
 ·refine lQ _ _ (.two 0 2 (.two 1 2 (.op 2 (.op 3 (.fl 4 (.fl 5 (.fl 6 (.fl 7 (.op 8 (.fl 9 (.op 10 .nil))))))))) (.op 1 (.op 3 (.fl 4 (.fl 5 (.fl 6 (.fl 7 (.op 8 (.fl 9 (.op 10 .nil)))))))))) (.op 0 (.op 1 (.op 3 (.fl 4 (.fl 5 (.fl 6 (.fl 7 (.op 8 (.fl 9 (.op 10 .nil))))))))))) bX o5 (.c0 .nil) bA.self ?_;refine jH (o:=_) (o':=_) rfl rfl ?_ ?_
  ·refine cX (m:=⟨none,0,[]⟩) rfl rfl rfl rfl rfl fun b23=>?_;refine bQ (E:=bP) (xs:=[(⟨none,0,[]⟩:PolV)]) .head p8<|bE .head<|bB (cL [(⟨none,0,[]⟩:PolV)]) (iR iA) ?_;refine one ?_;refine jH (o:=_) (o':=_) rfl rfl ?_ ?_
   ·refine j4 func44 (iM none (some ⟨b23,0,none⟩) (0) (1) 0 1) j1 fun _=>?_;refine g5 ?_;refine j4 func83 (iZ 84 yI (bS func84 rfl rfl) bPz (⟨⟨none,0,[]⟩,true,⟨(some ⟨b23,0,none⟩),1,[(⟨none,0,[]⟩:PolV)]⟩⟩:TyV) a (bNw ha)) ⟨(bW (x:=⟨⟨none,0,[]⟩,true,⟨(some ⟨b23,0,none⟩),1,[(⟨none,0,[]⟩:PolV)]⟩⟩) cJ (cG d8 d7 (Nat.le_refl 1))),f4,j1⟩ fun y24=>?_;refine bC d8 fun hE=>?_;refine g23 ?_;obtain rfl:=hR.symm.trans (mo_l asd hE);exact rs2 (⟨a.sides,y24.k,y24.l⟩:TyV) ⟨(bW (x:=⟨a.sides,y24.k,y24.l⟩) f7 d7),j2 rfl,j1⟩
   refine g3 ?_;refine j4 func44 (iM none (some ⟨b23,0,none⟩) (0) (1) 0 1) j1 fun _=>?_;refine g2 ?_;refine j4 func83 (iZ 84 yI (bS func84 rfl rfl) bPz (⟨⟨none,0,[]⟩,true,⟨(some ⟨b23,0,none⟩),1,[(⟨none,0,[]⟩:PolV)]⟩⟩:TyV) a (bNw ha)) ⟨(bW (x:=⟨⟨none,0,[]⟩,true,⟨(some ⟨b23,0,none⟩),1,[(⟨none,0,[]⟩:PolV)]⟩⟩) cJ (cG d8 d7 (Nat.le_refl 1))),f4,j1⟩ fun y25=>?_;refine bC d8 fun hE=>?_;refine g23 ?_;obtain rfl:=hR.symm.trans (mo_l asd hE);exact rs2 (⟨a.sides,y25.k,y25.l⟩:TyV) ⟨(bW (x:=⟨a.sides,y25.k,y25.l⟩) f7 d7),j2 rfl,j1⟩
  refine g3 ?_;refine cX (m:=⟨none,0,[]⟩) rfl rfl rfl rfl rfl fun b26=>?_;refine bQ (E:=bP) (xs:=[(⟨none,0,[]⟩:PolV)]) .head p8<|bE .head<|bB (cL [(⟨none,0,[]⟩:PolV)]) (iR iA) ?_;refine g2 ?_;refine j4 func44 (iM none (some ⟨b26,0,none⟩) (0) (1) 0 1) j1 fun _=>?_;refine g2 ?_;refine j4 func83 (iZ 84 yI (bS func84 rfl rfl) bPz (⟨⟨none,0,[]⟩,true,⟨(some ⟨b26,0,none⟩),1,[(⟨none,0,[]⟩:PolV)]⟩⟩:TyV) a (bNw ha)) ⟨(bW (x:=⟨⟨none,0,[]⟩,true,⟨(some ⟨b26,0,none⟩),1,[(⟨none,0,[]⟩:PolV)]⟩⟩) cJ (cG d8 d7 (Nat.le_refl 1))),f4,j1⟩ fun y27=>?_;refine bC d8 fun hE=>?_;refine g23 ?_;obtain rfl:=hR.symm.trans (mo_l asd hE);exact rs2 (⟨a.sides,y27.k,y27.l⟩:TyV) ⟨(bW (x:=⟨a.sides,y27.k,y27.l⟩) f7 d7),j2 rfl,j1⟩
 refine g4 ?_;refine j4 func46 (dB a.sides.addr (a.sides.list.length) a.sides.cap) j1 fun _=>?_;refine g7 ?_;obtain rfl:=hR.symm.trans (mo_m asd asd asd asd asd asd asd);exact rs2 (⟨a.sides,false,⟨none,0,[]⟩⟩:TyV) ⟨(bW (x:=⟨a.sides,false,⟨none,0,[]⟩⟩) e8 cJ),j2 rfl,j1⟩
theorem numT_inj{j k:Nat}(hj:j≤4)(hk:k≤4)(h:bT (j:Nat)=bT (k:Nat)):j=k:=by
 have e: ∀n:Nat,n≤4→bT (n:Nat)=if n=0 then [] else [num0 n]:=fun n hn=>by
  unfold bT iE
  by_cases h0:n=0
  ·subst h0;rfl
  ·rw [if_neg n0,if_neg n0,if_neg h0]
 rw [e j hj,e k hk] at h;split at h<;>split at h<;>simp [num0] at h<;>omega
theorem pN{a b:TyP}(ha:WfT a)(hb:WfT b)(h:a.sides=[]∨b.sides=[]∨a.sides=b.sides):EachOk a b where
 la:=Nat.le_trans (qW ha) o8
 lb:=Nat.le_trans (qW hb) o8
 one:=fun k _ e=>zI ha k e
 two:=fun _ k e=>zI hb k e
 same:=fun k l e g=>by
  rcases h with h | h | h
  ·exact absurd h e
  ·exact absurd h g
  ·rcases (ha.kn k).2 with x | x
   ·exact absurd x.1 e
   ·rcases (hb.kn l).2 with y | y
    ·exact absurd y.1 g
    ·rw [x,y] at h;exact numT_inj (qW ha) (qW hb) (List.cons.inj h).1
theorem op_none{f:Int}(h1:f≠1)(h2:f≠2)(h3:f≠3):xG f=none:=by
 unfold xG;rw [if_neg h1,if_neg h2,if_neg h3]
theorem op_1{f:Int}(h:f=1):xG f=some addO:=by rw [h];rfl
theorem op_2{f:Int}(h:f=2):xG f=some yI:=by rw [h];rfl
theorem op_3{f:Int}(h:f=3):xG f=some qB:=by rw [h];rfl
section
variable {f : Int} {a b : TyV}
theorem dy_a(h:f=37):pV f a.t b.t=bCf a.t b.t:=by rw [h];rfl
theorem dy_b(h:f=38):pV f a.t b.t=lX true a.t b.t:=by rw [h];rfl
theorem dy_c(h:f=39):pV f a.t b.t=lX false a.t b.t:=by rw [h];rfl
theorem dy_d(h:f=40):pV f a.t b.t=bCo a.t b.t:=by rw [h];rfl
theorem dy_e(h1:f≠37)(h2:f≠38)(h3:f≠39)(h4:f≠40)(ha:0<a.sides.list.length)(hb:0<b.sides.list.length)(h:bK a.sides.list≠bK b.sides.list):pV f a.t b.t=(⟨bK a.sides.list,false,[]⟩,91):=by
 unfold pV;rw [if_neg h1,if_neg h2,if_neg h3,if_neg h4];exact if_pos ⟨fD ha,fD hb,h⟩
theorem dy_f{op:Option qY}{y:List PolV}{k:Bool}(ho:xG f=op)(h1:f≠37)(h2:f≠38)(h3:f≠39)(h4:f≠40)(ha:a.sides.list.length=0)(e:(bK y,k)=lL op a.t b.t):pV f a.t b.t=(⟨bK b.sides.list,k,bK y⟩,0):=by
 unfold pV;rw [if_neg h1,if_neg h2,if_neg h3,if_neg h4,if_neg (show ¬(a.t.sides≠[]∧b.t.sides≠[]∧a.t.sides≠b.t.sides) from fun h=>h.1 (dF ha)),if_pos (show a.t.sides=[] from dF ha),ho,←e];rfl
theorem dy_g{op:Option qY}{y:List PolV}{k:Bool}(ho:xG f=op)(h1:f≠37)(h2:f≠38)(h3:f≠39)(h4:f≠40)(ha:0<a.sides.list.length)(h:b.sides.list.length=0∨bK a.sides.list=bK b.sides.list)(e:(bK y,k)=lL op a.t b.t):pV f a.t b.t=(⟨bK a.sides.list,k,bK y⟩,0):=by
 unfold pV;rw [if_neg h1,if_neg h2,if_neg h3,if_neg h4,if_neg (show ¬(a.t.sides≠[]∧b.t.sides≠[]∧a.t.sides≠b.t.sides) from fun g=>h.elim (fun h=>g.2.1 (dF h)) (fun h=>g.2.2 h)),if_neg (show ¬a.t.sides=[] from fD ha),ho,←e];rfl
end
theorem dyT_spec(f:Int)(a b:TyV)(ha:WfT a.t)(hb:WfT b.t):cO prog 50 [.int .u8 f,.agg #[.slice a.sides.addr a.sides.list.length a.sides.cap,.bool a.known,.slice a.values.addr a.values.list.length a.values.cap],.agg #[.slice b.sides.addr b.sides.list.length b.sides.cap,.bool b.known,.slice b.values.addr b.values.list.length b.values.cap]] [] [tyF a,tyF b] (fun(x:TyV)=> .tuple #[tyC x,.int .i64 (pV f a.t b.t).2]) (fun _=>[]) (fun(x:TyV)=>[tyF x,Fact.pure (x.t=(pV f a.t b.t).1)]):=by
 have hT:=fH;have hsa:=xI ha;have hva:=bPn ha;have hsb:=xI hb;have hvb:=bPn hb;generalize hR:pV f a.t b.t=r;refine k6 func50 ntmps50 ?_;intro β hM;refine cN<|bB (listF a.sides) (lK d7) ?_;refine cE a.sides mT0 fun hc_as=>bB (listF a.values) (lJ e6)<|cE a.values mT0 fun hc_av=>bB (listF b.sides) (lK f3)<|cE b.sides mT0 fun hc_bs=>bB (listF b.values) (lJ f9)<|cE b.values mT0 fun hc_bv=>?_;refine one ?_;refine j8 fun b1=>?_;refine j8 fun b2=>?_;refine j5 pW fun b3=>?_;refine g16 ?_;refine fM (fun hc11=>?_) fun hc11=>?_
 ·refine g4 ?_;refine j4 func85 (rhoT_spec a b ha hb) ⟨i7,j0,j1⟩ fun y4=>?_;refine bC d8 fun hy=>?_;refine g9 ?_;obtain rfl:=hR.symm.trans (dy_a asd);exact rs2 (y4:TyV) ⟨d7,j2 hy,j1⟩
 refine g7 ?_;refine fM (fun hc18=>?_) fun hc18=>?_
 ·refine bM (t':=true) asd ?_;refine g7 ?_;refine bM (t':=true) (by rw [hc18];rfl) ?_;refine g2 ?_;refine j4 func86 (bNu true a b ha hb) ⟨i7,j0,j1⟩ fun y5=>?_;refine bC d8 fun hy=>?_;refine g9 ?_;obtain rfl:=hR.symm.trans (dy_b asd);exact rs2 (y5:TyV) ⟨d7,j2 hy,j1⟩
 refine g5 ?_;refine fM (fun hc18_6=>?_) fun hc18_6=>?_
 ·refine bM (t':=true) asd ?_;refine g4 ?_;refine bM (t':=false) (by rw [hc18_6];rfl) ?_;refine g2 ?_;refine j4 func86 (bNu false a b ha hb) ⟨i7,j0,j1⟩ fun y7=>?_;refine bC d8 fun hy=>?_;refine g9 ?_;obtain rfl:=hR.symm.trans (dy_c asd);exact rs2 (y7:TyV) ⟨d7,j2 hy,j1⟩
 refine g6 ?_;refine fM (fun hc28=>?_) fun hc28=>?_
 ·refine g4 ?_;refine j4 func87 (catT_spec a b ha hb) ⟨i7,j0,j1⟩ fun y8=>?_;refine bC d8 fun hy=>?_;refine g9 ?_;obtain rfl:=hR.symm.trans (dy_d asd);exact rs2 (y8:TyV) ⟨d7,j2 hy,j1⟩
 refine g7 ?_;refine j4 func46 (dB a.sides.addr (a.sides.list.length) a.sides.cap) j1 fun _=>?_;refine j5 pW fun b9=>?_;refine g14 ?_;refine fM (fun hc38=>?_) fun hc38=>?_
 ·refine g3 ?_;refine j4 func46 (dB b.sides.addr (b.sides.list.length) b.sides.cap) j1 fun _=>?_;refine g22 ?_;refine fM (fun hc61=>?_) fun hc61=>?_
  ·refine g10 ?_;refine j4 func83 (iZ 89 addO (bS func89 rfl rfl) addFn a b (pN ha hb (.inl (dF n0)))) ⟨i7,j0,j1⟩ fun y10=>?_;refine bC d8 fun hE=>?_;refine g17 ?_;have hr:=hR.symm.trans (dy_f (op_1 asd) asd asd asd asd n0 hE);subst hr;exact rs2 (⟨b.sides,y10.k,y10.l⟩:TyV) ⟨(bW (x:=⟨b.sides,y10.k,y10.l⟩) f3 d7),j2 rfl,j1⟩
  refine g6 ?_;refine fM (fun hc63=>?_) fun hc63=>?_
  ·refine g10 ?_;refine j4 func83 (iZ 84 yI (bS func84 rfl rfl) bPz a b (pN ha hb (.inl (dF n0)))) ⟨i7,j0,j1⟩ fun y11=>?_;refine bC d8 fun hE=>?_;refine g17 ?_;have hr:=hR.symm.trans (dy_f (op_2 asd) asd asd asd asd n0 hE);subst hr;exact rs2 (⟨b.sides,y11.k,y11.l⟩:TyV) ⟨(bW (x:=⟨b.sides,y11.k,y11.l⟩) f3 d7),j2 rfl,j1⟩
  refine g6 ?_;refine fM (fun hc65=>?_) fun hc65=>?_
  ·refine g10 ?_;refine j4 func83 (iZ 81 qB (bS func81 rfl rfl) mulFn a b (pN ha hb (.inl (dF n0)))) ⟨i7,j0,j1⟩ fun y12=>?_;refine bC d8 fun hE=>?_;refine g17 ?_;have hr:=hR.symm.trans (dy_f (op_3 asd) asd asd asd asd n0 hE);subst hr;exact rs2 (⟨b.sides,y12.k,y12.l⟩:TyV) ⟨(bW (x:=⟨b.sides,y12.k,y12.l⟩) f3 d7),j2 rfl,j1⟩
  refine g8 ?_;refine j4 func83 (bBg a b) j1 fun y13=>?_;refine bC d8 fun hE=>?_;refine g17 ?_;have hr:=hR.symm.trans (dy_f (op_none asd asd asd) asd asd asd asd n0 hE);subst hr;exact rs2 (⟨b.sides,y13.k,y13.l⟩:TyV) ⟨(bW (x:=⟨b.sides,y13.k,y13.l⟩) f3 d7),j2 rfl,j1⟩
 refine g7 ?_;refine lY (fun hg51=>?_) fun hg51=>?_
 ·refine g4 ?_;refine j4 func88 (sM a.sides.addr b.sides.addr a.sides.cap b.sides.cap a.sides.list b.sides.list n0) ⟨f9,f7,e7,e6,j1⟩ fun _=>?_;refine g5 ?_;refine jG (fun hc46=>?_) fun hc46=>?_
  ·refine g10 ?_;have hr:=hR.symm.trans (dy_e asd asd asd asd n0 n0 (nd_t asd));subst hr;exact rs2 (⟨a.sides,false,⟨none,0,[]⟩⟩:TyV) ⟨(bW (x:=⟨a.sides,false,⟨none,0,[]⟩⟩) i6 cJ),j2 rfl,j1⟩
  refine g21 ?_;refine fM (fun hc61=>?_) fun hc61=>?_
  ·refine g10 ?_;refine j4 func83 (iZ 89 addO (bS func89 rfl rfl) addFn a b (pN ha hb (.inr (.inr (qM asd))))) ⟨i7,j0,j1⟩ fun y14=>?_;refine bC d8 fun hE=>?_;refine g17 ?_;have hr:=hR.symm.trans (dy_g (op_1 asd) asd asd asd asd n0 (.inr (qM asd)) hE);subst hr;exact rs2 (⟨a.sides,y14.k,y14.l⟩:TyV) ⟨(bW (x:=⟨a.sides,y14.k,y14.l⟩) j0 d7),j2 rfl,j1⟩
  refine g6 ?_;refine fM (fun hc63=>?_) fun hc63=>?_
  ·refine g10 ?_;refine j4 func83 (iZ 84 yI (bS func84 rfl rfl) bPz a b (pN ha hb (.inr (.inr (qM asd))))) ⟨i7,j0,j1⟩ fun y15=>?_;refine bC d8 fun hE=>?_;refine g17 ?_;have hr:=hR.symm.trans (dy_g (op_2 asd) asd asd asd asd n0 (.inr (qM asd)) hE);subst hr;exact rs2 (⟨a.sides,y15.k,y15.l⟩:TyV) ⟨(bW (x:=⟨a.sides,y15.k,y15.l⟩) j0 d7),j2 rfl,j1⟩
  refine g6 ?_;refine fM (fun hc65=>?_) fun hc65=>?_
  ·refine g10 ?_;refine j4 func83 (iZ 81 qB (bS func81 rfl rfl) mulFn a b (pN ha hb (.inr (.inr (qM asd))))) ⟨i7,j0,j1⟩ fun y16=>?_;refine bC d8 fun hE=>?_;refine g17 ?_;have hr:=hR.symm.trans (dy_g (op_3 asd) asd asd asd asd n0 (.inr (qM asd)) hE);subst hr;exact rs2 (⟨a.sides,y16.k,y16.l⟩:TyV) ⟨(bW (x:=⟨a.sides,y16.k,y16.l⟩) j0 d7),j2 rfl,j1⟩
  refine g8 ?_;refine j4 func83 (bBg a b) j1 fun y17=>?_;refine bC d8 fun hE=>?_;refine g17 ?_;have hr:=hR.symm.trans (dy_g (op_none asd asd asd) asd asd asd asd n0 (.inr (qM asd)) hE);subst hr;exact rs2 (⟨a.sides,y17.k,y17.l⟩:TyV) ⟨(bW (x:=⟨a.sides,y17.k,y17.l⟩) j0 d7),j2 rfl,j1⟩
 refine g32 ?_;refine fM (fun hc61=>?_) fun hc61=>?_
 ·refine g10 ?_;refine j4 func83 (iZ 89 addO (bS func89 rfl rfl) addFn a b (pN ha hb (.inr (.inl (dF n0))))) ⟨i7,j0,j1⟩ fun y18=>?_;refine bC d8 fun hE=>?_;refine g17 ?_;have hr:=hR.symm.trans (dy_g (op_1 asd) asd asd asd asd n0 (.inl n0) hE);subst hr;exact rs2 (⟨a.sides,y18.k,y18.l⟩:TyV) ⟨(bW (x:=⟨a.sides,y18.k,y18.l⟩) j0 d7),j2 rfl,j1⟩
 refine g6 ?_;refine fM (fun hc63=>?_) fun hc63=>?_
 ·refine g10 ?_;refine j4 func83 (iZ 84 yI (bS func84 rfl rfl) bPz a b (pN ha hb (.inr (.inl (dF n0))))) ⟨i7,j0,j1⟩ fun y19=>?_;refine bC d8 fun hE=>?_;refine g17 ?_;have hr:=hR.symm.trans (dy_g (op_2 asd) asd asd asd asd n0 (.inl n0) hE);subst hr;exact rs2 (⟨a.sides,y19.k,y19.l⟩:TyV) ⟨(bW (x:=⟨a.sides,y19.k,y19.l⟩) j0 d7),j2 rfl,j1⟩
 refine g6 ?_;refine fM (fun hc65=>?_) fun hc65=>?_
 ·refine g10 ?_;refine j4 func83 (iZ 81 qB (bS func81 rfl rfl) mulFn a b (pN ha hb (.inr (.inl (dF n0))))) ⟨i7,j0,j1⟩ fun y20=>?_;refine bC d8 fun hE=>?_;refine g17 ?_;have hr:=hR.symm.trans (dy_g (op_3 asd) asd asd asd asd n0 (.inl n0) hE);subst hr;exact rs2 (⟨a.sides,y20.k,y20.l⟩:TyV) ⟨(bW (x:=⟨a.sides,y20.k,y20.l⟩) j0 d7),j2 rfl,j1⟩
 refine g8 ?_;refine j4 func83 (bBg a b) j1 fun y21=>?_;refine bC d8 fun hE=>?_;refine g17 ?_;have hr:=hR.symm.trans (dy_g (op_none asd asd asd) asd asd asd asd n0 (.inl n0) hE);subst hr;exact rs2 (⟨a.sides,y21.k,y21.l⟩:TyV) ⟨(bW (x:=⟨a.sides,y21.k,y21.l⟩) j0 d7),j2 rfl,j1⟩
section
variable {P : Program} {β : dG} {n : Nat} {Γ : Env} {H : List bI} {F : List Fact} {Q : Exit → Act → World → Prop} {K : Act → World → Prop}
theorem Perm.last{A B:List bI}:(A++B).Perm (B++A):=List.perm_append_comm
theorem all_set{xs:List (Sl Int)}{x y:Sl Int}{i:Nat}(h:xs[i]?=some x)(h1:y.addr=x.addr)(h2:y.cap=x.cap)(h3:y.list.length=x.list.length):bQc.all (xs.set i y)=bQc.all xs:=by
 have e:bQc.cells y=bQc.cells x:=by
  show [Value.slice y.addr y.list.length y.cap]=[Value.slice x.addr x.list.length x.cap];rw [h1,h2,h3]
 unfold Flat.all;rw [List.flatMap_def,List.flatMap_def,List.map_set,e]
 congr 1
 have hx:(xs.map bQc.cells)[i]?=some (bQc.cells x):=by rw [List.getElem?_map,h];rfl
 obtain⟨hlt,e2⟩:=List.getElem?_eq_some_iff.1 hx;rw [←e2];exact List.set_getElem_self hlt
end
def mF:List cM→Nat→Option Nat
 | [],n=>some n
 | x::r,n=>if dE x≤n∧1≤x.how∧x.how≤7∧(x.how=1→x.nums≠[]∧x.nums.length≤65536) then mF r (n-dE x+1) else none
theorem sK{x:cM}(h:x.how=1∨x.how=2):dE x=0:=by
 unfold dE;rw [if_neg n0,if_neg n0]
theorem qP{x:cM}(h:x.how=4∨x.how=7):dE x=2:=by
 unfold dE;rw [if_neg n0,if_pos h]
theorem oT{x:cM}(h:x.how=3∨x.how=5∨x.how=6):dE x=1:=by
 unfold dE;rw [if_pos h]
theorem step_depth{st st':List dY}{x:cM}(h:gS st x=some st'):dE x≤st.length∧st'.length=st.length-dE x+1∧1≤x.how∧x.how≤7∧(x.how=1→x.nums≠[]∧x.nums.length≤65536):=by
 unfold gS at h;split at h
 ·rename_i hh;rw [sK hh]
  cases ho:operandS x with
  | none=>simp [ho] at h
  | some p=>
   simp only [ho,Option.map_some,Option.some.injEq] at h;subst h;refine⟨n0,o3,n0,n0,fun h1=>?_⟩;unfold operandS at ho;rw [if_neg n0] at ho;split at ho
   ·cases ho
   ·rename_i hb;simp only [not_or,ne_eq,Classical.not_not,Nat.not_lt] at hb;exact⟨hb.2.2.1,n0⟩
 ·split at h
  ·cases h
  ·rename_i h12 hk;simp only [not_or,Int.not_lt] at hk h12;unfold pF at h
   by_cases h2:x.how=4∨x.how=7
   ·have e:rK x.how=true:=by unfold rK;rcases h2 with h2 | h2<;>rw [h2]<;>rfl
    rw [if_pos e] at h;rw [qP h2]
    match st,h with
    | p::q::r,h=>
     simp only [Option.some.injEq] at h;subst h;exact⟨o3,o3,n0,n0,fun h1=>by omega⟩
    | [p],h=>cases h
    | [],h=>cases h
   ·have e:rK x.how=false:=by
     unfold rK;simp only [Bool.or_eq_false_iff,beq_eq_false_iff_ne,ne_eq];omega
    rw [if_neg (by rw [e];simp)] at h;rw [oT n0]
    match st,h with
    | p::r,h=>
     simp only [Option.some.injEq] at h;subst h;exact⟨o3,o3,n0,n0,fun h1=>by omega⟩
    | [],h=>cases h
theorem bIm: ∀{l:List cM} {st st':List dY},dZ l st=some st'→mF l st.length=some st'.length
 | [],st,st',h=>by
  simp only [dZ,Option.some.injEq] at h;subst h;rfl
 | x::l,st,st',h=>by
  rw [dZ] at h
  cases h1:gS st x with
  | none=>rw [h1] at h;cases h
  | some s1=>
   rw [h1] at h;obtain⟨a,b,c,d,e⟩:=step_depth h1;rw [mF,if_pos ⟨a,c,d,e⟩,←b];exact bIm h
theorem bOx{l:List cM}{m:Nat}{t:Bs}(h:fO l m=some t):mF l 0=some 1:=by
 unfold fO at h;split at h
 ·cases h
 ·split at h
  ·rename_i hq;exact bIm (st:=[]) hq
  ·cases h
theorem bHz: ∀{ls:List iD} {o o':Bs},dN ls o=(o',true)→ ∀l∈ls,mF l.items 0=some 1
 | [],_,_,_,l,hl=>by simp at hl
 | [m],o,o',h,l,hl=>by
  rw [List.mem_singleton.1 hl];simp only [dN] at h
  cases hx:fO m.items 255 with
  | none=>rw [hx] at h;simp at h
  | some t=>exact bOx hx
 | m::n::ls,o,o',h,l,hl=>by
  have h':(match fO m.items 254 with
    | none=>(o,false)
    | some t=>if cT m.name=false then (o,false) else dN (n::ls) (o++(((m.name++[58,32])++t)++[10])))=(o',true):=h
  cases hx:fO m.items 254 with
  | none=>rw [hx] at h';simp at h'
  | some t=>
   rw [hx] at h';simp only at h';split at h'
   ·simp at h'
   ·rcases List.mem_cons.1 hl with rfl | hl
    ·exact bOx hx
    ·exact bHz h' l hl
theorem bHx{p:fT}(h:(cI p).2=true): ∀l∈p.lines,mF l.items 0=some 1:=by
 unfold cI at h;split at h
 ·cases h
 ·cases hi:gZ p.inputs [] with
  | mk o b=>
   rw [hi] at h
   cases b with
   | false=>cases h
   | true=>exact bHz (o':=(dN p.lines o).1) (Prod.ext rfl h)
def bDk (N:bAp):Prop:= ∀p∈N,rightA p.2=true
theorem look_mem{k:Bs}{a:Arr}: ∀{N:bAp},look k N=some a→ ∃p∈N,p.2=a
 | [],h=>by cases h
 | p::r,h=>by
  unfold look at h;split at h
  ·injection h with h
   exact⟨p,List.mem_cons_self ..,h⟩
  ·obtain⟨q,hq,e⟩:=look_mem h;exact⟨q,List.mem_cons_of_mem _ hq,e⟩
theorem bDk.look{N:bAp}(h:bDk N){k:Bs}{a:Arr}(hk:look k N=some a):rightA a=true:=by
 obtain⟨p,hp,e⟩:=look_mem hk;rw [←e];exact h p hp
theorem bDk.cons{N:bAp}(h:bDk N){k:Bs}{a:Arr}(ha:rightA a=true):bDk ((k,a)::N):=fun p hp=>by
 rcases List.mem_cons.1 hp with rfl | hp
 ·exact ha
 ·exact h p hp
theorem allSides_un(l:List dQ):hU (l.map dQ.un)=hU l:=by
 unfold hU;rw [List.flatMap_map];rfl
theorem vars_un(p:fT):cW p.un=cW p:=by
 unfold cW fT.un;rw [allSides_un]
theorem find_un(vars:List Bs): ∀xs:List dQ,(xs.map dQ.un).find? (yY vars)=(xs.find? (yY vars)).map dQ.un
 | []=>rfl
 | x::xs=>by
  have e:yY vars x.un=yY vars x:=rfl;rw [List.map_cons,List.find?_cons,List.find?_cons,e,find_un vars xs];cases yY vars x<;>rfl
def nUnused:Bs:=[117,110,117,115,101,100]
def SameBut(N' N:bAp):Prop:= ∀k,k≠nUnused→look k N'=look k N
theorem SameBut.cons{N' N:bAp}(h:SameBut N' N)(s:Bs)(a:Arr):SameBut ((s,a)::N') ((s,a)::N):=fun k hk=>by
 unfold look;split
 ·rfl
 ·exact h k hk
end Go.Proofs.YtakphiannlpnfaaGreatDoor
