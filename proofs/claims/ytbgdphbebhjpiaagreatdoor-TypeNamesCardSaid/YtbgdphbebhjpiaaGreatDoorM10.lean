/- Texts of one proof, one behind the other: DocS, AlikeP, BackO, WordP, ArrP, ArrL, ArrR, MeanP, TysM, SlI. -/
import Derived.Test.YtbgdphbebhjpiaaGreatDoorM9
import Derived.Test.YtbgdphbebhjpiaaGreatDoorM7
import Derived.Test.YtbgdphbebhjpiaaGreatDoorM6
import Derived.Test.YtbgdphbebhjpiaaGreatDoorM2
namespace Go.Proofs.YtbgdphbebhjpiaaGreatDoor
open Go.RowKit
theorem tD:dS []=false:=by decide+kernel
structure tT (p:ProgV):Prop where
 input: ∀x∈p.inputs.list,x.name.length≤140737488355328∧ ∀d∈x.sides.list,d.name.length≤140737488355328∧ -9223372036854775808≤d.n∧d.n≤9223372036854775807
 line: ∀x∈p.lines.list,x.name.length≤140737488355328∧ ∀it∈x.items.list,it.name.length≤140737488355328∧ ∀z∈it.nums.list,-9223372036854775808≤z∧z≤9223372036854775807
def oE (p:Prog)(i:Nat)(out:Bs):Bs×Bool:=match jX (p.inputs.drop i) out with
 | (o,false)=>(o,false)
 | (o,true)=>fO p.lines o
section
variable {p : Prog} {i : Nat} {out : Bs} {x : gG} {t : Bs}
theorem yR(h:p.lines=[]∨64<p.inputs.length+p.lines.length):dQ p=([],false):=by rw [dQ,if_pos h]
theorem prog_start(h: ¬(p.lines=[]∨64<p.inputs.length+p.lines.length)):dQ p=oE p 0 []:=by rw [dQ,if_neg h];rfl
theorem xA(hx:p.inputs[i]?=some x)(hn:nX x=none):oE p i out=(out,false):=by rw [oE,iV hx,jX,hn]
theorem prog_step(hx:p.inputs[i]?=some x)(hn:nX x=some t):oE p i out=oE p (i+1) (out++(([105,110,32]++t)++[10])):=by rw [oE,iV hx,jX,hn];rfl
theorem prog_lines(hi:p.inputs.length≤i):oE p i out=fO (p.lines.drop 0) out:=by rw [oE,List.drop_of_length_le hi];rfl
end
section
variable {l : List kL} {i : Nat} {out : Bs} {x : kL} {t : Bs}
theorem bLt(hi:l.length≤i):fO (l.drop i) out=(out,true):=by rw [List.drop_of_length_le hi];rfl
theorem yD(hx:l[i]?=some x)(hi:i+1=l.length):l.drop i=[x]:=by rw [iV hx,List.drop_of_length_le (by omega)]
theorem yT(hx:l[i]?=some x)(hi:i+1<l.length): ∃y r,l.drop (i+1)=y::r∧l.drop i=x::y::r:=by
 have:l[i+1]?=some l[i+1]:=List.getElem?_eq_getElem hi;exact⟨_,_,iV this,by rw [iV hx,iV this]⟩
theorem rF(hx:l[i]?=some x)(he:gE x.items (if i+1=l.length then 255 else 254)=none):fO (l.drop i) out=(out,false):=by
 have hl:=(List.getElem?_eq_some_iff.1 hx).1
 by_cases hi:i+1=l.length
 ·rw [if_pos hi] at he;rw [yD hx hi,fO,he]
 ·rw [if_neg hi] at he;obtain⟨y,r,_,h2⟩:=yT hx (by omega);rw [h2,fO,he];exact fun h=>by cases h
theorem pI(hx:l[i]?=some x)(hi:i+1=l.length)(hn:x.name≠[]){t:Bs}(he:gE x.items 255=some t):fO (l.drop i) out=(out,false):=by
 rw [yD hx hi,fO,he];simp [hn]
theorem lM(hx:l[i]?=some x)(hi:i+1<l.length)(hn:dS x.name=false){t:Bs}(he:gE x.items 254=some t):fO (l.drop i) out=(out,false):=by
 obtain⟨y,r,_,h2⟩:=yT hx hi;rw [h2,fO,he]
 ·simp [hn]
 ·exact fun h=>by cases h
theorem lines_out(hx:l[i]?=some x)(hi:i+1=l.length)(hn:x.name=[]){t:Bs}(he:gE x.items 255=some t):fO (l.drop i) out=fO (l.drop (i+1)) (out++(([111,117,116,32]++t)++[10])):=by
 rw [yD hx hi,fO,he,bLt (by omega)];simp [hn]
theorem lines_step(hx:l[i]?=some x)(hi:i+1<l.length)(hn:dS x.name=true){t:Bs}(he:gE x.items 254=some t):fO (l.drop i) out=fO (l.drop (i+1)) (out++(((x.name++[58,32])++t)++[10])):=by
 obtain⟨y,r,h1,h2⟩:=yT hx hi;rw [h2,h1,fO,he]
 ·simp [hn]
 ·exact fun h=>by cases h
end
theorem step_okp{st st':List fS}{x:dJ}(hz: ∀z∈x.nums,-9223372036854775808≤z∧z≤9223372036854775807)(ho: ∀p∈st,p.words≠[]∧wsz p.words≤40*p.tokens)(h:iH st x=some st'): ∀p∈st',p.words≠[]∧wsz p.words≤40*p.tokens:=by
 unfold iH at h;split at h
 ·cases hq:operandS x with
  | none=>rw [hq] at h;cases h
  | some q=>
   rw [hq] at h;injection h with h
   subst h;intro p hp
   rcases List.mem_cons.1 hp with rfl | hp
   ·exact⟨(yA hz hq).1,(yA hz hq).2.1⟩
   ·exact ho p hp
 ·split at h
  ·cases h
  ·rename_i hn;have hv:(verbS x).1≠[]:=fun e=>hn (.inr (.inr (.inr (.inr e))));obtain⟨v1,_,v3⟩:=bAf x;have v3:=v3 hv;unfold oU at h;split at h
   ·split at h
    ·rename_i p q r;injection h with h
     subst h;have hq:=ho q (by simp);obtain⟨k1,k2,_,_⟩:=left_ok (q:=⟨⟨none,0,q.words⟩,q.nest,q.tokens,q.plain⟩) hq;have k1:(leftS q).words≠[]:=k1;have k2:wsz (leftS q).words≤40*(leftS q).tokens:=k2;have hp:=ho p (by simp);intro y hy
     rcases List.mem_cons.1 hy with rfl | hy
     ·refine⟨by simp,?_⟩;simp only [bGq,jK];omega
     ·exact ho y (by simp [hy])
    ·cases h
   ·split at h
    ·rename_i p r;injection h with h
     subst h;have hp:=ho p (by simp);intro y hy
     rcases List.mem_cons.1 hy with rfl | hy
     ·refine⟨by simp,?_⟩;simp only [jK];omega
     ·exact ho y (by simp [hy])
    ·cases h
theorem bNc: ∀{l:List dJ} {st st':List fS},(∀x∈l,∀z∈x.nums,-9223372036854775808≤z∧z≤9223372036854775807)→(∀p∈st,p.words≠[]∧wsz p.words≤40*p.tokens)→fT l st=some st'→ ∀p∈st',p.words≠[]∧wsz p.words≤40*p.tokens
 | [],st,st',_,ho,h=>by
  simp [fT] at h;subst h;exact ho
 | x::r,st,st',hz,ho,h=>by
  rw [fT] at h
  cases h1:iH st x with
  | none=>rw [h1] at h;cases h
  | some s1=>
   rw [h1] at h;exact bNc (fun y hy=>hz y (by simp [hy])) (step_okp (hz x (by simp)) ho h1) h
theorem bMp{l:List dJ}{most:Nat}{t:Bs}(hz: ∀x∈l,∀z∈x.nums,-9223372036854775808≤z∧z≤9223372036854775807)(h:gE l most=some t):t.length≤40*most:=by
 unfold gE at h;split at h
 ·cases h
 ·split at h
  ·rename_i p hp;split at h
   ·cases h
   ·injection h with h
    subst h;have h1:=(bNc hz (fun p hp=>by simp at hp) hp p (by simp)).2;have:=bIf p.words;omega
  ·cases h
section
variable {x : InputV} {j : Nat} {d : jL} {t : Bs}
theorem bNd(h:dS x.name=false∨4<x.sides.list.length):nX x.inp=none:=by
 rw [nX,if_pos (show dS x.inp.name=false∨4<x.inp.sides.length from h.imp id fun h=>by show 4<(x.sides.list.map jL.sd).length;rw [List.length_map];exact h)]
theorem input_start(h:dS x.name=true)(h4: ¬4<x.sides.list.length):nX x.inp=lD ((x.sides.list.map jL.sd).drop 0) x.name:=by
 rw [nX,if_neg]
 ·rfl
 ·rintro(h' | h')
  ·rw [show x.inp.name=x.name from rfl,h] at h';cases h'
  ·rw [show x.inp.sides=x.sides.list.map jL.sd from rfl,List.length_map] at h';exact h4 h'
theorem sd_at(hd:x.sides.list[j]?=some d):(x.sides.list.map jL.sd)[j]?=some d.sd:=by rw [List.getElem?_map,hd];rfl
theorem side_num(hd:x.sides.list[j]?=some d)(hn:d.name=[]):lD ((x.sides.list.map jL.sd).drop j) t=lD ((x.sides.list.map jL.sd).drop (j+1)) (t++([32]++fZ d.n)):=by
 rw [iV (sd_at hd),lD,if_pos (show d.sd.name=[] from hn)];rfl
theorem side_name(hd:x.sides.list[j]?=some d)(hn:d.name≠[])(h0:d.n=0)(hb:dS d.name=true):lD ((x.sides.list.map jL.sd).drop j) t=lD ((x.sides.list.map jL.sd).drop (j+1)) (t++([32]++d.name)):=by
 rw [iV (sd_at hd),lD,if_neg (show ¬d.sd.name=[] from hn),if_pos (show d.sd.n=0∧dS d.sd.name=true from ⟨h0,hb⟩)];rfl
theorem side_bad(hd:x.sides.list[j]?=some d)(hn:d.name≠[])(h:d.n≠0∨dS d.name=false):lD ((x.sides.list.map jL.sd).drop j) t=none:=by
 rw [iV (sd_at hd),lD,if_neg (show ¬d.sd.name=[] from hn),if_neg];rintro⟨h1,h2⟩
 rcases h with h | h
 ·exact h h1
 ·rw [show d.sd.name=d.name from rfl,h] at h2;cases h2
theorem sides_done(hj:x.sides.list.length≤j):lD ((x.sides.list.map jL.sd).drop j) t=some t:=by
 rw [List.drop_of_length_le (by rw [List.length_map];exact hj)];rfl
end
theorem tL{α β:Type}{f:α→β}{l:List α}{i:Nat}{x:α}(h:l[i]?=some x):(l.map f)[i]?=some (f x):=by rw [List.getElem?_map,h];rfl
theorem bMg{o:Option Bs}(h:o.isSome=true):o=some (o.getD []):=by
 cases o with
 | none=>cases h
 | some x=>rfl
theorem shower_built(r1 r2:Nat):Tryz.prog.built 179 [(0,.map (some r1)),(1,.map (some r2))]=some #[.map (some r1),.map (some r2),.pointer none,.slice none 0 0]:=by kernel_rfl
theorem tZ:(Tryz.prog.info? 63).bind (·.zero)=some (.agg #[.string (bs []),.int .i64 0]):=by kernel_rfl
set_option maxRecDepth 100000 in
theorem bKn(b r1 r2:Nat)(P:ProgV)(hP:tT P)(hl1:P.inputs.list.length≤140737488355328)(hl2:P.lines.list.length≤140737488355328):dX Tryz.prog 98 [.pointer (some ⟨b,0,none⟩),.agg #[.slice P.inputs.addr P.inputs.list.length P.inputs.cap,.slice P.lines.addr P.lines.list.length P.lines.cap]] [.obj b (.cells [.map (some r1),.map (some r2),.pointer none,.slice none 0 0].toArray 179),nK.row (.slice none 0 0) 5 []] [mapF r1 .u8 (qB false),mapF r2 .u8 (qB true),iK,kU.sl (.slice P.inputs.addr P.inputs.list.length P.inputs.cap) P.inputs.list,jA P.inputs.list,pH.sl (.slice P.lines.addr P.lines.list.length P.lines.cap) P.lines.list,lT P.lines.list] (fun(_:(Option Addr×Nat)×Bool)=> .bool (dQ P.pr).2) (fun(x:(Option Addr×Nat)×Bool)=>[.obj b (.cells [.map (some r1),.map (some r2),bJy x.2 b,.slice x.1.1 (dQ P.pr).1.length x.1.2].toArray 179),nK.row (.slice x.1.1 (dQ P.pr).1.length x.1.2) 5 (dQ P.pr).1]) (fun(x:(Option Addr×Nat)×Bool)=>[Fact.pure ((dQ P.pr).1=[]→x.1.1=none)]):=by
 have hT:=jE;have hpl:P.pr.lines.length=P.lines.list.length:=List.length_map _;have hpi:P.pr.inputs.length=P.inputs.list.length:=List.length_map _;generalize hR:dQ P.pr=r;refine cW Tryz.func98 rfl Tryz.ntmps98 rfl ?_;intro β hM;refine sr<|hQ rfl rfl rfl rfl rfl rfl fun b1=>?_;refine sp hT ?_;refine nn<|sr<|sp hT ?_;refine ss (ldO hT (fN .head)) ?_;refine sp2 hT ?_;refine bT (z':=(((P.lines.list.length:Nat):Int)-1)) (bDc (by omega) (by omega)) ?_;refine sp hT ?_;refine nn<|bA<|sr<|sp3 hT ?_;refine cF (fun hg23=>?_) (fun hg23=>?_)
 ·have hg23:=of_decide_eq_true hg23;refine sk4 ?_;refine sp2 hT ?_;refine sk4 ?_;refine sk4 ?_;refine sp hT ?_;refine nn<|cI rfl rfl ?_;refine sr<|sp hT ?_;refine nn<|bF<|bB ?_;have hr:=hR.symm.trans (yR (by first | exact .inl (List.map_eq_nil_iff.2 (List.eq_nil_of_length_eq_zero (by omega))) | exact .inr (by omega)));subst hr;exact bV ((_,_),false) rfl (bG rfl) (.cons kT1 (.cons kT1 .nil)) ⟨Has.pure (fun _=>rfl),trivial⟩ rfl
 have hg23:=Int.not_lt.1 (of_decide_eq_false hg23);refine sp hT ?_;refine ss (ldO hT (bJ .head)) ?_;refine sp4 hT ?_;refine cF (fun hg29=>?_) (fun hg29=>?_)
 ·have hg29:=of_decide_eq_true hg29;refine sk4 ?_;refine sk4 ?_;refine sp hT ?_;refine nn<|cI rfl rfl ?_;refine sr<|sp hT ?_;refine nn<|bF<|bB ?_;have hr:=hR.symm.trans (yR (by first | exact .inl (List.map_eq_nil_iff.2 (List.eq_nil_of_length_eq_zero (by omega))) | exact .inr (by omega)));subst hr;exact bV ((_,_),false) rfl (bG rfl) (.cons kT1 (.cons kT1 .nil)) ⟨Has.pure (fun _=>rfl),trivial⟩ rfl
 have hg29:=Int.not_lt.1 (of_decide_eq_false hg29);refine sp hT ?_;refine ss (ldO hT (fN .head)) ?_;refine sp2 hT ?_;refine ss (ldO hT (bJ .head)) ?_;refine sp2 hT ?_;refine bT (z':=(((64-P.inputs.list.length):Nat):Int)) (cP (by omega) (by omega)) ?_;refine sp2 hT ?_;refine nn<|bL rfl (fun hc38=>?_) (fun hc38=>?_)
 ·have hc38:=of_decide_eq_true hc38;refine sr<|sp hT ?_;refine nn<|bF<|bB ?_;have hr:=hR.symm.trans (yR (by first | exact .inl (List.map_eq_nil_iff.2 (List.eq_nil_of_length_eq_zero (by omega))) | exact .inr (by omega)));subst hr;exact bV ((_,_),false) rfl (bG rfl) (.cons kT1 (.cons kT1 .nil)) ⟨Has.pure (fun _=>rfl),trivial⟩ rfl
 have hc38:=Int.not_lt.1 (of_decide_eq_false hc38);refine bN<|bC<|bA<|sr<|sp hT ?_;refine ss (ldO hT (bJ .head)) ?_;refine sp2 hT ?_;refine nn<|bX<|dG (ι:=Nat×Bs×Bool×Option Addr×Nat) [(0,_),(3,_),(5,_),(40,_),(41,_)] ⟨rfl,rfl,rfl,rfl,rfl,trivial⟩ (fun⟨i,out,u,G,c⟩=>[(42,.int .i64 (i:Nat))]) (fun⟨i,out,u,G,c⟩=>[.obj b (.cells [.map (some r1),.map (some r2),bJy u b,.slice G out.length c].toArray 179),nK.row (.slice G out.length c) 5 out]) (fun⟨i,out,u,G,c⟩=>[Fact.pure (i≤P.inputs.list.length∧dQ P.pr=oE P.pr i out∧(out=[]→G=none)∧out.length≤1000*i)]) (fun⟨i,out,u,G,c⟩=>P.inputs.list.length-i) (0,[],false,none,0) ⟨rfl,trivial⟩ (.cons kT1 (.cons kT1 .nil)) ⟨Has.pure (⟨by omega,prog_start (by rintro(h | h);(have h:=congrArg List.length h;rw [hpl,List.length_nil] at h;omega);omega),fun _=>rfl,by simp⟩),trivial⟩ ?_;rintro⟨i,out,u,G,c⟩;dsimp only;refine bS (Has.of mT0) fun hinv5=>?_;refine sr<|sp hT ?_;refine nn<|bA<|bL rfl (fun hc43=>?_) (fun hc43=>?_)
 ·have hc43:=of_decide_eq_true hc43;refine bN<|bC<|bA<|bX<|sr ?_
  obtain⟨x2,hx3⟩: ∃x,P.inputs.list[i]?=some x:=⟨_,List.getElem?_eq_getElem (by omega)⟩
  refine ss (bU hT (k:=i) (bK (Has.of mT4)) rfl rfl rfl rfl rfl rfl rfl (by omega)) ?_;refine ss (dU hT (cN.knows (bK (Has.of mT4)) (k:=i) (x:=x2) hx3 0) rfl rfl rfl rfl rfl) ?_;refine bY rfl rfl rfl rfl jW rfl fun b4=>?_;refine sto hT .head ?_;refine nn<|bA<|bA ?_;have hxi:=hP.input x2 (List.mem_of_getElem? hx3);have hx0:P.pr.inputs[i]?=some x2.inp:=tL hx3;refine bE (pG x2) (Has.each (Has.of mT5) (List.mem_of_getElem? hx3)) ?_;refine bD<|sp hT ?_;refine ss (ldO hT (bJ .head)) ?_;refine bR Tryz.func76 (lZ _ hxi.1) rfl rfl .nil ⟨Has.of mT4,trivial⟩ fun _=>?_;refine sp2 hT ?_;refine cF (fun hg50=>?_) (fun hg50=>?_)
  ·have hg50:=fX hg50;refine sk4 ?_;refine sp hT ?_;refine nn<|cI rfl rfl ?_;refine sr<|sp hT ?_;refine nn<|bF<|bB<|bH<|bB<|bB<|bH<|bB ?_;have hr:=hR.symm.trans (hinv5.2.1.trans (xA hx0 (bNd (by first | exact .inl ‹_› | exact .inr (by omega)))));subst hr;exact bV ((_,_),u) rfl (bG rfl) (.cons kT1 (.cons kT1 .nil)) ⟨Has.pure (hinv5.2.2.1),trivial⟩ rfl
  have hg50:=fP hg50;refine sp hT ?_;refine ss (ldO hT (dI .head)) ?_;refine sp3 hT ?_;refine nn<|bL rfl (fun hc55=>?_) (fun hc55=>?_)
  ·have hc55:=of_decide_eq_true hc55;refine sr<|sp hT ?_;refine nn<|bF<|bB<|bH<|bB<|bB<|bH<|bB ?_;have hr:=hR.symm.trans (hinv5.2.1.trans (xA hx0 (bNd (by first | exact .inl ‹_› | exact .inr (by omega)))));subst hr;exact bV ((_,_),u) rfl (bG rfl) (.cons kT1 (.cons kT1 .nil)) ⟨Has.pure (hinv5.2.2.1),trivial⟩ rfl
  have hc55:=Int.not_lt.1 (of_decide_eq_false hc55);refine bN<|bC<|sr<|sp hT ?_;refine ss (ldO hT (bJ .head)) ?_;refine sp hT ?_;refine nn<|bA<|sr<|sp hT ?_;refine ss (ldO hT (dI .head)) ?_;refine sp2 hT ?_;refine nn<|bX<|dG (ι:=Nat×Bs) [(0,_),(3,_),(5,_),(40,_),(41,_),(42,_),(51,_),(52,_),(53,_),(54,_),(59,_),(60,_)] ⟨rfl,rfl,rfl,rfl,rfl,rfl,rfl,rfl,rfl,rfl,rfl,rfl,trivial⟩ (fun⟨j,text⟩=>[(8,.string (bs text)),(61,.int .i64 (j:Nat))]) (fun _=>[]) (fun⟨j,text⟩=>[Fact.pure (j≤x2.sides.list.length∧lD ((x2.sides.list.map jL.sd).drop j) text=nX x2.inp∧text.length≤16+30*j)]) (fun⟨j,text⟩=>x2.sides.list.length-j) (0,x2.name) ⟨rfl,rfl,trivial⟩ .nil ⟨Has.pure (⟨by omega,(input_start ‹_› (by omega)).symm,by have:=sR ‹dS x2.name=true›;omega⟩),trivial⟩ ?_;rintro⟨j,text⟩;dsimp only;refine bS (Has.of mT0) fun hinv11=>?_;refine sr<|sp hT ?_;refine nn<|bA<|bL rfl (fun hc62=>?_) (fun hc62=>?_)
  ·have hc62:=of_decide_eq_true hc62;refine bN<|bC<|bA<|bX<|sr ?_
   obtain⟨x5,hx6⟩: ∃x,x2.sides.list[j]?=some x:=⟨_,List.getElem?_eq_getElem (by omega)⟩
   refine ss (bU hT (k:=j) (bK (Has.of mT1)) rfl rfl rfl rfl rfl rfl rfl (by omega)) ?_;refine ss (dU hT (cN.knows (bK (Has.of mT1)) (k:=j) (x:=x5) hx6 0) rfl rfl rfl rfl rfl) ?_;refine bY rfl rfl rfl rfl tZ rfl fun b7=>?_;refine sto hT .head ?_;refine nn<|bX<|bA ?_;have hdn:=hxi.2 x5 (List.mem_of_getElem? hx6);refine bD<|sp hT ?_;refine ss (ldO hT (bJ .head)) ?_;refine sp2 hT ?_;refine nn<|bL rfl (fun hc65=>?_) (fun hc65=>?_)
   ·have hc65:x5.name=([]:Bs):=eq_of_beq hc65;refine bD<|sp2 hT ?_;refine ss (ldO hT (fN .head)) ?_;have hsp:=oV hdn.2.1 hdn.2.2;refine bR Tryz.func167 (zD _ hdn.2.1 hdn.2.2) rfl rfl .nil ⟨Has.of mT5,trivial⟩ fun _=>?_;refine ss (gI rfl rfl rfl (by first | omega | (simp;omega))) ?_;refine ss (gI rfl rfl rfl (by first | omega | (simp;omega))) ?_;refine sp hT ?_;refine dY<|cD<|cD<|bC<|bD<|sp hT ?_;refine bT (z':=(((j+1):Nat):Int)) (cP (by omega) (by omega)) ?_;refine sp hT ?_;refine nn ?_;exact cO (j+1,_) (by dsimp only;omega) ⟨rfl,rfl,trivial⟩ ⟨rfl,rfl,rfl,rfl,rfl,rfl,rfl,rfl,rfl,rfl,rfl,rfl,trivial⟩ (.cons kT1 (.cons kT1 (.cons kT1 (.cons kT1 .nil)))) ⟨Has.pure (⟨by dsimp only;omega,hinv11.2.1▸(side_num hx6 ‹_›).symm,by have:=oV hdn.2.1 hdn.2.2;simp;omega⟩),trivial⟩ (bI.drop 1)
   have hc65:x5.name≠([]:Bs):=fun h=>absurd (beq_iff_eq.2 h) (by rw [show(x5.name==([]:Bs))=false from hc65];simp);refine sr<|sp hT ?_;refine ss (ldO hT (fN .head)) ?_;refine sp2 hT ?_;refine cF (fun hg79=>?_) (fun hg79=>?_)
   ·have hg79:=eq_of_beq hg79;refine sp hT ?_;refine ss (ldO hT (bJ .head)) ?_;refine bR Tryz.func76 (lZ _ hdn.1) rfl rfl .nil ⟨Has.of mT5,trivial⟩ fun _=>?_;refine sp2 hT ?_;refine nn<|bL rfl (fun hc75=>?_) (fun hc75=>?_)
    ·refine bD<|sp2 hT ?_;refine ss (ldO hT (bJ .head)) ?_;refine ss (gI rfl rfl rfl (by first | omega | (simp;omega))) ?_;refine ss (gI rfl rfl rfl (by first | omega | (simp;omega))) ?_;refine sp hT ?_;refine dY<|cD<|cD<|bC<|bD<|sp hT ?_;refine bT (z':=(((j+1):Nat):Int)) (cP (by omega) (by omega)) ?_;refine sp hT ?_;refine nn ?_;exact cO (j+1,_) (by dsimp only;omega) ⟨rfl,rfl,trivial⟩ ⟨rfl,rfl,rfl,rfl,rfl,rfl,rfl,rfl,rfl,rfl,rfl,rfl,trivial⟩ (.cons kT1 (.cons kT1 (.cons kT1 (.cons kT1 .nil)))) ⟨Has.pure (⟨by dsimp only;omega,hinv11.2.1▸(side_name hx6 ‹_› ‹_› ‹_›).symm,by have:=sR ‹dS x5.name=true›;simp;omega⟩),trivial⟩ (bI.drop 1)
    refine sr<|sp hT ?_;refine nn<|bF<|bH<|bH<|bB<|bB<|bH<|bB<|bH<|bB<|bB<|bH<|bB ?_;have hr:=hR.symm.trans (hinv5.2.1.trans (xA hx0 (hinv11.2.1.symm.trans (side_bad hx6 ‹_› (by first | exact .inl ‹_› | exact .inr ‹_›)))));subst hr;exact bV ((_,_),u) rfl (bG rfl) (.cons kT2 (.cons kT2 .nil)) ⟨Has.pure (hinv5.2.2.1),trivial⟩ rfl
   have hg79:=beq_eq_false_iff_ne.1 hg79;refine sk3 ?_;refine sp2 hT ?_;refine nn<|cG rfl rfl ?_;refine sr<|sp hT ?_;refine nn<|bF<|bH<|bH<|bB<|bB<|bH<|bB<|bH<|bB<|bB<|bH<|bB ?_;have hr:=hR.symm.trans (hinv5.2.1.trans (xA hx0 (hinv11.2.1.symm.trans (side_bad hx6 ‹_› (by first | exact .inl ‹_› | exact .inr ‹_›)))));subst hr;exact bV ((_,_),u) rfl (bG rfl) (.cons kT2 (.cons kT2 .nil)) ⟨Has.pure (hinv5.2.2.1),trivial⟩ rfl
  have hc62:=Int.not_lt.1 (of_decide_eq_false hc62);refine dC<|cM<|cM<|dB<|bC ?_;have hin:=hinv11.2.1.symm.trans (sides_done (by omega));refine bD<|sp2 hT ?_;refine bR Tryz.func168 (yQ b r1 r2 u G c out ([105,110,32]:Bs) text (by simp;omega)) rfl rfl (.cons kT1 (.cons kT1 .nil)) trivial fun⟨G8,c9⟩=>?_;refine dY<|cD<|bC<|bD<|sp hT ?_;refine bT (z':=(((i+1):Nat):Int)) (cP (by omega) (by omega)) ?_;refine sp hT ?_;refine nn ?_;exact cO (i+1,(out++((([105,110,32]:Bs)++text)++[10])),true,_,_) (by dsimp only;omega) ⟨rfl,trivial⟩ ⟨rfl,rfl,rfl,rfl,rfl,trivial⟩ (.cons .head (.cons .head (.cons kT1 .nil))) ⟨Has.pure (⟨by dsimp only;omega,hinv5.2.1.trans (prog_step hx0 hin),fun h=>by simp at h,by simp;omega⟩),trivial⟩ (bI.drop 3)
 have hc43:=Int.not_lt.1 (of_decide_eq_false hc43);refine dC<|cM<|cM<|dB<|bC<|bA<|sr<|sp hT ?_;refine ss (ldO hT (fN kT2)) ?_;refine sp2 hT ?_;refine nn<|bX ?_;have hlin:=hinv5.2.1.trans (prog_lines (by omega));refine dG (ι:=Nat×Bs×Bool×Option Addr×Nat) [(0,_),(5,_),(95,_),(96,_)] ⟨rfl,rfl,rfl,rfl,trivial⟩ (fun⟨i,out,u,G,c⟩=>[(97,.int .i64 (i:Nat))]) (fun⟨i,out,u,G,c⟩=>[.obj b (.cells [.map (some r1),.map (some r2),bJy u b,.slice G out.length c].toArray 179),nK.row (.slice G out.length c) 5 out]) (fun⟨i,out,u,G,c⟩=>[Fact.pure (i≤P.lines.list.length∧dQ P.pr=fO (P.pr.lines.drop i) out∧(out=[]→G=none)∧out.length≤1000*64+20000*i)]) (fun⟨i,out,u,G,c⟩=>P.lines.list.length-i) (0,out,u,G,c) ⟨rfl,trivial⟩ (.cons .head (.cons .head .nil)) ⟨Has.pure (⟨by omega,hlin,hinv5.2.2.1,by omega⟩),trivial⟩ ?_;rintro⟨i,out,u,G,c⟩;dsimp only;refine bS (Has.of mT0) fun hinv22=>?_;refine sr<|sp hT ?_;refine nn<|bA<|bL rfl (fun hc98=>?_) (fun hc98=>?_)
 ·have hc98:=of_decide_eq_true hc98;refine bN<|bC<|bA<|bX<|sr<|sp hT ?_
  obtain⟨x10,hx11⟩: ∃x,P.lines.list[i]?=some x:=⟨_,List.getElem?_eq_getElem (by omega)⟩
  refine ss (bU hT (k:=i) (bK (Has.of mT7)) rfl rfl rfl rfl rfl rfl rfl (by omega)) ?_;refine ss (dU hT (cN.knows (bK (Has.of mT7)) (k:=i) (x:=x10) hx11 0) rfl rfl rfl rfl rfl) ?_;refine bY rfl rfl rfl rfl qG rfl fun b12=>?_;refine sp hT ?_;refine sto hT .head ?_;refine nn<|bA ?_;have hli:=hP.line x10 (List.mem_of_getElem? hx11);have hx0:P.pr.lines[i]?=some x10.ln:=tL hx11;refine bE (bJk x10) (Has.each (Has.of mT8) (List.mem_of_getElem? hx11)) ?_;refine bE (lH.sl (.slice x10.items.addr x10.items.list.length x10.items.cap) x10.items.list) (Has.left (Has.of mT0)) ?_;refine bE (mG x10.items.list) (Has.right (Has.of mT1)) ?_;have hz: ∀y∈(x10.items.list.map ItemV.it),∀z∈y.nums,-9223372036854775808≤z∧z≤9223372036854775807:=fun y hy z hzz=>by obtain⟨it,h1,rfl⟩:=List.mem_map.1 hy;exact(hli.2 it h1).2 z hzz
  refine bD<|sp hT ?_;refine ss (ldO hT (bJ .head)) ?_;refine ss (gI rfl rfl rfl (by first | omega | (simp;omega))) ?_;refine sp2 hT ?_;refine nn<|bA<|sr<|sp3 hT ?_;refine nn<|bL rfl (fun hc107=>?_) (fun hc107=>?_)
  ·have hc107:=eq_of_beq hc107;refine bD<|sp2 hT ?_;refine nn<|sr<|sp2 hT ?_;refine ss (ldO hT (dI .head)) ?_;refine sp hT ?_;refine bR Tryz.func169 (bGf b r1 r2 (bJy u b) G out.length c _ _ x10.items.list 255 (by omega) hli.2) rfl rfl (.cons kT1 .nil) ⟨(Has.of mT5),(Has.of mT6),(Has.of mT7),(Has.of mT1),(Has.of mT0),trivial⟩ fun _=>?_;refine sp4 hT ?_;refine sp hT ?_;refine nn<|bA<|sr<|sp3 hT ?_;refine cF (fun hg118=>?_) (fun hg118=>?_)
   ·have hg118:=fX hg118;refine sk4 ?_;refine sk3 ?_;refine sp2 hT ?_;refine sk4 ?_;refine sk4 ?_;refine sk ?_;refine sp hT ?_;refine nn<|cI rfl rfl ?_;refine sr<|sp hT ?_;refine nn<|bF<|bB<|bH<|bB<|bB<|bH<|bB ?_;have hr:=hR.symm.trans (hinv22.2.1.trans (show fO (P.pr.lines.drop i) out=(out,false) from (by first | exact rF hx0 (by rw [if_pos (by omega)];exact rK ‹_›) | exact pI hx0 (by omega) ‹_› hex | exact lM hx0 (by omega) (by first | assumption | (rw [show x10.ln.name=[] from by assumption];exact tD)) hex | exact False.elim (by omega))));subst hr;exact bV ((_,_),u) rfl (bG rfl) (.cons .head (.cons kT1 .nil)) ⟨Has.pure (hinv22.2.2.1),trivial⟩ rfl
   have hg118:=fP hg118;have hex:=bMg (by assumption:(gE (x10.items.list.map ItemV.it) 255).isSome=true);have hexl:=bMp hz hex;refine sp3 hT ?_;refine cF (fun hg121=>?_) (fun hg121=>?_)
   ·have hg121:=eq_of_beq hg121;refine sp hT ?_;refine ss (ldO hT (bJ kT1)) ?_;refine sp hT ?_;refine cF (fun hg124=>?_) (fun hg124=>?_)
    ·have hg124:x10.name=([]:Bs):=eq_of_beq hg124;refine sp hT ?_;refine bZ (t':=false) (by decide) ?_;refine sp4 hT ?_;refine sp2 hT ?_;refine cF (fun hg131=>?_) (fun hg131=>?_)
     ·have hg131:=of_decide_eq_true hg131;omega
     have hg131:=Int.not_lt.1 (of_decide_eq_false hg131);refine sk4 ?_;refine sp2 hT ?_;refine nn<|cG rfl rfl ?_;refine bN<|bC<|bD<|sp3 hT ?_;refine bR Tryz.func168 (yQ b r1 r2 u G c out ([111,117,116,32]:Bs) ((gE (x10.items.list.map ItemV.it) 255).getD []) (by simp;omega)) rfl rfl (.cons .head (.cons kT1 .nil)) trivial fun⟨G13,c14⟩=>?_;refine dY<|cD<|bC<|bD<|sp hT ?_;refine bT (z':=(((i+1):Nat):Int)) (cP (by omega) (by omega)) ?_;refine sp hT ?_;refine nn ?_;exact cO (i+1,(out++((([111,117,116,32]:Bs)++((gE (x10.items.list.map ItemV.it) 255).getD []))++[10])),true,_,_) (by dsimp only;omega) ⟨rfl,trivial⟩ ⟨rfl,rfl,rfl,rfl,trivial⟩ (.cons .head (.cons .head (.cons kT1 .nil))) ⟨Has.pure (⟨by dsimp only;omega,hinv22.2.1.trans (lines_out hx0 (by omega) ‹_› hex),fun h=>by simp at h,by simp;omega⟩),trivial⟩ (bI.drop 4)
    have hg124:x10.name≠([]:Bs):=fun h=>absurd (beq_iff_eq.2 h) (by rw [show(x10.name==([]:Bs))=false from hg124];simp);refine sp hT ?_;refine bZ (t':=true) (by decide) ?_;refine sp2 hT ?_;refine sk4 ?_;refine sk4 ?_;refine sk ?_;refine sp hT ?_;refine nn<|cI rfl rfl ?_;refine sr<|sp hT ?_;refine nn<|bF<|bB<|bH<|bB<|bB<|bH<|bB ?_;have hr:=hR.symm.trans (hinv22.2.1.trans (show fO (P.pr.lines.drop i) out=(out,false) from (by first | exact rF hx0 (by rw [if_pos (by omega)];exact rK ‹_›) | exact pI hx0 (by omega) ‹_› hex | exact lM hx0 (by omega) (by first | assumption | (rw [show x10.ln.name=[] from by assumption];exact tD)) hex | exact False.elim (by omega))));subst hr;exact bV ((_,_),u) rfl (bG rfl) (.cons .head (.cons kT1 .nil)) ⟨Has.pure (hinv22.2.2.1),trivial⟩ rfl
   have hg121:=beq_eq_false_iff_ne.1 hg121;omega
  have hc107:=beq_eq_false_iff_ne.1 hc107;refine bN<|bC<|sr<|sp2 hT ?_;refine ss (ldO hT (dI .head)) ?_;refine sp hT ?_;refine bR Tryz.func169 (bGf b r1 r2 (bJy u b) G out.length c _ _ x10.items.list 254 (by omega) hli.2) rfl rfl (.cons kT1 .nil) ⟨(Has.of mT5),(Has.of mT6),(Has.of mT7),(Has.of mT1),(Has.of mT0),trivial⟩ fun _=>?_;refine sp4 hT ?_;refine sp hT ?_;refine nn<|bA<|sr<|sp3 hT ?_;refine cF (fun hg118=>?_) (fun hg118=>?_)
  ·have hg118:=fX hg118;refine sk4 ?_;refine sk3 ?_;refine sp2 hT ?_;refine sk4 ?_;refine sk4 ?_;refine sk ?_;refine sp hT ?_;refine nn<|cI rfl rfl ?_;refine sr<|sp hT ?_;refine nn<|bF<|bB<|bH<|bB<|bB<|bH<|bB ?_;have hr:=hR.symm.trans (hinv22.2.1.trans (show fO (P.pr.lines.drop i) out=(out,false) from (by first | exact rF hx0 (by rw [if_neg (by omega)];exact rK ‹_›) | exact pI hx0 (by omega) ‹_› hex | exact lM hx0 (by omega) (by first | assumption | (rw [show x10.ln.name=[] from by assumption];exact tD)) hex | exact False.elim (by omega))));subst hr;exact bV ((_,_),u) rfl (bG rfl) (.cons .head (.cons kT1 .nil)) ⟨Has.pure (hinv22.2.2.1),trivial⟩ rfl
  have hg118:=fP hg118;have hex:=bMg (by assumption:(gE (x10.items.list.map ItemV.it) 254).isSome=true);have hexl:=bMp hz hex;refine sp3 hT ?_;refine cF (fun hg121=>?_) (fun hg121=>?_)
  ·have hg121:=eq_of_beq hg121;omega
  have hg121:=beq_eq_false_iff_ne.1 hg121;refine sp hT ?_;refine ss (ldO hT (bJ kT1)) ?_;refine sp hT ?_;refine cF (fun hg124=>?_) (fun hg124=>?_)
  ·have hg124:x10.name=([]:Bs):=eq_of_beq hg124;refine sp hT ?_;refine bZ (t':=true) (by decide) ?_;refine sp2 hT ?_;refine sk4 ?_;refine sk4 ?_;refine sk ?_;refine sp hT ?_;refine nn<|cI rfl rfl ?_;refine sr<|sp hT ?_;refine nn<|bF<|bB<|bH<|bB<|bB<|bH<|bB ?_;have hr:=hR.symm.trans (hinv22.2.1.trans (show fO (P.pr.lines.drop i) out=(out,false) from (by first | exact rF hx0 (by rw [if_neg (by omega)];exact rK ‹_›) | exact pI hx0 (by omega) ‹_› hex | exact lM hx0 (by omega) (by first | assumption | (rw [show x10.ln.name=[] from by assumption];exact tD)) hex | exact False.elim (by omega))));subst hr;exact bV ((_,_),u) rfl (bG rfl) (.cons .head (.cons kT1 .nil)) ⟨Has.pure (hinv22.2.2.1),trivial⟩ rfl
  have hg124:x10.name≠([]:Bs):=fun h=>absurd (beq_iff_eq.2 h) (by rw [show(x10.name==([]:Bs))=false from hg124];simp);refine sp hT ?_;refine bZ (t':=false) (by decide) ?_;refine sp4 hT ?_;refine sp2 hT ?_;refine cF (fun hg131=>?_) (fun hg131=>?_)
  ·have hg131:=of_decide_eq_true hg131;refine sp hT ?_;refine ss (ldO hT (bJ kT1)) ?_;refine bR Tryz.func76 (lZ _ hli.1) rfl rfl .nil ⟨Has.of mT7,trivial⟩ fun _=>?_;refine sp3 hT ?_;refine nn<|bL rfl (fun hc137=>?_) (fun hc137=>?_)
   ·have hc137:=fX hc137;refine sr<|sp hT ?_;refine nn<|bF<|bB<|bH<|bB<|bB<|bH<|bB ?_;have hr:=hR.symm.trans (hinv22.2.1.trans (show fO (P.pr.lines.drop i) out=(out,false) from (by first | exact rF hx0 (by rw [if_neg (by omega)];exact rK ‹_›) | exact pI hx0 (by omega) ‹_› hex | exact lM hx0 (by omega) (by first | assumption | (rw [show x10.ln.name=[] from by assumption];exact tD)) hex | exact False.elim (by omega))));subst hr;exact bV ((_,_),u) rfl (bG rfl) (.cons .head (.cons kT1 .nil)) ⟨Has.pure (hinv22.2.2.1),trivial⟩ rfl
   have hc137:=fP hc137;refine bN<|bC ?_;have hnl:=sR (by assumption:dS x10.name=true);refine bD<|sp3 hT ?_;refine bR Tryz.func168 (yQ b r1 r2 u G c out (x10.name++([58,32]:Bs)) ((gE (x10.items.list.map ItemV.it) 254).getD []) (by simp;omega)) rfl rfl (.cons .head (.cons kT1 .nil)) trivial fun⟨G15,c16⟩=>?_;refine dY<|cD<|bC<|bD<|sp hT ?_;refine bT (z':=(((i+1):Nat):Int)) (cP (by omega) (by omega)) ?_;refine sp hT ?_;refine nn ?_;exact cO (i+1,(out++(((x10.name++([58,32]:Bs))++((gE (x10.items.list.map ItemV.it) 254).getD []))++[10])),true,_,_) (by dsimp only;omega) ⟨rfl,trivial⟩ ⟨rfl,rfl,rfl,rfl,trivial⟩ (.cons .head (.cons .head (.cons kT1 .nil))) ⟨Has.pure (⟨by dsimp only;omega,hinv22.2.1.trans (lines_step hx0 (by omega) ‹_› hex),fun h=>by simp at h,by have:=sR ‹dS x10.name=true›;simp;omega⟩),trivial⟩ (bI.drop 4)
  have hg131:=Int.not_lt.1 (of_decide_eq_false hg131);omega
 have hc98:=Int.not_lt.1 (of_decide_eq_false hc98);refine dC<|cM<|cM<|dB<|bC<|sr<|sp hT ?_;refine nn<|bF ?_;have hr:=hR.symm.trans (hinv22.2.1.trans (bLt (by omega)));subst hr;exact bV ((_,_),u) rfl (bG rfl) (.cons .head (.cons .head .nil)) ⟨Has.pure (hinv22.2.2.1),trivial⟩ rfl
set_option maxRecDepth 100000 in
theorem bstrN_spec(b r1 r2:Nat)(p:Value)(g c:Nat)(out:Bs)(h0:out≠[])(hc:out.length≤c):dX Tryz.prog 99 [.pointer (some ⟨b,2,none⟩)] [.obj b (.cells [.map (some r1),.map (some r2),p,.slice (some ⟨g,0,none⟩) out.length c].toArray 179),nK.row (.slice (some ⟨g,0,none⟩) out.length c) 5 out] [] (fun(_:Unit)=> .string (bs out)) (fun _=>[]) (fun _=>[]):=by
 have hT:=jE;refine cW Tryz.func99 rfl Tryz.ntmps99 rfl ?_;intro β hM;refine sr<|sp hT ?_;refine nn<|bA<|cZ _ _ [(true,0),(true,1),(true,2),(true,3),(true,4),(true,5),(true,6),(true,7),(true,8),(true,9),(false,10),(true,11)] dD (by decide+kernel) (.cons .head .nil) bI.self ?_;refine puM hT ?_;refine puM hT ?_;refine puM hT ?_;refine stM rfl (ldO hT (uY .head)) ?_;refine stM rfl (xQ rfl rfl (.inr (by have:=List.length_pos_iff.2 h0;omega))) ?_;refine puM hT ?_;refine puM hT ?_;refine puM hT ?_;refine stM rfl (ldO hT (uY .head)) ?_;refine puM hT ?_;refine cK (o:=_) rfl ?_;refine bEt kT1 rfl rfl rfl rfl u8Ptr (by kernel_rfl) rfl rfl rfl h0 ?_;refine cL (.cons .head .nil) trivial ?_;refine puM hT ?_;refine cQ<|bC<|bF ?_;exact bV () rfl (bG rfl) .nil trivial (rfl)
set_option maxRecDepth 100000 in
theorem bstrE_spec(b r1 r2:Nat)(p:Value)(c:Nat):dX Tryz.prog 99 [.pointer (some ⟨b,2,none⟩)] [.obj b (.cells [.map (some r1),.map (some r2),p,.slice none 0 c].toArray 179)] [] (fun(_:Unit)=> .string (bs [])) (fun _=>[]) (fun _=>[]):=by
 have hT:=jE;refine cW Tryz.func99 rfl Tryz.ntmps99 rfl ?_;intro β hM;refine sr<|sp hT ?_;refine nn<|bA<|cZ _ _ [(true,0),(true,1),(true,2),(true,3),(true,4),(true,5),(true,6),(true,7),(true,8),(true,9),(true,10),(true,11)] dD (by decide+kernel) (.cons .head .nil) bI.self ?_;refine puM hT ?_;refine puM hT ?_;refine puM hT ?_;refine stM rfl (ldO hT (uY .head)) ?_;refine stM rfl (xQ rfl rfl (.inl rfl)) ?_;refine puM hT ?_;refine puM hT ?_;refine puM hT ?_;refine stM rfl (ldO hT (uY .head)) ?_;refine puM hT ?_;refine stM rfl (sti_noString rfl rfl rfl) ?_;refine puM hT ?_;refine cQ<|bC<|bF ?_;exact bV () rfl (bG rfl) .nil trivial (rfl)
set_option maxRecDepth 100000 in
theorem swrite_spec(P:ProgV)(hP:tT P)(hl1:P.inputs.list.length≤140737488355328)(hl2:P.lines.list.length≤140737488355328):dX Tryz.prog 54 [.agg #[.slice P.inputs.addr P.inputs.list.length P.inputs.cap,.slice P.lines.addr P.lines.list.length P.lines.cap]] [] [iK,kU.sl (.slice P.inputs.addr P.inputs.list.length P.inputs.cap) P.inputs.list,jA P.inputs.list,pH.sl (.slice P.lines.addr P.lines.list.length P.lines.cap) P.lines.list,lT P.lines.list] (fun(_:Unit)=> .tuple #[.string (bs (dQ P.pr).1),.bool (dQ P.pr).2]) (fun _=>[]) (fun _=>[]):=by
 have hT:=jE;refine cW Tryz.func54 rfl Tryz.ntmps54 rfl ?_;intro β hM;refine sr<|hQ rfl rfl rfl rfl rfl rfl fun b1=>?_;refine sp2 hT ?_;refine nn<|sr<|bR Tryz.func97 (bFt false) rfl rfl .nil ⟨(Has.of mT0),trivial⟩ fun r2=>?_;refine bR Tryz.func97 (bFt true) rfl rfl .nil ⟨(Has.of mT1),trivial⟩ fun r3=>?_;refine ss (cC rfl rfl (shower_built _ _)) ?_;refine hQ rfl rfl rfl rfl rfl rfl fun b4=>?_;refine sp hT ?_;refine nn<|sr<|sp hT ?_;refine ss (ldN hT (bJ kT1)) ?_;refine dR (t:=5) nK ?_;refine bR Tryz.func98 (bKn b4 r2 r3 P hP hl1 hl2) rfl rfl (.cons kT1 (.cons .head .nil)) ⟨(Has.of mT1),(Has.of mT0),(Has.of mT2),(Has.of mT3),(Has.of mT4),(Has.of mT5),(Has.of mT6),trivial⟩ fun⟨⟨G5,c6⟩,u7⟩=>?_;refine bS (Has.of mT0) fun hemp=>?_;dsimp only at hemp;refine sp hT ?_;refine nn<|bA ?_
 rcases Decidable.em ((dQ P.pr).1=[]) with h0 | h0
 ·skip
  refine bD<|sp3 hT ?_;have hg:=hemp h0;subst hg;rw [h0];refine bR Tryz.func99 (bstrE_spec b4 r2 r3 (bJy u7 b4) c6) rfl rfl (.cons .head .nil) trivial fun _=>?_;refine sp3 hT ?_;refine nn<|bF ?_;exact bO () rfl (bG rfl) (bG rfl) .nil trivial (by first | rfl | rw [h0])
 skip
 refine bD<|sp3 hT ?_;refine iI kT1 fun hcap=>?_;refine wZ kT1 (List.length_pos_iff.2 h0) fun g hg=>?_;subst hg;refine bR Tryz.func99 (bstrN_spec b4 r2 r3 (bJy u7 b4) g c6 (dQ P.pr).1 h0 hcap) rfl rfl (.cons .head (.cons .head .nil)) trivial fun _=>?_;refine sp3 hT ?_;refine nn<|bF ?_;exact bO () rfl (bG rfl) (bG rfl) .nil trivial (by first | rfl | rw [h0])
set_option maxRecDepth 100000 in
theorem sRight_spec(P:ProgV)(hP:tT P)(hl1:P.inputs.list.length≤140737488355328)(hl2:P.lines.list.length≤140737488355328):dX Tryz.prog 41 [.agg #[.slice P.inputs.addr P.inputs.list.length P.inputs.cap,.slice P.lines.addr P.lines.list.length P.lines.cap]] [] [iK,kU.sl (.slice P.inputs.addr P.inputs.list.length P.inputs.cap) P.inputs.list,jA P.inputs.list,pH.sl (.slice P.lines.addr P.lines.list.length P.lines.cap) P.lines.list,lT P.lines.list] (fun(_:Unit)=> .bool (dQ P.pr).2) (fun _=>[]) (fun _=>[]):=by
 have hT:=jE;refine cW Tryz.func41 rfl Tryz.ntmps41 rfl ?_;intro β hM;refine sr<|hQ rfl rfl rfl rfl rfl rfl fun b1=>?_;refine sp hT ?_;refine nn<|sr<|ss (ldN hT (bJ .head)) ?_;refine bR Tryz.func54 (swrite_spec P hP hl1 hl2) rfl rfl .nil ⟨Has.of mT0,Has.of mT1,Has.of mT2,Has.of mT3,Has.of mT4,trivial⟩ fun _=>?_;refine sp4 hT ?_;refine sp hT ?_;refine nn<|sr<|sp2 hT ?_;refine nn<|bF ?_;exact bV () rfl (bG rfl) .nil trivial (rfl)
def all2 {α:Type}(f:α→α→Bool):List α→List α→Bool
 | [],[]=>true
 | x::a,y::b=>f x y&&all2 f a b
 | _,_=>false
section
variable {α : Type} {f : α → α → Bool} {x y : α} {i : Nat}
theorem bBo{a b:List α}{k:Nat}(h:a.take k=b.take k)(hx:a[k]?=some x)(hy:b[k]?=some y)(e:x=y):a.take (k+1)=b.take (k+1):=by
 subst e;rw [List.take_add_one,List.take_add_one,h,hx,hy]
theorem bIo{a b:List α}{k:Nat}(h:a.take k=b.take k)(ha:a.length≤k)(hb:b.length≤k):a=b:=by
 rw [List.take_of_length_le ha,List.take_of_length_le hb] at h;exact h
theorem bIj{a b:List α}{k:Nat}(hx:a[k]?=some x)(hy:b[k]?=some y)(e:x≠y):a≠b:=by
 rintro rfl;rw [hx] at hy;exact e (Option.some.inj hy)
end
theorem step_bound{st st':List fS}{x:dJ}(h:iH st x=some st'):x.name.length≤16∧x.nums.length≤256:=by
 unfold iH at h;split at h
 ·unfold operandS at h;split at h
  ·split at h
   ·rename_i hb;rw [hb.2.1];exact⟨(oR hb.2.2).len,by simp⟩
   ·simp at h
  ·split at h
   ·simp at h
   ·rename_i hb;simp only [not_or,ne_eq,Classical.not_not,Nat.not_lt] at hb;rw [hb.2.1];exact⟨by simp,hb.2.2.2⟩
 ·split at h
  ·cases h
  ·rename_i hb;simp only [not_or,ne_eq,Classical.not_not] at hb;rw [hb.2.2.1,hb.2.2.2.1];exact⟨by simp,by simp⟩
theorem bCx: ∀{l:List dJ} {st st':List fS},fT l st=some st'→ ∀x∈l,x.name.length≤16∧x.nums.length≤256
 | [],_,_,_,x,hx=>by simp at hx
 | y::l,st,st',h,x,hx=>by
  rw [fT] at h
  cases h1:iH st y with
  | none=>rw [h1] at h;cases h
  | some s1=>
   rw [h1] at h
   rcases List.mem_cons.1 hx with rfl | hx
   ·exact step_bound h1
   ·exact bCx h x hx
theorem bJb{l:List dJ}{m:Nat}{t:Bs}(h:gE l m=some t):l.length≤m∧ ∀x∈l,x.name.length≤16∧x.nums.length≤256:=by
 unfold gE at h;split at h
 ·cases h
 ·rename_i hl;split at h
  ·rename_i hq;exact⟨by omega,bCx hq⟩
  ·cases h
theorem wK: ∀{ds:List qM} {acc t:Bs},lD ds acc=some t→ ∀d∈ds,d.name.length≤16
 | [],_,_,_,d,hd=>by simp at hd
 | e::ds,acc,t,h,d,hd=>by
  rw [lD] at h;split at h
  ·rename_i he
   rcases List.mem_cons.1 hd with rfl | hd
   ·rw [he];simp
   ·exact wK h d hd
  ·split at h
   ·rename_i hb
    rcases List.mem_cons.1 hd with rfl | hd
    ·exact(oR hb.2).len
    ·exact wK h d hd
   ·cases h
theorem zU: ∀{xs:List gG} {o o':Bs},jX xs o=(o',true)→ ∀x∈xs,x.name.length≤16∧x.sides.length≤4∧ ∀d∈x.sides,d.name.length≤16
 | [],_,_,_,x,hx=>by simp at hx
 | y::xs,o,o',h,x,hx=>by
  rw [jX] at h
  cases hi:nX y with
  | none=>rw [hi] at h;simp at h
  | some t=>
   rw [hi] at h;simp only at h
   rcases List.mem_cons.1 hx with rfl | hx
   ·unfold nX at hi;split at hi
    ·cases hi
    ·rename_i hb;simp only [not_or,Bool.not_eq_false,Nat.not_lt] at hb;exact⟨(oR hb.1).len,hb.2,wK hi⟩
   ·exact zU h x hx
theorem bDb: ∀{ls:List kL} {o o':Bs},fO ls o=(o',true)→ ∀l∈ls,l.name.length≤16∧l.items.length≤255∧ ∀x∈l.items,x.name.length≤16∧x.nums.length≤256
 | [],_,_,_,l,hl=>by simp at hl
 | [m],o,o',h,l,hl=>by
  rw [List.mem_singleton.1 hl];simp only [fO] at h
  cases hx:gE m.items 255 with
  | none=>rw [hx] at h;simp at h
  | some t=>
   rw [hx] at h;simp only at h;split at h
   ·simp at h
   ·rename_i hn;simp only [ne_eq,Classical.not_not] at hn;obtain⟨a,b⟩:=bJb hx;exact⟨by rw [hn];simp,a,b⟩
 | m::n::ls,o,o',h,l,hl=>by
  have h':(match gE m.items 254 with
    | none=>(o,false)
    | some t=>if dS m.name=false then (o,false) else fO (n::ls) (o++(((m.name++[58,32])++t)++[10])))=(o',true):=h
  cases hx:gE m.items 254 with
  | none=>rw [hx] at h';simp at h'
  | some t=>
   rw [hx] at h';simp only at h';split at h'
   ·simp at h'
   ·rename_i hb;simp only [Bool.not_eq_false] at hb
    rcases List.mem_cons.1 hl with rfl | hl
    ·obtain⟨a,b⟩:=bJb hx;exact⟨(oR hb).len,by omega,b⟩
    ·exact bDb h' l hl
structure Fine (p:Prog):Prop where
 ins:p.inputs.length≤64
 lns:p.lines.length≤64
 input: ∀x∈p.inputs,x.name.length≤16∧x.sides.length≤4∧ ∀d∈x.sides,d.name.length≤16
 line: ∀l∈p.lines,l.name.length≤16∧l.items.length≤255∧ ∀x∈l.items,x.name.length≤16∧x.nums.length≤256
theorem oD{p:Prog}(h:(dQ p).2=true):Fine p:=by
 unfold dQ at h;split at h
 ·cases h
 ·rename_i hb;simp only [not_or,Nat.not_lt] at hb
  cases hi:jX p.inputs [] with
  | mk o b=>
   rw [hi] at h
   cases b with
   | false=>cases h
   | true=>
    simp only at h;exact⟨by omega,by omega,zU hi,bDb (o':=(fO p.lines o).1) (Prod.ext rfl h)⟩
section
variable {x : ProgV}
theorem xG{y:InputV}(h:y∈x.inputs.list):y.inp∈x.pr.inputs:=List.mem_map.2 ⟨y,h,rfl⟩
theorem mem_ln{y:LineV}(h:y∈x.lines.list):y.ln∈x.pr.lines:=List.mem_map.2 ⟨y,h,rfl⟩
theorem mem_sd{y:InputV}{d:jL}(h:d∈y.sides.list):d.sd∈y.inp.sides:=List.mem_map.2 ⟨d,h,rfl⟩
theorem mem_it{y:LineV}{d:ItemV}(h:d∈y.items.list):d.it∈y.ln.items:=List.mem_map.2 ⟨d,h,rfl⟩
theorem Fine.ok(h:Fine x.pr)(hr:RngP x.pr):tT x∧x.inputs.list.length≤140737488355328∧x.lines.list.length≤140737488355328:=by
 have e1:x.pr.inputs.length=x.inputs.list.length:=List.length_map _;have e2:x.pr.lines.length=x.lines.list.length:=List.length_map _;have h1:=h.ins;have h2:=h.lns;refine⟨⟨fun y hy=>?_,fun y hy=>?_⟩,by omega,by omega⟩
 ·obtain⟨a,b,c⟩:=h.input _ (xG hy);refine⟨Nat.le_trans a (by decide),fun d hd=>⟨Nat.le_trans (c _ (mem_sd hd)) (by decide),?_⟩⟩;exact hr.ins _ (xG hy) _ (mem_sd hd)
 ·obtain⟨a,b,c⟩:=h.line _ (mem_ln hy);refine⟨Nat.le_trans a (by decide),fun d hd=>⟨Nat.le_trans (c _ (mem_it hd)).1 (by decide),?_⟩⟩;exact hr.lns _ (mem_ln hy) _ (mem_it hd)
end
theorem flt_of{f:Flt}(h:nQ ⟨f.1,f.2⟩ ⟨0,0⟩=true):f=(0,0):=bAn.1 h
abbrev w64(z:Int):Int:=IntKind.i64.wrap z
def takesW(f:Int)(two:Bool):Bool:=if f<1∨17<f then false else if f=16 then !two else two || decide (f≤7)
def restW (a b:Int):Int:=if a.tmod b≠0∧decide (a.tmod b<0)≠decide (b<0) then w64 (a.tmod b+b) else a.tmod b
def truthW(b:Bool):Int:=if b then 1 else 0
def big1 (a:Int):Bool:=decide (1<IntKind.u64.wrap a)
def refusesW(f a b:Int):Bool:=if f=4 then b==0 else if f=17 then decide (b<0) else if f=14∨f=15 then big1 a || big1 b else false
def raisedGo:Nat→Int→Int→Nat→Int
 | 0,p,_,_=>p
 | k+1,p,a,n=>if n=0 then p else raisedGo k (if n%2=1 then w64 (p*a) else p) (w64 (a*a)) (n/2)
def raisedW(a n:Int):Int:=raisedGo (n.toNat+1) 1 a n.toNat
def holdsW(f a b:Int):Bool:=if f=8 then a==b else if f=9 then a !=b else if f=10 then decide (a<b) else if f=11 then decide (a≤b) else if f=12 then decide (b≤a) else decide (b<a)
def andW (a b:Int):Int:=w64 ((BitVec.ofInt 64 a&&&BitVec.ofInt 64 b).toNat:Nat)
def orW (a b:Int):Int:=w64 ((BitVec.ofInt 64 a ||| BitVec.ofInt 64 b).toNat:Nat)
def xorW (a b:Int):Int:=w64 ((BitVec.ofInt 64 a^^^BitVec.ofInt 64 b).toNat:Nat)
def divW (a b:Int):Int:=if restW a b≠a.tmod b then w64 (w64 (a.tdiv b)-1) else w64 (a.tdiv b)
def minW (a b:Int):Int:=if b<a then b else a
def maxW (a b:Int):Int:=if b>a then b else a
def dyad0 (f a b:Int):Int:=
 if f=1 then w64 (a+b) else if f=2 then w64 (a-b) else if f=3 then w64 (a*b) else if f=4 then divW a b else if f=5 then (if a=0 then b else restW b a)
 else if f=6 then minW a b else if f=7 then maxW a b else if f=14 then andW a b else if f=15 then orW a b else if f=17 then raisedW a b else truthW (holdsW f a b)
def dyadW (f a b:Int):Int×Int:=if takesW f true=false then (0,10) else if refusesW f a b=true then (0,11) else (dyad0 f a b,0)
def monadW(f a:Int):Int×Int:=
 if takesW f false=false then (0,10) else if f=2 then (w64 (0-a),0) else if f=3 then (w64 (truthW (decide (0<a))-truthW (decide (a<0))),0) else if f=4 then dyadW f 1 a
 else if f=5 then (maxW a (w64 (0-a)),0) else if f=16 then (if big1 a=true then (0,11) else (xorW a 1,0)) else (a,0)
structure Arr where
 sides:List Int
 data:List Int
 deriving Inhabited,DecidableEq
def bGb (s:Int):Bool:=decide (s<0) || decide (65536<s)
def prodGo:List Int→Int→Int×Int
 | [],n=>(n,0)
 | s::r,n=>if 65536<w64 (n*s) then (0,61) else prodGo r (w64 (n*s))
def sizeA (s:List Int):Int×Int:=if 4<s.length∨s.any bGb=true then (0,61) else if s.contains 0=true then (0,0) else prodGo s 1
def rightA(a:Arr):Bool:=(sizeA a.sides).2==0&&(sizeA a.sides).1==(a.data.length:Int)
def mapM (f:Int):List Int→List Int×Int
 | []=>([],0)
 | n::r=>if (monadW f n).2≠0 then ([],(monadW f n).2) else if (mapM f r).2≠0 then ([],(mapM f r).2) else ((monadW f n).1::(mapM f r).1,0)
def rP:List Int→Int
 | []=>1
 | s::r=>s*rP r
theorem zF: ∀(a b:List Int),rP (a++b)=rP a*rP b
 | [],b=>by simp [rP]
 | s::a,b=>by rw [List.cons_append,rP,rP,zF a b,Int.mul_assoc]
theorem xO: ∀(a:List Int),rP a.reverse=rP a
 | []=>rfl
 | s::a=>by
  rw [List.reverse_cons,zF,xO a,rP,rP,rP,Int.mul_one,Int.mul_comm]
structure SidesOk (s:List Int):Prop where
 len:s.length≤4
 rng: ∀x∈s,0≤x∧x≤65536
 prod:0≤rP s∧rP s≤65536
theorem SidesOk.reverse{s:List Int}(h:SidesOk s):SidesOk s.reverse:=⟨by simpa using h.len,fun x hx=>h.rng x (by simpa using hx),by rw [xO];exact h.prod⟩
inductive pX:List Int→List Int→Prop
 | nil:pX [] []
 | cons {s k sides index}:0≤k→k<s→pX sides index→pX (s::sides) (k::index)
theorem pX.len{s k:List Int}(h:pX s k):k.length=s.length:=by induction h<;>simp_all
theorem pX.append{a b c d:List Int}(h:pX a b)(k:pX c d):pX (a++c) (b++d):=by
 induction h with
 | nil=>exact k
 | cons h0 h1 _ ih=>exact .cons h0 h1 ih
theorem pX.reverse{s k:List Int}(h:pX s k):pX s.reverse k.reverse:=by
 induction h with
 | nil=>exact .nil
 | cons h0 h1 _ ih=>
  rw [List.reverse_cons,List.reverse_cons];exact ih.append (.cons h0 h1 .nil)
def vM:List qM→List Bs→List Bs
 | [],out=>out
 | d::r,out=>vM r (if d.name=[]∨out.contains d.name=true then out else out++[d.name])
def iC (l:List gG):List qM:=l.flatMap gG.sides
def varsP (p:Prog):List Bs:=vM (iC p.inputs) []
abbrev xL:=List (Bs×Arr)
def look (k:Bs):xL→Option Arr
 | []=>none
 | p::r=>if k=p.1 then some p.2 else look k r
def jR (k:Bs):List Bs→Int→Int
 | [],_=> -1
 | s::r,i=>if s=k then i else jR k r (i+1)
def rN (vars:List Bs)(x:gG):Bool:=x.sides.any fun d=>(d.name==[]&&bGb d.n) || decide (6≤jR d.name vars 0)
def gZ (it:dJ):Nat:=if it.how=3∨it.how=5∨it.how=6 then 1 else if it.how=4∨it.how=7 then 2 else 0
end Go.Proofs.YtbgdphbebhjpiaaGreatDoor
namespace Go.Proofs.YtbgdphbebhjpiaaGreatDoor
open Go.RowKit Go.ChangeShapes Go.WideShapes
def bLf:Flat (Sl Int):=(intTy.slice 8).E
structure bEr where
 sides:(Sl Int)
 data:(Sl Int)
 deriving Inhabited
def meanT:Tab:=[(3,⟨.int .i64,1⟩),(2,⟨.int .i64,1⟩),(5,⟨.int .u8,1⟩),(9,⟨.string,1⟩),(4,⟨.bool,1⟩),(50,⟨.int .u8,1⟩),(34,⟨.int .i64,1⟩),(30,⟨.slice 2,1⟩),(27,⟨.slice 9,1⟩),(104,⟨.struct [(3,0),(3,1),(9,2),(2,3)],4⟩),(97,⟨.slice 104,1⟩),(36,⟨.struct [(3,0),(34,1)],2⟩),(63,⟨.struct [(9,0),(2,1)],2⟩),(59,⟨.slice 63,1⟩),(61,⟨.struct [(9,0),(3,1),(59,2)],3⟩),(22,⟨.slice 61,1⟩),(52,⟨.struct [(3,0),(3,1),(50,2),(9,3),(30,4)],5⟩),(47,⟨.slice 52,1⟩),(49,⟨.struct [(9,0),(3,1),(47,2)],3⟩),(23,⟨.slice 49,1⟩),(25,⟨.struct [(22,0),(23,1)],2⟩),(102,⟨.struct [(97,0),(3,1),(3,2)],3⟩),(42,⟨.struct [(30,0),(30,1)],2⟩),(31,⟨.slice 42,1⟩),(189,⟨.slice 30,1⟩),(100,⟨.other,1⟩),(208,⟨.slice 1,1⟩),(1,⟨.other,1⟩),(196,⟨.other,1⟩),(80,⟨.other,1⟩),(247,⟨.other,1⟩),(248,⟨.slice 247,1⟩),(243,⟨.int .u64,1⟩),(78,⟨.map 9 4,1⟩),(85,⟨.map 9 42,1⟩),(244,⟨.other,1⟩),(246,⟨.struct [(244,0),(34,1)],2⟩),(87,⟨.struct [(85,0),(3,1)],2⟩)]
theorem meanT_ok:gH Tryz.prog meanT:=wF.ok
 ⟨⟨by rw [Tryz.underlying3];rfl,by kernel_rfl⟩,
  ⟨by rw [Tryz.underlying2];rfl,by kernel_rfl⟩,
  ⟨by rw [Tryz.underlying5];rfl,by kernel_rfl⟩,
  ⟨by rw [Tryz.underlying9];rfl,by kernel_rfl⟩,
  ⟨by rw [Tryz.underlying4];rfl,by kernel_rfl⟩,
  ⟨by rw [Tryz.underlying50];rfl,by kernel_rfl⟩,
  ⟨by rw [Tryz.underlying34];rfl,by kernel_rfl⟩,
  ⟨by rw [Tryz.underlying30];rfl,by kernel_rfl⟩,
  ⟨by rw [Tryz.underlying27];rfl,by kernel_rfl⟩,
  ⟨by rw [Tryz.underlying104];rfl,by kernel_rfl⟩,
  ⟨by rw [Tryz.underlying97];rfl,by kernel_rfl⟩,
  ⟨by rw [Tryz.underlying36];rfl,by kernel_rfl⟩,
  ⟨by rw [Tryz.underlying63];rfl,by kernel_rfl⟩,
  ⟨by rw [Tryz.underlying59];rfl,by kernel_rfl⟩,
  ⟨by rw [Tryz.underlying61];rfl,by kernel_rfl⟩,
  ⟨by rw [Tryz.underlying22];rfl,by kernel_rfl⟩,
  ⟨by rw [Tryz.underlying52];rfl,by kernel_rfl⟩,
  ⟨by rw [Tryz.underlying47];rfl,by kernel_rfl⟩,
  ⟨by rw [Tryz.underlying49];rfl,by kernel_rfl⟩,
  ⟨by rw [Tryz.underlying23];rfl,by kernel_rfl⟩,
  ⟨by rw [Tryz.underlying25];rfl,by kernel_rfl⟩,
  ⟨by rw [Tryz.underlying102];rfl,by kernel_rfl⟩,
  ⟨by rw [Tryz.underlying42];rfl,by kernel_rfl⟩,
  ⟨by rw [Tryz.underlying31];rfl,by kernel_rfl⟩,
  ⟨by rw [Tryz.underlying189];rfl,by kernel_rfl⟩,
  ⟨by rw [Tryz.underlying100];rfl,by kernel_rfl⟩,
  ⟨by rw [Tryz.underlying208];rfl,by kernel_rfl⟩,
  ⟨by rw [Tryz.underlying1];rfl,by kernel_rfl⟩,
  ⟨by rw [Tryz.underlying196];rfl,by kernel_rfl⟩,
  ⟨by rw [Tryz.underlying80];rfl,by kernel_rfl⟩,
  ⟨by rw [Tryz.underlying247];rfl,by kernel_rfl⟩,
  ⟨by rw [Tryz.underlying248];rfl,by kernel_rfl⟩,
  ⟨by rw [Tryz.underlying243];rfl,by kernel_rfl⟩,
  ⟨by rw [Tryz.underlying78];rfl,by kernel_rfl⟩,
  ⟨by rw [Tryz.underlying85];rfl,by kernel_rfl⟩,
  ⟨by rw [Tryz.underlying244];rfl,by kernel_rfl⟩,
  ⟨by rw [Tryz.underlying246];rfl,by kernel_rfl⟩,
  ⟨by rw [Tryz.underlying87];rfl,by kernel_rfl⟩,trivial⟩
def bEr.arr(x:bEr):Arr:=⟨x.sides.list,x.data.list⟩
end Go.Proofs.YtbgdphbebhjpiaaGreatDoor
namespace Go.Proofs.YtbgdphbebhjpiaaGreatDoor
open Go.RowKit
section
variable {P : Program} {β : fV} {n : Nat} {Γ : Env} {H : List cA} {F : List Fact} {o : Oper} {x : Operand} {t tt e : TypeId} {A : Option Addr} {q c : Nat}
theorem bKu(ht:P.underlying t=some (.slice e))(ho:o.op= .binOp .eql t x (.const (.slice none 0 0)) tt)(hx:Γ.ev x=some (.slice A q c)):Sti P β n Γ H F o (.bool A.isNone):=fun a w S f s k=>by
 have h1: ∀d,(Op.equalIn (d+1) t (.slice A q c) (.slice none 0 0)).run P w= .ok A.isNone w:=fun d=>by cases A<;>simp [Op.equalIn,run_underlying ht]
 unfold execOp;have e:a.eval (.const (.slice none 0 0))= .slice none 0 0:=rfl;simp only [ho,f.ev hx,e]
 have hb:(binOp .eql t (.slice A q c) (.slice none 0 0)).run P w= .ok (.bool A.isNone) w:=by
  simp only [binOp];have h2:(Op.equal t (.slice A q c) (.slice none 0 0)).run P w= .ok A.isNone w:=h1 9999;rw [Sem.run_bind,h2];rfl
 have hg:(eqGuard .eql t x (.const (.slice none 0 0)) (.slice A q c) (.slice none 0 0)).run P w= .ok () w:=by
  unfold eqGuard;simp
 rw [Sem.run_bind,Sem.run_bind,hg,Result.andThen_ok,hb];rfl
end
theorem bNf{α:Type}{E:Flat α}{F:List Fact}{A:Option Addr}{m c:Nat}{l:List α}(h:Has F (E.sl (.slice A m c) l)):Has F (Fact.pure (A.isNone=true→l=[])):=fun S w k hA=>by
 obtain⟨A',c',e,h⟩:=h S w k
 cases l with
 | nil=>rfl
 | cons x r=>
  obtain⟨b,o,cs,e1,_⟩:=h 0 x rfl;injection e with e
  subst e;subst e1;cases hA
section
variable {k x : Bs} {l : List Bs} {i : Nat} {r : Int}
theorem bFv(h:r=jR k (l.drop i) i)(hx:l[i]?=some x):(k=x→r=i)∧(k≠x→r=jR k (l.drop (i+1)) ((i+1:Nat):Int)):=by
 rw [iV hx,jR] at h;refine⟨fun e=>by rw [if_pos e.symm] at h;exact h,fun e=>by rw [if_neg (Ne.symm e)] at h;rw [h];rfl⟩
theorem idxOf_end(h:r=jR k (l.drop i) i)(hi:l.length≤i):r= -1:=by
 rw [List.drop_of_length_le hi] at h;exact h
end
set_option maxRecDepth 100000 in
theorem vB(A:Option Addr)(c:Nat)(l:List Bs)(hl:l.length≤140737488355328)(k:Bs):dX Tryz.prog 42 [.slice A l.length c,.string (bs k)] [] [lA.sl (.slice A l.length c) l] (fun(_:Unit)=> .int .i64 (jR k l 0)) (fun _=>[]) (fun _=>[]):=by
 have hT:=meanT_ok;generalize hR:jR k l 0=r;refine cW Tryz.func42 rfl Tryz.ntmps42 rfl ?_;intro β hM;refine sr<|sp hT ?_;refine nn<|bA<|sr<|sp3 hT ?_;refine nn<|bX<|dG (ι:=Nat) [(0,_),(1,_),(7,_)] ⟨rfl,rfl,rfl,trivial⟩ (fun i=>[(8,.int .i64 (i:Nat))]) (fun _=>[]) (fun i=>[Fact.pure (i≤l.length∧r=jR k (l.drop i) i)]) (fun i=>l.length-i) 0 ⟨rfl,trivial⟩ .nil ⟨Has.pure (⟨by omega,hR.symm⟩),trivial⟩ ?_;rintro i;refine bS (Has.of mT0) fun hinv2=>?_;refine sr<|sp hT ?_;refine nn<|bA<|bL rfl (fun hc9=>?_) (fun hc9=>?_)
 ·have hc9:=of_decide_eq_true hc9;refine bN<|bC<|bA<|bX<|sr<|sp2 hT ?_;refine nn<|sr<|sp3 hT ?_
  obtain⟨x1,hx2⟩: ∃x',l[i]?=some x':=⟨_,List.getElem?_eq_getElem (by omega)⟩
  refine ss (bU hT (k:=i) (bK (Has.of mT1)) rfl rfl rfl rfl rfl rfl rfl (by omega)) ?_;refine ss (cE hT (cN.knows (bK (Has.of mT1)) (k:=i) (x:=x1) hx2 0) rfl rfl rfl rfl rfl) ?_;refine sp hT ?_;refine nn<|bL rfl (fun hc16=>?_) (fun hc16=>?_)
  ·have hc16:k=x1:=eq_of_beq hc16;refine sr<|sp2 hT ?_;refine nn<|bF<|bH<|bB<|bB<|bH<|bB ?_;have hr:=(bFv hinv2.2 hx2).1 ‹_›;subst hr;exact bV () rfl (bG rfl) .nil trivial rfl
  have hc16:k≠x1:=fun h=>absurd (beq_iff_eq.2 h) (by rw [show(k==x1)=false from hc16];simp);refine bN<|cD<|bC<|bD<|sp hT ?_;refine bT (z':=(((i+1):Nat):Int)) (cP (by omega) (by omega)) ?_;refine sp hT ?_;refine nn ?_;exact cO (i+1) (by omega) ⟨rfl,trivial⟩ ⟨rfl,rfl,rfl,trivial⟩ .nil ⟨Has.pure (⟨by omega,(bFv hinv2.2 hx2).2 ‹_›⟩),trivial⟩ (bI.drop 1)
 have hc9:=Int.not_lt.1 (of_decide_eq_false hc9);refine dC<|cM<|cM<|dB<|bC<|sr<|sp hT ?_;refine nn<|bF ?_;have hr:=idxOf_end hinv2.2 (by omega);subst hr;exact bV () rfl (bG rfl) .nil trivial rfl
end Go.Proofs.YtbgdphbebhjpiaaGreatDoor
