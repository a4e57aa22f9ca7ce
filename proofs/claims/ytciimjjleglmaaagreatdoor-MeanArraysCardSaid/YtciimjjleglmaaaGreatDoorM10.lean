/- Texts of one proof, one behind the other: DocS, AlikeP, BackO, WordP, ArrP, ArrL, ArrR, MeanP, TysM, SlI. -/
import Derived.Test.YtciimjjleglmaaaGreatDoorM9
import Derived.Test.YtciimjjleglmaaaGreatDoorM7
import Derived.Test.YtciimjjleglmaaaGreatDoorM6
import Derived.Test.YtciimjjleglmaaaGreatDoorM2
namespace Go.Proofs.YtciimjjleglmaaaGreatDoor
open Go.RowKit
theorem sK:fC []=false:=by decide+kernel
structure qY (p:ProgV):Prop where
  input: ∀x∈p.inputs.list,x.name.length≤140737488355328∧ ∀d∈x.sides.list,d.name.length≤140737488355328∧ -9223372036854775808≤d.n∧d.n≤9223372036854775807
  line: ∀x∈p.lines.list,x.name.length≤140737488355328∧ ∀it∈x.items.list,it.name.length≤140737488355328∧ ∀z∈it.nums.list,-9223372036854775808≤z∧z≤9223372036854775807
def nR (p:iK)(i:Nat)(out:Bs):Bs×Bool:=match nX (p.inputs.drop i) out with
  | (o,false)=>(o,false)
  | (o,true)=>fX p.lines o
section
variable {p : iK} {i : Nat} {out : Bs} {x : gF} {t : Bs}
theorem xG(h:p.lines=[]∨64<p.inputs.length+p.lines.length):dX p=([],false):=by rw [dX,if_pos h]
theorem prog_start(h: ¬(p.lines=[]∨64<p.inputs.length+p.lines.length)):dX p=nR p 0 []:=by rw [dX,if_neg h];rfl
theorem wI(hx:p.inputs[i]?=some x)(hn:pP x=none):nR p i out=(out,false):=by rw [nR,fO hx,nX,hn]
theorem prog_step(hx:p.inputs[i]?=some x)(hn:pP x=some t):nR p i out=nR p (i+1) (out++(([105,110,32]++t)++[10])):=by rw [nR,fO hx,nX,hn];rfl
theorem prog_lines(hi:p.inputs.length≤i):nR p i out=fX (p.lines.drop 0) out:=by rw [nR,List.drop_of_length_le hi];rfl
end
section
variable {l : List rF} {i : Nat} {out : Bs} {x : rF} {t : Bs}
theorem bKd(hi:l.length≤i):fX (l.drop i) out=(out,true):=by rw [List.drop_of_length_le hi];rfl
theorem xJ(hx:l[i]?=some x)(hi:i+1=l.length):l.drop i=[x]:=by rw [fO hx,List.drop_of_length_le (by omega)]
theorem xN(hx:l[i]?=some x)(hi:i+1<l.length): ∃y r,l.drop (i+1)=y::r∧l.drop i=x::y::r:=by
  have:l[i+1]?=some l[i+1]:=List.getElem?_eq_getElem hi;exact⟨_,_,fO this,by rw [fO hx,fO this]⟩
theorem qS(hx:l[i]?=some x)(he:hU x.items (if i+1=l.length then 255 else 254)=none):fX (l.drop i) out=(out,false):=by
  have hl:=(List.getElem?_eq_some_iff.1 hx).1
  by_cases hi:i+1=l.length
  · rw [if_pos hi] at he;rw [xJ hx hi,fX,he]
  · rw [if_neg hi] at he;obtain⟨y,r,_,h2⟩:=xN hx (by omega);rw [h2,fX,he];exact fun h=>by cases h
theorem pG(hx:l[i]?=some x)(hi:i+1=l.length)(hn:x.name≠[]){t:Bs}(he:hU x.items 255=some t):fX (l.drop i) out=(out,false):=by
  rw [xJ hx hi,fX,he];simp [hn]
theorem lD(hx:l[i]?=some x)(hi:i+1<l.length)(hn:fC x.name=false){t:Bs}(he:hU x.items 254=some t):fX (l.drop i) out=(out,false):=by
  obtain⟨y,r,_,h2⟩:=xN hx hi;rw [h2,fX,he]
  · simp [hn]
  · exact fun h=>by cases h
theorem lines_out(hx:l[i]?=some x)(hi:i+1=l.length)(hn:x.name=[]){t:Bs}(he:hU x.items 255=some t):fX (l.drop i) out=fX (l.drop (i+1)) (out++(([111,117,116,32]++t)++[10])):=by
  rw [xJ hx hi,fX,he,bKd (by omega)];simp [hn]
theorem lines_step(hx:l[i]?=some x)(hi:i+1<l.length)(hn:fC x.name=true){t:Bs}(he:hU x.items 254=some t):fX (l.drop i) out=fX (l.drop (i+1)) (out++(((x.name++[58,32])++t)++[10])):=by
  obtain⟨y,r,h1,h2⟩:=xN hx hi;rw [h2,h1,fX,he]
  · simp [hn]
  · exact fun h=>by cases h
end
theorem step_okp{st st':List gE}{x:fB}(hz: ∀z∈x.nums,-9223372036854775808≤z∧z≤9223372036854775807)(ho: ∀p∈st,p.words≠[]∧wsz p.words≤40*p.tokens)(h:iV st x=some st'): ∀p∈st',p.words≠[]∧wsz p.words≤40*p.tokens:=by
  unfold iV at h;split at h
  · cases hq:operandS x with
    | none=>rw [hq] at h;cases h
    | some q=>
      rw [hq] at h;injection h with h
      subst h;intro p hp
      rcases List.mem_cons.1 hp with rfl | hp
      · exact⟨(xA hz hq).1,(xA hz hq).2.1⟩
      · exact ho p hp
  · split at h
    · cases h
    · rename_i hn;have hv:(verbS x).1≠[]:=fun e=>hn (.inr (.inr (.inr (.inr e))));obtain⟨v1,_,v3⟩:=yT x;have v3:=v3 hv;unfold oS at h;split at h
      · split at h
        · rename_i p q r;injection h with h
          subst h;have hq:=ho q (by simp);obtain⟨k1,k2,_,_⟩:=left_ok (q:=⟨⟨none,0,q.words⟩,q.nest,q.tokens,q.plain⟩) hq;have k1:(leftS q).words≠[]:=k1;have k2:wsz (leftS q).words≤40*(leftS q).tokens:=k2;have hp:=ho p (by simp);intro y hy
          rcases List.mem_cons.1 hy with rfl | hy
          · refine⟨by simp,?_⟩;simp only [bGk,iQ];omega
          · exact ho y (by simp [hy])
        · cases h
      · split at h
        · rename_i p r;injection h with h
          subst h;have hp:=ho p (by simp);intro y hy
          rcases List.mem_cons.1 hy with rfl | hy
          · refine⟨by simp,?_⟩;simp only [iQ];omega
          · exact ho y (by simp [hy])
        · cases h
theorem bKf: ∀{l:List fB} {st st':List gE},(∀x∈l,∀z∈x.nums,-9223372036854775808≤z∧z≤9223372036854775807)→(∀p∈st,p.words≠[]∧wsz p.words≤40*p.tokens)→gD l st=some st'→ ∀p∈st',p.words≠[]∧wsz p.words≤40*p.tokens
  | [],st,st',_,ho,h=>by
    simp [gD] at h;subst h;exact ho
  | x::r,st,st',hz,ho,h=>by
    rw [gD] at h
    cases h1:iV st x with
    | none=>rw [h1] at h;cases h
    | some s1=>
      rw [h1] at h;exact bKf (fun y hy=>hz y (by simp [hy])) (step_okp (hz x (by simp)) ho h1) h
theorem bJj{l:List fB}{most:Nat}{t:Bs}(hz: ∀x∈l,∀z∈x.nums,-9223372036854775808≤z∧z≤9223372036854775807)(h:hU l most=some t):t.length≤40*most:=by
  unfold hU at h;split at h
  · cases h
  · split at h
    · rename_i p hp;split at h
      · cases h
      · injection h with h
        subst h;have h1:=(bKf hz (fun p hp=>by simp at hp) hp p (by simp)).2;have:=bFz p.words;omega
    · cases h
section
variable {x : InputV} {j : Nat} {d : iP} {t : Bs}
theorem bJc(h:fC x.name=false∨4<x.sides.list.length):pP x.inp=none:=by
  rw [pP,if_pos (show fC x.inp.name=false∨4<x.inp.sides.length from h.imp id fun h=>by show 4<(x.sides.list.map iP.sd).length;rw [List.length_map];exact h)]
theorem input_start(h:fC x.name=true)(h4: ¬4<x.sides.list.length):pP x.inp=kV ((x.sides.list.map iP.sd).drop 0) x.name:=by
  rw [pP,if_neg]
  · rfl
  · rintro(h' | h')
    · rw [show x.inp.name=x.name from rfl,h] at h';cases h'
    · rw [show x.inp.sides=x.sides.list.map iP.sd from rfl,List.length_map] at h';exact h4 h'
theorem sd_at(hd:x.sides.list[j]?=some d):(x.sides.list.map iP.sd)[j]?=some d.sd:=by rw [List.getElem?_map,hd];rfl
theorem side_num(hd:x.sides.list[j]?=some d)(hn:d.name=[]):kV ((x.sides.list.map iP.sd).drop j) t=kV ((x.sides.list.map iP.sd).drop (j+1)) (t++([32]++fY d.n)):=by
  rw [fO (sd_at hd),kV,if_pos (show d.sd.name=[] from hn)];rfl
theorem side_name(hd:x.sides.list[j]?=some d)(hn:d.name≠[])(h0:d.n=0)(hb:fC d.name=true):kV ((x.sides.list.map iP.sd).drop j) t=kV ((x.sides.list.map iP.sd).drop (j+1)) (t++([32]++d.name)):=by
  rw [fO (sd_at hd),kV,if_neg (show ¬d.sd.name=[] from hn),if_pos (show d.sd.n=0∧fC d.sd.name=true from ⟨h0,hb⟩)];rfl
theorem side_bad(hd:x.sides.list[j]?=some d)(hn:d.name≠[])(h:d.n≠0∨fC d.name=false):kV ((x.sides.list.map iP.sd).drop j) t=none:=by
  rw [fO (sd_at hd),kV,if_neg (show ¬d.sd.name=[] from hn),if_neg];rintro⟨h1,h2⟩
  rcases h with h | h
  · exact h h1
  · rw [show d.sd.name=d.name from rfl,h] at h2;cases h2
theorem sides_done(hj:x.sides.list.length≤j):kV ((x.sides.list.map iP.sd).drop j) t=some t:=by
  rw [List.drop_of_length_le (by rw [List.length_map];exact hj)];rfl
end
theorem rB{α β:Type}{f:α→β}{l:List α}{i:Nat}{x:α}(h:l[i]?=some x):(l.map f)[i]?=some (f x):=by rw [List.getElem?_map,h];rfl
theorem bLn{o:Option Bs}(h:o.isSome=true):o=some (o.getD []):=by
  cases o with
  | none=>cases h
  | some x=>rfl
theorem shower_built(r1 r2:Nat):Tryz.prog.built 146 [(0,.map (some r1)),(1,.map (some r2))]=some #[.map (some r1),.map (some r2),.pointer none,.slice none 0 0]:=by kernel_rfl
theorem tZ:(Tryz.prog.info? 62).bind (·.zero)=some (.agg #[.string (bs []),.int .i64 0]):=by kernel_rfl
set_option maxRecDepth 100000 in
theorem bIm(b r1 r2:Nat)(P:ProgV)(hP:qY P)(hl1:P.inputs.list.length≤140737488355328)(hl2:P.lines.list.length≤140737488355328):dH Tryz.prog 72 [.pointer (some ⟨b,0,none⟩),.agg #[.slice P.inputs.addr P.inputs.list.length P.inputs.cap,.slice P.lines.addr P.lines.list.length P.lines.cap]] [.obj b (.cells [.map (some r1),.map (some r2),.pointer none,.slice none 0 0].toArray 146),nO.row (.slice none 0 0) 5 []] [mapF r1 .u8 (pN false),mapF r2 .u8 (pN true),gW,iH.sl (.slice P.inputs.addr P.inputs.list.length P.inputs.cap) P.inputs.list,hO P.inputs.list,lH.sl (.slice P.lines.addr P.lines.list.length P.lines.cap) P.lines.list,jK P.lines.list] (fun(_:(Option Addr×Nat)×Bool)=> .bool (dX P.pr).2) (fun(x:(Option Addr×Nat)×Bool)=>[.obj b (.cells [.map (some r1),.map (some r2),bIi x.2 b,.slice x.1.1 (dX P.pr).1.length x.1.2].toArray 146),nO.row (.slice x.1.1 (dX P.pr).1.length x.1.2) 5 (dX P.pr).1]) (fun(x:(Option Addr×Nat)×Bool)=>[Fact.pure ((dX P.pr).1=[]→x.1.1=none)]):=by
  have hT:=iL;have hpl:P.pr.lines.length=P.lines.list.length:=List.length_map _;have hpi:P.pr.inputs.length=P.inputs.list.length:=List.length_map _;generalize hR:dX P.pr=r;refine cQ Tryz.func72 rfl Tryz.ntmps72 rfl ?_;intro β hM;refine sr<|fH rfl rfl rfl rfl rfl rfl fun b1=>?_;refine sp hT ?_;refine nn<|sr<|sp hT ?_;refine ss (ldO hT (dE .head)) ?_;refine sp2 hT ?_;refine bP (z':=(((P.lines.list.length:Nat):Int)-1)) (bLk (by omega) (by omega)) ?_;refine sp hT ?_;refine nn<|bA<|sr<|sp3 hT ?_;refine cH (fun hg23=>?_) (fun hg23=>?_)
  · have hg23:=of_decide_eq_true hg23;refine sk4 ?_;refine sp2 hT ?_;refine sk4 ?_;refine sk4 ?_;refine sp hT ?_;refine nn<|cL rfl rfl ?_;refine sr<|sp hT ?_;refine nn<|bG<|bC ?_;have hr:=hR.symm.trans (xG (by first | exact .inl (List.map_eq_nil_iff.2 (List.eq_nil_of_length_eq_zero (by omega))) | exact .inr (by omega)));subst hr;exact bQ ((_,_),false) rfl (bD rfl) (.cons kT1 (.cons kT1 .nil)) ⟨Has.pure (fun _=>rfl),trivial⟩ rfl
  have hg23:=Int.not_lt.1 (of_decide_eq_false hg23);refine sp hT ?_;refine ss (ldO hT (bM .head)) ?_;refine sp4 hT ?_;refine cH (fun hg29=>?_) (fun hg29=>?_)
  · have hg29:=of_decide_eq_true hg29;refine sk4 ?_;refine sk4 ?_;refine sp hT ?_;refine nn<|cL rfl rfl ?_;refine sr<|sp hT ?_;refine nn<|bG<|bC ?_;have hr:=hR.symm.trans (xG (by first | exact .inl (List.map_eq_nil_iff.2 (List.eq_nil_of_length_eq_zero (by omega))) | exact .inr (by omega)));subst hr;exact bQ ((_,_),false) rfl (bD rfl) (.cons kT1 (.cons kT1 .nil)) ⟨Has.pure (fun _=>rfl),trivial⟩ rfl
  have hg29:=Int.not_lt.1 (of_decide_eq_false hg29);refine sp hT ?_;refine ss (ldO hT (dE .head)) ?_;refine sp2 hT ?_;refine ss (ldO hT (bM .head)) ?_;refine sp2 hT ?_;refine bP (z':=(((64-P.inputs.list.length):Nat):Int)) (cK (by omega) (by omega)) ?_;refine sp2 hT ?_;refine nn<|bH rfl (fun hc38=>?_) (fun hc38=>?_)
  · have hc38:=of_decide_eq_true hc38;refine sr<|sp hT ?_;refine nn<|bG<|bC ?_;have hr:=hR.symm.trans (xG (by first | exact .inl (List.map_eq_nil_iff.2 (List.eq_nil_of_length_eq_zero (by omega))) | exact .inr (by omega)));subst hr;exact bQ ((_,_),false) rfl (bD rfl) (.cons kT1 (.cons kT1 .nil)) ⟨Has.pure (fun _=>rfl),trivial⟩ rfl
  have hc38:=Int.not_lt.1 (of_decide_eq_false hc38);refine bK<|bB<|bA<|sr<|sp hT ?_;refine ss (ldO hT (bM .head)) ?_;refine sp2 hT ?_;refine nn<|bR<|dC (ι:=Nat×Bs×Bool×Option Addr×Nat) [(0,_),(3,_),(5,_),(40,_),(41,_)] ⟨rfl,rfl,rfl,rfl,rfl,trivial⟩ (fun⟨i,out,u,G,c⟩=>[(42,.int .i64 (i:Nat))]) (fun⟨i,out,u,G,c⟩=>[.obj b (.cells [.map (some r1),.map (some r2),bIi u b,.slice G out.length c].toArray 146),nO.row (.slice G out.length c) 5 out]) (fun⟨i,out,u,G,c⟩=>[Fact.pure (i≤P.inputs.list.length∧dX P.pr=nR P.pr i out∧(out=[]→G=none)∧out.length≤1000*i)]) (fun⟨i,out,u,G,c⟩=>P.inputs.list.length-i) (0,[],false,none,0) ⟨rfl,trivial⟩ (.cons kT1 (.cons kT1 .nil)) ⟨Has.pure (⟨by omega,prog_start (by rintro(h | h);(have h:=congrArg List.length h;rw [hpl,List.length_nil] at h;omega);omega),fun _=>rfl,by simp⟩),trivial⟩ ?_;rintro⟨i,out,u,G,c⟩;dsimp only;refine cE (Has.of mT0) fun hinv5=>?_;refine sr<|sp hT ?_;refine nn<|bA<|bH rfl (fun hc43=>?_) (fun hc43=>?_)
  · have hc43:=of_decide_eq_true hc43;refine bK<|bB<|bA<|bR<|sr ?_
    obtain⟨x2,hx3⟩: ∃x,P.inputs.list[i]?=some x:=⟨_,List.getElem?_eq_getElem (by omega)⟩
    refine ss (bS hT (k:=i) (bJ (Has.of mT4)) rfl rfl rfl rfl rfl rfl rfl (by omega)) ?_;refine ss (dJ hT (cR.knows (bJ (Has.of mT4)) (k:=i) (x:=x2) hx3 0) rfl rfl rfl rfl rfl) ?_;refine cF rfl rfl rfl rfl jE rfl fun b4=>?_;refine sto hT .head ?_;refine nn<|bA<|bA ?_;have hxi:=hP.input x2 (List.mem_of_getElem? hx3);have hx0:P.pr.inputs[i]?=some x2.inp:=rB hx3;refine bV (qL x2) (Has.each (Has.of mT5) (List.mem_of_getElem? hx3)) ?_;refine bF<|sp hT ?_;refine ss (ldO hT (bM .head)) ?_;refine bO Tryz.func64 (lU _ hxi.1) rfl rfl .nil ⟨Has.of mT4,trivial⟩ fun _=>?_;refine sp2 hT ?_;refine cH (fun hg50=>?_) (fun hg50=>?_)
    · have hg50:=fW hg50;refine sk4 ?_;refine sp hT ?_;refine nn<|cL rfl rfl ?_;refine sr<|sp hT ?_;refine nn<|bG<|bC<|bI<|bC<|bC<|bI<|bC ?_;have hr:=hR.symm.trans (hinv5.2.1.trans (wI hx0 (bJc (by first | exact .inl (by assumption) | exact .inr (by omega)))));subst hr;exact bQ ((_,_),u) rfl (bD rfl) (.cons kT1 (.cons kT1 .nil)) ⟨Has.pure (hinv5.2.2.1),trivial⟩ rfl
    have hg50:=fL hg50;refine sp hT ?_;refine ss (ldO hT (dZ .head)) ?_;refine sp3 hT ?_;refine nn<|bH rfl (fun hc55=>?_) (fun hc55=>?_)
    · have hc55:=of_decide_eq_true hc55;refine sr<|sp hT ?_;refine nn<|bG<|bC<|bI<|bC<|bC<|bI<|bC ?_;have hr:=hR.symm.trans (hinv5.2.1.trans (wI hx0 (bJc (by first | exact .inl (by assumption) | exact .inr (by omega)))));subst hr;exact bQ ((_,_),u) rfl (bD rfl) (.cons kT1 (.cons kT1 .nil)) ⟨Has.pure (hinv5.2.2.1),trivial⟩ rfl
    have hc55:=Int.not_lt.1 (of_decide_eq_false hc55);refine bK<|bB<|sr<|sp hT ?_;refine ss (ldO hT (bM .head)) ?_;refine sp hT ?_;refine nn<|bA<|sr<|sp hT ?_;refine ss (ldO hT (dZ .head)) ?_;refine sp2 hT ?_;refine nn<|bR<|dC (ι:=Nat×Bs) [(0,_),(3,_),(5,_),(40,_),(41,_),(42,_),(51,_),(52,_),(53,_),(54,_),(59,_),(60,_)] ⟨rfl,rfl,rfl,rfl,rfl,rfl,rfl,rfl,rfl,rfl,rfl,rfl,trivial⟩ (fun⟨j,text⟩=>[(8,.string (bs text)),(61,.int .i64 (j:Nat))]) (fun _=>[]) (fun⟨j,text⟩=>[Fact.pure (j≤x2.sides.list.length∧kV ((x2.sides.list.map iP.sd).drop j) text=pP x2.inp∧text.length≤16+30*j)]) (fun⟨j,text⟩=>x2.sides.list.length-j) (0,x2.name) ⟨rfl,rfl,trivial⟩ .nil ⟨Has.pure (⟨by omega,(input_start (by assumption) (by omega)).symm,by have:=sJ ‹fC x2.name=true›;omega⟩),trivial⟩ ?_;rintro⟨j,text⟩;dsimp only;refine cE (Has.of mT0) fun hinv11=>?_;refine sr<|sp hT ?_;refine nn<|bA<|bH rfl (fun hc62=>?_) (fun hc62=>?_)
    · have hc62:=of_decide_eq_true hc62;refine bK<|bB<|bA<|bR<|sr ?_
      obtain⟨x5,hx6⟩: ∃x,x2.sides.list[j]?=some x:=⟨_,List.getElem?_eq_getElem (by omega)⟩
      refine ss (bS hT (k:=j) (bJ (Has.of mT1)) rfl rfl rfl rfl rfl rfl rfl (by omega)) ?_;refine ss (dJ hT (cR.knows (bJ (Has.of mT1)) (k:=j) (x:=x5) hx6 0) rfl rfl rfl rfl rfl) ?_;refine cF rfl rfl rfl rfl tZ rfl fun b7=>?_;refine sto hT .head ?_;refine nn<|bR<|bA ?_;have hdn:=hxi.2 x5 (List.mem_of_getElem? hx6);refine bF<|sp hT ?_;refine ss (ldO hT (bM .head)) ?_;refine sp2 hT ?_;refine nn<|bH rfl (fun hc65=>?_) (fun hc65=>?_)
      · have hc65:x5.name=([]:Bs):=eq_of_beq hc65;refine bF<|sp2 hT ?_;refine ss (ldO hT (dE .head)) ?_;have hsp:=oF hdn.2.1 hdn.2.2;refine bO Tryz.func105 (zM _ hdn.2.1 hdn.2.2) rfl rfl .nil ⟨Has.of mT5,trivial⟩ fun _=>?_;refine ss (jQ rfl rfl rfl (by first | omega | (simp;omega))) ?_;refine ss (jQ rfl rfl rfl (by first | omega | (simp;omega))) ?_;refine sp hT ?_;refine dT<|bY<|bY<|bB<|bF<|sp hT ?_;refine bP (z':=(((j+1):Nat):Int)) (cK (by omega) (by omega)) ?_;refine sp hT ?_;refine nn ?_;exact cP (j+1,_) (by dsimp only;omega) ⟨rfl,rfl,trivial⟩ ⟨rfl,rfl,rfl,rfl,rfl,rfl,rfl,rfl,rfl,rfl,rfl,rfl,trivial⟩ (.cons kT1 (.cons kT1 (.cons kT1 (.cons kT1 .nil)))) ⟨Has.pure (⟨by dsimp only;omega,hinv11.2.1▸(side_num hx6 (by assumption)).symm,by have:=oF hdn.2.1 hdn.2.2;simp;omega⟩),trivial⟩ (bE.drop 1)
      have hc65:x5.name≠([]:Bs):=fun h=>absurd (beq_iff_eq.2 h) (by rw [show(x5.name==([]:Bs))=false from hc65];simp);refine sr<|sp hT ?_;refine ss (ldO hT (dE .head)) ?_;refine sp2 hT ?_;refine cH (fun hg79=>?_) (fun hg79=>?_)
      · have hg79:=eq_of_beq hg79;refine sp hT ?_;refine ss (ldO hT (bM .head)) ?_;refine bO Tryz.func64 (lU _ hdn.1) rfl rfl .nil ⟨Has.of mT5,trivial⟩ fun _=>?_;refine sp2 hT ?_;refine nn<|bH rfl (fun hc75=>?_) (fun hc75=>?_)
        · refine bF<|sp2 hT ?_;refine ss (ldO hT (bM .head)) ?_;refine ss (jQ rfl rfl rfl (by first | omega | (simp;omega))) ?_;refine ss (jQ rfl rfl rfl (by first | omega | (simp;omega))) ?_;refine sp hT ?_;refine dT<|bY<|bY<|bB<|bF<|sp hT ?_;refine bP (z':=(((j+1):Nat):Int)) (cK (by omega) (by omega)) ?_;refine sp hT ?_;refine nn ?_;exact cP (j+1,_) (by dsimp only;omega) ⟨rfl,rfl,trivial⟩ ⟨rfl,rfl,rfl,rfl,rfl,rfl,rfl,rfl,rfl,rfl,rfl,rfl,trivial⟩ (.cons kT1 (.cons kT1 (.cons kT1 (.cons kT1 .nil)))) ⟨Has.pure (⟨by dsimp only;omega,hinv11.2.1▸(side_name hx6 (by assumption) (by assumption) (by assumption)).symm,by have:=sJ ‹fC x5.name=true›;simp;omega⟩),trivial⟩ (bE.drop 1)
        refine sr<|sp hT ?_;refine nn<|bG<|bI<|bI<|bC<|bC<|bI<|bC<|bI<|bC<|bC<|bI<|bC ?_;have hr:=hR.symm.trans (hinv5.2.1.trans (wI hx0 (hinv11.2.1.symm.trans (side_bad hx6 (by assumption) (by first | exact .inl (by assumption) | exact .inr (by assumption))))));subst hr;exact bQ ((_,_),u) rfl (bD rfl) (.cons kT2 (.cons kT2 .nil)) ⟨Has.pure (hinv5.2.2.1),trivial⟩ rfl
      have hg79:=beq_eq_false_iff_ne.1 hg79;refine sk3 ?_;refine sp2 hT ?_;refine nn<|cN rfl rfl ?_;refine sr<|sp hT ?_;refine nn<|bG<|bI<|bI<|bC<|bC<|bI<|bC<|bI<|bC<|bC<|bI<|bC ?_;have hr:=hR.symm.trans (hinv5.2.1.trans (wI hx0 (hinv11.2.1.symm.trans (side_bad hx6 (by assumption) (by first | exact .inl (by assumption) | exact .inr (by assumption))))));subst hr;exact bQ ((_,_),u) rfl (bD rfl) (.cons kT2 (.cons kT2 .nil)) ⟨Has.pure (hinv5.2.2.1),trivial⟩ rfl
    have hc62:=Int.not_lt.1 (of_decide_eq_false hc62);refine cW<|cJ<|cJ<|cX<|bB ?_;have hin:=hinv11.2.1.symm.trans (sides_done (by omega));refine bF<|sp2 hT ?_;refine bO Tryz.func106 (wZ b r1 r2 u G c out ([105,110,32]:Bs) text (by simp;omega)) rfl rfl (.cons kT1 (.cons kT1 .nil)) trivial fun⟨G8,c9⟩=>?_;refine dT<|bY<|bB<|bF<|sp hT ?_;refine bP (z':=(((i+1):Nat):Int)) (cK (by omega) (by omega)) ?_;refine sp hT ?_;refine nn ?_;exact cP (i+1,(out++((([105,110,32]:Bs)++text)++[10])),true,_,_) (by dsimp only;omega) ⟨rfl,trivial⟩ ⟨rfl,rfl,rfl,rfl,rfl,trivial⟩ (.cons .head (.cons .head (.cons kT1 .nil))) ⟨Has.pure (⟨by dsimp only;omega,hinv5.2.1.trans (prog_step hx0 hin),fun h=>by simp at h,by simp;omega⟩),trivial⟩ (bE.drop 3)
  have hc43:=Int.not_lt.1 (of_decide_eq_false hc43);refine cW<|cJ<|cJ<|cX<|bB<|bA<|sr<|sp hT ?_;refine ss (ldO hT (dE kT2)) ?_;refine sp2 hT ?_;refine nn<|bR ?_;have hlin:=hinv5.2.1.trans (prog_lines (by omega));refine dC (ι:=Nat×Bs×Bool×Option Addr×Nat) [(0,_),(5,_),(95,_),(96,_)] ⟨rfl,rfl,rfl,rfl,trivial⟩ (fun⟨i,out,u,G,c⟩=>[(97,.int .i64 (i:Nat))]) (fun⟨i,out,u,G,c⟩=>[.obj b (.cells [.map (some r1),.map (some r2),bIi u b,.slice G out.length c].toArray 146),nO.row (.slice G out.length c) 5 out]) (fun⟨i,out,u,G,c⟩=>[Fact.pure (i≤P.lines.list.length∧dX P.pr=fX (P.pr.lines.drop i) out∧(out=[]→G=none)∧out.length≤1000*64+20000*i)]) (fun⟨i,out,u,G,c⟩=>P.lines.list.length-i) (0,out,u,G,c) ⟨rfl,trivial⟩ (.cons .head (.cons .head .nil)) ⟨Has.pure (⟨by omega,hlin,hinv5.2.2.1,by omega⟩),trivial⟩ ?_;rintro⟨i,out,u,G,c⟩;dsimp only;refine cE (Has.of mT0) fun hinv22=>?_;refine sr<|sp hT ?_;refine nn<|bA<|bH rfl (fun hc98=>?_) (fun hc98=>?_)
  · have hc98:=of_decide_eq_true hc98;refine bK<|bB<|bA<|bR<|sr<|sp hT ?_
    obtain⟨x10,hx11⟩: ∃x,P.lines.list[i]?=some x:=⟨_,List.getElem?_eq_getElem (by omega)⟩
    refine ss (bS hT (k:=i) (bJ (Has.of mT7)) rfl rfl rfl rfl rfl rfl rfl (by omega)) ?_;refine ss (dJ hT (cR.knows (bJ (Has.of mT7)) (k:=i) (x:=x10) hx11 0) rfl rfl rfl rfl rfl) ?_;refine cF rfl rfl rfl rfl pS rfl fun b12=>?_;refine sp hT ?_;refine sto hT .head ?_;refine nn<|bA ?_;have hli:=hP.line x10 (List.mem_of_getElem? hx11);have hx0:P.pr.lines[i]?=some x10.ln:=rB hx11;refine bV (bEi x10) (Has.each (Has.of mT8) (List.mem_of_getElem? hx11)) ?_;refine bV (kP.sl (.slice x10.items.addr x10.items.list.length x10.items.cap) x10.items.list) (Has.left (Has.of mT0)) ?_;refine bV (lX x10.items.list) (Has.right (Has.of mT1)) ?_;have hz: ∀y∈(x10.items.list.map ItemV.it),∀z∈y.nums,-9223372036854775808≤z∧z≤9223372036854775807:=fun y hy z hzz=>by obtain⟨it,h1,rfl⟩:=List.mem_map.1 hy;exact(hli.2 it h1).2 z hzz
    refine bF<|sp hT ?_;refine ss (ldO hT (bM .head)) ?_;refine ss (jQ rfl rfl rfl (by first | omega | (simp;omega))) ?_;refine sp2 hT ?_;refine nn<|bA<|sr<|sp3 hT ?_;refine nn<|bH rfl (fun hc107=>?_) (fun hc107=>?_)
    · have hc107:=eq_of_beq hc107;refine bF<|sp2 hT ?_;refine nn<|sr<|sp2 hT ?_;refine ss (ldO hT (dZ .head)) ?_;refine sp hT ?_;refine bO Tryz.func107 (bEu b r1 r2 (bIi u b) G out.length c _ _ x10.items.list 255 (by omega) hli.2) rfl rfl (.cons kT1 .nil) ⟨(Has.of mT5),(Has.of mT6),(Has.of mT7),(Has.of mT1),(Has.of mT0),trivial⟩ fun _=>?_;refine sp4 hT ?_;refine sp hT ?_;refine nn<|bA<|sr<|sp3 hT ?_;refine cH (fun hg118=>?_) (fun hg118=>?_)
      · have hg118:=fW hg118;refine sk4 ?_;refine sk3 ?_;refine sp2 hT ?_;refine sk4 ?_;refine sk4 ?_;refine sk ?_;refine sp hT ?_;refine nn<|cL rfl rfl ?_;refine sr<|sp hT ?_;refine nn<|bG<|bC<|bI<|bC<|bC<|bI<|bC ?_;have hr:=hR.symm.trans (hinv22.2.1.trans (show fX (P.pr.lines.drop i) out=(out,false) from (by first | exact qS hx0 (by rw [if_pos (by omega)];exact qT (by assumption)) | exact pG hx0 (by omega) (by assumption) hex | exact lD hx0 (by omega) (by first | assumption | (rw [show x10.ln.name=[] from by assumption];exact sK)) hex | exact False.elim (by omega))));subst hr;exact bQ ((_,_),u) rfl (bD rfl) (.cons .head (.cons kT1 .nil)) ⟨Has.pure (hinv22.2.2.1),trivial⟩ rfl
      have hg118:=fL hg118;have hex:=bLn (by assumption:(hU (x10.items.list.map ItemV.it) 255).isSome=true);have hexl:=bJj hz hex;refine sp3 hT ?_;refine cH (fun hg121=>?_) (fun hg121=>?_)
      · have hg121:=eq_of_beq hg121;refine sp hT ?_;refine ss (ldO hT (bM kT1)) ?_;refine sp hT ?_;refine cH (fun hg124=>?_) (fun hg124=>?_)
        · have hg124:x10.name=([]:Bs):=eq_of_beq hg124;refine sp hT ?_;refine cI (t':=false) (by decide) ?_;refine sp4 hT ?_;refine sp2 hT ?_;refine cH (fun hg131=>?_) (fun hg131=>?_)
          · have hg131:=of_decide_eq_true hg131;omega
          have hg131:=Int.not_lt.1 (of_decide_eq_false hg131);refine sk4 ?_;refine sp2 hT ?_;refine nn<|cN rfl rfl ?_;refine bK<|bB<|bF<|sp3 hT ?_;refine bO Tryz.func106 (wZ b r1 r2 u G c out ([111,117,116,32]:Bs) ((hU (x10.items.list.map ItemV.it) 255).getD []) (by simp;omega)) rfl rfl (.cons .head (.cons kT1 .nil)) trivial fun⟨G13,c14⟩=>?_;refine dT<|bY<|bB<|bF<|sp hT ?_;refine bP (z':=(((i+1):Nat):Int)) (cK (by omega) (by omega)) ?_;refine sp hT ?_;refine nn ?_;exact cP (i+1,(out++((([111,117,116,32]:Bs)++((hU (x10.items.list.map ItemV.it) 255).getD []))++[10])),true,_,_) (by dsimp only;omega) ⟨rfl,trivial⟩ ⟨rfl,rfl,rfl,rfl,trivial⟩ (.cons .head (.cons .head (.cons kT1 .nil))) ⟨Has.pure (⟨by dsimp only;omega,hinv22.2.1.trans (lines_out hx0 (by omega) (by assumption) hex),fun h=>by simp at h,by simp;omega⟩),trivial⟩ (bE.drop 4)
        have hg124:x10.name≠([]:Bs):=fun h=>absurd (beq_iff_eq.2 h) (by rw [show(x10.name==([]:Bs))=false from hg124];simp);refine sp hT ?_;refine cI (t':=true) (by decide) ?_;refine sp2 hT ?_;refine sk4 ?_;refine sk4 ?_;refine sk ?_;refine sp hT ?_;refine nn<|cL rfl rfl ?_;refine sr<|sp hT ?_;refine nn<|bG<|bC<|bI<|bC<|bC<|bI<|bC ?_;have hr:=hR.symm.trans (hinv22.2.1.trans (show fX (P.pr.lines.drop i) out=(out,false) from (by first | exact qS hx0 (by rw [if_pos (by omega)];exact qT (by assumption)) | exact pG hx0 (by omega) (by assumption) hex | exact lD hx0 (by omega) (by first | assumption | (rw [show x10.ln.name=[] from by assumption];exact sK)) hex | exact False.elim (by omega))));subst hr;exact bQ ((_,_),u) rfl (bD rfl) (.cons .head (.cons kT1 .nil)) ⟨Has.pure (hinv22.2.2.1),trivial⟩ rfl
      have hg121:=beq_eq_false_iff_ne.1 hg121;omega
    have hc107:=beq_eq_false_iff_ne.1 hc107;refine bK<|bB<|sr<|sp2 hT ?_;refine ss (ldO hT (dZ .head)) ?_;refine sp hT ?_;refine bO Tryz.func107 (bEu b r1 r2 (bIi u b) G out.length c _ _ x10.items.list 254 (by omega) hli.2) rfl rfl (.cons kT1 .nil) ⟨(Has.of mT5),(Has.of mT6),(Has.of mT7),(Has.of mT1),(Has.of mT0),trivial⟩ fun _=>?_;refine sp4 hT ?_;refine sp hT ?_;refine nn<|bA<|sr<|sp3 hT ?_;refine cH (fun hg118=>?_) (fun hg118=>?_)
    · have hg118:=fW hg118;refine sk4 ?_;refine sk3 ?_;refine sp2 hT ?_;refine sk4 ?_;refine sk4 ?_;refine sk ?_;refine sp hT ?_;refine nn<|cL rfl rfl ?_;refine sr<|sp hT ?_;refine nn<|bG<|bC<|bI<|bC<|bC<|bI<|bC ?_;have hr:=hR.symm.trans (hinv22.2.1.trans (show fX (P.pr.lines.drop i) out=(out,false) from (by first | exact qS hx0 (by rw [if_neg (by omega)];exact qT (by assumption)) | exact pG hx0 (by omega) (by assumption) hex | exact lD hx0 (by omega) (by first | assumption | (rw [show x10.ln.name=[] from by assumption];exact sK)) hex | exact False.elim (by omega))));subst hr;exact bQ ((_,_),u) rfl (bD rfl) (.cons .head (.cons kT1 .nil)) ⟨Has.pure (hinv22.2.2.1),trivial⟩ rfl
    have hg118:=fL hg118;have hex:=bLn (by assumption:(hU (x10.items.list.map ItemV.it) 254).isSome=true);have hexl:=bJj hz hex;refine sp3 hT ?_;refine cH (fun hg121=>?_) (fun hg121=>?_)
    · have hg121:=eq_of_beq hg121;omega
    have hg121:=beq_eq_false_iff_ne.1 hg121;refine sp hT ?_;refine ss (ldO hT (bM kT1)) ?_;refine sp hT ?_;refine cH (fun hg124=>?_) (fun hg124=>?_)
    · have hg124:x10.name=([]:Bs):=eq_of_beq hg124;refine sp hT ?_;refine cI (t':=true) (by decide) ?_;refine sp2 hT ?_;refine sk4 ?_;refine sk4 ?_;refine sk ?_;refine sp hT ?_;refine nn<|cL rfl rfl ?_;refine sr<|sp hT ?_;refine nn<|bG<|bC<|bI<|bC<|bC<|bI<|bC ?_;have hr:=hR.symm.trans (hinv22.2.1.trans (show fX (P.pr.lines.drop i) out=(out,false) from (by first | exact qS hx0 (by rw [if_neg (by omega)];exact qT (by assumption)) | exact pG hx0 (by omega) (by assumption) hex | exact lD hx0 (by omega) (by first | assumption | (rw [show x10.ln.name=[] from by assumption];exact sK)) hex | exact False.elim (by omega))));subst hr;exact bQ ((_,_),u) rfl (bD rfl) (.cons .head (.cons kT1 .nil)) ⟨Has.pure (hinv22.2.2.1),trivial⟩ rfl
    have hg124:x10.name≠([]:Bs):=fun h=>absurd (beq_iff_eq.2 h) (by rw [show(x10.name==([]:Bs))=false from hg124];simp);refine sp hT ?_;refine cI (t':=false) (by decide) ?_;refine sp4 hT ?_;refine sp2 hT ?_;refine cH (fun hg131=>?_) (fun hg131=>?_)
    · have hg131:=of_decide_eq_true hg131;refine sp hT ?_;refine ss (ldO hT (bM kT1)) ?_;refine bO Tryz.func64 (lU _ hli.1) rfl rfl .nil ⟨Has.of mT7,trivial⟩ fun _=>?_;refine sp3 hT ?_;refine nn<|bH rfl (fun hc137=>?_) (fun hc137=>?_)
      · have hc137:=fW hc137;refine sr<|sp hT ?_;refine nn<|bG<|bC<|bI<|bC<|bC<|bI<|bC ?_;have hr:=hR.symm.trans (hinv22.2.1.trans (show fX (P.pr.lines.drop i) out=(out,false) from (by first | exact qS hx0 (by rw [if_neg (by omega)];exact qT (by assumption)) | exact pG hx0 (by omega) (by assumption) hex | exact lD hx0 (by omega) (by first | assumption | (rw [show x10.ln.name=[] from by assumption];exact sK)) hex | exact False.elim (by omega))));subst hr;exact bQ ((_,_),u) rfl (bD rfl) (.cons .head (.cons kT1 .nil)) ⟨Has.pure (hinv22.2.2.1),trivial⟩ rfl
      have hc137:=fL hc137;refine bK<|bB ?_;have hnl:=sJ (by assumption:fC x10.name=true);refine bF<|sp3 hT ?_;refine bO Tryz.func106 (wZ b r1 r2 u G c out (x10.name++([58,32]:Bs)) ((hU (x10.items.list.map ItemV.it) 254).getD []) (by simp;omega)) rfl rfl (.cons .head (.cons kT1 .nil)) trivial fun⟨G15,c16⟩=>?_;refine dT<|bY<|bB<|bF<|sp hT ?_;refine bP (z':=(((i+1):Nat):Int)) (cK (by omega) (by omega)) ?_;refine sp hT ?_;refine nn ?_;exact cP (i+1,(out++(((x10.name++([58,32]:Bs))++((hU (x10.items.list.map ItemV.it) 254).getD []))++[10])),true,_,_) (by dsimp only;omega) ⟨rfl,trivial⟩ ⟨rfl,rfl,rfl,rfl,trivial⟩ (.cons .head (.cons .head (.cons kT1 .nil))) ⟨Has.pure (⟨by dsimp only;omega,hinv22.2.1.trans (lines_step hx0 (by omega) (by assumption) hex),fun h=>by simp at h,by have:=sJ ‹fC x10.name=true›;simp;omega⟩),trivial⟩ (bE.drop 4)
    have hg131:=Int.not_lt.1 (of_decide_eq_false hg131);omega
  have hc98:=Int.not_lt.1 (of_decide_eq_false hc98);refine cW<|cJ<|cJ<|cX<|bB<|sr<|sp hT ?_;refine nn<|bG ?_;have hr:=hR.symm.trans (hinv22.2.1.trans (bKd (by omega)));subst hr;exact bQ ((_,_),u) rfl (bD rfl) (.cons .head (.cons .head .nil)) ⟨Has.pure (hinv22.2.2.1),trivial⟩ rfl
set_option maxRecDepth 100000 in
theorem bstrN_spec(b r1 r2:Nat)(p:Value)(g c:Nat)(out:Bs)(h0:out≠[])(hc:out.length≤c):dH Tryz.prog 73 [.pointer (some ⟨b,2,none⟩)] [.obj b (.cells [.map (some r1),.map (some r2),p,.slice (some ⟨g,0,none⟩) out.length c].toArray 146),nO.row (.slice (some ⟨g,0,none⟩) out.length c) 5 out] [] (fun(_:Unit)=> .string (bs out)) (fun _=>[]) (fun _=>[]):=by
  have hT:=iL;refine cQ Tryz.func73 rfl Tryz.ntmps73 rfl ?_;intro β hM;refine sr<|sp hT ?_;refine nn<|bA<|cU _ _ [(true,0),(true,1),(true,2),(true,3),(true,4),(true,5),(true,6),(true,7),(true,8),(true,9),(false,10),(true,11)] cY (by decide+kernel) (.cons .head .nil) bE.self ?_;refine puM hT ?_;refine puM hT ?_;refine puM hT ?_;refine stM rfl (ldO hT (rH .head)) ?_;refine stM rfl (wQ rfl rfl (.inr (by have:=List.length_pos_iff.2 h0;omega))) ?_;refine puM hT ?_;refine puM hT ?_;refine puM hT ?_;refine stM rfl (ldO hT (rH .head)) ?_;refine puM hT ?_;refine cC (o:=_) rfl ?_;refine bDj kT1 rfl rfl rfl rfl u8Ptr (by kernel_rfl) rfl rfl rfl h0 ?_;refine cB (.cons .head .nil) trivial ?_;refine puM hT ?_;refine cM<|bB<|bG ?_;exact bQ () rfl (bD rfl) .nil trivial (rfl)
set_option maxRecDepth 100000 in
theorem bstrE_spec(b r1 r2:Nat)(p:Value)(c:Nat):dH Tryz.prog 73 [.pointer (some ⟨b,2,none⟩)] [.obj b (.cells [.map (some r1),.map (some r2),p,.slice none 0 c].toArray 146)] [] (fun(_:Unit)=> .string (bs [])) (fun _=>[]) (fun _=>[]):=by
  have hT:=iL;refine cQ Tryz.func73 rfl Tryz.ntmps73 rfl ?_;intro β hM;refine sr<|sp hT ?_;refine nn<|bA<|cU _ _ [(true,0),(true,1),(true,2),(true,3),(true,4),(true,5),(true,6),(true,7),(true,8),(true,9),(true,10),(true,11)] cY (by decide+kernel) (.cons .head .nil) bE.self ?_;refine puM hT ?_;refine puM hT ?_;refine puM hT ?_;refine stM rfl (ldO hT (rH .head)) ?_;refine stM rfl (wQ rfl rfl (.inl rfl)) ?_;refine puM hT ?_;refine puM hT ?_;refine puM hT ?_;refine stM rfl (ldO hT (rH .head)) ?_;refine puM hT ?_;refine stM rfl (sti_noString rfl rfl rfl) ?_;refine puM hT ?_;refine cM<|bB<|bG ?_;exact bQ () rfl (bD rfl) .nil trivial (rfl)
set_option maxRecDepth 100000 in
theorem swrite_spec(P:ProgV)(hP:qY P)(hl1:P.inputs.list.length≤140737488355328)(hl2:P.lines.list.length≤140737488355328):dH Tryz.prog 42 [.agg #[.slice P.inputs.addr P.inputs.list.length P.inputs.cap,.slice P.lines.addr P.lines.list.length P.lines.cap]] [] [gW,iH.sl (.slice P.inputs.addr P.inputs.list.length P.inputs.cap) P.inputs.list,hO P.inputs.list,lH.sl (.slice P.lines.addr P.lines.list.length P.lines.cap) P.lines.list,jK P.lines.list] (fun(_:Unit)=> .tuple #[.string (bs (dX P.pr).1),.bool (dX P.pr).2]) (fun _=>[]) (fun _=>[]):=by
  have hT:=iL;refine cQ Tryz.func42 rfl Tryz.ntmps42 rfl ?_;intro β hM;refine sr<|fH rfl rfl rfl rfl rfl rfl fun b1=>?_;refine sp2 hT ?_;refine nn<|sr<|bO Tryz.func71 (bEh false) rfl rfl .nil ⟨(Has.of mT0),trivial⟩ fun r2=>?_;refine bO Tryz.func71 (bEh true) rfl rfl .nil ⟨(Has.of mT1),trivial⟩ fun r3=>?_;refine ss (bZ rfl rfl (shower_built _ _)) ?_;refine fH rfl rfl rfl rfl rfl rfl fun b4=>?_;refine sp hT ?_;refine nn<|sr<|sp hT ?_;refine ss (ldN hT (bM kT1)) ?_;refine dM (t:=5) nO ?_;refine bO Tryz.func72 (bIm b4 r2 r3 P hP hl1 hl2) rfl rfl (.cons kT1 (.cons .head .nil)) ⟨(Has.of mT1),(Has.of mT0),(Has.of mT2),(Has.of mT3),(Has.of mT4),(Has.of mT5),(Has.of mT6),trivial⟩ fun⟨⟨G5,c6⟩,u7⟩=>?_;refine cE (Has.of mT0) fun hemp=>?_;dsimp only at hemp;refine sp hT ?_;refine nn<|bA ?_
  rcases Decidable.em ((dX P.pr).1=[]) with h0 | h0
  · skip
    refine bF<|sp3 hT ?_;have hg:=hemp h0;subst hg;rw [h0];refine bO Tryz.func73 (bstrE_spec b4 r2 r3 (bIi u7 b4) c6) rfl rfl (.cons .head .nil) trivial fun _=>?_;refine sp3 hT ?_;refine nn<|bG ?_;exact bL () rfl (bD rfl) (bD rfl) .nil trivial (by first | rfl | rw [h0])
  skip
  refine bF<|sp3 hT ?_;refine dV kT1 fun hcap=>?_;refine at_rowg kT1 (List.length_pos_iff.2 h0) fun g hg=>?_;subst hg;refine bO Tryz.func73 (bstrN_spec b4 r2 r3 (bIi u7 b4) g c6 (dX P.pr).1 h0 hcap) rfl rfl (.cons .head (.cons .head .nil)) trivial fun _=>?_;refine sp3 hT ?_;refine nn<|bG ?_;exact bL () rfl (bD rfl) (bD rfl) .nil trivial (by first | rfl | rw [h0])
set_option maxRecDepth 100000 in
theorem sRight_spec(P:ProgV)(hP:qY P)(hl1:P.inputs.list.length≤140737488355328)(hl2:P.lines.list.length≤140737488355328):dH Tryz.prog 43 [.agg #[.slice P.inputs.addr P.inputs.list.length P.inputs.cap,.slice P.lines.addr P.lines.list.length P.lines.cap]] [] [gW,iH.sl (.slice P.inputs.addr P.inputs.list.length P.inputs.cap) P.inputs.list,hO P.inputs.list,lH.sl (.slice P.lines.addr P.lines.list.length P.lines.cap) P.lines.list,jK P.lines.list] (fun(_:Unit)=> .bool (dX P.pr).2) (fun _=>[]) (fun _=>[]):=by
  have hT:=iL;refine cQ Tryz.func43 rfl Tryz.ntmps43 rfl ?_;intro β hM;refine sr<|fH rfl rfl rfl rfl rfl rfl fun b1=>?_;refine sp hT ?_;refine nn<|sr<|ss (ldN hT (bM .head)) ?_;refine bO Tryz.func42 (swrite_spec P hP hl1 hl2) rfl rfl .nil ⟨Has.of mT0,Has.of mT1,Has.of mT2,Has.of mT3,Has.of mT4,trivial⟩ fun _=>?_;refine sp4 hT ?_;refine sp hT ?_;refine nn<|sr<|sp2 hT ?_;refine nn<|bG ?_;exact bQ () rfl (bD rfl) .nil trivial (rfl)
end Go.Proofs.YtciimjjleglmaaaGreatDoor
namespace Go.Proofs.YtciimjjleglmaaaGreatDoor
open Go.RowKit
section
variable {α : Type} {f : α → α → Bool} {x y : α} {i : Nat}
theorem bAj{a b:List α}{k:Nat}(h:a.take k=b.take k)(hx:a[k]?=some x)(hy:b[k]?=some y)(e:x=y):a.take (k+1)=b.take (k+1):=by
  subst e;rw [List.take_add_one,List.take_add_one,h,hx,hy]
theorem bGo{a b:List α}{k:Nat}(h:a.take k=b.take k)(ha:a.length≤k)(hb:b.length≤k):a=b:=by
  rw [List.take_of_length_le ha,List.take_of_length_le hb] at h;exact h
theorem bFu{a b:List α}{k:Nat}(hx:a[k]?=some x)(hy:b[k]?=some y)(e:x≠y):a≠b:=by
  rintro rfl;rw [hx] at hy;exact e (Option.some.inj hy)
end
end Go.Proofs.YtciimjjleglmaaaGreatDoor
namespace Go.Proofs.YtciimjjleglmaaaGreatDoor
open Go.RowKit
theorem step_bound{st st':List gE}{x:fB}(h:iV st x=some st'):x.name.length≤16∧x.nums.length≤256:=by
  unfold iV at h;split at h
  · unfold operandS at h;split at h
    · split at h
      · rename_i hb;rw [hb.2.1];exact⟨(wC hb.2.2).len,by simp⟩
      · simp at h
    · split at h
      · simp at h
      · rename_i hb;simp only [not_or,ne_eq,Classical.not_not,Nat.not_lt] at hb;rw [hb.2.1];exact⟨by simp,hb.2.2.2⟩
  · split at h
    · cases h
    · rename_i hb;simp only [not_or,ne_eq,Classical.not_not] at hb;rw [hb.2.2.1,hb.2.2.2.1];exact⟨by simp,by simp⟩
theorem bBz: ∀{l:List fB} {st st':List gE},gD l st=some st'→ ∀x∈l,x.name.length≤16∧x.nums.length≤256
  | [],_,_,_,x,hx=>by simp at hx
  | y::l,st,st',h,x,hx=>by
    rw [gD] at h
    cases h1:iV st y with
    | none=>rw [h1] at h;cases h
    | some s1=>
      rw [h1] at h
      rcases List.mem_cons.1 hx with rfl | hx
      · exact step_bound h1
      · exact bBz h x hx
theorem bFh{l:List fB}{m:Nat}{t:Bs}(h:hU l m=some t):l.length≤m∧ ∀x∈l,x.name.length≤16∧x.nums.length≤256:=by
  unfold hU at h;split at h
  · cases h
  · rename_i hl;split at h
    · rename_i hq;exact⟨by omega,bBz hq⟩
    · cases h
theorem uY: ∀{ds:List pK} {acc t:Bs},kV ds acc=some t→ ∀d∈ds,d.name.length≤16
  | [],_,_,_,d,hd=>by simp at hd
  | e::ds,acc,t,h,d,hd=>by
    rw [kV] at h;split at h
    · rename_i he
      rcases List.mem_cons.1 hd with rfl | hd
      · rw [he];simp
      · exact uY h d hd
    · split at h
      · rename_i hb
        rcases List.mem_cons.1 hd with rfl | hd
        · exact(wC hb.2).len
        · exact uY h d hd
      · cases h
theorem zR: ∀{xs:List gF} {o o':Bs},nX xs o=(o',true)→ ∀x∈xs,x.name.length≤16∧x.sides.length≤4∧ ∀d∈x.sides,d.name.length≤16
  | [],_,_,_,x,hx=>by simp at hx
  | y::xs,o,o',h,x,hx=>by
    rw [nX] at h
    cases hi:pP y with
    | none=>rw [hi] at h;simp at h
    | some t=>
      rw [hi] at h;simp only at h
      rcases List.mem_cons.1 hx with rfl | hx
      · unfold pP at hi;split at hi
        · cases hi
        · rename_i hb;simp only [not_or,Bool.not_eq_false,Nat.not_lt] at hb;exact⟨(wC hb.1).len,hb.2,uY hi⟩
      · exact zR h x hx
theorem bCp: ∀{ls:List rF} {o o':Bs},fX ls o=(o',true)→ ∀l∈ls,l.name.length≤16∧l.items.length≤255∧ ∀x∈l.items,x.name.length≤16∧x.nums.length≤256
  | [],_,_,_,l,hl=>by simp at hl
  | [m],o,o',h,l,hl=>by
    rw [List.mem_singleton.1 hl];simp only [fX] at h
    cases hx:hU m.items 255 with
    | none=>rw [hx] at h;simp at h
    | some t=>
      rw [hx] at h;simp only at h;split at h
      · simp at h
      · rename_i hn;simp only [ne_eq,Classical.not_not] at hn;obtain⟨a,b⟩:=bFh hx;exact⟨by rw [hn];simp,a,b⟩
  | m::n::ls,o,o',h,l,hl=>by
    have h':(match hU m.items 254 with
        | none=>(o,false)
        | some t=>if fC m.name=false then (o,false) else fX (n::ls) (o++(((m.name++[58,32])++t)++[10])))=(o',true):=h
    cases hx:hU m.items 254 with
    | none=>rw [hx] at h';simp at h'
    | some t=>
      rw [hx] at h';simp only at h';split at h'
      · simp at h'
      · rename_i hb;simp only [Bool.not_eq_false] at hb
        rcases List.mem_cons.1 hl with rfl | hl
        · obtain⟨a,b⟩:=bFh hx;exact⟨(wC hb).len,by omega,b⟩
        · exact bCp h' l hl
structure Fine (p:iK):Prop where
  ins:p.inputs.length≤64
  lns:p.lines.length≤64
  input: ∀x∈p.inputs,x.name.length≤16∧x.sides.length≤4∧ ∀d∈x.sides,d.name.length≤16
  line: ∀l∈p.lines,l.name.length≤16∧l.items.length≤255∧ ∀x∈l.items,x.name.length≤16∧x.nums.length≤256
theorem bDr{p:iK}(h:(dX p).2=true):Fine p:=by
  unfold dX at h;split at h
  · cases h
  · rename_i hb;simp only [not_or,Nat.not_lt] at hb
    cases hi:nX p.inputs [] with
    | mk o b=>
      rw [hi] at h
      cases b with
      | false=>cases h
      | true=>
        simp only at h;exact⟨by omega,by omega,zR hi,bCp (o':=(fX p.lines o).1) (Prod.ext rfl h)⟩
section
variable {x : ProgV}
theorem yJ{y:InputV}(h:y∈x.inputs.list):y.inp∈x.pr.inputs:=List.mem_map.2 ⟨y,h,rfl⟩
theorem mem_ln{y:LineV}(h:y∈x.lines.list):y.ln∈x.pr.lines:=List.mem_map.2 ⟨y,h,rfl⟩
theorem mem_sd{y:InputV}{d:iP}(h:d∈y.sides.list):d.sd∈y.inp.sides:=List.mem_map.2 ⟨d,h,rfl⟩
theorem mem_it{y:LineV}{d:ItemV}(h:d∈y.items.list):d.it∈y.ln.items:=List.mem_map.2 ⟨d,h,rfl⟩
theorem Fine.ok(h:Fine x.pr)(hr:RngP x.pr):qY x∧x.inputs.list.length≤140737488355328∧x.lines.list.length≤140737488355328:=by
  have e1:x.pr.inputs.length=x.inputs.list.length:=List.length_map _;have e2:x.pr.lines.length=x.lines.list.length:=List.length_map _;have h1:=h.ins;have h2:=h.lns;refine⟨⟨fun y hy=>?_,fun y hy=>?_⟩,by omega,by omega⟩
  · obtain⟨a,b,c⟩:=h.input _ (yJ hy);refine⟨Nat.le_trans a (by decide),fun d hd=>⟨Nat.le_trans (c _ (mem_sd hd)) (by decide),?_⟩⟩;exact hr.ins _ (yJ hy) _ (mem_sd hd)
  · obtain⟨a,b,c⟩:=h.line _ (mem_ln hy);refine⟨Nat.le_trans a (by decide),fun d hd=>⟨Nat.le_trans (c _ (mem_it hd)).1 (by decide),?_⟩⟩;exact hr.lns _ (mem_ln hy) _ (mem_it hd)
end
theorem flt_of{f:Flt}(h:pH ⟨f.1,f.2⟩ ⟨0,0⟩=true):f=(0,0):=yN.1 h
theorem flt_not{f:Flt}(h:pH ⟨f.1,f.2⟩ ⟨0,0⟩=false):f≠(0,0):=fun e=>by rw [e] at h;cases h
end Go.Proofs.YtciimjjleglmaaaGreatDoor
namespace Go.Proofs.YtciimjjleglmaaaGreatDoor
open Go.RowKit
abbrev w64(z:Int):Int:=IntKind.i64.wrap z
def fS (f:Int)(two:Bool):Bool:=if f<1∨17<f then false else if f=16 then !two else two || decide (f≤7)
def sG (a b:Int):Int:=if a.tmod b≠0∧decide (a.tmod b<0)≠decide (b<0) then w64 (a.tmod b+b) else a.tmod b
def tS (b:Bool):Int:=if b then 1 else 0
def big1 (a:Int):Bool:=decide (1<IntKind.u64.wrap a)
def gG (f a b:Int):Bool:=if f=4 then b==0 else if f=17 then decide (b<0) else if f=14∨f=15 then big1 a || big1 b else false
def kN:Nat→Int→Int→Nat→Int
  | 0,p,_,_=>p
  | k+1,p,a,n=>if n=0 then p else kN k (if n%2=1 then w64 (p*a) else p) (w64 (a*a)) (n/2)
def zI (a n:Int):Int:=kN (n.toNat+1) 1 a n.toNat
def tI (f a b:Int):Bool:=if f=8 then a==b else if f=9 then a !=b else if f=10 then decide (a<b) else if f=11 then decide (a≤b) else if f=12 then decide (b≤a) else decide (b<a)
def andW (a b:Int):Int:=w64 ((BitVec.ofInt 64 a&&&BitVec.ofInt 64 b).toNat:Nat)
def orW (a b:Int):Int:=w64 ((BitVec.ofInt 64 a ||| BitVec.ofInt 64 b).toNat:Nat)
def xorW (a b:Int):Int:=w64 ((BitVec.ofInt 64 a^^^BitVec.ofInt 64 b).toNat:Nat)
def divW (a b:Int):Int:=if sG a b≠a.tmod b then w64 (w64 (a.tdiv b)-1) else w64 (a.tdiv b)
def minW (a b:Int):Int:=if b<a then b else a
def maxW (a b:Int):Int:=if b>a then b else a
def pW (f a b:Int):Int:=
  if f=1 then w64 (a+b) else if f=2 then w64 (a-b) else if f=3 then w64 (a*b) else if f=4 then divW a b else if f=5 then (if a=0 then b else sG b a)
  else if f=6 then minW a b else if f=7 then maxW a b else if f=14 then andW a b else if f=15 then orW a b else if f=17 then zI a b else tS (tI f a b)
def oD (f a b:Int):Int×Int:=if fS f true=false then (0,10) else if gG f a b=true then (0,11) else (pW f a b,0)
def gN (f a:Int):Int×Int:=
  if fS f false=false then (0,10) else if f=2 then (w64 (0-a),0) else if f=3 then (w64 (tS (decide (0<a))-tS (decide (a<0))),0) else if f=4 then oD f 1 a
  else if f=5 then (maxW a (w64 (0-a)),0) else if f=16 then (if big1 a=true then (0,11) else (xorW a 1,0)) else (a,0)
def pE (f:Int):Int×Bool:=
  if f=6 then (9223372036854775807,true) else if f=7 then (-9223372036854775808,true) else if f=3∨f=4∨f=8∨f=11∨f=12∨f=14∨f=17 then (1,true) else (0,fS f true)
end Go.Proofs.YtciimjjleglmaaaGreatDoor
namespace Go.Proofs.YtciimjjleglmaaaGreatDoor
open Go.RowKit
structure Arr where
  sides:List Int
  data:List Int
  deriving Inhabited,DecidableEq
def kY:Arr:=⟨[],[]⟩
def lV (s:Int):Bool:=decide (s<0) || decide (65536<s)
def jY:List Int→Int→Int×Int
  | [],n=>(n,0)
  | s::r,n=>if 65536<w64 (n*s) then (0,61) else jY r (w64 (n*s))
def dW (s:List Int):Int×Int:=if 4<s.length∨s.any lV=true then (0,61) else if s.contains 0=true then (0,0) else jY s 1
def cO (a:Arr):Bool:=(dW a.sides).2==0&&(dW a.sides).1==(a.data.length:Int)
def mO:List Int→List Int→Int→Int×Int
  | s::sides,k::index,n=>if k<0∨s≤k then (0,62) else mO sides index (w64 (w64 (n*s)+k))
  | _,_,n=>(n,0)
def mD (sides index:List Int):Int×Int:=if (dW sides).2≠0 then (0,(dW sides).2) else if index.length≠sides.length then (0,62) else mO sides index 0
def mR:List Int→Int→List Int
  | [],_=>[]
  | s::r,p=>p.tmod s::mR r (w64 (p.tdiv s))
def iR (sides:List Int)(place:Int):List Int×Int:=
  if (dW sides).2≠0 then ([],(dW sides).2) else if place<0∨(dW sides).1≤place then ([],62) else ((mR sides.reverse place).reverse,0)
def lZ:Nat→Nat→List Int→List (List Int)
  | 0,_,_=>[]
  | _+1,_,[]=>[]
  | f+1,m,l=>l.take m::lZ f m (l.drop m)
def lastA (a:Arr):Nat:=match a.sides.getLast? with
  | none=>1
  | some s=>s.toNat
def fD (a:Arr):List (List Int)×Int:=if cO a=false then ([],60) else (lZ a.data.length (lastA a) a.data,0)
abbrev bDg:=Arr×Int
def gB (e:Int):bDg:=(kY,e)
def gC (f wrong a b:Int):Int×Int:=((oD f a b).1,if (oD f a b).2≠0 then (oD f a b).2 else wrong)
def nU (f:Int):List (Int×Int)→Int→List Int×Int
  | [],w=>([],w)
  | (a,b)::r,w=>((gC f w a b).1::(nU f r (gC f w a b).2).1,(nU f r (gC f w a b).2).2)
def nT (sides:List Int)(r:List Int×Int):bDg:=if r.2≠0 then gB r.2 else (⟨sides,r.1⟩,0)
def uD (a:Arr):bDg:=
  if a.sides≠[] then gB 71 else if lV (a.data.headD 0)=true then gB 73 else (⟨[a.data.headD 0],(List.range (a.data.headD 0).toNat).map fun i:Nat=>(i:Int)⟩,0)
def atI (l:List Int)(k:Int):Int:=l.getD k.toNat 0
def bJu (a:Arr):Arr:=⟨a.sides.reverse,(List.range a.data.length).map fun i:Nat=>atI a.data (mD a.sides (iR a.sides.reverse (i:Nat)).1.reverse).1⟩
def mapM (f:Int):List Int→List Int×Int
  | []=>([],0)
  | n::r=>if (gN f n).2≠0 then ([],(gN f n).2) else if (mapM f r).2≠0 then ([],(mapM f r).2) else ((gN f n).1::(mapM f r).1,0)
def hJ (f:Int)(a:Arr):bDg:=
  if cO a=false then gB 60
  else if f=32 then uD a
  else if f=33 then (⟨[(a.sides.length:Int)],a.sides⟩,0)
  else if f=34 then (⟨[(a.data.length:Int)],a.data⟩,0)
  else if f=35 then (⟨a.sides,((fD a).1.map List.reverse).flatten⟩,0)
  else if f=36 then (bJu a,0)
  else if fS f false=false then gB 70
  else if (mapM f a.data).2≠0 then gB (mapM f a.data).2 else (⟨a.sides,(mapM f a.data).1⟩,0)
def rM (l:List Int)(n:Nat):List Int:=(List.range n).map fun i=>l.getD (i%l.length) 0
def uG (a b:Arr):bDg:=
  if 1<a.sides.length then gB 71
  else if 4<a.data.length∨a.data.any lV=true then gB 73
  else if (dW a.data).2≠0 then gB 74
  else if 0<(dW a.data).1∧b.data=[] then gB 72
  else (⟨a.data,rM b.data (dW a.data).1.toNat⟩,0)
def qN (a b:Arr)(take:Bool):bDg:=
  let n:=a.data.headD 0
  let all:=b.sides.headD 0
  if a.sides≠[]∨b.sides=[] then gB 71
  else if all<n∨n<w64 (0-all) then gB 73
  else
    let ft:Int×Int:=if take then (if n<0 then (all+n,all) else (0,n)) else if 0≤n then (n,all) else (0,all+n)
    let sides:=(ft.2-ft.1)::b.sides.tail
    if all=0 then (⟨sides,[]⟩,0)
    else
      let cell:=b.data.length/all.toNat
      (⟨sides,(b.data.drop (ft.1.toNat*cell)).take (ft.2.toNat*cell-ft.1.toNat*cell)⟩,0)
def sidedA(s:List Int):List Int:=if s=[] then [1] else s
def zJ (a b:Arr):bDg:=
  let s:=sidedA a.sides
  let t:=sidedA b.sides
  if s.length≠t.length∨s.tail≠t.tail then gB 72
  else
    let sides:=(s.headD 0+t.headD 0)::s.tail
    if (dW sides).2≠0 then gB 74 else (⟨sides,a.data++b.data⟩,0)
def iU (f:Int)(a b:Arr):bDg:=
  if cO a=false∨cO b=false then gB 60
  else if f=37 then uG a b
  else if f=38∨f=39 then qN a b (f==38)
  else if f=40 then zJ a b
  else if fS f true=false then gB 70
  else if a.sides=b.sides then nT a.sides (nU f (a.data.zip b.data) 0)
  else if a.sides=[] then nT b.sides (nU f (b.data.map fun n=>(a.data.headD 0,n)) 0)
  else if b.sides=[] then nT a.sides (nU f (a.data.map fun n=>(n,b.data.headD 0)) 0)
  else gB 72
def zO (f:Int):List Int→Int→Int→Int×Int
  | [],n,w=>(n,w)
  | x::r,n,w=>zO f r (gC f w n x).1 (gC f w n x).2
def pO (f:Int):List (List Int)→Int→List Int×Int
  | [],w=>([],w)
  | l::r,w=>((zO f l.tail (l.headD 0) w).1::(pO f r (zO f l.tail (l.headD 0) w).2).1,(pO f r (zO f l.tail (l.headD 0) w).2).2)
def lW (f:Int)(a:Arr):bDg:=
  if cO a=false then gB 60
  else if fS f true=false then gB 70
  else if a.sides=[] then (⟨[],a.data⟩,0)
  else if (dW a.sides.dropLast).2≠0 then gB 74
  else if a.sides.getLastD 0=0 then (⟨a.sides.dropLast,List.replicate (dW a.sides.dropLast).1.toNat (pE f).1⟩,0)
  else nT a.sides.dropLast (pO f (fD a).1 0)
def oC (f:Int):List Int→Int→Int→List Int×Int
  | [],_,w=>([],w)
  | x::r,n,w=>((gC f w n x).1::(oC f r (gC f w n x).1 (gC f w n x).2).1,(oC f r (gC f w n x).1 (gC f w n x).2).2)
def oB (f:Int):List (List Int)→Int→List (List Int)×Int
  | [],w=>([],w)
  | l::r,w=>((l.headD 0::(oC f l.tail (l.headD 0) w).1)::(oB f r (oC f l.tail (l.headD 0) w).2).1,(oB f r (oC f l.tail (l.headD 0) w).2).2)
def pU (f:Int)(a:Arr):bDg:=
  if cO a=false then gB 60
  else if fS f true=false then gB 70
  else nT a.sides ((oB f (fD a).1 0).1.flatten,(oB f (fD a).1 0).2)
def pairsOf(a b:List Int):List (Int×Int):=a.flatMap fun x=>b.map fun y=>(x,y)
def jU (f:Int)(a b:Arr):bDg:=
  if cO a=false∨cO b=false then gB 60
  else if fS f true=false then gB 70
  else if 4<(a.sides++b.sides).length then gB 71
  else if (dW (a.sides++b.sides)).2≠0 then gB 74
  else nT (a.sides++b.sides) (nU f (pairsOf a.data b.data) 0)
end Go.Proofs.YtciimjjleglmaaaGreatDoor
namespace Go.Proofs.YtciimjjleglmaaaGreatDoor
open Go.RowKit
theorem vJ{z:Int}(h0: -9223372036854775808≤z)(h1:z≤9223372036854775807):w64 z=z:=by
  simp only [IntKind.wrap,IntKind.signed,IntKind.bits];simp;omega
def dI:List Int→Int
  | []=>1
  | s::r=>s*dI r
theorem lM: ∀{l:List Int},(∀x∈l,0≤x)→0≤dI l
  | [],_=>by decide
  | s::r,h=>Int.mul_nonneg (h s (by simp)) (lM fun x hx=>h x (by simp [hx]))
theorem xO: ∀{l:List Int},(0:Int)∈l→dI l=0
  | [],h=>by simp at h
  | s::r,h=>by
    rcases List.mem_cons.1 h with rfl | h
    · simp [dI]
    · rw [dI,xO h,Int.mul_zero]
theorem lP: ∀(a b:List Int),dI (a++b)=dI a*dI b
  | [],b=>by simp [dI]
  | s::a,b=>by rw [List.cons_append,dI,dI,lP a b,Int.mul_assoc]
theorem kS: ∀(a:List Int),dI a.reverse=dI a
  | []=>rfl
  | s::a=>by
    rw [List.reverse_cons,lP,kS a,dI,dI,dI,Int.mul_one,Int.mul_comm]
theorem bLb: ∀{l:List Int} {n m e:Int},(∀x∈l,0≤x∧x≤65536)→0≤n→n≤65536→jY l n=(m,e)→e=0→m=n*dI l∧m≤65536
  | [],n,m,e,_,_,h1,h,_=>by
    cases h;simp [dI,h1]
  | s::r,n,m,e,hl,h0,h1,h,he=>by
    obtain⟨s0,s1⟩:=hl s (by simp);have hb:0≤n*s:=Int.mul_nonneg h0 s0;have hc:n*s≤65536*65536:=Int.mul_le_mul h1 s1 s0 (by decide);have hw:w64 (n*s)=n*s:=vJ (by omega) (by omega);rw [jY,hw] at h;split at h
    · cases h;cases he
    · obtain⟨a,b⟩:=bLb (fun x hx=>hl x (by simp [hx])) hb (by omega) h he;exact⟨by rw [a,dI,Int.mul_assoc],b⟩
structure lL (s:List Int):Prop where
  len:s.length≤4
  rng: ∀x∈s,0≤x∧x≤65536
  prod:0≤dI s∧dI s≤65536
theorem badN_no{x:Int}(h:lV x=false):0≤x∧x≤65536:=by
  simp only [lV,Bool.or_eq_false_iff,decide_eq_false_iff_not] at h;omega
theorem badN_of{x:Int}(h:0≤x∧x≤65536):lV x=false:=by
  simp only [lV,Bool.or_eq_false_iff,decide_eq_false_iff_not];omega
theorem tU{s:List Int}(h:(dW s).2=0):lL s∧(dW s).1=dI s:=by
  unfold dW at h⊢;split at h
  · cases h
  · rename_i hb;rw [if_neg hb];simp only [not_or,Nat.not_lt,Bool.not_eq_true,List.any_eq_false] at hb;have hr: ∀x∈s,0≤x∧x≤65536:=fun x hx=>badN_no (by simpa using hb.2 x hx);have hnn:0≤dI s:=lM fun x hx=>(hr x hx).1;split at h
    · rename_i h0;rw [if_pos h0];have h0':(0:Int)∈s:=by simpa using h0
      have hz:=xO h0';exact⟨⟨hb.1,hr,by omega⟩,hz.symm⟩
    · rename_i h0;rw [if_neg h0];obtain⟨a,b⟩:=bLb hr (by decide) (by decide) (m:=(jY s 1).1) (e:=(jY s 1).2) rfl h;rw [Int.one_mul] at a;exact⟨⟨hb.1,hr,by omega⟩,a⟩
theorem bJg: ∀{l:List Int} {n:Int},(∀x∈l,1≤x∧x≤65536)→1≤n→n*dI l≤65536→jY l n=(n*dI l,0)
  | [],n,_,_,_=>by simp [jY,dI]
  | s::r,n,hl,h0,h=>by
    obtain⟨s0,s1⟩:=hl s (by simp);have hp:1≤dI r:=prodL_pos fun x hx=>(hl x (by simp [hx])).1
    have hb:1≤n*s:=by
      have:=Int.mul_le_mul h0 s0 (by decide) (by omega);omega
    have hc:n*s≤n*s*dI r:=by
      have:=Int.mul_le_mul_of_nonneg_left hp (show 0≤n*s by omega);omega
    rw [dI,←Int.mul_assoc] at h⊢;have hw:w64 (n*s)=n*s:=vJ (by omega) (by omega);rw [jY,hw,if_neg (by omega),bJg (fun x hx=>hl x (by simp [hx])) hb h]
where
  prodL_pos: ∀{l:List Int},(∀x∈l,1≤x)→1≤dI l
    | [],_=>by decide
    | s::r,h=>by
      have h1:=h s (by simp);have h2:=prodL_pos (l:=r) fun x hx=>h x (by simp [hx]);have:=Int.mul_le_mul h1 h2 (by decide) (by omega);rw [dI];omega
theorem size_of{s:List Int}(h:lL s):dW s=(dI s,0):=by
  unfold dW;rw [if_neg]
  · split
    · rename_i h0;have h0':(0:Int)∈s:=by simpa using h0
      rw [xO h0']
    · rename_i h0
      have h1: ∀x∈s,1≤x∧x≤65536:=fun x hx=>by
        obtain⟨a,b⟩:=h.rng x hx;have:x≠0:=fun e=>h0 (by simpa [e] using hx);omega
      have:=bJg h1 (show(1:Int)≤1 by decide) (by rw [Int.one_mul];exact h.prod.2);rw [this,Int.one_mul]
  · rintro(h' | h')
    · have:=h.len;omega
    · simp only [List.any_eq_true] at h';obtain⟨x,hx,hb⟩:=h';rw [badN_of (h.rng x hx)] at hb;cases hb
theorem fP{a:Arr}:cO a=true↔lL a.sides∧dI a.sides=a.data.length:=by
  unfold cO;simp only [Bool.and_eq_true,beq_iff_eq];constructor
  · rintro⟨h1,h2⟩;obtain⟨a1,a2⟩:=tU h1;exact⟨a1,by rw [←a2,h2]⟩
  · rintro⟨h1,h2⟩;rw [size_of h1];exact⟨rfl,h2⟩
theorem lL.reverse{s:List Int}(h:lL s):lL s.reverse:=⟨by simpa using h.len,fun x hx=>h.rng x (by simpa using hx),by rw [kS];exact h.prod⟩
inductive lC:List Int→List Int→Prop
  | nil:lC [] []
  | cons {s k sides index}:0≤k→k<s→lC sides index→lC (s::sides) (k::index)
theorem lC.len{s k:List Int}(h:lC s k):k.length=s.length:=by induction h<;>simp_all
theorem lC.append{a b c d:List Int}(h:lC a b)(k:lC c d):lC (a++c) (b++d):=by
  induction h with
  | nil=>exact k
  | cons h0 h1 _ ih=>exact .cons h0 h1 ih
theorem lC.reverse{s k:List Int}(h:lC s k):lC s.reverse k.reverse:=by
  induction h with
  | nil=>exact .nil
  | cons h0 h1 _ ih=>
    rw [List.reverse_cons,List.reverse_cons];exact ih.append (.cons h0 h1 .nil)
theorem prod_div{s p:Int}{r:Int}(hs:0<s)(h0:0≤p)(h:p<s*r):0≤p.tdiv s∧p.tdiv s<r∧0≤p.tmod s∧p.tmod s<s:=by
  rw [Int.tdiv_eq_ediv_of_nonneg h0,Int.tmod_eq_emod_of_nonneg h0];refine⟨Int.ediv_nonneg h0 (by omega),Int.ediv_lt_of_lt_mul hs (by rw [Int.mul_comm];exact h),Int.emod_nonneg _ (by omega),Int.emod_lt_of_pos _ hs⟩
theorem uM: ∀{s:List Int} {p:Int},(∀x∈s,0≤x∧x≤65536)→0≤p→p<dI s→p≤65536→lC s (mR s p)
  | [],p,_,_,_,_=> .nil
  | s::r,p,hl,h0,h,h1=>by
    obtain⟨s0,s1⟩:=hl s (by simp)
    have hs:0<s:=by
      rcases Int.lt_or_le 0 s with h' | h'
      · exact h'
      · have:s=0:=by omega
        subst this;simp [dI] at h;omega
    obtain⟨d0,d1,m0,m1⟩:=prod_div hs h0 h
    have hle:p.tdiv s≤p:=by
      rw [Int.tdiv_eq_ediv_of_nonneg h0];exact Int.ediv_le_self _ h0
    have hw:w64 (p.tdiv s)=p.tdiv s:=vJ (by omega) (by omega);rw [mR,hw];exact .cons m0 m1 (uM (fun x hx=>hl x (by simp [hx])) d0 d1 (by omega))
theorem uL: ∀{s k:List Int},lC s k→(∀x∈s,0≤x∧x≤65536)→ ∀{n:Int},0≤n→(n+1)*dI s≤65536→ ∃m,mO s k n=(m,0)∧0≤m∧m<(n+1)*dI s
  | _,_,.nil,_,n,h0,h1=>⟨n,rfl,h0,by simp [dI];omega⟩
  | _,_,.cons (s:=s) (k:=k) (sides:=sides) (index:=index) k0 k1 hw,hl,n,h0,h1=>by
    obtain⟨s0,s1⟩:=hl s (by simp);have hnn:0≤dI sides:=lM fun x hx=>(hl x (by simp [hx])).1;rw [dI,←Int.mul_assoc] at h1⊢;have e1:(n+1)*s=n*s+s:=by rw [Int.add_mul,Int.one_mul]
    have hns:0≤n*s:=Int.mul_nonneg h0 s0
    rcases Int.lt_or_le 0 (dI sides) with hp | hp
    · have hle:(n+1)*s≤(n+1)*s*dI sides:=by
        have:=Int.mul_le_mul_of_nonneg_left (show(1:Int)≤dI sides by omega) (show 0≤(n+1)*s by omega);omega
      have w1:w64 (n*s)=n*s:=vJ (by omega) (by omega);have w2:w64 (n*s+k)=n*s+k:=vJ (by omega) (by omega);have hm:(n*s+k+1)*dI sides≤(n+1)*s*dI sides:=Int.mul_le_mul_of_nonneg_right (by omega) hnn;obtain⟨m,a,b,c⟩:=uL hw (fun x hx=>hl x (by simp [hx])) (n:=n*s+k) (by omega) (by omega);refine⟨m,?_,b,by omega⟩;rw [mO,if_neg (by omega),w1,w2];exact a
    · exfalso
      have: ∀{a b:List Int},lC a b→(∀x∈a,0≤x∧x≤65536)→0<dI a:=by
        intro a b h
        induction h with
        | nil=>intro _;decide
        | cons q0 q1 _ ih=>
          intro hl;rw [dI];exact Int.mul_pos (by omega) (ih fun x hx=>hl x (by simp [hx]))
      have:=this hw fun x hx=>hl x (by simp [hx]);omega
theorem place_within{s k:List Int}(hs:lL s)(h:lC s k): ∃m,mD s k=(m,0)∧0≤m∧m<dI s:=by
  obtain⟨m,a,b,c⟩:=uL h hs.rng (n:=0) (by decide) (by have:=hs.prod;omega);refine⟨m,?_,b,by omega⟩;unfold mD;rw [size_of hs,if_neg (by simp),if_neg (by rw [h.len];simp)];exact a
theorem yU{s:List Int}(hs:lL s){p:Int}(h0:0≤p)(h1:p<dI s):(iR s p).2=0∧lC s (iR s p).1:=by
  unfold iR;rw [size_of hs,if_neg (by simp),if_neg (by simp only;omega)];refine⟨rfl,?_⟩;have:=(uM hs.reverse.rng h0 (by rw [kS];exact h1) (by have:=hs.prod;omega)).reverse;rw [List.reverse_reverse] at this;exact this
theorem turn_place{a:Arr}(h:cO a=true){i:Nat}(hi:i<a.data.length): ∃m,mD a.sides (iR a.sides.reverse (i:Nat)).1.reverse=(m,0)∧0≤m∧m<a.data.length:=by
  obtain⟨hs,hp⟩:=fP.1 h;have hw:=(yU hs.reverse (p:=(i:Nat)) (by omega) (by rw [kS,hp];omega)).2.reverse;rw [List.reverse_reverse] at hw;obtain⟨m,x,y,z⟩:=place_within hs hw;exact⟨m,x,y,by omega⟩
end Go.Proofs.YtciimjjleglmaaaGreatDoor
namespace Go.Proofs.YtciimjjleglmaaaGreatDoor
open Go.RowKit
theorem bCx(f m:Nat)(x:Int)(l:List Int):lZ (f+1) m (x::l)=(x::l).take m::lZ f m ((x::l).drop m):=rfl
theorem bBt: ∀(f m:Nat) (l:List Int),0<m→l.length≤f→(lZ f m l).flatten=l
  | 0,_,l,_,h=>by
    have:l=[]:=List.eq_nil_of_length_eq_zero (by omega);subst this;rfl
  | f+1,m,[],_,_=>rfl
  | f+1,m,x::l,hm,h=>by
    rw [bCx,List.flatten_cons,bBt f m _ hm (by rw [List.length_drop];simp only [List.length_cons] at h⊢;omega),List.take_append_drop]
theorem bEz: ∀(f m k:Nat) (l:List Int),0<m→l.length≤f→l.length=k*m→(lZ f m l).length=k∧ ∀c∈lZ f m l,c.length=m
  | 0,m,k,l,hm,h,hk=>by
    have hl:l.length=0:=by omega
    have:k=0:=by
      rw [hl] at hk
      rcases Nat.mul_eq_zero.1 hk.symm with h | h<;>omega
    subst this;exact⟨rfl,fun c hc=>by simp [lZ] at hc⟩
  | f+1,m,k,[],hm,_,hk=>by
    have:k=0:=by
      rcases Nat.mul_eq_zero.1 (show k*m=0 from hk.symm) with h | h<;>omega
    subst this;exact⟨rfl,fun c hc=>by simp [lZ] at hc⟩
  | f+1,m,k,x::l,hm,h,hk=>by
    have hk0:0<k:=by
      rcases Nat.eq_zero_or_pos k with h0 | h0
      · subst h0;simp at hk
      · exact h0
    obtain⟨j,rfl⟩: ∃j,k=j+1:=⟨k-1,by omega⟩
    have hd:((x::l).drop m).length=j*m:=by
      rw [List.length_drop,hk,Nat.add_mul,Nat.one_mul];omega
    obtain⟨a,b⟩:=bEz f m j ((x::l).drop m) hm (by rw [List.length_drop];simp only [List.length_cons] at h⊢;omega) hd;rw [bCx];refine⟨by rw [List.length_cons,a],fun c hc=>?_⟩
    rcases List.mem_cons.1 hc with rfl | hc
    · rw [List.length_take,hk,Nat.add_mul,Nat.one_mul];omega
    · exact b c hc
theorem last_of{l:List Int}(h:l≠[]): ∃r x,l=r++[x]∧l.dropLast=r∧l.getLastD 0=x∧l.getLast?=some x:=by
  refine⟨l.dropLast,l.getLast h,(List.dropLast_concat_getLast h).symm,rfl,?_,List.getLast?_eq_some_getLast h⟩;rw [List.getLastD_eq_getLast?,List.getLast?_eq_some_getLast h];rfl
theorem qO{a:Arr}(h:cO a=true):(fD a).2=0∧(a.data≠[]→0<lastA a)∧(fD a).1.flatten=a.data∧(∀c∈(fD a).1,c.length=lastA a)∧(fD a).1.length*lastA a=a.data.length∧(a.sides≠[]→a.data≠[]→((fD a).1.length:Int)=dI a.sides.dropLast):=by
  obtain⟨hs,hp⟩:=fP.1 h;unfold fD;rw [h,if_neg (by simp)]
  by_cases hd:a.data=[]
  · simp [hd,lZ]
  · have hlen:0<a.data.length:=List.length_pos_iff.2 hd
    have key: ∃k:Nat,0<lastA a∧a.data.length=k*lastA a∧(a.sides≠[]→(k:Int)=dI a.sides.dropLast):=by
      by_cases h0:a.sides=[]
      · refine⟨1,?_,?_,fun h=>absurd h0 h⟩
        · unfold lastA;rw [h0];decide
        · unfold lastA;rw [h0] at hp⊢;simp [dI] at hp⊢;omega
      · obtain⟨r,x,e1,e2,e3,e4⟩:=last_of h0;have hx:=hs.rng x (by rw [e1];simp);have hr:0≤dI r:=lM fun y hy=>(hs.rng y (by rw [e1];simp [hy])).1;rw [e1,lP,dI,dI,Int.mul_one] at hp;have hl:lastA a=x.toNat:=by unfold lastA;rw [e4]
        have hx0:0<x:=by
          rcases Int.lt_or_le 0 x with h | h
          · exact h
          · have:x=0:=by omega
            rw [this,Int.mul_zero] at hp;omega
        refine⟨(dI r).toNat,by omega,?_,fun _=>by rw [e2];omega⟩;rw [hl]
        have e5:(((dI r).toNat*x.toNat:Nat):Int)=dI r*x:=by
          rw [Int.natCast_mul,Int.toNat_of_nonneg hr,Int.toNat_of_nonneg hx.1]
        omega
    obtain⟨k,k1,k2,k3⟩:=key;obtain⟨c1,c2⟩:=bEz a.data.length (lastA a) k a.data k1 (Nat.le_refl _) k2;exact⟨rfl,fun _=>k1,bBt _ _ _ k1 (Nat.le_refl _),c2,by rw [c1,k2],fun h _=>by rw [c1];exact k3 h⟩
theorem vM(f:Int): ∀(l:List (Int×Int)) (w:Int),(nU f l w).1.length=l.length
  | [],_=>rfl
  | (a,b)::r,w=>by rw [nU,List.length_cons,vM f r,List.length_cons]
theorem bHq(f:Int): ∀(l:List (List Int)) (w:Int),(pO f l w).1.length=l.length
  | [],_=>rfl
  | a::r,w=>by rw [pO,List.length_cons,bHq f r,List.length_cons]
theorem bIu(f:Int): ∀(l:List Int) (n w:Int),(oC f l n w).1.length=l.length
  | [],_,_=>rfl
  | x::r,n,w=>by rw [oC,List.length_cons,bIu f r,List.length_cons]
theorem uU(f:Int): ∀(l:List (List Int)) (w:Int),(∀c∈l,c≠[])→(oB f l w).1.flatten.length=l.flatten.length
  | [],_,_=>rfl
  | a::r,w,h=>by
    have h1:=uU f r (oC f a.tail (a.headD 0) w).2 fun c hc=>h c (by simp [hc]);have h2:a≠[]:=h a (by simp);rw [oB,List.flatten_cons,List.flatten_cons,List.length_append,List.length_append,h1,List.length_cons,bIu]
    cases a with
    | nil=>exact absurd rfl h2
    | cons x a=>simp
theorem mapM_len(f:Int): ∀(l:List Int),(mapM f l).2=0→(mapM f l).1.length=l.length
  | [],_=>rfl
  | n::r,h=>by
    rw [mapM] at h⊢;split at h
    · rename_i h1;exact absurd h h1
    · rename_i h1;rw [if_neg h1];split at h
      · rename_i h2;exact absurd h h2
      · rename_i h2;rw [if_neg h2];simp only [ne_eq,Classical.not_not] at h2;rw [List.length_cons,mapM_len f r h2,List.length_cons]
theorem iF{s d:List Int}(h:lL s)(e:dI s=d.length):cO ⟨s,d⟩=true:=fP.2 ⟨h,e⟩
theorem rK{n:Int}(h0:0≤n)(h1:n≤65536):lL [n]:=⟨by simp,fun x hx=>by rw [List.mem_singleton.1 hx];exact⟨h0,h1⟩,by simp [dI];omega⟩
theorem uX:lL []:=⟨by simp,fun x hx=>by simp at hx,by decide⟩
theorem oL{s:List Int}{r:List Int×Int}(h:(nT s r).2=0)(hs:lL s)(e:dI s=r.1.length):cO (nT s r).1=true:=by
  unfold nT at h⊢;split at h
  · rename_i h1;exact absurd h h1
  · rename_i h1;rw [if_neg h1];exact iF hs e
theorem rev_len: ∀l:List (List Int),(l.map List.reverse).flatten.length=l.flatten.length
  | []=>rfl
  | a::r=>by
    rw [List.map_cons,List.flatten_cons,List.flatten_cons,List.length_append,List.length_append,rev_len r,List.length_reverse]
theorem bCb{f:Int}{a:Arr}(h:(hJ f a).2=0):cO (hJ f a).1=true:=by
  unfold hJ at h⊢;split at h
  · cases h
  · rename_i h0;rw [if_neg h0];simp only [Bool.not_eq_false] at h0;obtain⟨hs,hp⟩:=fP.1 h0;have hdl:(a.data.length:Int)≤65536:=by rw [←hp];exact hs.prod.2
    split at h
    · rename_i h1;rw [if_pos h1];unfold uD at h⊢;split at h
      · cases h
      · rename_i h2;rw [if_neg h2];split at h
        · cases h
        · rename_i h3;rw [if_neg h3];simp only [Bool.not_eq_true] at h3;have:=badN_no h3;generalize a.data.headD 0=n at this⊢;exact iF (rK this.1 this.2) (by simp [dI];omega)
    · rename_i h1;rw [if_neg h1];split at h
      · rename_i h2;rw [if_pos h2];have:=hs.len;exact iF (rK (by omega) (by omega)) (by simp [dI])
      · rename_i h2;rw [if_neg h2];split at h
        · rename_i h3;rw [if_pos h3];exact iF (rK (by omega) hdl) (by simp [dI])
        · rename_i h3;rw [if_neg h3];split at h
          · rename_i h4;rw [if_pos h4];obtain⟨_,_,l3,_⟩:=qO h0;exact iF hs (by rw [rev_len,l3];exact hp)
          · rename_i h4;rw [if_neg h4];split at h
            · rename_i h5;rw [if_pos h5];exact iF hs.reverse (by rw [kS,hp];simp)
            · rename_i h5;rw [if_neg h5];split at h
              · cases h
              · rename_i h6;rw [if_neg h6];split at h
                · rename_i h7;exact absurd h h7
                · rename_i h7;rw [if_neg h7];simp only [ne_eq,Classical.not_not] at h7;exact iF hs (by rw [mapM_len f _ h7];exact hp)
theorem oI(s:Int)(r:List Int):dI (s::r)=s*dI r:=rfl
theorem part_right{a b:Arr}{take:Bool}(hb:cO b=true)(h:(qN a b take).2=0):cO (qN a b take).1=true:=by
  obtain⟨hs,hp⟩:=fP.1 hb;unfold qN at h⊢;dsimp only at h⊢;split at h
  · cases h
  · rename_i h1;rw [if_neg h1];split at h
    · cases h
    · rename_i h2;rw [if_neg h2];simp only [not_or,ne_eq,Classical.not_not] at h1
      obtain⟨s,r,hsr⟩: ∃s r,b.sides=s::r:=by
        cases hb:b.sides with
        | nil=>exact absurd hb h1.2
        | cons s r=>exact⟨s,r,rfl⟩
      rw [hsr] at h2 hs hp⊢;simp only [List.headD_cons,List.tail_cons,not_or,Int.not_lt] at h2⊢;have s0:=hs.rng s (by simp);have hw:w64 (0-s)= -s:=by rw [vJ (by omega) (by omega)];omega
      rw [hw] at h2;generalize a.data.headD 0=n at h2⊢
      have key: ∀fr tt:Int,0≤fr→fr≤tt→tt≤s→cO (if s=0 then ((⟨(tt-fr)::r,[]⟩:Arr),(0:Int)) else (⟨(tt-fr)::r,(b.data.drop (fr.toNat*(b.data.length/s.toNat))).take (tt.toNat*(b.data.length/s.toNat)-fr.toNat*(b.data.length/s.toNat))⟩,0)).1=true:=by
        intro fr tt f0 ft ts;have hr: ∀x∈r,0≤x∧x≤65536:=fun x hx=>hs.rng x (by simp [hx]);have hr0:0≤dI r:=lM fun x hx=>(hr x hx).1
        have hso:lL ((tt-fr)::r):=by
          refine⟨by have:=hs.len;simpa using this,fun x hx=>?_,?_⟩
          · rcases List.mem_cons.1 hx with rfl | hx
            · omega
            · exact hr x hx
          · rw [oI];have h1:=Int.mul_le_mul_of_nonneg_right (show tt-fr≤s by omega) hr0;have h2:=hs.prod.2;rw [oI] at h2;exact⟨Int.mul_nonneg (by omega) hr0,by omega⟩
        split
        · rename_i e;refine iF hso ?_;rw [oI,show tt-fr=0 by omega];simp
        · rename_i e;refine iF hso ?_;rw [oI] at hp
          have hc:(b.data.length/s.toNat:Nat)=(dI r).toNat:=by
            have e1:b.data.length=s.toNat*(dI r).toNat:=by
              have:((s.toNat*(dI r).toNat:Nat):Int)=s*dI r:=by rw [Int.natCast_mul,Int.toNat_of_nonneg s0.1,Int.toNat_of_nonneg hr0]
              omega
            rw [e1,Nat.mul_div_cancel_left _ (by omega)]
          rw [hc,oI,List.length_take,List.length_drop,←Nat.sub_mul]
          have e1:b.data.length=s.toNat*(dI r).toNat:=by
            have:((s.toNat*(dI r).toNat:Nat):Int)=s*dI r:=by rw [Int.natCast_mul,Int.toNat_of_nonneg s0.1,Int.toNat_of_nonneg hr0]
            omega
          have e2:(tt.toNat-fr.toNat)*(dI r).toNat≤b.data.length-fr.toNat*(dI r).toNat:=by
            rw [e1,←Nat.sub_mul];exact Nat.mul_le_mul_right _ (by omega)
          rw [Nat.min_eq_left e2,Int.natCast_mul,Int.toNat_of_nonneg hr0]
          congr 1
          omega
      cases take with
      | true=>
        simp only [if_true]
        by_cases hn:n<0
        · simp only [hn,if_true];exact key (s+n) s (by omega) (by omega) (by omega)
        · simp only [hn,if_false];exact key 0 n (by omega) (by omega) (by omega)
      | false=>
        simp only [Bool.false_eq_true,if_false]
        by_cases hn:0≤n
        · simp only [hn,if_true];exact key n s (by omega) (by omega) (by omega)
        · simp only [hn,if_false];exact key 0 (s+n) (by omega) (by omega) (by omega)
theorem bGh{a:Arr}(h:cO a=true):dI (sidedA a.sides)=a.data.length∧sidedA a.sides≠[]:=by
  obtain⟨hs,hp⟩:=fP.1 h;unfold sidedA;split
  · rename_i e;rw [e] at hp;exact⟨hp,by simp⟩
  · rename_i e;exact⟨hp,e⟩
theorem cat_right{a b:Arr}(ha:cO a=true)(hb:cO b=true)(h:(zJ a b).2=0):cO (zJ a b).1=true:=by
  obtain⟨a1,a2⟩:=bGh ha;obtain⟨b1,b2⟩:=bGh hb;unfold zJ at h⊢;dsimp only at h⊢;split at h
  · cases h
  · rename_i h1;rw [if_neg h1];split at h
    · rename_i h2;cases h
    · rename_i h2;rw [if_neg h2];simp only [not_or,ne_eq,Classical.not_not] at h1 h2
      obtain⟨x,r,e⟩: ∃x r,sidedA a.sides=x::r:=by
        cases hb:sidedA a.sides with
        | nil=>exact absurd hb a2
        | cons s r=>exact⟨s,r,rfl⟩
      obtain⟨y,q,g⟩: ∃x r,sidedA b.sides=x::r:=by
        cases hb:sidedA b.sides with
        | nil=>exact absurd hb b2
        | cons s r=>exact⟨s,r,rfl⟩
      rw [e] at h1 h2 a1⊢;rw [g] at h1 h2 b1⊢;simp only [List.tail_cons,List.headD_cons] at h1 h2⊢;obtain⟨hs,_⟩:=tU h2;refine iF hs ?_;rw [oI] at a1 b1⊢;rw [←h1.2] at b1;rw [List.length_append,Int.add_mul];omega
theorem rho_right{a b:Arr}(h:(uG a b).2=0):cO (uG a b).1=true:=by
  unfold uG at h⊢;split at h
  · cases h
  · rename_i h1;rw [if_neg h1];split at h
    · cases h
    · rename_i h2;rw [if_neg h2];split at h
      · cases h
      · rename_i h3;rw [if_neg h3];split at h
        · cases h
        · rename_i h4;rw [if_neg h4];simp only [ne_eq,Classical.not_not] at h3;obtain⟨hs,hp⟩:=tU h3;refine iF hs ?_;have:=hs.prod;simp [rM,hp];omega
theorem bFg{f:Int}{a b:Arr}(h:(iU f a b).2=0):cO (iU f a b).1=true:=by
  unfold iU at h⊢;split at h
  · cases h
  · rename_i h0;rw [if_neg h0];simp only [not_or,Bool.not_eq_false] at h0;obtain⟨ha,hb⟩:=h0;obtain⟨sa,ap⟩:=fP.1 ha;obtain⟨sb,bp⟩:=fP.1 hb;split at h
    · rename_i h1;rw [if_pos h1];exact rho_right h
    · rename_i h1;rw [if_neg h1];split at h
      · rename_i h2;rw [if_pos h2];exact part_right hb h
      · rename_i h2;rw [if_neg h2];split at h
        · rename_i h3;rw [if_pos h3];exact cat_right ha hb h
        · rename_i h3;rw [if_neg h3];split at h
          · cases h
          · rename_i h4;rw [if_neg h4];split at h
            · rename_i h5;rw [if_pos h5];refine oL h sa ?_;rw [vM,List.length_zip];rw [←h5] at bp;omega
            · rename_i h5;rw [if_neg h5];split at h
              · rename_i h6;rw [if_pos h6];exact oL h sb (by rw [vM,List.length_map];exact bp)
              · rename_i h6;rw [if_neg h6];split at h
                · rename_i h7;rw [if_pos h7];exact oL h sa (by rw [vM,List.length_map];exact ap)
                · cases h
theorem zF{a:Arr}(h:cO a=true): ∀c∈(fD a).1,c≠[]:=by
  obtain⟨_,l2,l3,l4,l5,_⟩:=qO h;intro c hc e;have h1:=l4 c hc;rw [e] at h1
  by_cases hd:a.data=[]
  · unfold fD at hc;rw [h,if_neg (by simp),hd] at hc;simp [lZ] at hc
  · have:=l2 hd;simp at h1;omega
theorem bEm{f:Int}{a:Arr}(h:(lW f a).2=0):cO (lW f a).1=true:=by
  unfold lW at h⊢;split at h
  · cases h
  · rename_i h0;rw [if_neg h0];simp only [Bool.not_eq_false] at h0;obtain⟨hs,hp⟩:=fP.1 h0;split at h
    · cases h
    · rename_i h1;rw [if_neg h1];split at h
      · rename_i h2;rw [if_pos h2];rw [h2] at hp;exact iF uX hp
      · rename_i h2;rw [if_neg h2];split at h
        · cases h
        · rename_i h3;rw [if_neg h3];simp only [ne_eq,Classical.not_not] at h3;obtain⟨ds,dp⟩:=tU h3;split at h
          · rename_i h4;rw [if_pos h4];refine iF ds ?_;rw [List.length_replicate,dp];have:=ds.prod;omega
          · rename_i h4;rw [if_neg h4];refine oL h ds ?_;rw [bHq];obtain⟨l1,l2,l3,l4,l5,l6⟩:=qO h0
            by_cases hd:a.data=[]
            · obtain⟨r,x,e1,e2,e3,e4⟩:=last_of h2;rw [e3] at h4;rw [hd,e1,lP,dI,dI,Int.mul_one] at hp
              have:dI r=0:=by
                rcases Int.mul_eq_zero.1 (show dI r*x=0 by simpa using hp) with h | h
                · exact h
                · exact absurd h h4
              rw [e2,this];unfold fD;rw [h0,if_neg (by simp),hd];rfl
            · exact(l6 h2 hd).symm
theorem bFx{f:Int}{a:Arr}(h:(pU f a).2=0):cO (pU f a).1=true:=by
  unfold pU at h⊢;split at h
  · cases h
  · rename_i h0;rw [if_neg h0];simp only [Bool.not_eq_false] at h0;obtain⟨hs,hp⟩:=fP.1 h0;split at h
    · cases h
    · rename_i h1;rw [if_neg h1];obtain⟨l1,l2,l3,l4,l5,l6⟩:=qO h0;exact oL h hs (by rw [uU f _ _ (zF h0),l3];exact hp)
theorem pairs_len(a b:List Int):(pairsOf a b).length=a.length*b.length:=by
  induction a with
  | nil=>simp [pairsOf]
  | cons x a ih=>
    unfold pairsOf at*;rw [List.flatMap_cons,List.length_append,ih,List.length_map,List.length_cons,Nat.add_mul,Nat.one_mul];omega
theorem bDc{f:Int}{a b:Arr}(h:(jU f a b).2=0):cO (jU f a b).1=true:=by
  unfold jU at h⊢;split at h
  · cases h
  · rename_i h0;rw [if_neg h0];simp only [not_or,Bool.not_eq_false] at h0;obtain⟨ha,hb⟩:=h0;obtain⟨sa,ap⟩:=fP.1 ha;obtain⟨sb,bp⟩:=fP.1 hb;split at h
    · cases h
    · rename_i h1;rw [if_neg h1];split at h
      · cases h
      · rename_i h2;rw [if_neg h2];split at h
        · cases h
        · rename_i h3;rw [if_neg h3];simp only [ne_eq,Classical.not_not] at h3;obtain⟨ds,dp⟩:=tU h3;refine oL h ds ?_;rw [vM,pairs_len,lP,ap,bp,Int.natCast_mul]
end Go.Proofs.YtciimjjleglmaaaGreatDoor
namespace Go.Proofs.YtciimjjleglmaaaGreatDoor
open Go.RowKit
def qM:List pK→List Bs→List Bs
  | [],out=>out
  | d::r,out=>qM r (if d.name=[]∨out.contains d.name=true then out else out++[d.name])
def iD (l:List gF):List pK:=l.flatMap gF.sides
def varsP (p:iK):List Bs:=qM (iD p.inputs) []
abbrev iA:=List (Bs×Arr)
def look (k:Bs):iA→Option Arr
  | []=>none
  | p::r=>if k=p.1 then some p.2 else look k r
def kK (k:Bs):List Bs→Int→Int
  | [],_=> -1
  | s::r,i=>if s=k then i else kK k r (i+1)
def bGz (vars:List Bs)(x:gF):Bool:=x.sides.any fun d=>(d.name==[]&&lV d.n) || decide (6≤kK d.name vars 0)
def nS (vars:List Bs)(dims:List Int)(d:pK):Int:=if d.name=[] then d.n else atI dims (kK d.name vars 0)
def bCh (vars:List Bs)(dims:List Int)(x:gF)(a:Arr):Bool:=cO a&&(a.sides.length==x.sides.length&&(a.sides==x.sides.map (nS vars dims)))
def jW (vars:List Bs)(dims:List Int):List gF→List Arr→iA→iA×Flt
  | x::xs,a::ar,N=>if bCh vars dims x a=false then ([],(x.at_,82)) else jW vars dims xs ar ((x.name,a)::N)
  | _,_,N=>(N,(0,0))
def mF:List Bs→List Int→iA→iA
  | s::vars,n::dims,N=>mF vars dims ((s,⟨[],[n]⟩)::N)
  | _,_,N=>N
def fM (p:iK)(dims:List Int)(ins:List Arr):iA×Flt:=
  if (dX p).2=false then ([],(0,50))
  else match p.inputs.find? (bGz (varsP p)) with
    | some x=>([],(x.at_,80))
    | none=>
      if dims.length≠(varsP p).length∨dims.any lV=true then ([],(0,81))
      else if ins.length≠p.inputs.length then ([],(0,82))
      else jW (varsP p) dims p.inputs ins (mF (varsP p) dims [])
def fZ (N:iA)(it:fB)(st:List Arr):bDg:=
  if it.how=1 then (⟨if 1<it.nums.length then [(it.nums.length:Int)] else [],it.nums⟩,0)
  else if it.how=2 then (match look it.name N with
    | some a=>(a,0)
    | none=>(kY,83))
  else if it.how=3 then hJ it.fn (st.headD kY)
  else if it.how=5 then lW it.fn (st.headD kY)
  else if it.how=6 then pU it.fn (st.headD kY)
  else if it.how=4 then iU it.fn (st.tail.headD kY) (st.headD kY)
  else if it.how=7 then jU it.fn (st.tail.headD kY) (st.headD kY)
  else (kY,0)
def iW (it:fB):Nat:=if it.how=3∨it.how=5∨it.how=6 then 1 else if it.how=4∨it.how=7 then 2 else 0
def pX (N:iA)(it:fB)(st:List Arr)(work:Nat):Except Int (List Arr×Nat):=
  if (fZ N it st).2≠0 then .error (fZ N it st).2
  else if 1048576<work+(fZ N it st).1.data.length then .error 84
  else .ok ((fZ N it st).1::st.drop (iW it),work+(fZ N it st).1.data.length)
def pT (N:iA):List fB→List Arr→Nat→Except Flt (List Arr×Nat)
  | [],st,work=> .ok (st,work)
  | it::r,st,work=>match pX N it st work with
    | .error e=> .error (it.at_,e)
    | .ok (st',work')=>pT N r st' work'
def rT (N:iA):List rF→Nat→List Arr→List Arr×Flt
  | [],_,out=>(out,(0,0))
  | l::r,work,out=>match pT N l.items [] work with
    | .error f=>([],f)
    | .ok (st,work')=>rT ((l.name,st.getLastD kY)::N) r work' (out++[st.getLastD kY])
def jM (p:iK)(dims:List Int)(ins:List Arr):List Arr×Flt:=
  if oP (fM p dims ins).2=false then ([],(fM p dims ins).2) else rT (fM p dims ins).1 p.lines 0 []
end Go.Proofs.YtciimjjleglmaaaGreatDoor
namespace Go.Proofs.YtciimjjleglmaaaGreatDoor
open Go.RowKit Go.ChangeShapes Go.WideShapes
def jA:Flat (Sl Int):=(wS.slice 8).E
section
variable {α H : Type} {enc : TypeId × Value → H} {P : Program} {w : World} {t e : TypeId}
def Ty.slicec(T:Ty α)(b:Nat):Ty (Sl α):=⟨slE α,fun s=>((T.slice b).deep s).and (Fact.pure (s.list.length≤s.cap))⟩
theorem wN{deep:Sl α→Fact}(hu:P.underlying t=some (.slice e))(he:nV enc P w t (slE α).cells deep):nV enc P w t (slE α).cells (fun s=>(deep s).and (Fact.pure (s.list.length≤s.cap))):=fun fuel cs x h hw=>by
  obtain⟨a,e0,d⟩:=he fuel cs x h hw;refine⟨a,e0,d,?_⟩;have e0':cs=[.slice a.addr a.list.length a.cap]:=e0;show a.list.length≤a.cap
  rcases Deep.open_slice hu h with ⟨e1,_⟩ | ⟨a',len,cap,m,n,D,Pl,e1,_,hl,_⟩
  · rw [e0'] at e1;simp only [List.cons.injEq,and_true,Value.slice.injEq] at e1;omega
  · rw [e0'] at e1;simp only [List.cons.injEq,and_true,Value.slice.injEq] at e1;omega
end
structure ArrV where
  sides:(Sl Int)
  data:(Sl Int)
  deriving Inhabited
def iN:Flat ArrV where
  size:=2
  cells:=fun x=>[.slice x.sides.addr x.sides.list.length x.sides.cap,.slice x.data.addr x.data.list.length x.data.cap]
  len:=fun _=>rfl
  one:=fun x u hu=>by
    simp at hu
    rcases hu with rfl | rfl<;>rfl
  pos:=by decide
def bJd:Ty ArrV:=⟨iN,fun x=>(((wS.slicec 8)).deep x.sides).and ((((wS.slicec 8)).deep x.data).and (Fact.true))⟩
set_option maxRecDepth 100000 in
theorem opens_arr{H:Type}{enc:TypeId×Value→H}{w:World}:nV enc Tryz.prog w 42 iN.cells bJd.deep:=fun fuel cs x h hw=>by
  obtain⟨xs,n,_,rfl,hlen,hxl,hf⟩:=DataW.trod_struct Tryz.underlying42 h;have hc:Tryz.prog.cellsOf 42=2:=by kernel_rfl
  rw [hc] at hlen;have hxl':xs.length=2:=hxl
  match cs,hlen with
  | [c0,c1],_=>
    have h0:DataW.trod enc Tryz.prog w 0 (fun _=>true) true n 30 (([c0,c1].drop 0).take (Tryz.prog.cellsOf 30))=xs[0]?:=hf 0 _ rfl;have h1:DataW.trod enc Tryz.prog w 0 (fun _=>true) true n 30 (([c0,c1].drop 1).take (Tryz.prog.cellsOf 30))=xs[1]?:=hf 1 _ rfl;rw [List.getElem?_eq_getElem (by omega)] at h0;obtain⟨a0,e0,d0⟩:=(wN Tryz.underlying30 (iI (T:=wS) (b:=8) Tryz.underlying30 (by kernel_rfl) (by kernel_rfl) (kR Tryz.underlying2))) _ _ _ h0 (dR Tryz.underlying42 hw (j:=0) rfl (by rw [List.getElem?_map,List.getElem?_eq_getElem (by omega)];rfl))
    have q0:[c0]=[.slice a0.addr a0.list.length a0.cap]:=by
      have hk:Tryz.prog.cellsOf 30=1:=by kernel_rfl
      rw [hk] at e0;exact e0
    clear e0;simp only [List.cons.injEq,and_true] at q0;rw [List.getElem?_eq_getElem (by omega)] at h1;obtain⟨a1,e1,d1⟩:=(wN Tryz.underlying30 (iI (T:=wS) (b:=8) Tryz.underlying30 (by kernel_rfl) (by kernel_rfl) (kR Tryz.underlying2))) _ _ _ h1 (dR Tryz.underlying42 hw (j:=1) rfl (by rw [List.getElem?_map,List.getElem?_eq_getElem (by omega)];rfl))
    have q1:[c1]=[.slice a1.addr a1.list.length a1.cap]:=by
      have hk:Tryz.prog.cellsOf 30=1:=by kernel_rfl
      rw [hk] at e1;exact e1
    clear e1;simp only [List.cons.injEq,and_true] at q1;obtain rfl:=q0;obtain rfl:=q1;exact⟨⟨a0,a1⟩,rfl,d0,d1,trivial⟩
def meanT:Tab:=[(3,⟨.int .i64,1⟩),(2,⟨.int .i64,1⟩),(5,⟨.int .u8,1⟩),(9,⟨.string,1⟩),(4,⟨.bool,1⟩),(47,⟨.int .u8,1⟩),(34,⟨.int .i64,1⟩),(30,⟨.slice 2,1⟩),(27,⟨.slice 9,1⟩),(95,⟨.struct [(3,0),(3,1),(9,2),(2,3)],4⟩),(88,⟨.slice 95,1⟩),(36,⟨.struct [(3,0),(34,1)],2⟩),(62,⟨.struct [(9,0),(2,1)],2⟩),(58,⟨.slice 62,1⟩),(60,⟨.struct [(9,0),(3,1),(58,2)],3⟩),(22,⟨.slice 60,1⟩),(49,⟨.struct [(3,0),(3,1),(47,2),(9,3),(30,4)],5⟩),(44,⟨.slice 49,1⟩),(46,⟨.struct [(9,0),(3,1),(44,2)],3⟩),(23,⟨.slice 46,1⟩),(25,⟨.struct [(22,0),(23,1)],2⟩),(93,⟨.struct [(88,0),(3,1),(3,2)],3⟩),(42,⟨.struct [(30,0),(30,1)],2⟩),(31,⟨.slice 42,1⟩),(136,⟨.slice 30,1⟩),(91,⟨.other,1⟩),(162,⟨.slice 1,1⟩),(1,⟨.other,1⟩),(102,⟨.other,1⟩),(70,⟨.other,1⟩),(130,⟨.other,1⟩),(131,⟨.slice 130,1⟩),(50,⟨.int .u64,1⟩),(68,⟨.map 9 4,1⟩),(75,⟨.map 9 42,1⟩),(133,⟨.other,1⟩),(135,⟨.struct [(133,0),(34,1)],2⟩),(77,⟨.struct [(75,0),(3,1)],2⟩)]
theorem dB:fR Tryz.prog meanT:=vI.ok
  ⟨⟨by rw [Tryz.underlying3];rfl,by kernel_rfl⟩,
    ⟨by rw [Tryz.underlying2];rfl,by kernel_rfl⟩,
    ⟨by rw [Tryz.underlying5];rfl,by kernel_rfl⟩,
    ⟨by rw [Tryz.underlying9];rfl,by kernel_rfl⟩,
    ⟨by rw [Tryz.underlying4];rfl,by kernel_rfl⟩,
    ⟨by rw [Tryz.underlying47];rfl,by kernel_rfl⟩,
    ⟨by rw [Tryz.underlying34];rfl,by kernel_rfl⟩,
    ⟨by rw [Tryz.underlying30];rfl,by kernel_rfl⟩,
    ⟨by rw [Tryz.underlying27];rfl,by kernel_rfl⟩,
    ⟨by rw [Tryz.underlying95];rfl,by kernel_rfl⟩,
    ⟨by rw [Tryz.underlying88];rfl,by kernel_rfl⟩,
    ⟨by rw [Tryz.underlying36];rfl,by kernel_rfl⟩,
    ⟨by rw [Tryz.underlying62];rfl,by kernel_rfl⟩,
    ⟨by rw [Tryz.underlying58];rfl,by kernel_rfl⟩,
    ⟨by rw [Tryz.underlying60];rfl,by kernel_rfl⟩,
    ⟨by rw [Tryz.underlying22];rfl,by kernel_rfl⟩,
    ⟨by rw [Tryz.underlying49];rfl,by kernel_rfl⟩,
    ⟨by rw [Tryz.underlying44];rfl,by kernel_rfl⟩,
    ⟨by rw [Tryz.underlying46];rfl,by kernel_rfl⟩,
    ⟨by rw [Tryz.underlying23];rfl,by kernel_rfl⟩,
    ⟨by rw [Tryz.underlying25];rfl,by kernel_rfl⟩,
    ⟨by rw [Tryz.underlying93];rfl,by kernel_rfl⟩,
    ⟨by rw [Tryz.underlying42];rfl,by kernel_rfl⟩,
    ⟨by rw [Tryz.underlying31];rfl,by kernel_rfl⟩,
    ⟨by rw [Tryz.underlying136];rfl,by kernel_rfl⟩,
    ⟨by rw [Tryz.underlying91];rfl,by kernel_rfl⟩,
    ⟨by rw [Tryz.underlying162];rfl,by kernel_rfl⟩,
    ⟨by rw [Tryz.underlying1];rfl,by kernel_rfl⟩,
    ⟨by rw [Tryz.underlying102];rfl,by kernel_rfl⟩,
    ⟨by rw [Tryz.underlying70];rfl,by kernel_rfl⟩,
    ⟨by rw [Tryz.underlying130];rfl,by kernel_rfl⟩,
    ⟨by rw [Tryz.underlying131];rfl,by kernel_rfl⟩,
    ⟨by rw [Tryz.underlying50];rfl,by kernel_rfl⟩,
    ⟨by rw [Tryz.underlying68];rfl,by kernel_rfl⟩,
    ⟨by rw [Tryz.underlying75];rfl,by kernel_rfl⟩,
    ⟨by rw [Tryz.underlying133];rfl,by kernel_rfl⟩,
    ⟨by rw [Tryz.underlying135];rfl,by kernel_rfl⟩,
    ⟨by rw [Tryz.underlying77];rfl,by kernel_rfl⟩,trivial⟩
theorem arrInfo: ∃i:TypeInfo,Tryz.prog.info? 42=some i∧i.zero=some (.agg #[.slice none 0 0,.slice none 0 0])∧i.size=2∧i.bytes=48:=by
  have h:(Tryz.prog.info? 42).map (fun i=>(i.zero,i.size,i.bytes))=some (some (.agg #[.slice none 0 0,.slice none 0 0]),2,48):=by kernel_rfl
  cases hi:Tryz.prog.info? 42 with
  | none=>simp [hi] at h
  | some i=>simp [hi] at h;exact⟨i,rfl,h.1,h.2.1,h.2.2⟩
theorem gV{β:fE}{n:Nat}{Γ:Env}{H:List bU}{F:List Fact}{Q:Exit→Act→World→Prop}{ops:Array Oper}{rest:List Oper}{o:Oper}{d:Nat}{x:Operand}{m:ArrV}(hw:want ops Γ o=some true)(ho:o.op= .buildSlice 31 1 #[(0,x)])(hd:o.dst=some d)(hn:Nat.blt d n=true)
    (hx:Γ.ev x=some (.agg #[.slice m.sides.addr m.sides.list.length m.sides.cap,.slice m.data.addr m.data.list.length m.data.cap])) (k: ∀b,At β n ((d,.slice (some ⟨b,0,none⟩) 1 1)::Γ) (.obj b (.cells (iN.all [m]).toArray 42)::H) F (wpList Tryz.prog ops Q rest)):At β n Γ H F (wpList Tryz.prog ops Q (o::rest)):=by
  obtain⟨i,hi,hz,hs,_⟩:=arrInfo;refine jV hw ho hd hn hx Tryz.underlying31 hi hz (by omega) (by omega) ?_ k;rw [hs]
  kernel_rfl
theorem tB{β:fE}{n:Nat}{Γ:Env}{H:List bU}{F:List Fact}{Q:Exit→Act→World→Prop}{ops:Array Oper}{rest:List Oper}{o:Oper}{d:Nat}{x y:Operand}{c q:Nat}{v:Value}{A:Option Addr}{xs ys:List ArrV}{H':List bU}(hH:dL H (iN.row v 42 xs) H')(hr:cR β H F iN A ys)(hg:o.guard=none)
    (ho:o.op= .call {callee:= .builtin .append,args:= #[x,y],argTypes:= #[31,31]}) (hd:o.dst=some d) (hn:Nat.blt d n=true)
    (hx:Γ.ev x=some v) (hy:Γ.ev y=some (.slice A q c)) (hq:q=ys.length) (hl:xs.length+ys.length≤2932031007402)
    (k: ∀A' cap',At β n ((d,.slice A' (xs++ys).length cap')::Γ) (iN.row (.slice A' (xs++ys).length cap') 42 (xs++ys)::H') F (wpList Tryz.prog ops Q rest)):At β n Γ H F (wpList Tryz.prog ops Q (o::rest)):=by
  obtain⟨i,hi,hz,hs,hb⟩:=arrInfo;exact gH hH hr hg ho hd hn Tryz.underlying31 hi hz hs hb rfl hx hy hq (by omega) (by decide) k
theorem bHc: ∃i:TypeInfo,Tryz.prog.info? 30=some i∧i.zero=some (.slice none 0 0)∧i.size=1∧i.bytes=24:=by
  have h:(Tryz.prog.info? 30).map (fun i=>(i.zero,i.size,i.bytes))=some (some (.slice none 0 0),1,24):=by kernel_rfl
  cases hi:Tryz.prog.info? 30 with
  | none=>simp [hi] at h
  | some i=>simp [hi] at h;exact⟨i,rfl,h.1,h.2.1,h.2.2⟩
theorem bBu{β:fE}{n:Nat}{Γ:Env}{H:List bU}{F:List Fact}{Q:Exit→Act→World→Prop}{ops:Array Oper}{rest:List Oper}{o:Oper}{d:Nat}{x:Operand}{m:(Sl Int)}(hw:want ops Γ o=some true)(ho:o.op= .buildSlice 136 1 #[(0,x)])(hd:o.dst=some d)(hn:Nat.blt d n=true)
    (hx:Γ.ev x=some (.slice m.addr m.list.length m.cap)) (k: ∀b,At β n ((d,.slice (some ⟨b,0,none⟩) 1 1)::Γ) (.obj b (.cells (jA.all [m]).toArray 30)::H) F (wpList Tryz.prog ops Q rest)):At β n Γ H F (wpList Tryz.prog ops Q (o::rest)):=by
  obtain⟨i,hi,hz,hs,_⟩:=bHc;refine jV hw ho hd hn hx Tryz.underlying136 hi hz (by omega) (by omega) ?_ k;rw [hs]
  kernel_rfl
theorem bBp{β:fE}{n:Nat}{Γ:Env}{H:List bU}{F:List Fact}{Q:Exit→Act→World→Prop}{ops:Array Oper}{rest:List Oper}{o:Oper}{d:Nat}{x y:Operand}{c q:Nat}{v:Value}{A:Option Addr}{xs ys:List (Sl Int)}{H':List bU}(hH:dL H (jA.row v 30 xs) H')(hr:cR β H F jA A ys)(hg:o.guard=none)
    (ho:o.op= .call {callee:= .builtin .append,args:= #[x,y],argTypes:= #[136,136]}) (hd:o.dst=some d) (hn:Nat.blt d n=true)
    (hx:Γ.ev x=some v) (hy:Γ.ev y=some (.slice A q c)) (hq:q=ys.length) (hl:xs.length+ys.length≤5864062014805)
    (k: ∀A' cap',At β n ((d,.slice A' (xs++ys).length cap')::Γ) (jA.row (.slice A' (xs++ys).length cap') 30 (xs++ys)::H') F (wpList Tryz.prog ops Q rest)):At β n Γ H F (wpList Tryz.prog ops Q (o::rest)):=by
  obtain⟨i,hi,hz,hs,hb⟩:=bHc;exact gH hH hr hg ho hd hn Tryz.underlying136 hi hz hs hb rfl hx hy hq (by omega) (by decide) k
def ArrV.arr(x:ArrV):Arr:=⟨x.sides.list,x.data.list⟩
end Go.Proofs.YtciimjjleglmaaaGreatDoor
namespace Go.Proofs.YtciimjjleglmaaaGreatDoor
open Go.RowKit
section
variable {P : Program} {β : fE} {n : Nat} {Γ : Env} {H : List bU} {F : List Fact} {o : Oper} {x : Operand} {t tt e : TypeId} {A : Option Addr} {q c : Nat}
theorem sti_isnil(ht:P.underlying t=some (.slice e))(ho:o.op= .binOp .eql t x (.const (.slice none 0 0)) tt)(hx:Γ.ev x=some (.slice A q c)):Sti P β n Γ H F o (.bool A.isNone):=fun a w S f s k=>by
  have h1: ∀d,(Op.equalIn (d+1) t (.slice A q c) (.slice none 0 0)).run P w= .ok A.isNone w:=fun d=>by cases A<;>simp [Op.equalIn,run_underlying ht]
  unfold execOp;have e:a.eval (.const (.slice none 0 0))= .slice none 0 0:=rfl;simp only [ho,f.ev hx,e]
  have hb:(binOp .eql t (.slice A q c) (.slice none 0 0)).run P w= .ok (.bool A.isNone) w:=by
    simp only [binOp];have h2:(Op.equal t (.slice A q c) (.slice none 0 0)).run P w= .ok A.isNone w:=h1 9999;rw [Sem.run_bind,h2];rfl
  have hg:(eqGuard .eql t x (.const (.slice none 0 0)) (.slice A q c) (.slice none 0 0)).run P w= .ok () w:=by
    unfold eqGuard;simp
  rw [Sem.run_bind,Sem.run_bind,hg,Result.andThen_ok,hb];rfl
end
theorem has_isnil{α:Type}{E:Flat α}{F:List Fact}{A:Option Addr}{m c:Nat}{l:List α}(h:Has F (E.sl (.slice A m c) l)):Has F (Fact.pure (A.isNone=true→l=[])):=fun S w k hA=>by
  obtain⟨A',c',e,h⟩:=h S w k
  cases l with
  | nil=>rfl
  | cons x r=>
    obtain⟨b,o,cs,e1,_⟩:=h 0 x rfl;injection e with e
    subst e;subst e1;cases hA
def bIf (k:Int):List Int→Int→Int
  | [],_=> -1
  | s::r,i=>if k=s then i else bIf k r (i+1)
section
variable {k x : Int} {l : List Int} {i : Nat} {r : Int}
theorem bKq(h:r=bIf k (l.drop i) i)(hx:l[i]?=some x):(k=x→r=i)∧(k≠x→r=bIf k (l.drop (i+1)) ((i+1:Nat):Int)):=by
  rw [fO hx,bIf] at h;refine⟨fun e=>by rw [if_pos e] at h;exact h,fun e=>by rw [if_neg e] at h;rw [h];rfl⟩
theorem idxI_end(h:r=bIf k (l.drop i) i)(hi:l.length≤i):r= -1:=by
  rw [List.drop_of_length_le hi] at h;exact h
end
theorem wO(k:Int): ∀(l:List Int) (i:Int),0≤i→decide (0≤bIf k l i)=l.contains k
  | [],i,_=>rfl
  | s::r,i,h=>by
    rw [bIf,List.contains_cons]
    by_cases e:k=s
    · subst e;simp [h]
    · rw [if_neg e,wO k r (i+1) (by omega)];simp [e]
def bIc (p:Int→Bool):List Int→Int→Int
  | [],_=> -1
  | s::r,i=>if p s=true then i else bIc p r (i+1)
section
variable {p : Int → Bool} {x : Int} {l : List Int} {i : Nat} {r : Int}
theorem bJw(h:r=bIc p (l.drop i) i)(hx:l[i]?=some x):(p x=true→r=i)∧(p x=false→r=bIc p (l.drop (i+1)) ((i+1:Nat):Int)):=by
  rw [fO hx,bIc] at h;refine⟨fun e=>by rw [if_pos e] at h;exact h,fun e=>by rw [if_neg (by rw [e];simp)] at h;rw [h];rfl⟩
theorem idxB_end(h:r=bIc p (l.drop i) i)(hi:l.length≤i):r= -1:=by
  rw [List.drop_of_length_le hi] at h;exact h
end
theorem idxB_any(p:Int→Bool): ∀(l:List Int) (i:Int),0≤i→decide (0≤bIc p l i)=l.any p
  | [],i,_=>rfl
  | s::r,i,h=>by
    rw [bIc,List.any_cons]
    cases e:p s with
    | true=>simp [h]
    | false=>
      rw [if_neg (by simp),idxB_any p r (i+1) (by omega)];simp
section
variable {k x : Bs} {l : List Bs} {i : Nat} {r : Int}
theorem bFf(h:r=kK k (l.drop i) i)(hx:l[i]?=some x):(k=x→r=i)∧(k≠x→r=kK k (l.drop (i+1)) ((i+1:Nat):Int)):=by
  rw [fO hx,kK] at h;refine⟨fun e=>by rw [if_pos e.symm] at h;exact h,fun e=>by rw [if_neg (Ne.symm e)] at h;rw [h];rfl⟩
theorem idxOf_end(h:r=kK k (l.drop i) i)(hi:l.length≤i):r= -1:=by
  rw [List.drop_of_length_le hi] at h;exact h
end
theorem rJ{a b:List Int}(h:a≠b):Value.bool false= .bool (decide (a=b)):=by simp [h]
theorem bHy{a b:List Int}(h:a=b):Value.bool true= .bool (decide (a=b)):=by simp [h]
set_option maxRecDepth 100000 in
theorem dK(A:Option Addr)(c:Nat)(l:List Int)(hl:l.length≤17592186044416):dH Tryz.prog 25 [.slice A l.length c] [] [cT.sl (.slice A l.length c) l] (fun(x:Option Addr×Nat)=> .slice x.1 l.length x.2) (fun(x:Option Addr×Nat)=>[cT.row (.slice x.1 l.length x.2) 2 l]) (fun _=>[]):=by
  have hT:=dB;refine cQ Tryz.func25 rfl Tryz.ntmps25 rfl ?_;intro β hM;refine sr<|sp hT ?_;refine nn<|bA<|sr<|sp hT ?_;refine ss (sti_isnil Tryz.underlying30 rfl rfl) ?_;refine nn<|bH rfl (fun hc4=>?_) (fun hc4=>?_)
  · refine bA<|bV (Fact.pure (A.isNone=true→l=[])) (has_isnil (Has.of mT0)) ?_;refine cE (Has.of mT0) fun hnil=>?_;have hl0:=hnil (by assumption);subst hl0;refine dM (t:=2) cT ?_;refine bF<|sp hT ?_;refine nn<|bG<|bC ?_;exact bQ (_,_) rfl (bD rfl) (.cons .head .nil) trivial rfl
  refine bK<|bB<|sr<|nE rfl rfl rfl rfl fun b1=>?_;refine sp hT ?_;refine gO .head (bJ (Has.of mT0)) rfl rfl rfl rfl rfl rfl rfl (by simp;omega) fun A2 c3=>?_;rw [List.nil_append];refine sp hT ?_;refine nn<|bG ?_;exact bQ (_,_) rfl (bD rfl) (.cons .head .nil) trivial rfl
set_option maxRecDepth 100000 in
theorem index_spec(A:Option Addr)(c:Nat)(l:List Int)(hl:l.length≤140737488355328)(k:Int):dH Tryz.prog 89 [.slice A l.length c,.int .i64 k] [] [cT.sl (.slice A l.length c) l] (fun(_:Unit)=> .int .i64 (bIf k l 0)) (fun _=>[]) (fun _=>[]):=by
  have hT:=dB;generalize hR:bIf k l 0=r;refine cQ Tryz.func89 rfl Tryz.ntmps89 rfl ?_;intro β hM;refine sr<|sp hT ?_;refine nn<|bA<|sr<|sp3 hT ?_;refine nn<|bR<|dC (ι:=Nat) [(0,_),(1,_),(7,_)] ⟨rfl,rfl,rfl,trivial⟩ (fun i=>[(8,.int .i64 (i:Nat))]) (fun _=>[]) (fun i=>[Fact.pure (i≤l.length∧r=bIf k (l.drop i) i)]) (fun i=>l.length-i) 0 ⟨rfl,trivial⟩ .nil ⟨Has.pure (⟨by omega,hR.symm⟩),trivial⟩ ?_;rintro i;refine cE (Has.of mT0) fun hinv2=>?_;refine sr<|sp hT ?_;refine nn<|bA<|bH rfl (fun hc9=>?_) (fun hc9=>?_)
  · have hc9:=of_decide_eq_true hc9;refine bK<|bB<|bA<|bR<|sr<|sp2 hT ?_;refine nn<|sr<|sp3 hT ?_
    obtain⟨x1,hx2⟩: ∃x',l[i]?=some x':=⟨_,List.getElem?_eq_getElem (by omega)⟩
    refine ss (bS hT (k:=i) (bJ (Has.of mT1)) rfl rfl rfl rfl rfl rfl rfl (by omega)) ?_;refine ss (cA hT (cR.knows (bJ (Has.of mT1)) (k:=i) (x:=x1) hx2 0) rfl rfl rfl rfl rfl) ?_;refine sp hT ?_;refine nn<|bH rfl (fun hc16=>?_) (fun hc16=>?_)
    · have hc16:=eq_of_beq hc16;refine sr<|sp2 hT ?_;refine nn<|bG<|bI<|bC<|bC<|bI<|bC ?_;have hr:=(bKq hinv2.2 hx2).1 (by assumption);subst hr;exact bQ () rfl (bD rfl) .nil trivial rfl
    have hc16:=beq_eq_false_iff_ne.1 hc16;refine bK<|bY<|bB<|bF<|sp hT ?_;refine bP (z':=(((i+1):Nat):Int)) (cK (by omega) (by omega)) ?_;refine sp hT ?_;refine nn ?_;exact cP (i+1) (by omega) ⟨rfl,trivial⟩ ⟨rfl,rfl,rfl,trivial⟩ .nil ⟨Has.pure (⟨by omega,(bKq hinv2.2 hx2).2 (by assumption)⟩),trivial⟩ (bE.drop 1)
  have hc9:=Int.not_lt.1 (of_decide_eq_false hc9);refine cW<|cJ<|cJ<|cX<|bB<|sr<|sp hT ?_;refine nn<|bG ?_;have hr:=idxI_end hinv2.2 (by omega);subst hr;exact bQ () rfl (bD rfl) .nil trivial rfl
set_option maxRecDepth 100000 in
theorem uR(A:Option Addr)(c:Nat)(l:List Bs)(hl:l.length≤140737488355328)(k:Bs):dH Tryz.prog 45 [.slice A l.length c,.string (bs k)] [] [mC.sl (.slice A l.length c) l] (fun(_:Unit)=> .int .i64 (kK k l 0)) (fun _=>[]) (fun _=>[]):=by
  have hT:=dB;generalize hR:kK k l 0=r;refine cQ Tryz.func45 rfl Tryz.ntmps45 rfl ?_;intro β hM;refine sr<|sp hT ?_;refine nn<|bA<|sr<|sp3 hT ?_;refine nn<|bR<|dC (ι:=Nat) [(0,_),(1,_),(7,_)] ⟨rfl,rfl,rfl,trivial⟩ (fun i=>[(8,.int .i64 (i:Nat))]) (fun _=>[]) (fun i=>[Fact.pure (i≤l.length∧r=kK k (l.drop i) i)]) (fun i=>l.length-i) 0 ⟨rfl,trivial⟩ .nil ⟨Has.pure (⟨by omega,hR.symm⟩),trivial⟩ ?_;rintro i;refine cE (Has.of mT0) fun hinv2=>?_;refine sr<|sp hT ?_;refine nn<|bA<|bH rfl (fun hc9=>?_) (fun hc9=>?_)
  · have hc9:=of_decide_eq_true hc9;refine bK<|bB<|bA<|bR<|sr<|sp2 hT ?_;refine nn<|sr<|sp3 hT ?_
    obtain⟨x1,hx2⟩: ∃x',l[i]?=some x':=⟨_,List.getElem?_eq_getElem (by omega)⟩
    refine ss (bS hT (k:=i) (bJ (Has.of mT1)) rfl rfl rfl rfl rfl rfl rfl (by omega)) ?_;refine ss (cA hT (cR.knows (bJ (Has.of mT1)) (k:=i) (x:=x1) hx2 0) rfl rfl rfl rfl rfl) ?_;refine sp hT ?_;refine nn<|bH rfl (fun hc16=>?_) (fun hc16=>?_)
    · have hc16:k=x1:=eq_of_beq hc16;refine sr<|sp2 hT ?_;refine nn<|bG<|bI<|bC<|bC<|bI<|bC ?_;have hr:=(bFf hinv2.2 hx2).1 (by assumption);subst hr;exact bQ () rfl (bD rfl) .nil trivial rfl
    have hc16:k≠x1:=fun h=>absurd (beq_iff_eq.2 h) (by rw [show(k==x1)=false from hc16];simp);refine bK<|bY<|bB<|bF<|sp hT ?_;refine bP (z':=(((i+1):Nat):Int)) (cK (by omega) (by omega)) ?_;refine sp hT ?_;refine nn ?_;exact cP (i+1) (by omega) ⟨rfl,trivial⟩ ⟨rfl,rfl,rfl,trivial⟩ .nil ⟨Has.pure (⟨by omega,(bFf hinv2.2 hx2).2 (by assumption)⟩),trivial⟩ (bE.drop 1)
  have hc9:=Int.not_lt.1 (of_decide_eq_false hc9);refine cW<|cJ<|cJ<|cX<|bB<|sr<|sp hT ?_;refine nn<|bG ?_;have hr:=idxOf_end hinv2.2 (by omega);subst hr;exact bQ () rfl (bD rfl) .nil trivial rfl
set_option maxRecDepth 100000 in
theorem bFm(A:Option Addr)(c:Nat)(l:List Int)(hl:l.length≤140737488355328)(k:Int):dH Tryz.prog 57 [.slice A l.length c,.int .i64 k] [] [cT.sl (.slice A l.length c) l] (fun(_:Unit)=> .bool (l.contains k)) (fun _=>[]) (fun _=>[]):=by
  have hT:=dB;refine cQ Tryz.func57 rfl Tryz.ntmps57 rfl ?_;intro β hM;refine sr<|sp hT ?_;refine nn<|sr<|sp2 hT ?_;refine bO Tryz.func89 (index_spec _ _ _ hl _) rfl rfl .nil ⟨Has.of mT0,trivial⟩ fun _=>?_;refine sp2 hT ?_;refine nn<|bG ?_;exact bQ () rfl (bD rfl) .nil trivial (congrArg Value.bool (wO k l 0 (by decide)))
set_option maxRecDepth 100000 in
theorem indexF_spec(A:Option Addr)(c:Nat)(l:List Int)(hl:l.length≤140737488355328)(f:FuncId)(p:Int→Bool)(hcf: ∀(args:Array Value) (w:World),(callFunc f args).run Tryz.prog w= .ok (.enter f args) w)(hf: ∀b:Int,dH Tryz.prog f [.int .i64 b] [] [] (fun _:Unit=> .bool (p b)) (fun _=>[]) (fun _=>[])):dH Tryz.prog 74 [.slice A l.length c,.func (.func f) #[] #[]] [] [cT.sl (.slice A l.length c) l] (fun(_:Unit)=> .int .i64 (bIc p l 0)) (fun _=>[]) (fun _=>[]):=by
  have hT:=dB;generalize hR:bIc p l 0=r;refine cQ Tryz.func74 rfl Tryz.ntmps74 rfl ?_;intro β hM;refine sr<|sp hT ?_;refine nn<|bA<|sr<|sp3 hT ?_;refine nn<|bR<|dC (ι:=Nat) [(0,_),(1,_),(7,_)] ⟨rfl,rfl,rfl,trivial⟩ (fun i=>[(8,.int .i64 (i:Nat))]) (fun _=>[]) (fun i=>[Fact.pure (i≤l.length∧r=bIc p (l.drop i) i)]) (fun i=>l.length-i) 0 ⟨rfl,trivial⟩ .nil ⟨Has.pure (⟨by omega,hR.symm⟩),trivial⟩ ?_;rintro i;refine cE (Has.of mT0) fun hinv2=>?_;refine sr<|sp hT ?_;refine nn<|bA<|bH rfl (fun hc9=>?_) (fun hc9=>?_)
  · have hc9:=of_decide_eq_true hc9;refine bK<|bB<|bA<|bR<|sr<|sp2 hT ?_;refine nn<|sr<|sp3 hT ?_
    obtain⟨x1,hx2⟩: ∃x',l[i]?=some x':=⟨_,List.getElem?_eq_getElem (by omega)⟩
    refine ss (bS hT (k:=i) (bJ (Has.of mT1)) rfl rfl rfl rfl rfl rfl rfl (by omega)) ?_;refine ss (cA hT (cR.knows (bJ (Has.of mT1)) (k:=i) (x:=x1) hx2 0) rfl rfl rfl rfl rfl) ?_;refine gQ hcf (hf x1) rfl rfl rfl rfl rfl rfl rfl .nil trivial fun _=>?_;refine nn<|bH rfl (fun hc16=>?_) (fun hc16=>?_)
    · refine sr<|sp2 hT ?_;refine nn<|bG<|bI<|bC<|bC<|bI<|bC ?_;have hr:=(bJw hinv2.2 hx2).1 (by assumption);subst hr;exact bQ () rfl (bD rfl) .nil trivial rfl
    refine bK<|bY<|bB<|bF<|sp hT ?_;refine bP (z':=(((i+1):Nat):Int)) (cK (by omega) (by omega)) ?_;refine sp hT ?_;refine nn ?_;exact cP (i+1) (by omega) ⟨rfl,trivial⟩ ⟨rfl,rfl,rfl,trivial⟩ .nil ⟨Has.pure (⟨by omega,(bJw hinv2.2 hx2).2 (by assumption)⟩),trivial⟩ (bE.drop 1)
  have hc9:=Int.not_lt.1 (of_decide_eq_false hc9);refine cW<|cJ<|cJ<|cX<|bB<|sr<|sp hT ?_;refine nn<|bG ?_;have hr:=idxB_end hinv2.2 (by omega);subst hr;exact bQ () rfl (bD rfl) .nil trivial rfl
set_option maxRecDepth 100000 in
theorem qQ(A:Option Addr)(c:Nat)(l:List Int)(hl:l.length≤140737488355328)(f:FuncId)(p:Int→Bool)(hcf: ∀(args:Array Value) (w:World),(callFunc f args).run Tryz.prog w= .ok (.enter f args) w)(hf: ∀b:Int,dH Tryz.prog f [.int .i64 b] [] [] (fun _:Unit=> .bool (p b)) (fun _=>[]) (fun _=>[])):dH Tryz.prog 46 [.slice A l.length c,.func (.func f) #[] #[]] [] [cT.sl (.slice A l.length c) l] (fun(_:Unit)=> .bool (l.any p)) (fun _=>[]) (fun _=>[]):=by
  have hT:=dB;refine cQ Tryz.func46 rfl Tryz.ntmps46 rfl ?_;intro β hM;refine sr<|sp hT ?_;refine nn<|sr<|sp2 hT ?_;refine bO Tryz.func74 (indexF_spec _ _ _ hl f p hcf hf) rfl rfl .nil ⟨Has.of mT0,trivial⟩ fun _=>?_;refine sp2 hT ?_;refine nn<|bG ?_;exact bQ () rfl (bD rfl) .nil trivial (congrArg Value.bool (idxB_any p l 0 (by decide)))
set_option maxRecDepth 100000 in
theorem qW(A B:Option Addr)(ca cb:Nat)(a b:List Int)(hl:a.length≤140737488355328):dH Tryz.prog 38 [.slice A a.length ca,.slice B b.length cb] [] [cT.sl (.slice A a.length ca) a,cT.sl (.slice B b.length cb) b] (fun(_:Unit)=> .bool (decide (a=b))) (fun _=>[]) (fun _=>[]):=by
  have hT:=dB;refine cQ Tryz.func38 rfl Tryz.ntmps38 rfl ?_;intro β hM;refine sr<|sp hT ?_;refine nn<|bA<|sr<|sp4 hT ?_;refine sp hT ?_;refine nn<|bH rfl (fun hc10=>?_) (fun hc10=>?_)
  · have hc10:=bne_iff_ne.1 hc10;refine sr<|sp hT ?_;refine nn<|bG<|bC ?_;exact bQ () rfl (bD rfl) .nil trivial (rJ (fun e=>by have:=congrArg List.length e;omega))
  have hc10:=bne_eq_false_iff_eq.1 hc10;refine bK<|bB<|bA<|sr<|sp3 hT ?_;refine nn<|bR<|dC (ι:=Nat) [(0,_),(1,_),(12,_)] ⟨rfl,rfl,rfl,trivial⟩ (fun i=>[(13,.int .i64 (i:Nat))]) (fun _=>[]) (fun i=>[Fact.pure (i≤a.length∧a.take i=b.take i)]) (fun i=>a.length-i) 0 ⟨rfl,trivial⟩ .nil ⟨Has.pure (⟨by omega,rfl⟩),trivial⟩ ?_;rintro i;refine cE (Has.of mT0) fun hinv4=>?_;refine sr<|sp hT ?_;refine nn<|bA<|bH rfl (fun hc14=>?_) (fun hc14=>?_)
  · have hc14:=of_decide_eq_true hc14;refine bK<|bB<|bA<|bR<|sr<|sp2 hT ?_;refine nn<|bA<|cU _ _ [(true,0),(true,1),(true,2),(true,3),(true,4),(true,5),(true,6),(true,7),(true,8)] cY (by decide+kernel) .nil bE.self ?_;refine puM hT ?_;refine puM hT ?_
    obtain⟨x1,hx2⟩: ∃x',a[i]?=some x':=⟨_,List.getElem?_eq_getElem (by omega)⟩
    refine stM rfl (bS hT (k:=i) (bJ (Has.of mT1)) rfl rfl rfl rfl rfl rfl rfl (by omega)) ?_;refine stM rfl (cA hT (cR.knows (bJ (Has.of mT1)) (k:=i) (x:=x1) hx2 0) rfl rfl rfl rfl rfl) ?_;refine puM hT ?_;refine puM hT ?_
    obtain⟨x3,hx4⟩: ∃x',b[i]?=some x':=⟨_,List.getElem?_eq_getElem (by omega)⟩
    refine stM rfl (bS hT (k:=i) (bJ (Has.of mT2)) rfl rfl rfl rfl rfl rfl rfl (by omega)) ?_;refine stM rfl (cA hT (cR.knows (bJ (Has.of mT2)) (k:=i) (x:=x3) hx4 0) rfl rfl rfl rfl rfl) ?_;refine puM hT ?_;refine cM<|bB<|bH rfl (fun hc24=>?_) (fun hc24=>?_)
    · have hc24:=bne_iff_ne.1 hc24;refine sr<|sp hT ?_;refine nn<|bG<|bI<|bC<|bC<|bI<|bC ?_;exact bQ () rfl (bD rfl) .nil trivial (rJ (bFu hx2 hx4 (by assumption)))
    have hc24:=bne_eq_false_iff_eq.1 hc24;refine bK<|bY<|bB<|bF<|sp hT ?_;refine bP (z':=(((i+1):Nat):Int)) (cK (by omega) (by omega)) ?_;refine sp hT ?_;refine nn ?_;exact cP (i+1) (by omega) ⟨rfl,trivial⟩ ⟨rfl,rfl,rfl,trivial⟩ .nil ⟨Has.pure (⟨by omega,bAj hinv4.2 hx2 hx4 (by assumption)⟩),trivial⟩ (bE.drop 1)
  have hc14:=Int.not_lt.1 (of_decide_eq_false hc14);refine cW<|cJ<|cJ<|cX<|bB<|sr<|sp hT ?_;refine nn<|bG ?_;exact bQ () rfl (bD rfl) .nil trivial (bHy (bGo hinv4.2 (by omega) (by omega)))
end Go.Proofs.YtciimjjleglmaaaGreatDoor
