/- Texts of one proof, one behind the other: DocS, AlikeP, BackO, WordP, ArrP, ArrL, ArrR, MeanP, TysM, SlI. -/
import Derived.Test.YtbgdphbebhjpiaaGreatDoorM9
import Derived.Test.YtbgdphbebhjpiaaGreatDoorM7
import Derived.Test.YtbgdphbebhjpiaaGreatDoorM6
import Derived.Test.YtbgdphbebhjpiaaGreatDoorM2
namespace Go.Proofs.YtbgdphbebhjpiaaGreatDoor
open Go.RowKit
theorem rX:fB []=false:=by decide+kernel
structure qN (p:ProgV):Prop where
  input: ∀x∈p.inputs.list,x.name.length≤140737488355328∧ ∀d∈x.sides.list,d.name.length≤140737488355328∧ -9223372036854775808≤d.n∧d.n≤9223372036854775807
  line: ∀x∈p.lines.list,x.name.length≤140737488355328∧ ∀it∈x.items.list,it.name.length≤140737488355328∧ ∀z∈it.nums.list,-9223372036854775808≤z∧z≤9223372036854775807
def nM (p:iF)(i:Nat)(out:Bs):Bs×Bool:=match nV (p.inputs.drop i) out with
  | (o,false)=>(o,false)
  | (o,true)=>fX p.lines o
section
variable {p : iF} {i : Nat} {out : Bs} {x : gE} {t : Bs}
theorem wQ(h:p.lines=[]∨64<p.inputs.length+p.lines.length):dZ p=([],false):=by rw [dZ,if_pos h]
theorem prog_start(h: ¬(p.lines=[]∨64<p.inputs.length+p.lines.length)):dZ p=nM p 0 []:=by rw [dZ,if_neg h];rfl
theorem vW(hx:p.inputs[i]?=some x)(hn:pK x=none):nM p i out=(out,false):=by rw [nM,fQ hx,nV,hn]
theorem prog_step(hx:p.inputs[i]?=some x)(hn:pK x=some t):nM p i out=nM p (i+1) (out++(([105,110,32]++t)++[10])):=by rw [nM,fQ hx,nV,hn];rfl
theorem prog_lines(hi:p.inputs.length≤i):nM p i out=fX (p.lines.drop 0) out:=by rw [nM,List.drop_of_length_le hi];rfl
end
section
variable {l : List rP} {i : Nat} {out : Bs} {x : rP} {t : Bs}
theorem bHu(hi:l.length≤i):fX (l.drop i) out=(out,true):=by rw [List.drop_of_length_le hi];rfl
theorem xH(hx:l[i]?=some x)(hi:i+1=l.length):l.drop i=[x]:=by rw [fQ hx,List.drop_of_length_le (by omega)]
theorem xE(hx:l[i]?=some x)(hi:i+1<l.length): ∃y r,l.drop (i+1)=y::r∧l.drop i=x::y::r:=by
  have:l[i+1]?=some l[i+1]:=List.getElem?_eq_getElem hi;exact⟨_,_,fQ this,by rw [fQ hx,fQ this]⟩
theorem qT(hx:l[i]?=some x)(he:hO x.items (if i+1=l.length then 255 else 254)=none):fX (l.drop i) out=(out,false):=by
  have hl:=(List.getElem?_eq_some_iff.1 hx).1
  by_cases hi:i+1=l.length
  · rw [if_pos hi] at he;rw [xH hx hi,fX,he]
  · rw [if_neg hi] at he;obtain⟨y,r,_,h2⟩:=xE hx (by omega);rw [h2,fX,he];exact fun h=>by cases h
theorem oU(hx:l[i]?=some x)(hi:i+1=l.length)(hn:x.name≠[]){t:Bs}(he:hO x.items 255=some t):fX (l.drop i) out=(out,false):=by
  rw [xH hx hi,fX,he];simp [hn]
theorem kU(hx:l[i]?=some x)(hi:i+1<l.length)(hn:fB x.name=false){t:Bs}(he:hO x.items 254=some t):fX (l.drop i) out=(out,false):=by
  obtain⟨y,r,_,h2⟩:=xE hx hi;rw [h2,fX,he]
  · simp [hn]
  · exact fun h=>by cases h
theorem lines_out(hx:l[i]?=some x)(hi:i+1=l.length)(hn:x.name=[]){t:Bs}(he:hO x.items 255=some t):fX (l.drop i) out=fX (l.drop (i+1)) (out++(([111,117,116,32]++t)++[10])):=by
  rw [xH hx hi,fX,he,bHu (by omega)];simp [hn]
theorem lines_step(hx:l[i]?=some x)(hi:i+1<l.length)(hn:fB x.name=true){t:Bs}(he:hO x.items 254=some t):fX (l.drop i) out=fX (l.drop (i+1)) (out++(((x.name++[58,32])++t)++[10])):=by
  obtain⟨y,r,h1,h2⟩:=xE hx hi;rw [h2,h1,fX,he]
  · simp [hn]
  · exact fun h=>by cases h
end
theorem step_okp{st st':List gF}{x:fC}(hz: ∀z∈x.nums,-9223372036854775808≤z∧z≤9223372036854775807)(ho: ∀p∈st,p.words≠[]∧wsz p.words≤40*p.tokens)(h:iP st x=some st'): ∀p∈st',p.words≠[]∧wsz p.words≤40*p.tokens:=by
  unfold iP at h;split at h
  · cases hq:operandS x with
    | none=>rw [hq] at h;cases h
    | some q=>
      rw [hq] at h;injection h with h
      subst h;intro p hp
      rcases List.mem_cons.1 hp with rfl | hp
      · exact⟨(xP hz hq).1,(xP hz hq).2.1⟩
      · exact ho p hp
  · split at h
    · cases h
    · rename_i hn;have hv:(verbS x).1≠[]:=fun e=>hn (.inr (.inr (.inr (.inr e))));obtain⟨v1,_,v3⟩:=yD x;have v3:=v3 hv;unfold oB at h;split at h
      · split at h
        · rename_i p q r;injection h with h
          subst h;have hq:=ho q (by simp);obtain⟨k1,k2,_,_⟩:=left_ok (q:=⟨⟨none,0,q.words⟩,q.nest,q.tokens,q.plain⟩) hq;have k1:(leftS q).words≠[]:=k1;have k2:wsz (leftS q).words≤40*(leftS q).tokens:=k2;have hp:=ho p (by simp);intro y hy
          rcases List.mem_cons.1 hy with rfl | hy
          · refine⟨by simp,?_⟩;simp only [bDz,iK];omega
          · exact ho y (by simp [hy])
        · cases h
      · split at h
        · rename_i p r;injection h with h
          subst h;have hp:=ho p (by simp);intro y hy
          rcases List.mem_cons.1 hy with rfl | hy
          · refine⟨by simp,?_⟩;simp only [iK];omega
          · exact ho y (by simp [hy])
        · cases h
theorem bKh: ∀{l:List fC} {st st':List gF},(∀x∈l,∀z∈x.nums,-9223372036854775808≤z∧z≤9223372036854775807)→(∀p∈st,p.words≠[]∧wsz p.words≤40*p.tokens)→gC l st=some st'→ ∀p∈st',p.words≠[]∧wsz p.words≤40*p.tokens
  | [],st,st',_,ho,h=>by
    simp [gC] at h;subst h;exact ho
  | x::r,st,st',hz,ho,h=>by
    rw [gC] at h
    cases h1:iP st x with
    | none=>rw [h1] at h;cases h
    | some s1=>
      rw [h1] at h;exact bKh (fun y hy=>hz y (by simp [hy])) (step_okp (hz x (by simp)) ho h1) h
theorem bJl{l:List fC}{most:Nat}{t:Bs}(hz: ∀x∈l,∀z∈x.nums,-9223372036854775808≤z∧z≤9223372036854775807)(h:hO l most=some t):t.length≤40*most:=by
  unfold hO at h;split at h
  · cases h
  · split at h
    · rename_i p hp;split at h
      · cases h
      · injection h with h
        subst h;have h1:=(bKh hz (fun p hp=>by simp at hp) hp p (by simp)).2;have:=bFv p.words;omega
    · cases h
section
variable {x : InputV} {j : Nat} {d : iG} {t : Bs}
theorem bIh(h:fB x.name=false∨4<x.sides.list.length):pK x.inp=none:=by
  rw [pK,if_pos (show fB x.inp.name=false∨4<x.inp.sides.length from h.imp id fun h=>by show 4<(x.sides.list.map iG.sd).length;rw [List.length_map];exact h)]
theorem input_start(h:fB x.name=true)(h4: ¬4<x.sides.list.length):pK x.inp=kP ((x.sides.list.map iG.sd).drop 0) x.name:=by
  rw [pK,if_neg]
  · rfl
  · rintro(h' | h')
    · rw [show x.inp.name=x.name from rfl,h] at h';cases h'
    · rw [show x.inp.sides=x.sides.list.map iG.sd from rfl,List.length_map] at h';exact h4 h'
theorem sd_at(hd:x.sides.list[j]?=some d):(x.sides.list.map iG.sd)[j]?=some d.sd:=by rw [List.getElem?_map,hd];rfl
theorem side_num(hd:x.sides.list[j]?=some d)(hn:d.name=[]):kP ((x.sides.list.map iG.sd).drop j) t=kP ((x.sides.list.map iG.sd).drop (j+1)) (t++([32]++fW d.n)):=by
  rw [fQ (sd_at hd),kP,if_pos (show d.sd.name=[] from hn)];rfl
theorem side_name(hd:x.sides.list[j]?=some d)(hn:d.name≠[])(h0:d.n=0)(hb:fB d.name=true):kP ((x.sides.list.map iG.sd).drop j) t=kP ((x.sides.list.map iG.sd).drop (j+1)) (t++([32]++d.name)):=by
  rw [fQ (sd_at hd),kP,if_neg (show ¬d.sd.name=[] from hn),if_pos (show d.sd.n=0∧fB d.sd.name=true from ⟨h0,hb⟩)];rfl
theorem side_bad(hd:x.sides.list[j]?=some d)(hn:d.name≠[])(h:d.n≠0∨fB d.name=false):kP ((x.sides.list.map iG.sd).drop j) t=none:=by
  rw [fQ (sd_at hd),kP,if_neg (show ¬d.sd.name=[] from hn),if_neg];rintro⟨h1,h2⟩
  rcases h with h | h
  · exact h h1
  · rw [show d.sd.name=d.name from rfl,h] at h2;cases h2
theorem sides_done(hj:x.sides.list.length≤j):kP ((x.sides.list.map iG.sd).drop j) t=some t:=by
  rw [List.drop_of_length_le (by rw [List.length_map];exact hj)];rfl
end
theorem oN{α β:Type}{f:α→β}{l:List α}{i:Nat}{x:α}(h:l[i]?=some x):(l.map f)[i]?=some (f x):=by rw [List.getElem?_map,h];rfl
theorem bId{o:Option Bs}(h:o.isSome=true):o=some (o.getD []):=by
  cases o with
  | none=>cases h
  | some x=>rfl
theorem shower_built(r1 r2:Nat):Tryz.prog.built 179 [(0,.map (some r1)),(1,.map (some r2))]=some #[.map (some r1),.map (some r2),.pointer none,.slice none 0 0]:=by kernel_rfl
theorem sY:(Tryz.prog.info? 63).bind (·.zero)=some (.agg #[.string (bs []),.int .i64 0]):=by kernel_rfl
set_option maxRecDepth 100000 in
theorem bHr(b r1 r2:Nat)(P:ProgV)(hP:qN P)(hl1:P.inputs.list.length≤140737488355328)(hl2:P.lines.list.length≤140737488355328):dG Tryz.prog 98 [.pointer (some ⟨b,0,none⟩),.agg #[.slice P.inputs.addr P.inputs.list.length P.inputs.cap,.slice P.lines.addr P.lines.list.length P.lines.cap]] [.obj b (.cells [.map (some r1),.map (some r2),.pointer none,.slice none 0 0].toArray 179),nA.row (.slice none 0 0) 5 []] [mapF r1 .u8 (pG false),mapF r2 .u8 (pG true),gS,hZ.sl (.slice P.inputs.addr P.inputs.list.length P.inputs.cap) P.inputs.list,gZ P.inputs.list,mD.sl (.slice P.lines.addr P.lines.list.length P.lines.cap) P.lines.list,jV P.lines.list] (fun(_:(Option Addr×Nat)×Bool)=> .bool (dZ P.pr).2) (fun(x:(Option Addr×Nat)×Bool)=>[.obj b (.cells [.map (some r1),.map (some r2),bHi x.2 b,.slice x.1.1 (dZ P.pr).1.length x.1.2].toArray 179),nA.row (.slice x.1.1 (dZ P.pr).1.length x.1.2) 5 (dZ P.pr).1]) (fun(x:(Option Addr×Nat)×Bool)=>[Fact.pure ((dZ P.pr).1=[]→x.1.1=none)]):=by
  have hT:=iJ;have hpl:P.pr.lines.length=P.lines.list.length:=List.length_map _;have hpi:P.pr.inputs.length=P.inputs.list.length:=List.length_map _;generalize hR:dZ P.pr=r;refine cQ Tryz.func98 rfl Tryz.ntmps98 rfl ?_;intro β hM;refine sr<|fH rfl rfl rfl rfl rfl rfl fun b1=>?_;refine sp hT ?_;refine nn<|sr<|sp hT ?_;refine ss (ldO hT (dD .head)) ?_;refine sp2 hT ?_;refine bP (z':=(((P.lines.list.length:Nat):Int)-1)) (bKk (by omega) (by omega)) ?_;refine sp hT ?_;refine nn<|bA<|sr<|sp3 hT ?_;refine cE (fun hg23=>?_) (fun hg23=>?_)
  · have hg23:=of_decide_eq_true hg23;refine sk4 ?_;refine sp2 hT ?_;refine sk4 ?_;refine sk4 ?_;refine sp hT ?_;refine nn<|cL rfl rfl ?_;refine sr<|sp hT ?_;refine nn<|bG<|bC ?_;have hr:=hR.symm.trans (wQ (by first | exact .inl (List.map_eq_nil_iff.2 (List.eq_nil_of_length_eq_zero (by omega))) | exact .inr (by omega)));subst hr;exact bQ ((_,_),false) rfl (bD rfl) (.cons kT1 (.cons kT1 .nil)) ⟨Has.pure (fun _=>rfl),trivial⟩ rfl
  have hg23:=Int.not_lt.1 (of_decide_eq_false hg23);refine sp hT ?_;refine ss (ldO hT (bM .head)) ?_;refine sp4 hT ?_;refine cE (fun hg29=>?_) (fun hg29=>?_)
  · have hg29:=of_decide_eq_true hg29;refine sk4 ?_;refine sk4 ?_;refine sp hT ?_;refine nn<|cL rfl rfl ?_;refine sr<|sp hT ?_;refine nn<|bG<|bC ?_;have hr:=hR.symm.trans (wQ (by first | exact .inl (List.map_eq_nil_iff.2 (List.eq_nil_of_length_eq_zero (by omega))) | exact .inr (by omega)));subst hr;exact bQ ((_,_),false) rfl (bD rfl) (.cons kT1 (.cons kT1 .nil)) ⟨Has.pure (fun _=>rfl),trivial⟩ rfl
  have hg29:=Int.not_lt.1 (of_decide_eq_false hg29);refine sp hT ?_;refine ss (ldO hT (dD .head)) ?_;refine sp2 hT ?_;refine ss (ldO hT (bM .head)) ?_;refine sp2 hT ?_;refine bP (z':=(((64-P.inputs.list.length):Nat):Int)) (cJ (by omega) (by omega)) ?_;refine sp2 hT ?_;refine nn<|bH rfl (fun hc38=>?_) (fun hc38=>?_)
  · have hc38:=of_decide_eq_true hc38;refine sr<|sp hT ?_;refine nn<|bG<|bC ?_;have hr:=hR.symm.trans (wQ (by first | exact .inl (List.map_eq_nil_iff.2 (List.eq_nil_of_length_eq_zero (by omega))) | exact .inr (by omega)));subst hr;exact bQ ((_,_),false) rfl (bD rfl) (.cons kT1 (.cons kT1 .nil)) ⟨Has.pure (fun _=>rfl),trivial⟩ rfl
  have hc38:=Int.not_lt.1 (of_decide_eq_false hc38);refine bK<|bB<|bA<|sr<|sp hT ?_;refine ss (ldO hT (bM .head)) ?_;refine sp2 hT ?_;refine nn<|bR<|dB (ι:=Nat×Bs×Bool×Option Addr×Nat) [(0,_),(3,_),(5,_),(40,_),(41,_)] ⟨rfl,rfl,rfl,rfl,rfl,trivial⟩ (fun⟨i,out,u,G,c⟩=>[(42,.int .i64 (i:Nat))]) (fun⟨i,out,u,G,c⟩=>[.obj b (.cells [.map (some r1),.map (some r2),bHi u b,.slice G out.length c].toArray 179),nA.row (.slice G out.length c) 5 out]) (fun⟨i,out,u,G,c⟩=>[Fact.pure (i≤P.inputs.list.length∧dZ P.pr=nM P.pr i out∧(out=[]→G=none)∧out.length≤1000*i)]) (fun⟨i,out,u,G,c⟩=>P.inputs.list.length-i) (0,[],false,none,0) ⟨rfl,trivial⟩ (.cons kT1 (.cons kT1 .nil)) ⟨Has.pure (⟨by omega,prog_start (by rintro(h | h);(have h:=congrArg List.length h;rw [hpl,List.length_nil] at h;omega);omega),fun _=>rfl,by simp⟩),trivial⟩ ?_;rintro⟨i,out,u,G,c⟩;dsimp only;refine cD (Has.of mT0) fun hinv5=>?_;refine sr<|sp hT ?_;refine nn<|bA<|bH rfl (fun hc43=>?_) (fun hc43=>?_)
  · have hc43:=of_decide_eq_true hc43;refine bK<|bB<|bA<|bR<|sr ?_
    obtain⟨x2,hx3⟩: ∃x,P.inputs.list[i]?=some x:=⟨_,List.getElem?_eq_getElem (by omega)⟩
    refine ss (bS hT (k:=i) (bJ (Has.of mT4)) rfl rfl rfl rfl rfl rfl rfl (by omega)) ?_;refine ss (dP hT (cR.knows (bJ (Has.of mT4)) (k:=i) (x:=x2) hx3 0) rfl rfl rfl rfl rfl) ?_;refine cG rfl rfl rfl rfl iZ rfl fun b4=>?_;refine sto hT .head ?_;refine nn<|bA<|bA ?_;have hxi:=hP.input x2 (List.mem_of_getElem? hx3);have hx0:P.pr.inputs[i]?=some x2.inp:=oN hx3;refine bW (pF x2) (Has.each (Has.of mT5) (List.mem_of_getElem? hx3)) ?_;refine bE<|sp hT ?_;refine ss (ldO hT (bM .head)) ?_;refine bO Tryz.func76 (lK _ hxi.1) rfl rfl .nil ⟨Has.of mT4,trivial⟩ fun _=>?_;refine sp2 hT ?_;refine cE (fun hg50=>?_) (fun hg50=>?_)
    · have hg50:=gA hg50;refine sk4 ?_;refine sp hT ?_;refine nn<|cL rfl rfl ?_;refine sr<|sp hT ?_;refine nn<|bG<|bC<|bI<|bC<|bC<|bI<|bC ?_;have hr:=hR.symm.trans (hinv5.2.1.trans (vW hx0 (bIh (by first | exact .inl (by assumption) | exact .inr (by omega)))));subst hr;exact bQ ((_,_),u) rfl (bD rfl) (.cons kT1 (.cons kT1 .nil)) ⟨Has.pure (hinv5.2.2.1),trivial⟩ rfl
    have hg50:=fM hg50;refine sp hT ?_;refine ss (ldO hT (dX .head)) ?_;refine sp3 hT ?_;refine nn<|bH rfl (fun hc55=>?_) (fun hc55=>?_)
    · have hc55:=of_decide_eq_true hc55;refine sr<|sp hT ?_;refine nn<|bG<|bC<|bI<|bC<|bC<|bI<|bC ?_;have hr:=hR.symm.trans (hinv5.2.1.trans (vW hx0 (bIh (by first | exact .inl (by assumption) | exact .inr (by omega)))));subst hr;exact bQ ((_,_),u) rfl (bD rfl) (.cons kT1 (.cons kT1 .nil)) ⟨Has.pure (hinv5.2.2.1),trivial⟩ rfl
    have hc55:=Int.not_lt.1 (of_decide_eq_false hc55);refine bK<|bB<|sr<|sp hT ?_;refine ss (ldO hT (bM .head)) ?_;refine sp hT ?_;refine nn<|bA<|sr<|sp hT ?_;refine ss (ldO hT (dX .head)) ?_;refine sp2 hT ?_;refine nn<|bR<|dB (ι:=Nat×Bs) [(0,_),(3,_),(5,_),(40,_),(41,_),(42,_),(51,_),(52,_),(53,_),(54,_),(59,_),(60,_)] ⟨rfl,rfl,rfl,rfl,rfl,rfl,rfl,rfl,rfl,rfl,rfl,rfl,trivial⟩ (fun⟨j,text⟩=>[(8,.string (bs text)),(61,.int .i64 (j:Nat))]) (fun _=>[]) (fun⟨j,text⟩=>[Fact.pure (j≤x2.sides.list.length∧kP ((x2.sides.list.map iG.sd).drop j) text=pK x2.inp∧text.length≤16+30*j)]) (fun⟨j,text⟩=>x2.sides.list.length-j) (0,x2.name) ⟨rfl,rfl,trivial⟩ .nil ⟨Has.pure (⟨by omega,(input_start (by assumption) (by omega)).symm,by have:=rV ‹fB x2.name=true›;omega⟩),trivial⟩ ?_;rintro⟨j,text⟩;dsimp only;refine cD (Has.of mT0) fun hinv11=>?_;refine sr<|sp hT ?_;refine nn<|bA<|bH rfl (fun hc62=>?_) (fun hc62=>?_)
    · have hc62:=of_decide_eq_true hc62;refine bK<|bB<|bA<|bR<|sr ?_
      obtain⟨x5,hx6⟩: ∃x,x2.sides.list[j]?=some x:=⟨_,List.getElem?_eq_getElem (by omega)⟩
      refine ss (bS hT (k:=j) (bJ (Has.of mT1)) rfl rfl rfl rfl rfl rfl rfl (by omega)) ?_;refine ss (dP hT (cR.knows (bJ (Has.of mT1)) (k:=j) (x:=x5) hx6 0) rfl rfl rfl rfl rfl) ?_;refine cG rfl rfl rfl rfl sY rfl fun b7=>?_;refine sto hT .head ?_;refine nn<|bR<|bA ?_;have hdn:=hxi.2 x5 (List.mem_of_getElem? hx6);refine bE<|sp hT ?_;refine ss (ldO hT (bM .head)) ?_;refine sp2 hT ?_;refine nn<|bH rfl (fun hc65=>?_) (fun hc65=>?_)
      · have hc65:x5.name=([]:Bs):=eq_of_beq hc65;refine bE<|sp2 hT ?_;refine ss (ldO hT (dD .head)) ?_;have hsp:=oL hdn.2.1 hdn.2.2;refine bO Tryz.func167 (zJ _ hdn.2.1 hdn.2.2) rfl rfl .nil ⟨Has.of mT5,trivial⟩ fun _=>?_;refine ss (jF rfl rfl rfl (by first | omega | (simp;omega))) ?_;refine ss (jF rfl rfl rfl (by first | omega | (simp;omega))) ?_;refine sp hT ?_;refine dR<|bY<|bY<|bB<|bE<|sp hT ?_;refine bP (z':=(((j+1):Nat):Int)) (cJ (by omega) (by omega)) ?_;refine sp hT ?_;refine nn ?_;exact cO (j+1,_) (by dsimp only;omega) ⟨rfl,rfl,trivial⟩ ⟨rfl,rfl,rfl,rfl,rfl,rfl,rfl,rfl,rfl,rfl,rfl,rfl,trivial⟩ (.cons kT1 (.cons kT1 (.cons kT1 (.cons kT1 .nil)))) ⟨Has.pure (⟨by dsimp only;omega,hinv11.2.1▸(side_num hx6 (by assumption)).symm,by have:=oL hdn.2.1 hdn.2.2;simp;omega⟩),trivial⟩ (bF.drop 1)
      have hc65:x5.name≠([]:Bs):=fun h=>absurd (beq_iff_eq.2 h) (by rw [show(x5.name==([]:Bs))=false from hc65];simp);refine sr<|sp hT ?_;refine ss (ldO hT (dD .head)) ?_;refine sp2 hT ?_;refine cE (fun hg79=>?_) (fun hg79=>?_)
      · have hg79:=eq_of_beq hg79;refine sp hT ?_;refine ss (ldO hT (bM .head)) ?_;refine bO Tryz.func76 (lK _ hdn.1) rfl rfl .nil ⟨Has.of mT5,trivial⟩ fun _=>?_;refine sp2 hT ?_;refine nn<|bH rfl (fun hc75=>?_) (fun hc75=>?_)
        · refine bE<|sp2 hT ?_;refine ss (ldO hT (bM .head)) ?_;refine ss (jF rfl rfl rfl (by first | omega | (simp;omega))) ?_;refine ss (jF rfl rfl rfl (by first | omega | (simp;omega))) ?_;refine sp hT ?_;refine dR<|bY<|bY<|bB<|bE<|sp hT ?_;refine bP (z':=(((j+1):Nat):Int)) (cJ (by omega) (by omega)) ?_;refine sp hT ?_;refine nn ?_;exact cO (j+1,_) (by dsimp only;omega) ⟨rfl,rfl,trivial⟩ ⟨rfl,rfl,rfl,rfl,rfl,rfl,rfl,rfl,rfl,rfl,rfl,rfl,trivial⟩ (.cons kT1 (.cons kT1 (.cons kT1 (.cons kT1 .nil)))) ⟨Has.pure (⟨by dsimp only;omega,hinv11.2.1▸(side_name hx6 (by assumption) (by assumption) (by assumption)).symm,by have:=rV ‹fB x5.name=true›;simp;omega⟩),trivial⟩ (bF.drop 1)
        refine sr<|sp hT ?_;refine nn<|bG<|bI<|bI<|bC<|bC<|bI<|bC<|bI<|bC<|bC<|bI<|bC ?_;have hr:=hR.symm.trans (hinv5.2.1.trans (vW hx0 (hinv11.2.1.symm.trans (side_bad hx6 (by assumption) (by first | exact .inl (by assumption) | exact .inr (by assumption))))));subst hr;exact bQ ((_,_),u) rfl (bD rfl) (.cons kT2 (.cons kT2 .nil)) ⟨Has.pure (hinv5.2.2.1),trivial⟩ rfl
      have hg79:=beq_eq_false_iff_ne.1 hg79;refine sk3 ?_;refine sp2 hT ?_;refine nn<|cN rfl rfl ?_;refine sr<|sp hT ?_;refine nn<|bG<|bI<|bI<|bC<|bC<|bI<|bC<|bI<|bC<|bC<|bI<|bC ?_;have hr:=hR.symm.trans (hinv5.2.1.trans (vW hx0 (hinv11.2.1.symm.trans (side_bad hx6 (by assumption) (by first | exact .inl (by assumption) | exact .inr (by assumption))))));subst hr;exact bQ ((_,_),u) rfl (bD rfl) (.cons kT2 (.cons kT2 .nil)) ⟨Has.pure (hinv5.2.2.1),trivial⟩ rfl
    have hc62:=Int.not_lt.1 (of_decide_eq_false hc62);refine cW<|cK<|cK<|cX<|bB ?_;have hin:=hinv11.2.1.symm.trans (sides_done (by omega));refine bE<|sp2 hT ?_;refine bO Tryz.func168 (wW b r1 r2 u G c out ([105,110,32]:Bs) text (by simp;omega)) rfl rfl (.cons kT1 (.cons kT1 .nil)) trivial fun⟨G8,c9⟩=>?_;refine dR<|bY<|bB<|bE<|sp hT ?_;refine bP (z':=(((i+1):Nat):Int)) (cJ (by omega) (by omega)) ?_;refine sp hT ?_;refine nn ?_;exact cO (i+1,(out++((([105,110,32]:Bs)++text)++[10])),true,_,_) (by dsimp only;omega) ⟨rfl,trivial⟩ ⟨rfl,rfl,rfl,rfl,rfl,trivial⟩ (.cons .head (.cons .head (.cons kT1 .nil))) ⟨Has.pure (⟨by dsimp only;omega,hinv5.2.1.trans (prog_step hx0 hin),fun h=>by simp at h,by simp;omega⟩),trivial⟩ (bF.drop 3)
  have hc43:=Int.not_lt.1 (of_decide_eq_false hc43);refine cW<|cK<|cK<|cX<|bB<|bA<|sr<|sp hT ?_;refine ss (ldO hT (dD kT2)) ?_;refine sp2 hT ?_;refine nn<|bR ?_;have hlin:=hinv5.2.1.trans (prog_lines (by omega));refine dB (ι:=Nat×Bs×Bool×Option Addr×Nat) [(0,_),(5,_),(95,_),(96,_)] ⟨rfl,rfl,rfl,rfl,trivial⟩ (fun⟨i,out,u,G,c⟩=>[(97,.int .i64 (i:Nat))]) (fun⟨i,out,u,G,c⟩=>[.obj b (.cells [.map (some r1),.map (some r2),bHi u b,.slice G out.length c].toArray 179),nA.row (.slice G out.length c) 5 out]) (fun⟨i,out,u,G,c⟩=>[Fact.pure (i≤P.lines.list.length∧dZ P.pr=fX (P.pr.lines.drop i) out∧(out=[]→G=none)∧out.length≤1000*64+20000*i)]) (fun⟨i,out,u,G,c⟩=>P.lines.list.length-i) (0,out,u,G,c) ⟨rfl,trivial⟩ (.cons .head (.cons .head .nil)) ⟨Has.pure (⟨by omega,hlin,hinv5.2.2.1,by omega⟩),trivial⟩ ?_;rintro⟨i,out,u,G,c⟩;dsimp only;refine cD (Has.of mT0) fun hinv22=>?_;refine sr<|sp hT ?_;refine nn<|bA<|bH rfl (fun hc98=>?_) (fun hc98=>?_)
  · have hc98:=of_decide_eq_true hc98;refine bK<|bB<|bA<|bR<|sr<|sp hT ?_
    obtain⟨x10,hx11⟩: ∃x,P.lines.list[i]?=some x:=⟨_,List.getElem?_eq_getElem (by omega)⟩
    refine ss (bS hT (k:=i) (bJ (Has.of mT7)) rfl rfl rfl rfl rfl rfl rfl (by omega)) ?_;refine ss (dP hT (cR.knows (bJ (Has.of mT7)) (k:=i) (x:=x10) hx11 0) rfl rfl rfl rfl rfl) ?_;refine cG rfl rfl rfl rfl pP rfl fun b12=>?_;refine sp hT ?_;refine sto hT .head ?_;refine nn<|bA ?_;have hli:=hP.line x10 (List.mem_of_getElem? hx11);have hx0:P.pr.lines[i]?=some x10.ln:=oN hx11;refine bW (bGl x10) (Has.each (Has.of mT8) (List.mem_of_getElem? hx11)) ?_;refine bW (kC.sl (.slice x10.items.addr x10.items.list.length x10.items.cap) x10.items.list) (Has.left (Has.of mT0)) ?_;refine bW (lP x10.items.list) (Has.right (Has.of mT1)) ?_;have hz: ∀y∈(x10.items.list.map ItemV.it),∀z∈y.nums,-9223372036854775808≤z∧z≤9223372036854775807:=fun y hy z hzz=>by obtain⟨it,h1,rfl⟩:=List.mem_map.1 hy;exact(hli.2 it h1).2 z hzz
    refine bE<|sp hT ?_;refine ss (ldO hT (bM .head)) ?_;refine ss (jF rfl rfl rfl (by first | omega | (simp;omega))) ?_;refine sp2 hT ?_;refine nn<|bA<|sr<|sp3 hT ?_;refine nn<|bH rfl (fun hc107=>?_) (fun hc107=>?_)
    · have hc107:=eq_of_beq hc107;refine bE<|sp2 hT ?_;refine nn<|sr<|sp2 hT ?_;refine ss (ldO hT (dX .head)) ?_;refine sp hT ?_;refine bO Tryz.func169 (bDl b r1 r2 (bHi u b) G out.length c _ _ x10.items.list 255 (by omega) hli.2) rfl rfl (.cons kT1 .nil) ⟨(Has.of mT5),(Has.of mT6),(Has.of mT7),(Has.of mT1),(Has.of mT0),trivial⟩ fun _=>?_;refine sp4 hT ?_;refine sp hT ?_;refine nn<|bA<|sr<|sp3 hT ?_;refine cE (fun hg118=>?_) (fun hg118=>?_)
      · have hg118:=gA hg118;refine sk4 ?_;refine sk3 ?_;refine sp2 hT ?_;refine sk4 ?_;refine sk4 ?_;refine sk ?_;refine sp hT ?_;refine nn<|cL rfl rfl ?_;refine sr<|sp hT ?_;refine nn<|bG<|bC<|bI<|bC<|bC<|bI<|bC ?_;have hr:=hR.symm.trans (hinv22.2.1.trans (show fX (P.pr.lines.drop i) out=(out,false) from (by first | exact qT hx0 (by rw [if_pos (by omega)];exact qK (by assumption)) | exact oU hx0 (by omega) (by assumption) hex | exact kU hx0 (by omega) (by first | assumption | (rw [show x10.ln.name=[] from by assumption];exact rX)) hex | exact False.elim (by omega))));subst hr;exact bQ ((_,_),u) rfl (bD rfl) (.cons .head (.cons kT1 .nil)) ⟨Has.pure (hinv22.2.2.1),trivial⟩ rfl
      have hg118:=fM hg118;have hex:=bId (by assumption:(hO (x10.items.list.map ItemV.it) 255).isSome=true);have hexl:=bJl hz hex;refine sp3 hT ?_;refine cE (fun hg121=>?_) (fun hg121=>?_)
      · have hg121:=eq_of_beq hg121;refine sp hT ?_;refine ss (ldO hT (bM kT1)) ?_;refine sp hT ?_;refine cE (fun hg124=>?_) (fun hg124=>?_)
        · have hg124:x10.name=([]:Bs):=eq_of_beq hg124;refine sp hT ?_;refine cI (t':=false) (by decide) ?_;refine sp4 hT ?_;refine sp2 hT ?_;refine cE (fun hg131=>?_) (fun hg131=>?_)
          · have hg131:=of_decide_eq_true hg131;omega
          have hg131:=Int.not_lt.1 (of_decide_eq_false hg131);refine sk4 ?_;refine sp2 hT ?_;refine nn<|cN rfl rfl ?_;refine bK<|bB<|bE<|sp3 hT ?_;refine bO Tryz.func168 (wW b r1 r2 u G c out ([111,117,116,32]:Bs) ((hO (x10.items.list.map ItemV.it) 255).getD []) (by simp;omega)) rfl rfl (.cons .head (.cons kT1 .nil)) trivial fun⟨G13,c14⟩=>?_;refine dR<|bY<|bB<|bE<|sp hT ?_;refine bP (z':=(((i+1):Nat):Int)) (cJ (by omega) (by omega)) ?_;refine sp hT ?_;refine nn ?_;exact cO (i+1,(out++((([111,117,116,32]:Bs)++((hO (x10.items.list.map ItemV.it) 255).getD []))++[10])),true,_,_) (by dsimp only;omega) ⟨rfl,trivial⟩ ⟨rfl,rfl,rfl,rfl,trivial⟩ (.cons .head (.cons .head (.cons kT1 .nil))) ⟨Has.pure (⟨by dsimp only;omega,hinv22.2.1.trans (lines_out hx0 (by omega) (by assumption) hex),fun h=>by simp at h,by simp;omega⟩),trivial⟩ (bF.drop 4)
        have hg124:x10.name≠([]:Bs):=fun h=>absurd (beq_iff_eq.2 h) (by rw [show(x10.name==([]:Bs))=false from hg124];simp);refine sp hT ?_;refine cI (t':=true) (by decide) ?_;refine sp2 hT ?_;refine sk4 ?_;refine sk4 ?_;refine sk ?_;refine sp hT ?_;refine nn<|cL rfl rfl ?_;refine sr<|sp hT ?_;refine nn<|bG<|bC<|bI<|bC<|bC<|bI<|bC ?_;have hr:=hR.symm.trans (hinv22.2.1.trans (show fX (P.pr.lines.drop i) out=(out,false) from (by first | exact qT hx0 (by rw [if_pos (by omega)];exact qK (by assumption)) | exact oU hx0 (by omega) (by assumption) hex | exact kU hx0 (by omega) (by first | assumption | (rw [show x10.ln.name=[] from by assumption];exact rX)) hex | exact False.elim (by omega))));subst hr;exact bQ ((_,_),u) rfl (bD rfl) (.cons .head (.cons kT1 .nil)) ⟨Has.pure (hinv22.2.2.1),trivial⟩ rfl
      have hg121:=beq_eq_false_iff_ne.1 hg121;omega
    have hc107:=beq_eq_false_iff_ne.1 hc107;refine bK<|bB<|sr<|sp2 hT ?_;refine ss (ldO hT (dX .head)) ?_;refine sp hT ?_;refine bO Tryz.func169 (bDl b r1 r2 (bHi u b) G out.length c _ _ x10.items.list 254 (by omega) hli.2) rfl rfl (.cons kT1 .nil) ⟨(Has.of mT5),(Has.of mT6),(Has.of mT7),(Has.of mT1),(Has.of mT0),trivial⟩ fun _=>?_;refine sp4 hT ?_;refine sp hT ?_;refine nn<|bA<|sr<|sp3 hT ?_;refine cE (fun hg118=>?_) (fun hg118=>?_)
    · have hg118:=gA hg118;refine sk4 ?_;refine sk3 ?_;refine sp2 hT ?_;refine sk4 ?_;refine sk4 ?_;refine sk ?_;refine sp hT ?_;refine nn<|cL rfl rfl ?_;refine sr<|sp hT ?_;refine nn<|bG<|bC<|bI<|bC<|bC<|bI<|bC ?_;have hr:=hR.symm.trans (hinv22.2.1.trans (show fX (P.pr.lines.drop i) out=(out,false) from (by first | exact qT hx0 (by rw [if_neg (by omega)];exact qK (by assumption)) | exact oU hx0 (by omega) (by assumption) hex | exact kU hx0 (by omega) (by first | assumption | (rw [show x10.ln.name=[] from by assumption];exact rX)) hex | exact False.elim (by omega))));subst hr;exact bQ ((_,_),u) rfl (bD rfl) (.cons .head (.cons kT1 .nil)) ⟨Has.pure (hinv22.2.2.1),trivial⟩ rfl
    have hg118:=fM hg118;have hex:=bId (by assumption:(hO (x10.items.list.map ItemV.it) 254).isSome=true);have hexl:=bJl hz hex;refine sp3 hT ?_;refine cE (fun hg121=>?_) (fun hg121=>?_)
    · have hg121:=eq_of_beq hg121;omega
    have hg121:=beq_eq_false_iff_ne.1 hg121;refine sp hT ?_;refine ss (ldO hT (bM kT1)) ?_;refine sp hT ?_;refine cE (fun hg124=>?_) (fun hg124=>?_)
    · have hg124:x10.name=([]:Bs):=eq_of_beq hg124;refine sp hT ?_;refine cI (t':=true) (by decide) ?_;refine sp2 hT ?_;refine sk4 ?_;refine sk4 ?_;refine sk ?_;refine sp hT ?_;refine nn<|cL rfl rfl ?_;refine sr<|sp hT ?_;refine nn<|bG<|bC<|bI<|bC<|bC<|bI<|bC ?_;have hr:=hR.symm.trans (hinv22.2.1.trans (show fX (P.pr.lines.drop i) out=(out,false) from (by first | exact qT hx0 (by rw [if_neg (by omega)];exact qK (by assumption)) | exact oU hx0 (by omega) (by assumption) hex | exact kU hx0 (by omega) (by first | assumption | (rw [show x10.ln.name=[] from by assumption];exact rX)) hex | exact False.elim (by omega))));subst hr;exact bQ ((_,_),u) rfl (bD rfl) (.cons .head (.cons kT1 .nil)) ⟨Has.pure (hinv22.2.2.1),trivial⟩ rfl
    have hg124:x10.name≠([]:Bs):=fun h=>absurd (beq_iff_eq.2 h) (by rw [show(x10.name==([]:Bs))=false from hg124];simp);refine sp hT ?_;refine cI (t':=false) (by decide) ?_;refine sp4 hT ?_;refine sp2 hT ?_;refine cE (fun hg131=>?_) (fun hg131=>?_)
    · have hg131:=of_decide_eq_true hg131;refine sp hT ?_;refine ss (ldO hT (bM kT1)) ?_;refine bO Tryz.func76 (lK _ hli.1) rfl rfl .nil ⟨Has.of mT7,trivial⟩ fun _=>?_;refine sp3 hT ?_;refine nn<|bH rfl (fun hc137=>?_) (fun hc137=>?_)
      · have hc137:=gA hc137;refine sr<|sp hT ?_;refine nn<|bG<|bC<|bI<|bC<|bC<|bI<|bC ?_;have hr:=hR.symm.trans (hinv22.2.1.trans (show fX (P.pr.lines.drop i) out=(out,false) from (by first | exact qT hx0 (by rw [if_neg (by omega)];exact qK (by assumption)) | exact oU hx0 (by omega) (by assumption) hex | exact kU hx0 (by omega) (by first | assumption | (rw [show x10.ln.name=[] from by assumption];exact rX)) hex | exact False.elim (by omega))));subst hr;exact bQ ((_,_),u) rfl (bD rfl) (.cons .head (.cons kT1 .nil)) ⟨Has.pure (hinv22.2.2.1),trivial⟩ rfl
      have hc137:=fM hc137;refine bK<|bB ?_;have hnl:=rV (by assumption:fB x10.name=true);refine bE<|sp3 hT ?_;refine bO Tryz.func168 (wW b r1 r2 u G c out (x10.name++([58,32]:Bs)) ((hO (x10.items.list.map ItemV.it) 254).getD []) (by simp;omega)) rfl rfl (.cons .head (.cons kT1 .nil)) trivial fun⟨G15,c16⟩=>?_;refine dR<|bY<|bB<|bE<|sp hT ?_;refine bP (z':=(((i+1):Nat):Int)) (cJ (by omega) (by omega)) ?_;refine sp hT ?_;refine nn ?_;exact cO (i+1,(out++(((x10.name++([58,32]:Bs))++((hO (x10.items.list.map ItemV.it) 254).getD []))++[10])),true,_,_) (by dsimp only;omega) ⟨rfl,trivial⟩ ⟨rfl,rfl,rfl,rfl,trivial⟩ (.cons .head (.cons .head (.cons kT1 .nil))) ⟨Has.pure (⟨by dsimp only;omega,hinv22.2.1.trans (lines_step hx0 (by omega) (by assumption) hex),fun h=>by simp at h,by have:=rV ‹fB x10.name=true›;simp;omega⟩),trivial⟩ (bF.drop 4)
    have hg131:=Int.not_lt.1 (of_decide_eq_false hg131);omega
  have hc98:=Int.not_lt.1 (of_decide_eq_false hc98);refine cW<|cK<|cK<|cX<|bB<|sr<|sp hT ?_;refine nn<|bG ?_;have hr:=hR.symm.trans (hinv22.2.1.trans (bHu (by omega)));subst hr;exact bQ ((_,_),u) rfl (bD rfl) (.cons .head (.cons .head .nil)) ⟨Has.pure (hinv22.2.2.1),trivial⟩ rfl
set_option maxRecDepth 100000 in
theorem bstrN_spec(b r1 r2:Nat)(p:Value)(g c:Nat)(out:Bs)(h0:out≠[])(hc:out.length≤c):dG Tryz.prog 99 [.pointer (some ⟨b,2,none⟩)] [.obj b (.cells [.map (some r1),.map (some r2),p,.slice (some ⟨g,0,none⟩) out.length c].toArray 179),nA.row (.slice (some ⟨g,0,none⟩) out.length c) 5 out] [] (fun(_:Unit)=> .string (bs out)) (fun _=>[]) (fun _=>[]):=by
  have hT:=iJ;refine cQ Tryz.func99 rfl Tryz.ntmps99 rfl ?_;intro β hM;refine sr<|sp hT ?_;refine nn<|bA<|cU _ _ [(true,0),(true,1),(true,2),(true,3),(true,4),(true,5),(true,6),(true,7),(true,8),(true,9),(false,10),(true,11)] cY (by decide+kernel) (.cons .head .nil) bF.self ?_;refine puM hT ?_;refine puM hT ?_;refine puM hT ?_;refine stM rfl (ldO hT (sU .head)) ?_;refine stM rfl (wK rfl rfl (.inr (by have:=List.length_pos_iff.2 h0;omega))) ?_;refine puM hT ?_;refine puM hT ?_;refine puM hT ?_;refine stM rfl (ldO hT (sU .head)) ?_;refine puM hT ?_;refine cB (o:=_) rfl ?_;refine bCl kT1 rfl rfl rfl rfl u8Ptr (by kernel_rfl) rfl rfl rfl h0 ?_;refine cA (.cons .head .nil) trivial ?_;refine puM hT ?_;refine cM<|bB<|bG ?_;exact bQ () rfl (bD rfl) .nil trivial (rfl)
set_option maxRecDepth 100000 in
theorem bstrE_spec(b r1 r2:Nat)(p:Value)(c:Nat):dG Tryz.prog 99 [.pointer (some ⟨b,2,none⟩)] [.obj b (.cells [.map (some r1),.map (some r2),p,.slice none 0 c].toArray 179)] [] (fun(_:Unit)=> .string (bs [])) (fun _=>[]) (fun _=>[]):=by
  have hT:=iJ;refine cQ Tryz.func99 rfl Tryz.ntmps99 rfl ?_;intro β hM;refine sr<|sp hT ?_;refine nn<|bA<|cU _ _ [(true,0),(true,1),(true,2),(true,3),(true,4),(true,5),(true,6),(true,7),(true,8),(true,9),(true,10),(true,11)] cY (by decide+kernel) (.cons .head .nil) bF.self ?_;refine puM hT ?_;refine puM hT ?_;refine puM hT ?_;refine stM rfl (ldO hT (sU .head)) ?_;refine stM rfl (wK rfl rfl (.inl rfl)) ?_;refine puM hT ?_;refine puM hT ?_;refine puM hT ?_;refine stM rfl (ldO hT (sU .head)) ?_;refine puM hT ?_;refine stM rfl (sti_noString rfl rfl rfl) ?_;refine puM hT ?_;refine cM<|bB<|bG ?_;exact bQ () rfl (bD rfl) .nil trivial (rfl)
set_option maxRecDepth 100000 in
theorem swrite_spec(P:ProgV)(hP:qN P)(hl1:P.inputs.list.length≤140737488355328)(hl2:P.lines.list.length≤140737488355328):dG Tryz.prog 54 [.agg #[.slice P.inputs.addr P.inputs.list.length P.inputs.cap,.slice P.lines.addr P.lines.list.length P.lines.cap]] [] [gS,hZ.sl (.slice P.inputs.addr P.inputs.list.length P.inputs.cap) P.inputs.list,gZ P.inputs.list,mD.sl (.slice P.lines.addr P.lines.list.length P.lines.cap) P.lines.list,jV P.lines.list] (fun(_:Unit)=> .tuple #[.string (bs (dZ P.pr).1),.bool (dZ P.pr).2]) (fun _=>[]) (fun _=>[]):=by
  have hT:=iJ;refine cQ Tryz.func54 rfl Tryz.ntmps54 rfl ?_;intro β hM;refine sr<|fH rfl rfl rfl rfl rfl rfl fun b1=>?_;refine sp2 hT ?_;refine nn<|sr<|bO Tryz.func97 (bFw false) rfl rfl .nil ⟨(Has.of mT0),trivial⟩ fun r2=>?_;refine bO Tryz.func97 (bFw true) rfl rfl .nil ⟨(Has.of mT1),trivial⟩ fun r3=>?_;refine ss (cC rfl rfl (shower_built _ _)) ?_;refine fH rfl rfl rfl rfl rfl rfl fun b4=>?_;refine sp hT ?_;refine nn<|sr<|sp hT ?_;refine ss (ldN hT (bM kT1)) ?_;refine dK (t:=5) nA ?_;refine bO Tryz.func98 (bHr b4 r2 r3 P hP hl1 hl2) rfl rfl (.cons kT1 (.cons .head .nil)) ⟨(Has.of mT1),(Has.of mT0),(Has.of mT2),(Has.of mT3),(Has.of mT4),(Has.of mT5),(Has.of mT6),trivial⟩ fun⟨⟨G5,c6⟩,u7⟩=>?_;refine cD (Has.of mT0) fun hemp=>?_;dsimp only at hemp;refine sp hT ?_;refine nn<|bA ?_
  rcases Decidable.em ((dZ P.pr).1=[]) with h0 | h0
  · skip
    refine bE<|sp3 hT ?_;have hg:=hemp h0;subst hg;rw [h0];refine bO Tryz.func99 (bstrE_spec b4 r2 r3 (bHi u7 b4) c6) rfl rfl (.cons .head .nil) trivial fun _=>?_;refine sp3 hT ?_;refine nn<|bG ?_;exact bL () rfl (bD rfl) (bD rfl) .nil trivial (by first | rfl | rw [h0])
  skip
  refine bE<|sp3 hT ?_;refine dV kT1 fun hcap=>?_;refine at_rowg kT1 (List.length_pos_iff.2 h0) fun g hg=>?_;subst hg;refine bO Tryz.func99 (bstrN_spec b4 r2 r3 (bHi u7 b4) g c6 (dZ P.pr).1 h0 hcap) rfl rfl (.cons .head (.cons .head .nil)) trivial fun _=>?_;refine sp3 hT ?_;refine nn<|bG ?_;exact bL () rfl (bD rfl) (bD rfl) .nil trivial (by first | rfl | rw [h0])
set_option maxRecDepth 100000 in
theorem sRight_spec(P:ProgV)(hP:qN P)(hl1:P.inputs.list.length≤140737488355328)(hl2:P.lines.list.length≤140737488355328):dG Tryz.prog 41 [.agg #[.slice P.inputs.addr P.inputs.list.length P.inputs.cap,.slice P.lines.addr P.lines.list.length P.lines.cap]] [] [gS,hZ.sl (.slice P.inputs.addr P.inputs.list.length P.inputs.cap) P.inputs.list,gZ P.inputs.list,mD.sl (.slice P.lines.addr P.lines.list.length P.lines.cap) P.lines.list,jV P.lines.list] (fun(_:Unit)=> .bool (dZ P.pr).2) (fun _=>[]) (fun _=>[]):=by
  have hT:=iJ;refine cQ Tryz.func41 rfl Tryz.ntmps41 rfl ?_;intro β hM;refine sr<|fH rfl rfl rfl rfl rfl rfl fun b1=>?_;refine sp hT ?_;refine nn<|sr<|ss (ldN hT (bM .head)) ?_;refine bO Tryz.func54 (swrite_spec P hP hl1 hl2) rfl rfl .nil ⟨Has.of mT0,Has.of mT1,Has.of mT2,Has.of mT3,Has.of mT4,trivial⟩ fun _=>?_;refine sp4 hT ?_;refine sp hT ?_;refine nn<|sr<|sp2 hT ?_;refine nn<|bG ?_;exact bQ () rfl (bD rfl) .nil trivial (rfl)
end Go.Proofs.YtbgdphbebhjpiaaGreatDoor
namespace Go.Proofs.YtbgdphbebhjpiaaGreatDoor
open Go.RowKit
section
variable {α : Type} {f : α → α → Bool} {x y : α} {i : Nat}
theorem bJc{a b:List α}{k:Nat}(h:a.take k=b.take k)(hx:a[k]?=some x)(hy:b[k]?=some y)(e:x=y):a.take (k+1)=b.take (k+1):=by
  subst e;rw [List.take_add_one,List.take_add_one,h,hx,hy]
theorem take_all{a b:List α}{k:Nat}(h:a.take k=b.take k)(ha:a.length≤k)(hb:b.length≤k):a=b:=by
  rw [List.take_of_length_le ha,List.take_of_length_le hb] at h;exact h
theorem not_take{a b:List α}{k:Nat}(hx:a[k]?=some x)(hy:b[k]?=some y)(e:x≠y):a≠b:=by
  rintro rfl;rw [hx] at hy;exact e (Option.some.inj hy)
end
end Go.Proofs.YtbgdphbebhjpiaaGreatDoor
namespace Go.Proofs.YtbgdphbebhjpiaaGreatDoor
open Go.RowKit
theorem step_bound{st st':List gF}{x:fC}(h:iP st x=some st'):x.name.length≤16∧x.nums.length≤256:=by
  unfold iP at h;split at h
  · unfold operandS at h;split at h
    · split at h
      · rename_i hb;rw [hb.2.1];exact⟨(wA hb.2.2).len,by simp⟩
      · simp at h
    · split at h
      · simp at h
      · rename_i hb;simp only [not_or,ne_eq,Classical.not_not,Nat.not_lt] at hb;rw [hb.2.1];exact⟨by simp,hb.2.2.2⟩
  · split at h
    · cases h
    · rename_i hb;simp only [not_or,ne_eq,Classical.not_not] at hb;rw [hb.2.2.1,hb.2.2.2.1];exact⟨by simp,by simp⟩
theorem bBg: ∀{l:List fC} {st st':List gF},gC l st=some st'→ ∀x∈l,x.name.length≤16∧x.nums.length≤256
  | [],_,_,_,x,hx=>by simp at hx
  | y::l,st,st',h,x,hx=>by
    rw [gC] at h
    cases h1:iP st y with
    | none=>rw [h1] at h;cases h
    | some s1=>
      rw [h1] at h
      rcases List.mem_cons.1 hx with rfl | hx
      · exact step_bound h1
      · exact bBg h x hx
theorem bGu{l:List fC}{m:Nat}{t:Bs}(h:hO l m=some t):l.length≤m∧ ∀x∈l,x.name.length≤16∧x.nums.length≤256:=by
  unfold hO at h;split at h
  · cases h
  · rename_i hl;split at h
    · rename_i hq;exact⟨by omega,bBg hq⟩
    · cases h
theorem uR: ∀{ds:List nI} {acc t:Bs},kP ds acc=some t→ ∀d∈ds,d.name.length≤16
  | [],_,_,_,d,hd=>by simp at hd
  | e::ds,acc,t,h,d,hd=>by
    rw [kP] at h;split at h
    · rename_i he
      rcases List.mem_cons.1 hd with rfl | hd
      · rw [he];simp
      · exact uR h d hd
    · split at h
      · rename_i hb
        rcases List.mem_cons.1 hd with rfl | hd
        · exact(wA hb.2).len
        · exact uR h d hd
      · cases h
theorem yU: ∀{xs:List gE} {o o':Bs},nV xs o=(o',true)→ ∀x∈xs,x.name.length≤16∧x.sides.length≤4∧ ∀d∈x.sides,d.name.length≤16
  | [],_,_,_,x,hx=>by simp at hx
  | y::xs,o,o',h,x,hx=>by
    rw [nV] at h
    cases hi:pK y with
    | none=>rw [hi] at h;simp at h
    | some t=>
      rw [hi] at h;simp only at h
      rcases List.mem_cons.1 hx with rfl | hx
      · unfold pK at hi;split at hi
        · cases hi
        · rename_i hb;simp only [not_or,Bool.not_eq_false,Nat.not_lt] at hb;exact⟨(wA hb.1).len,hb.2,uR hi⟩
      · exact yU h x hx
theorem bCc: ∀{ls:List rP} {o o':Bs},fX ls o=(o',true)→ ∀l∈ls,l.name.length≤16∧l.items.length≤255∧ ∀x∈l.items,x.name.length≤16∧x.nums.length≤256
  | [],_,_,_,l,hl=>by simp at hl
  | [m],o,o',h,l,hl=>by
    rw [List.mem_singleton.1 hl];simp only [fX] at h
    cases hx:hO m.items 255 with
    | none=>rw [hx] at h;simp at h
    | some t=>
      rw [hx] at h;simp only at h;split at h
      · simp at h
      · rename_i hn;simp only [ne_eq,Classical.not_not] at hn;obtain⟨a,b⟩:=bGu hx;exact⟨by rw [hn];simp,a,b⟩
  | m::n::ls,o,o',h,l,hl=>by
    have h':(match hO m.items 254 with
        | none=>(o,false)
        | some t=>if fB m.name=false then (o,false) else fX (n::ls) (o++(((m.name++[58,32])++t)++[10])))=(o',true):=h
    cases hx:hO m.items 254 with
    | none=>rw [hx] at h';simp at h'
    | some t=>
      rw [hx] at h';simp only at h';split at h'
      · simp at h'
      · rename_i hb;simp only [Bool.not_eq_false] at hb
        rcases List.mem_cons.1 hl with rfl | hl
        · obtain⟨a,b⟩:=bGu hx;exact⟨(wA hb).len,by omega,b⟩
        · exact bCc h' l hl
structure Fine (p:iF):Prop where
  ins:p.inputs.length≤64
  lns:p.lines.length≤64
  input: ∀x∈p.inputs,x.name.length≤16∧x.sides.length≤4∧ ∀d∈x.sides,d.name.length≤16
  line: ∀l∈p.lines,l.name.length≤16∧l.items.length≤255∧ ∀x∈l.items,x.name.length≤16∧x.nums.length≤256
theorem fine_of{p:iF}(h:(dZ p).2=true):Fine p:=by
  unfold dZ at h;split at h
  · cases h
  · rename_i hb;simp only [not_or,Nat.not_lt] at hb
    cases hi:nV p.inputs [] with
    | mk o b=>
      rw [hi] at h
      cases b with
      | false=>cases h
      | true=>
        simp only at h;exact⟨by omega,by omega,yU hi,bCc (o':=(fX p.lines o).1) (Prod.ext rfl h)⟩
section
variable {x : ProgV}
theorem yB{y:InputV}(h:y∈x.inputs.list):y.inp∈x.pr.inputs:=List.mem_map.2 ⟨y,h,rfl⟩
theorem mem_ln{y:LineV}(h:y∈x.lines.list):y.ln∈x.pr.lines:=List.mem_map.2 ⟨y,h,rfl⟩
theorem mem_sd{y:InputV}{d:iG}(h:d∈y.sides.list):d.sd∈y.inp.sides:=List.mem_map.2 ⟨d,h,rfl⟩
theorem mem_it{y:LineV}{d:ItemV}(h:d∈y.items.list):d.it∈y.ln.items:=List.mem_map.2 ⟨d,h,rfl⟩
theorem Fine.ok(h:Fine x.pr)(hr:RngP x.pr):qN x∧x.inputs.list.length≤140737488355328∧x.lines.list.length≤140737488355328:=by
  have e1:x.pr.inputs.length=x.inputs.list.length:=List.length_map _;have e2:x.pr.lines.length=x.lines.list.length:=List.length_map _;have h1:=h.ins;have h2:=h.lns;refine⟨⟨fun y hy=>?_,fun y hy=>?_⟩,by omega,by omega⟩
  · obtain⟨a,b,c⟩:=h.input _ (yB hy);refine⟨Nat.le_trans a (by decide),fun d hd=>⟨Nat.le_trans (c _ (mem_sd hd)) (by decide),?_⟩⟩;exact hr.ins _ (yB hy) _ (mem_sd hd)
  · obtain⟨a,b,c⟩:=h.line _ (mem_ln hy);refine⟨Nat.le_trans a (by decide),fun d hd=>⟨Nat.le_trans (c _ (mem_it hd)).1 (by decide),?_⟩⟩;exact hr.lns _ (mem_ln hy) _ (mem_it hd)
end
end Go.Proofs.YtbgdphbebhjpiaaGreatDoor
namespace Go.Proofs.YtbgdphbebhjpiaaGreatDoor
open Go.RowKit
abbrev w64(z:Int):Int:=IntKind.i64.wrap z
def fU (f:Int)(two:Bool):Bool:=if f<1∨17<f then false else if f=16 then !two else two || decide (f≤7)
def sH (a b:Int):Int:=if a.tmod b≠0∧decide (a.tmod b<0)≠decide (b<0) then w64 (a.tmod b+b) else a.tmod b
def sZ (b:Bool):Int:=if b then 1 else 0
def big1 (a:Int):Bool:=decide (1<IntKind.u64.wrap a)
def gH (f a b:Int):Bool:=if f=4 then b==0 else if f=17 then decide (b<0) else if f=14∨f=15 then big1 a || big1 b else false
def jY:Nat→Int→Int→Nat→Int
  | 0,p,_,_=>p
  | k+1,p,a,n=>if n=0 then p else jY k (if n%2=1 then w64 (p*a) else p) (w64 (a*a)) (n/2)
def yL (a n:Int):Int:=jY (n.toNat+1) 1 a n.toNat
def sS (f a b:Int):Bool:=if f=8 then a==b else if f=9 then a !=b else if f=10 then decide (a<b) else if f=11 then decide (a≤b) else if f=12 then decide (b≤a) else decide (b<a)
def andW (a b:Int):Int:=w64 ((BitVec.ofInt 64 a&&&BitVec.ofInt 64 b).toNat:Nat)
def orW (a b:Int):Int:=w64 ((BitVec.ofInt 64 a ||| BitVec.ofInt 64 b).toNat:Nat)
def xorW (a b:Int):Int:=w64 ((BitVec.ofInt 64 a^^^BitVec.ofInt 64 b).toNat:Nat)
def divW (a b:Int):Int:=if sH a b≠a.tmod b then w64 (w64 (a.tdiv b)-1) else w64 (a.tdiv b)
def minW (a b:Int):Int:=if b<a then b else a
def maxW (a b:Int):Int:=if b>a then b else a
def pQ (f a b:Int):Int:=
  if f=1 then w64 (a+b) else if f=2 then w64 (a-b) else if f=3 then w64 (a*b) else if f=4 then divW a b else if f=5 then (if a=0 then b else sH b a)
  else if f=6 then minW a b else if f=7 then maxW a b else if f=14 then andW a b else if f=15 then orW a b else if f=17 then yL a b else sZ (sS f a b)
def nW (f a b:Int):Int×Int:=if fU f true=false then (0,10) else if gH f a b=true then (0,11) else (pQ f a b,0)
def gM (f a:Int):Int×Int:=
  if fU f false=false then (0,10) else if f=2 then (w64 (0-a),0) else if f=3 then (w64 (sZ (decide (0<a))-sZ (decide (a<0))),0) else if f=4 then nW f 1 a
  else if f=5 then (maxW a (w64 (0-a)),0) else if f=16 then (if big1 a=true then (0,11) else (xorW a 1,0)) else (a,0)
def oZ (f:Int):Int×Bool:=
  if f=6 then (9223372036854775807,true) else if f=7 then (-9223372036854775808,true) else if f=3∨f=4∨f=8∨f=11∨f=12∨f=14∨f=17 then (1,true) else (0,fU f true)
end Go.Proofs.YtbgdphbebhjpiaaGreatDoor
namespace Go.Proofs.YtbgdphbebhjpiaaGreatDoor
open Go.RowKit
structure Arr where
  sides:List Int
  data:List Int
  deriving Inhabited,DecidableEq
def lE:Arr:=⟨[],[]⟩
def lG (s:Int):Bool:=decide (s<0) || decide (65536<s)
def jN:List Int→Int→Int×Int
  | [],n=>(n,0)
  | s::r,n=>if 65536<w64 (n*s) then (0,61) else jN r (w64 (n*s))
def dT (s:List Int):Int×Int:=if 4<s.length∨s.any lG=true then (0,61) else if s.contains 0=true then (0,0) else jN s 1
def cP (a:Arr):Bool:=(dT a.sides).2==0&&(dT a.sides).1==(a.data.length:Int)
def mH:List Int→List Int→Int→Int×Int
  | s::sides,k::index,n=>if k<0∨s≤k then (0,62) else mH sides index (w64 (w64 (n*s)+k))
  | _,_,n=>(n,0)
def lT (sides index:List Int):Int×Int:=if (dT sides).2≠0 then (0,(dT sides).2) else if index.length≠sides.length then (0,62) else mH sides index 0
def mK:List Int→Int→List Int
  | [],_=>[]
  | s::r,p=>p.tmod s::mK r (w64 (p.tdiv s))
def iL (sides:List Int)(place:Int):List Int×Int:=
  if (dT sides).2≠0 then ([],(dT sides).2) else if place<0∨(dT sides).1≤place then ([],62) else ((mK sides.reverse place).reverse,0)
def lV:Nat→Nat→List Int→List (List Int)
  | 0,_,_=>[]
  | _+1,_,[]=>[]
  | f+1,m,l=>l.take m::lV f m (l.drop m)
def lastA (a:Arr):Nat:=match a.sides.getLast? with
  | none=>1
  | some s=>s.toNat
def fD (a:Arr):List (List Int)×Int:=if cP a=false then ([],60) else (lV a.data.length (lastA a) a.data,0)
abbrev bCo:=Arr×Int
def gD (e:Int):bCo:=(lE,e)
def gB (f wrong a b:Int):Int×Int:=((nW f a b).1,if (nW f a b).2≠0 then (nW f a b).2 else wrong)
def nT (f:Int):List (Int×Int)→Int→List Int×Int
  | [],w=>([],w)
  | (a,b)::r,w=>((gB f w a b).1::(nT f r (gB f w a b).2).1,(nT f r (gB f w a b).2).2)
def nK (sides:List Int)(r:List Int×Int):bCo:=if r.2≠0 then gD r.2 else (⟨sides,r.1⟩,0)
def tU (a:Arr):bCo:=
  if a.sides≠[] then gD 71 else if lG (a.data.headD 0)=true then gD 73 else (⟨[a.data.headD 0],(List.range (a.data.headD 0).toNat).map fun i:Nat=>(i:Int)⟩,0)
def atI (l:List Int)(k:Int):Int:=l.getD k.toNat 0
def bJq (a:Arr):Arr:=⟨a.sides.reverse,(List.range a.data.length).map fun i:Nat=>atI a.data (lT a.sides (iL a.sides.reverse (i:Nat)).1.reverse).1⟩
def mapM (f:Int):List Int→List Int×Int
  | []=>([],0)
  | n::r=>if (gM f n).2≠0 then ([],(gM f n).2) else if (mapM f r).2≠0 then ([],(mapM f r).2) else ((gM f n).1::(mapM f r).1,0)
def gY (f:Int)(a:Arr):bCo:=
  if cP a=false then gD 60
  else if f=32 then tU a
  else if f=33 then (⟨[(a.sides.length:Int)],a.sides⟩,0)
  else if f=34 then (⟨[(a.data.length:Int)],a.data⟩,0)
  else if f=35 then (⟨a.sides,((fD a).1.map List.reverse).flatten⟩,0)
  else if f=36 then (bJq a,0)
  else if fU f false=false then gD 70
  else if (mapM f a.data).2≠0 then gD (mapM f a.data).2 else (⟨a.sides,(mapM f a.data).1⟩,0)
def rF (l:List Int)(n:Nat):List Int:=(List.range n).map fun i=>l.getD (i%l.length) 0
def uB (a b:Arr):bCo:=
  if 1<a.sides.length then gD 71
  else if 4<a.data.length∨a.data.any lG=true then gD 73
  else if (dT a.data).2≠0 then gD 74
  else if 0<(dT a.data).1∧b.data=[] then gD 72
  else (⟨a.data,rF b.data (dT a.data).1.toNat⟩,0)
def qO (a b:Arr)(take:Bool):bCo:=
  let n:=a.data.headD 0
  let all:=b.sides.headD 0
  if a.sides≠[]∨b.sides=[] then gD 71
  else if all<n∨n<w64 (0-all) then gD 73
  else
    let ft:Int×Int:=if take then (if n<0 then (all+n,all) else (0,n)) else if 0≤n then (n,all) else (0,all+n)
    let sides:=(ft.2-ft.1)::b.sides.tail
    if all=0 then (⟨sides,[]⟩,0)
    else
      let cell:=b.data.length/all.toNat
      (⟨sides,(b.data.drop (ft.1.toNat*cell)).take (ft.2.toNat*cell-ft.1.toNat*cell)⟩,0)
def sidedA(s:List Int):List Int:=if s=[] then [1] else s
def zH (a b:Arr):bCo:=
  let s:=sidedA a.sides
  let t:=sidedA b.sides
  if s.length≠t.length∨s.tail≠t.tail then gD 72
  else
    let sides:=(s.headD 0+t.headD 0)::s.tail
    if (dT sides).2≠0 then gD 74 else (⟨sides,a.data++b.data⟩,0)
def iO (f:Int)(a b:Arr):bCo:=
  if cP a=false∨cP b=false then gD 60
  else if f=37 then uB a b
  else if f=38∨f=39 then qO a b (f==38)
  else if f=40 then zH a b
  else if fU f true=false then gD 70
  else if a.sides=b.sides then nK a.sides (nT f (a.data.zip b.data) 0)
  else if a.sides=[] then nK b.sides (nT f (b.data.map fun n=>(a.data.headD 0,n)) 0)
  else if b.sides=[] then nK a.sides (nT f (a.data.map fun n=>(n,b.data.headD 0)) 0)
  else gD 72
def xT (f:Int):List Int→Int→Int→Int×Int
  | [],n,w=>(n,w)
  | x::r,n,w=>xT f r (gB f w n x).1 (gB f w n x).2
def pJ (f:Int):List (List Int)→Int→List Int×Int
  | [],w=>([],w)
  | l::r,w=>((xT f l.tail (l.headD 0) w).1::(pJ f r (xT f l.tail (l.headD 0) w).2).1,(pJ f r (xT f l.tail (l.headD 0) w).2).2)
def lQ (f:Int)(a:Arr):bCo:=
  if cP a=false then gD 60
  else if fU f true=false then gD 70
  else if a.sides=[] then (⟨[],a.data⟩,0)
  else if (dT a.sides.dropLast).2≠0 then gD 74
  else if a.sides.getLastD 0=0 then (⟨a.sides.dropLast,List.replicate (dT a.sides.dropLast).1.toNat (oZ f).1⟩,0)
  else nK a.sides.dropLast (pJ f (fD a).1 0)
def nX (f:Int):List Int→Int→Int→List Int×Int
  | [],_,w=>([],w)
  | x::r,n,w=>((gB f w n x).1::(nX f r (gB f w n x).1 (gB f w n x).2).1,(nX f r (gB f w n x).1 (gB f w n x).2).2)
def nU (f:Int):List (List Int)→Int→List (List Int)×Int
  | [],w=>([],w)
  | l::r,w=>((l.headD 0::(nX f l.tail (l.headD 0) w).1)::(nU f r (nX f l.tail (l.headD 0) w).2).1,(nU f r (nX f l.tail (l.headD 0) w).2).2)
def pN (f:Int)(a:Arr):bCo:=
  if cP a=false then gD 60
  else if fU f true=false then gD 70
  else nK a.sides ((nU f (fD a).1 0).1.flatten,(nU f (fD a).1 0).2)
def pairsOf(a b:List Int):List (Int×Int):=a.flatMap fun x=>b.map fun y=>(x,y)
def jI (f:Int)(a b:Arr):bCo:=
  if cP a=false∨cP b=false then gD 60
  else if fU f true=false then gD 70
  else if 4<(a.sides++b.sides).length then gD 71
  else if (dT (a.sides++b.sides)).2≠0 then gD 74
  else nK (a.sides++b.sides) (nT f (pairsOf a.data b.data) 0)
end Go.Proofs.YtbgdphbebhjpiaaGreatDoor
namespace Go.Proofs.YtbgdphbebhjpiaaGreatDoor
open Go.RowKit
theorem uK{z:Int}(h0: -9223372036854775808≤z)(h1:z≤9223372036854775807):w64 z=z:=by
  simp only [IntKind.wrap,IntKind.signed,IntKind.bits];simp;omega
def dH:List Int→Int
  | []=>1
  | s::r=>s*dH r
theorem lO: ∀{l:List Int},(∀x∈l,0≤x)→0≤dH l
  | [],_=>by decide
  | s::r,h=>Int.mul_nonneg (h s (by simp)) (lO fun x hx=>h x (by simp [hx]))
theorem wT: ∀{l:List Int},(0:Int)∈l→dH l=0
  | [],h=>by simp at h
  | s::r,h=>by
    rcases List.mem_cons.1 h with rfl | h
    · simp [dH]
    · rw [dH,wT h,Int.mul_zero]
theorem lF: ∀(a b:List Int),dH (a++b)=dH a*dH b
  | [],b=>by simp [dH]
  | s::a,b=>by rw [List.cons_append,dH,dH,lF a b,Int.mul_assoc]
theorem kI: ∀(a:List Int),dH a.reverse=dH a
  | []=>rfl
  | s::a=>by
    rw [List.reverse_cons,lF,kI a,dH,dH,dH,Int.mul_one,Int.mul_comm]
theorem bKb: ∀{l:List Int} {n m e:Int},(∀x∈l,0≤x∧x≤65536)→0≤n→n≤65536→jN l n=(m,e)→e=0→m=n*dH l∧m≤65536
  | [],n,m,e,_,_,h1,h,_=>by
    cases h;simp [dH,h1]
  | s::r,n,m,e,hl,h0,h1,h,he=>by
    obtain⟨s0,s1⟩:=hl s (by simp);have hb:0≤n*s:=Int.mul_nonneg h0 s0;have hc:n*s≤65536*65536:=Int.mul_le_mul h1 s1 s0 (by decide);have hw:w64 (n*s)=n*s:=uK (by omega) (by omega);rw [jN,hw] at h;split at h
    · cases h;cases he
    · obtain⟨a,b⟩:=bKb (fun x hx=>hl x (by simp [hx])) hb (by omega) h he;exact⟨by rw [a,dH,Int.mul_assoc],b⟩
structure lH (s:List Int):Prop where
  len:s.length≤4
  rng: ∀x∈s,0≤x∧x≤65536
  prod:0≤dH s∧dH s≤65536
theorem badN_no{x:Int}(h:lG x=false):0≤x∧x≤65536:=by
  simp only [lG,Bool.or_eq_false_iff,decide_eq_false_iff_not] at h;omega
theorem badN_of{x:Int}(h:0≤x∧x≤65536):lG x=false:=by
  simp only [lG,Bool.or_eq_false_iff,decide_eq_false_iff_not];omega
theorem tG{s:List Int}(h:(dT s).2=0):lH s∧(dT s).1=dH s:=by
  unfold dT at h⊢;split at h
  · cases h
  · rename_i hb;rw [if_neg hb];simp only [not_or,Nat.not_lt,Bool.not_eq_true,List.any_eq_false] at hb;have hr: ∀x∈s,0≤x∧x≤65536:=fun x hx=>badN_no (by simpa using hb.2 x hx);have hnn:0≤dH s:=lO fun x hx=>(hr x hx).1;split at h
    · rename_i h0;rw [if_pos h0];have h0':(0:Int)∈s:=by simpa using h0
      have hz:=wT h0';exact⟨⟨hb.1,hr,by omega⟩,hz.symm⟩
    · rename_i h0;rw [if_neg h0];obtain⟨a,b⟩:=bKb hr (by decide) (by decide) (m:=(jN s 1).1) (e:=(jN s 1).2) rfl h;rw [Int.one_mul] at a;exact⟨⟨hb.1,hr,by omega⟩,a⟩
theorem bJo: ∀{l:List Int} {n:Int},(∀x∈l,1≤x∧x≤65536)→1≤n→n*dH l≤65536→jN l n=(n*dH l,0)
  | [],n,_,_,_=>by simp [jN,dH]
  | s::r,n,hl,h0,h=>by
    obtain⟨s0,s1⟩:=hl s (by simp);have hp:1≤dH r:=prodL_pos fun x hx=>(hl x (by simp [hx])).1
    have hb:1≤n*s:=by
      have:=Int.mul_le_mul h0 s0 (by decide) (by omega);omega
    have hc:n*s≤n*s*dH r:=by
      have:=Int.mul_le_mul_of_nonneg_left hp (show 0≤n*s by omega);omega
    rw [dH,←Int.mul_assoc] at h⊢;have hw:w64 (n*s)=n*s:=uK (by omega) (by omega);rw [jN,hw,if_neg (by omega),bJo (fun x hx=>hl x (by simp [hx])) hb h]
where
  prodL_pos: ∀{l:List Int},(∀x∈l,1≤x)→1≤dH l
    | [],_=>by decide
    | s::r,h=>by
      have h1:=h s (by simp);have h2:=prodL_pos (l:=r) fun x hx=>h x (by simp [hx]);have:=Int.mul_le_mul h1 h2 (by decide) (by omega);rw [dH];omega
theorem size_of{s:List Int}(h:lH s):dT s=(dH s,0):=by
  unfold dT;rw [if_neg]
  · split
    · rename_i h0;have h0':(0:Int)∈s:=by simpa using h0
      rw [wT h0']
    · rename_i h0
      have h1: ∀x∈s,1≤x∧x≤65536:=fun x hx=>by
        obtain⟨a,b⟩:=h.rng x hx;have:x≠0:=fun e=>h0 (by simpa [e] using hx);omega
      have:=bJo h1 (show(1:Int)≤1 by decide) (by rw [Int.one_mul];exact h.prod.2);rw [this,Int.one_mul]
  · rintro(h' | h')
    · have:=h.len;omega
    · simp only [List.any_eq_true] at h';obtain⟨x,hx,hb⟩:=h';rw [badN_of (h.rng x hx)] at hb;cases hb
theorem fP{a:Arr}:cP a=true↔lH a.sides∧dH a.sides=a.data.length:=by
  unfold cP;simp only [Bool.and_eq_true,beq_iff_eq];constructor
  · rintro⟨h1,h2⟩;obtain⟨a1,a2⟩:=tG h1;exact⟨a1,by rw [←a2,h2]⟩
  · rintro⟨h1,h2⟩;rw [size_of h1];exact⟨rfl,h2⟩
theorem lH.reverse{s:List Int}(h:lH s):lH s.reverse:=⟨by simpa using h.len,fun x hx=>h.rng x (by simpa using hx),by rw [kI];exact h.prod⟩
inductive lB:List Int→List Int→Prop
  | nil:lB [] []
  | cons {s k sides index}:0≤k→k<s→lB sides index→lB (s::sides) (k::index)
theorem lB.len{s k:List Int}(h:lB s k):k.length=s.length:=by induction h<;>simp_all
theorem lB.append{a b c d:List Int}(h:lB a b)(k:lB c d):lB (a++c) (b++d):=by
  induction h with
  | nil=>exact k
  | cons h0 h1 _ ih=>exact .cons h0 h1 ih
theorem lB.reverse{s k:List Int}(h:lB s k):lB s.reverse k.reverse:=by
  induction h with
  | nil=>exact .nil
  | cons h0 h1 _ ih=>
    rw [List.reverse_cons,List.reverse_cons];exact ih.append (.cons h0 h1 .nil)
theorem prod_div{s p:Int}{r:Int}(hs:0<s)(h0:0≤p)(h:p<s*r):0≤p.tdiv s∧p.tdiv s<r∧0≤p.tmod s∧p.tmod s<s:=by
  rw [Int.tdiv_eq_ediv_of_nonneg h0,Int.tmod_eq_emod_of_nonneg h0];refine⟨Int.ediv_nonneg h0 (by omega),Int.ediv_lt_of_lt_mul hs (by rw [Int.mul_comm];exact h),Int.emod_nonneg _ (by omega),Int.emod_lt_of_pos _ hs⟩
theorem uE: ∀{s:List Int} {p:Int},(∀x∈s,0≤x∧x≤65536)→0≤p→p<dH s→p≤65536→lB s (mK s p)
  | [],p,_,_,_,_=> .nil
  | s::r,p,hl,h0,h,h1=>by
    obtain⟨s0,s1⟩:=hl s (by simp)
    have hs:0<s:=by
      rcases Int.lt_or_le 0 s with h' | h'
      · exact h'
      · have:s=0:=by omega
        subst this;simp [dH] at h;omega
    obtain⟨d0,d1,m0,m1⟩:=prod_div hs h0 h
    have hle:p.tdiv s≤p:=by
      rw [Int.tdiv_eq_ediv_of_nonneg h0];exact Int.ediv_le_self _ h0
    have hw:w64 (p.tdiv s)=p.tdiv s:=uK (by omega) (by omega);rw [mK,hw];exact .cons m0 m1 (uE (fun x hx=>hl x (by simp [hx])) d0 d1 (by omega))
theorem vE: ∀{s k:List Int},lB s k→(∀x∈s,0≤x∧x≤65536)→ ∀{n:Int},0≤n→(n+1)*dH s≤65536→ ∃m,mH s k n=(m,0)∧0≤m∧m<(n+1)*dH s
  | _,_,.nil,_,n,h0,h1=>⟨n,rfl,h0,by simp [dH];omega⟩
  | _,_,.cons (s:=s) (k:=k) (sides:=sides) (index:=index) k0 k1 hw,hl,n,h0,h1=>by
    obtain⟨s0,s1⟩:=hl s (by simp);have hnn:0≤dH sides:=lO fun x hx=>(hl x (by simp [hx])).1;rw [dH,←Int.mul_assoc] at h1⊢;have e1:(n+1)*s=n*s+s:=by rw [Int.add_mul,Int.one_mul]
    have hns:0≤n*s:=Int.mul_nonneg h0 s0
    rcases Int.lt_or_le 0 (dH sides) with hp | hp
    · have hle:(n+1)*s≤(n+1)*s*dH sides:=by
        have:=Int.mul_le_mul_of_nonneg_left (show(1:Int)≤dH sides by omega) (show 0≤(n+1)*s by omega);omega
      have w1:w64 (n*s)=n*s:=uK (by omega) (by omega);have w2:w64 (n*s+k)=n*s+k:=uK (by omega) (by omega);have hm:(n*s+k+1)*dH sides≤(n+1)*s*dH sides:=Int.mul_le_mul_of_nonneg_right (by omega) hnn;obtain⟨m,a,b,c⟩:=vE hw (fun x hx=>hl x (by simp [hx])) (n:=n*s+k) (by omega) (by omega);refine⟨m,?_,b,by omega⟩;rw [mH,if_neg (by omega),w1,w2];exact a
    · exfalso
      have: ∀{a b:List Int},lB a b→(∀x∈a,0≤x∧x≤65536)→0<dH a:=by
        intro a b h
        induction h with
        | nil=>intro _;decide
        | cons q0 q1 _ ih=>
          intro hl;rw [dH];exact Int.mul_pos (by omega) (ih fun x hx=>hl x (by simp [hx]))
      have:=this hw fun x hx=>hl x (by simp [hx]);omega
theorem place_within{s k:List Int}(hs:lH s)(h:lB s k): ∃m,lT s k=(m,0)∧0≤m∧m<dH s:=by
  obtain⟨m,a,b,c⟩:=vE h hs.rng (n:=0) (by decide) (by have:=hs.prod;omega);refine⟨m,?_,b,by omega⟩;unfold lT;rw [size_of hs,if_neg (by simp),if_neg (by rw [h.len];simp)];exact a
theorem zA{s:List Int}(hs:lH s){p:Int}(h0:0≤p)(h1:p<dH s):(iL s p).2=0∧lB s (iL s p).1:=by
  unfold iL;rw [size_of hs,if_neg (by simp),if_neg (by simp only;omega)];refine⟨rfl,?_⟩;have:=(uE hs.reverse.rng h0 (by rw [kI];exact h1) (by have:=hs.prod;omega)).reverse;rw [List.reverse_reverse] at this;exact this
theorem turn_place{a:Arr}(h:cP a=true){i:Nat}(hi:i<a.data.length): ∃m,lT a.sides (iL a.sides.reverse (i:Nat)).1.reverse=(m,0)∧0≤m∧m<a.data.length:=by
  obtain⟨hs,hp⟩:=fP.1 h;have hw:=(zA hs.reverse (p:=(i:Nat)) (by omega) (by rw [kI,hp];omega)).2.reverse;rw [List.reverse_reverse] at hw;obtain⟨m,x,y,z⟩:=place_within hs hw;exact⟨m,x,y,by omega⟩
end Go.Proofs.YtbgdphbebhjpiaaGreatDoor
namespace Go.Proofs.YtbgdphbebhjpiaaGreatDoor
open Go.RowKit
theorem bCj(f m:Nat)(x:Int)(l:List Int):lV (f+1) m (x::l)=(x::l).take m::lV f m ((x::l).drop m):=rfl
theorem bBk: ∀(f m:Nat) (l:List Int),0<m→l.length≤f→(lV f m l).flatten=l
  | 0,_,l,_,h=>by
    have:l=[]:=List.eq_nil_of_length_eq_zero (by omega);subst this;rfl
  | f+1,m,[],_,_=>rfl
  | f+1,m,x::l,hm,h=>by
    rw [bCj,List.flatten_cons,bBk f m _ hm (by rw [List.length_drop];simp only [List.length_cons] at h⊢;omega),List.take_append_drop]
theorem bFt: ∀(f m k:Nat) (l:List Int),0<m→l.length≤f→l.length=k*m→(lV f m l).length=k∧ ∀c∈lV f m l,c.length=m
  | 0,m,k,l,hm,h,hk=>by
    have hl:l.length=0:=by omega
    have:k=0:=by
      rw [hl] at hk
      rcases Nat.mul_eq_zero.1 hk.symm with h | h<;>omega
    subst this;exact⟨rfl,fun c hc=>by simp [lV] at hc⟩
  | f+1,m,k,[],hm,_,hk=>by
    have:k=0:=by
      rcases Nat.mul_eq_zero.1 (show k*m=0 from hk.symm) with h | h<;>omega
    subst this;exact⟨rfl,fun c hc=>by simp [lV] at hc⟩
  | f+1,m,k,x::l,hm,h,hk=>by
    have hk0:0<k:=by
      rcases Nat.eq_zero_or_pos k with h0 | h0
      · subst h0;simp at hk
      · exact h0
    obtain⟨j,rfl⟩: ∃j,k=j+1:=⟨k-1,by omega⟩
    have hd:((x::l).drop m).length=j*m:=by
      rw [List.length_drop,hk,Nat.add_mul,Nat.one_mul];omega
    obtain⟨a,b⟩:=bFt f m j ((x::l).drop m) hm (by rw [List.length_drop];simp only [List.length_cons] at h⊢;omega) hd;rw [bCj];refine⟨by rw [List.length_cons,a],fun c hc=>?_⟩
    rcases List.mem_cons.1 hc with rfl | hc
    · rw [List.length_take,hk,Nat.add_mul,Nat.one_mul];omega
    · exact b c hc
theorem last_of{l:List Int}(h:l≠[]): ∃r x,l=r++[x]∧l.dropLast=r∧l.getLastD 0=x∧l.getLast?=some x:=by
  refine⟨l.dropLast,l.getLast h,(List.dropLast_concat_getLast h).symm,rfl,?_,List.getLast?_eq_some_getLast h⟩;rw [List.getLastD_eq_getLast?,List.getLast?_eq_some_getLast h];rfl
theorem qF{a:Arr}(h:cP a=true):(fD a).2=0∧(a.data≠[]→0<lastA a)∧(fD a).1.flatten=a.data∧(∀c∈(fD a).1,c.length=lastA a)∧(fD a).1.length*lastA a=a.data.length∧(a.sides≠[]→a.data≠[]→((fD a).1.length:Int)=dH a.sides.dropLast):=by
  obtain⟨hs,hp⟩:=fP.1 h;unfold fD;rw [h,if_neg (by simp)]
  by_cases hd:a.data=[]
  · simp [hd,lV]
  · have hlen:0<a.data.length:=List.length_pos_iff.2 hd
    have key: ∃k:Nat,0<lastA a∧a.data.length=k*lastA a∧(a.sides≠[]→(k:Int)=dH a.sides.dropLast):=by
      by_cases h0:a.sides=[]
      · refine⟨1,?_,?_,fun h=>absurd h0 h⟩
        · unfold lastA;rw [h0];decide
        · unfold lastA;rw [h0] at hp⊢;simp [dH] at hp⊢;omega
      · obtain⟨r,x,e1,e2,e3,e4⟩:=last_of h0;have hx:=hs.rng x (by rw [e1];simp);have hr:0≤dH r:=lO fun y hy=>(hs.rng y (by rw [e1];simp [hy])).1;rw [e1,lF,dH,dH,Int.mul_one] at hp;have hl:lastA a=x.toNat:=by unfold lastA;rw [e4]
        have hx0:0<x:=by
          rcases Int.lt_or_le 0 x with h | h
          · exact h
          · have:x=0:=by omega
            rw [this,Int.mul_zero] at hp;omega
        refine⟨(dH r).toNat,by omega,?_,fun _=>by rw [e2];omega⟩;rw [hl]
        have e5:(((dH r).toNat*x.toNat:Nat):Int)=dH r*x:=by
          rw [Int.natCast_mul,Int.toNat_of_nonneg hr,Int.toNat_of_nonneg hx.1]
        omega
    obtain⟨k,k1,k2,k3⟩:=key;obtain⟨c1,c2⟩:=bFt a.data.length (lastA a) k a.data k1 (Nat.le_refl _) k2;exact⟨rfl,fun _=>k1,bBk _ _ _ k1 (Nat.le_refl _),c2,by rw [c1,k2],fun h _=>by rw [c1];exact k3 h⟩
theorem uH(f:Int): ∀(l:List (Int×Int)) (w:Int),(nT f l w).1.length=l.length
  | [],_=>rfl
  | (a,b)::r,w=>by rw [nT,List.length_cons,uH f r,List.length_cons]
theorem bEd(f:Int): ∀(l:List (List Int)) (w:Int),(pJ f l w).1.length=l.length
  | [],_=>rfl
  | a::r,w=>by rw [pJ,List.length_cons,bEd f r,List.length_cons]
theorem bJn(f:Int): ∀(l:List Int) (n w:Int),(nX f l n w).1.length=l.length
  | [],_,_=>rfl
  | x::r,n,w=>by rw [nX,List.length_cons,bJn f r,List.length_cons]
theorem uY(f:Int): ∀(l:List (List Int)) (w:Int),(∀c∈l,c≠[])→(nU f l w).1.flatten.length=l.flatten.length
  | [],_,_=>rfl
  | a::r,w,h=>by
    have h1:=uY f r (nX f a.tail (a.headD 0) w).2 fun c hc=>h c (by simp [hc]);have h2:a≠[]:=h a (by simp);rw [nU,List.flatten_cons,List.flatten_cons,List.length_append,List.length_append,h1,List.length_cons,bJn]
    cases a with
    | nil=>exact absurd rfl h2
    | cons x a=>simp
theorem mapM_len(f:Int): ∀(l:List Int),(mapM f l).2=0→(mapM f l).1.length=l.length
  | [],_=>rfl
  | n::r,h=>by
    rw [mapM] at h⊢;split at h
    · rename_i h1;exact absurd h h1
    · rename_i h1;rw [if_neg h1];split at h
      · rename_i h2;exact absurd h h2
      · rename_i h2;rw [if_neg h2];simp only [ne_eq,Classical.not_not] at h2;rw [List.length_cons,mapM_len f r h2,List.length_cons]
theorem iC{s d:List Int}(h:lH s)(e:dH s=d.length):cP ⟨s,d⟩=true:=fP.2 ⟨h,e⟩
theorem rD{n:Int}(h0:0≤n)(h1:n≤65536):lH [n]:=⟨by simp,fun x hx=>by rw [List.mem_singleton.1 hx];exact⟨h0,h1⟩,by simp [dH];omega⟩
theorem uG:lH []:=⟨by simp,fun x hx=>by simp at hx,by decide⟩
theorem oC{s:List Int}{r:List Int×Int}(h:(nK s r).2=0)(hs:lH s)(e:dH s=r.1.length):cP (nK s r).1=true:=by
  unfold nK at h⊢;split at h
  · rename_i h1;exact absurd h h1
  · rename_i h1;rw [if_neg h1];exact iC hs e
theorem rev_len: ∀l:List (List Int),(l.map List.reverse).flatten.length=l.flatten.length
  | []=>rfl
  | a::r=>by
    rw [List.map_cons,List.flatten_cons,List.flatten_cons,List.length_append,List.length_append,rev_len r,List.length_reverse]
theorem bBb{f:Int}{a:Arr}(h:(gY f a).2=0):cP (gY f a).1=true:=by
  unfold gY at h⊢;split at h
  · cases h
  · rename_i h0;rw [if_neg h0];simp only [Bool.not_eq_false] at h0;obtain⟨hs,hp⟩:=fP.1 h0;have hdl:(a.data.length:Int)≤65536:=by rw [←hp];exact hs.prod.2
    split at h
    · rename_i h1;rw [if_pos h1];unfold tU at h⊢;split at h
      · cases h
      · rename_i h2;rw [if_neg h2];split at h
        · cases h
        · rename_i h3;rw [if_neg h3];simp only [Bool.not_eq_true] at h3;have:=badN_no h3;generalize a.data.headD 0=n at this⊢;exact iC (rD this.1 this.2) (by simp [dH];omega)
    · rename_i h1;rw [if_neg h1];split at h
      · rename_i h2;rw [if_pos h2];have:=hs.len;exact iC (rD (by omega) (by omega)) (by simp [dH])
      · rename_i h2;rw [if_neg h2];split at h
        · rename_i h3;rw [if_pos h3];exact iC (rD (by omega) hdl) (by simp [dH])
        · rename_i h3;rw [if_neg h3];split at h
          · rename_i h4;rw [if_pos h4];obtain⟨_,_,l3,_⟩:=qF h0;exact iC hs (by rw [rev_len,l3];exact hp)
          · rename_i h4;rw [if_neg h4];split at h
            · rename_i h5;rw [if_pos h5];exact iC hs.reverse (by rw [kI,hp];simp)
            · rename_i h5;rw [if_neg h5];split at h
              · cases h
              · rename_i h6;rw [if_neg h6];split at h
                · rename_i h7;exact absurd h h7
                · rename_i h7;rw [if_neg h7];simp only [ne_eq,Classical.not_not] at h7;exact iC hs (by rw [mapM_len f _ h7];exact hp)
theorem oA(s:Int)(r:List Int):dH (s::r)=s*dH r:=rfl
theorem part_right{a b:Arr}{take:Bool}(hb:cP b=true)(h:(qO a b take).2=0):cP (qO a b take).1=true:=by
  obtain⟨hs,hp⟩:=fP.1 hb;unfold qO at h⊢;dsimp only at h⊢;split at h
  · cases h
  · rename_i h1;rw [if_neg h1];split at h
    · cases h
    · rename_i h2;rw [if_neg h2];simp only [not_or,ne_eq,Classical.not_not] at h1
      obtain⟨s,r,hsr⟩: ∃s r,b.sides=s::r:=by
        cases hb:b.sides with
        | nil=>exact absurd hb h1.2
        | cons s r=>exact⟨s,r,rfl⟩
      rw [hsr] at h2 hs hp⊢;simp only [List.headD_cons,List.tail_cons,not_or,Int.not_lt] at h2⊢;have s0:=hs.rng s (by simp);have hw:w64 (0-s)= -s:=by rw [uK (by omega) (by omega)];omega
      rw [hw] at h2;generalize a.data.headD 0=n at h2⊢
      have key: ∀fr tt:Int,0≤fr→fr≤tt→tt≤s→cP (if s=0 then ((⟨(tt-fr)::r,[]⟩:Arr),(0:Int)) else (⟨(tt-fr)::r,(b.data.drop (fr.toNat*(b.data.length/s.toNat))).take (tt.toNat*(b.data.length/s.toNat)-fr.toNat*(b.data.length/s.toNat))⟩,0)).1=true:=by
        intro fr tt f0 ft ts;have hr: ∀x∈r,0≤x∧x≤65536:=fun x hx=>hs.rng x (by simp [hx]);have hr0:0≤dH r:=lO fun x hx=>(hr x hx).1
        have hso:lH ((tt-fr)::r):=by
          refine⟨by have:=hs.len;simpa using this,fun x hx=>?_,?_⟩
          · rcases List.mem_cons.1 hx with rfl | hx
            · omega
            · exact hr x hx
          · rw [oA];have h1:=Int.mul_le_mul_of_nonneg_right (show tt-fr≤s by omega) hr0;have h2:=hs.prod.2;rw [oA] at h2;exact⟨Int.mul_nonneg (by omega) hr0,by omega⟩
        split
        · rename_i e;refine iC hso ?_;rw [oA,show tt-fr=0 by omega];simp
        · rename_i e;refine iC hso ?_;rw [oA] at hp
          have hc:(b.data.length/s.toNat:Nat)=(dH r).toNat:=by
            have e1:b.data.length=s.toNat*(dH r).toNat:=by
              have:((s.toNat*(dH r).toNat:Nat):Int)=s*dH r:=by rw [Int.natCast_mul,Int.toNat_of_nonneg s0.1,Int.toNat_of_nonneg hr0]
              omega
            rw [e1,Nat.mul_div_cancel_left _ (by omega)]
          rw [hc,oA,List.length_take,List.length_drop,←Nat.sub_mul]
          have e1:b.data.length=s.toNat*(dH r).toNat:=by
            have:((s.toNat*(dH r).toNat:Nat):Int)=s*dH r:=by rw [Int.natCast_mul,Int.toNat_of_nonneg s0.1,Int.toNat_of_nonneg hr0]
            omega
          have e2:(tt.toNat-fr.toNat)*(dH r).toNat≤b.data.length-fr.toNat*(dH r).toNat:=by
            rw [e1,←Nat.sub_mul];exact Nat.mul_le_mul_right _ (by omega)
          rw [Nat.min_eq_left e2,Int.natCast_mul,Int.toNat_of_nonneg hr0]
          congr 1
          omega
      cases take with
      | true=>
        simp only [if_true]
        by_cases hn:n<0
        · simp only [hn,if_true];exact key (s+n) s (by omega) (by omega) (by omega)
        · simp only [hn,if_false];exact key 0 n (by omega) (by omega) (by omega)
      | false=>
        simp only [Bool.false_eq_true,if_false]
        by_cases hn:0≤n
        · simp only [hn,if_true];exact key n s (by omega) (by omega) (by omega)
        · simp only [hn,if_false];exact key 0 (s+n) (by omega) (by omega) (by omega)
theorem bEq{a:Arr}(h:cP a=true):dH (sidedA a.sides)=a.data.length∧sidedA a.sides≠[]:=by
  obtain⟨hs,hp⟩:=fP.1 h;unfold sidedA;split
  · rename_i e;rw [e] at hp;exact⟨hp,by simp⟩
  · rename_i e;exact⟨hp,e⟩
theorem cat_right{a b:Arr}(ha:cP a=true)(hb:cP b=true)(h:(zH a b).2=0):cP (zH a b).1=true:=by
  obtain⟨a1,a2⟩:=bEq ha;obtain⟨b1,b2⟩:=bEq hb;unfold zH at h⊢;dsimp only at h⊢;split at h
  · cases h
  · rename_i h1;rw [if_neg h1];split at h
    · rename_i h2;cases h
    · rename_i h2;rw [if_neg h2];simp only [not_or,ne_eq,Classical.not_not] at h1 h2
      obtain⟨x,r,e⟩: ∃x r,sidedA a.sides=x::r:=by
        cases hb:sidedA a.sides with
        | nil=>exact absurd hb a2
        | cons s r=>exact⟨s,r,rfl⟩
      obtain⟨y,q,g⟩: ∃x r,sidedA b.sides=x::r:=by
        cases hb:sidedA b.sides with
        | nil=>exact absurd hb b2
        | cons s r=>exact⟨s,r,rfl⟩
      rw [e] at h1 h2 a1⊢;rw [g] at h1 h2 b1⊢;simp only [List.tail_cons,List.headD_cons] at h1 h2⊢;obtain⟨hs,_⟩:=tG h2;refine iC hs ?_;rw [oA] at a1 b1⊢;rw [←h1.2] at b1;rw [List.length_append,Int.add_mul];omega
theorem rho_right{a b:Arr}(h:(uB a b).2=0):cP (uB a b).1=true:=by
  unfold uB at h⊢;split at h
  · cases h
  · rename_i h1;rw [if_neg h1];split at h
    · cases h
    · rename_i h2;rw [if_neg h2];split at h
      · cases h
      · rename_i h3;rw [if_neg h3];split at h
        · cases h
        · rename_i h4;rw [if_neg h4];simp only [ne_eq,Classical.not_not] at h3;obtain⟨hs,hp⟩:=tG h3;refine iC hs ?_;have:=hs.prod;simp [rF,hp];omega
theorem bGj{f:Int}{a b:Arr}(h:(iO f a b).2=0):cP (iO f a b).1=true:=by
  unfold iO at h⊢;split at h
  · cases h
  · rename_i h0;rw [if_neg h0];simp only [not_or,Bool.not_eq_false] at h0;obtain⟨ha,hb⟩:=h0;obtain⟨sa,ap⟩:=fP.1 ha;obtain⟨sb,bp⟩:=fP.1 hb;split at h
    · rename_i h1;rw [if_pos h1];exact rho_right h
    · rename_i h1;rw [if_neg h1];split at h
      · rename_i h2;rw [if_pos h2];exact part_right hb h
      · rename_i h2;rw [if_neg h2];split at h
        · rename_i h3;rw [if_pos h3];exact cat_right ha hb h
        · rename_i h3;rw [if_neg h3];split at h
          · cases h
          · rename_i h4;rw [if_neg h4];split at h
            · rename_i h5;rw [if_pos h5];refine oC h sa ?_;rw [uH,List.length_zip];rw [←h5] at bp;omega
            · rename_i h5;rw [if_neg h5];split at h
              · rename_i h6;rw [if_pos h6];exact oC h sb (by rw [uH,List.length_map];exact bp)
              · rename_i h6;rw [if_neg h6];split at h
                · rename_i h7;rw [if_pos h7];exact oC h sa (by rw [uH,List.length_map];exact ap)
                · cases h
theorem zI{a:Arr}(h:cP a=true): ∀c∈(fD a).1,c≠[]:=by
  obtain⟨_,l2,l3,l4,l5,_⟩:=qF h;intro c hc e;have h1:=l4 c hc;rw [e] at h1
  by_cases hd:a.data=[]
  · unfold fD at hc;rw [h,if_neg (by simp),hd] at hc;simp [lV] at hc
  · have:=l2 hd;simp at h1;omega
theorem bDm{f:Int}{a:Arr}(h:(lQ f a).2=0):cP (lQ f a).1=true:=by
  unfold lQ at h⊢;split at h
  · cases h
  · rename_i h0;rw [if_neg h0];simp only [Bool.not_eq_false] at h0;obtain⟨hs,hp⟩:=fP.1 h0;split at h
    · cases h
    · rename_i h1;rw [if_neg h1];split at h
      · rename_i h2;rw [if_pos h2];rw [h2] at hp;exact iC uG hp
      · rename_i h2;rw [if_neg h2];split at h
        · cases h
        · rename_i h3;rw [if_neg h3];simp only [ne_eq,Classical.not_not] at h3;obtain⟨ds,dp⟩:=tG h3;split at h
          · rename_i h4;rw [if_pos h4];refine iC ds ?_;rw [List.length_replicate,dp];have:=ds.prod;omega
          · rename_i h4;rw [if_neg h4];refine oC h ds ?_;rw [bEd];obtain⟨l1,l2,l3,l4,l5,l6⟩:=qF h0
            by_cases hd:a.data=[]
            · obtain⟨r,x,e1,e2,e3,e4⟩:=last_of h2;rw [e3] at h4;rw [hd,e1,lF,dH,dH,Int.mul_one] at hp
              have:dH r=0:=by
                rcases Int.mul_eq_zero.1 (show dH r*x=0 by simpa using hp) with h | h
                · exact h
                · exact absurd h h4
              rw [e2,this];unfold fD;rw [h0,if_neg (by simp),hd];rfl
            · exact(l6 h2 hd).symm
theorem bFq{f:Int}{a:Arr}(h:(pN f a).2=0):cP (pN f a).1=true:=by
  unfold pN at h⊢;split at h
  · cases h
  · rename_i h0;rw [if_neg h0];simp only [Bool.not_eq_false] at h0;obtain⟨hs,hp⟩:=fP.1 h0;split at h
    · cases h
    · rename_i h1;rw [if_neg h1];obtain⟨l1,l2,l3,l4,l5,l6⟩:=qF h0;exact oC h hs (by rw [uY f _ _ (zI h0),l3];exact hp)
theorem pairs_len(a b:List Int):(pairsOf a b).length=a.length*b.length:=by
  induction a with
  | nil=>simp [pairsOf]
  | cons x a ih=>
    unfold pairsOf at*;rw [List.flatMap_cons,List.length_append,ih,List.length_map,List.length_cons,Nat.add_mul,Nat.one_mul];omega
theorem bCi{f:Int}{a b:Arr}(h:(jI f a b).2=0):cP (jI f a b).1=true:=by
  unfold jI at h⊢;split at h
  · cases h
  · rename_i h0;rw [if_neg h0];simp only [not_or,Bool.not_eq_false] at h0;obtain⟨ha,hb⟩:=h0;obtain⟨sa,ap⟩:=fP.1 ha;obtain⟨sb,bp⟩:=fP.1 hb;split at h
    · cases h
    · rename_i h1;rw [if_neg h1];split at h
      · cases h
      · rename_i h2;rw [if_neg h2];split at h
        · cases h
        · rename_i h3;rw [if_neg h3];simp only [ne_eq,Classical.not_not] at h3;obtain⟨ds,dp⟩:=tG h3;refine oC h ds ?_;rw [uH,pairs_len,lF,ap,bp,Int.natCast_mul]
end Go.Proofs.YtbgdphbebhjpiaaGreatDoor
namespace Go.Proofs.YtbgdphbebhjpiaaGreatDoor
open Go.RowKit
def lC:List nI→List Bs→List Bs
  | [],out=>out
  | d::r,out=>lC r (if d.name=[]∨out.contains d.name=true then out else out++[d.name])
def dY (l:List gE):List nI:=l.flatMap gE.sides
def varsP (p:iF):List Bs:=lC (dY p.inputs) []
abbrev iI:=List (Bs×Arr)
def look (k:Bs):iI→Option Arr
  | []=>none
  | p::r=>if k=p.1 then some p.2 else look k r
def idxOf (k:Bs):List Bs→Int→Int
  | [],_=> -1
  | s::r,i=>if s=k then i else idxOf k r (i+1)
def bGk (vars:List Bs)(x:gE):Bool:=x.sides.any fun d=>(d.name==[]&&lG d.n) || decide (6≤idxOf d.name vars 0)
def nR (vars:List Bs)(dims:List Int)(d:nI):Int:=if d.name=[] then d.n else atI dims (idxOf d.name vars 0)
def bCf (vars:List Bs)(dims:List Int)(x:gE)(a:Arr):Bool:=cP a&&(a.sides.length==x.sides.length&&(a.sides==x.sides.map (nR vars dims)))
def jL (vars:List Bs)(dims:List Int):List gE→List Arr→iI→iI×Flt
  | x::xs,a::ar,N=>if bCf vars dims x a=false then ([],(x.at_,82)) else jL vars dims xs ar ((x.name,a)::N)
  | _,_,N=>(N,(0,0))
def mC:List Bs→List Int→iI→iI
  | s::vars,n::dims,N=>mC vars dims ((s,⟨[],[n]⟩)::N)
  | _,_,N=>N
def fZ (p:iF)(dims:List Int)(ins:List Arr):iI×Flt:=
  if (dZ p).2=false then ([],(0,50))
  else match p.inputs.find? (bGk (varsP p)) with
    | some x=>([],(x.at_,80))
    | none=>
      if dims.length≠(varsP p).length∨dims.any lG=true then ([],(0,81))
      else if ins.length≠p.inputs.length then ([],(0,82))
      else jL (varsP p) dims p.inputs ins (mC (varsP p) dims [])
def fY (N:iI)(it:fC)(st:List Arr):bCo:=
  if it.how=1 then (⟨if 1<it.nums.length then [(it.nums.length:Int)] else [],it.nums⟩,0)
  else if it.how=2 then (match look it.name N with
    | some a=>(a,0)
    | none=>(lE,83))
  else if it.how=3 then gY it.fn (st.headD lE)
  else if it.how=5 then lQ it.fn (st.headD lE)
  else if it.how=6 then pN it.fn (st.headD lE)
  else if it.how=4 then iO it.fn (st.tail.headD lE) (st.headD lE)
  else if it.how=7 then jI it.fn (st.tail.headD lE) (st.headD lE)
  else (lE,0)
def iQ (it:fC):Nat:=if it.how=3∨it.how=5∨it.how=6 then 1 else if it.how=4∨it.how=7 then 2 else 0
def tW (N:iI)(it:fC)(st:List Arr)(work:Nat):Except Int (List Arr×Nat):=
  if (fY N it st).2≠0 then .error (fY N it st).2
  else if 1048576<work+(fY N it st).1.data.length then .error 84
  else .ok ((fY N it st).1::st.drop (iQ it),work+(fY N it st).1.data.length)
def wF (N:iI):List fC→List Arr→Nat→Except Flt (List Arr×Nat)
  | [],st,work=> .ok (st,work)
  | it::r,st,work=>match tW N it st work with
    | .error e=> .error (it.at_,e)
    | .ok (st',work')=>wF N r st' work'
def zR (N:iI):List rP→Nat→List Arr→List Arr×Flt
  | [],_,out=>(out,(0,0))
  | l::r,work,out=>match wF N l.items [] work with
    | .error f=>([],f)
    | .ok (st,work')=>zR ((l.name,st.getLastD lE)::N) r work' (out++[st.getLastD lE])
def rW (p:iF)(dims:List Int)(ins:List Arr):List Arr×Flt:=
  if oV (fZ p dims ins).2=false then ([],(fZ p dims ins).2) else zR (fZ p dims ins).1 p.lines 0 []
end Go.Proofs.YtbgdphbebhjpiaaGreatDoor
namespace Go.Proofs.YtbgdphbebhjpiaaGreatDoor
open Go.RowKit Go.ChangeShapes Go.WideShapes
def iY:Flat (Sl Int):=(intTy.slice 8).E
structure ArrV where
  sides:(Sl Int)
  data:(Sl Int)
  deriving Inhabited
def kL:Flat ArrV where
  size:=2
  cells:=fun x=>[.slice x.sides.addr x.sides.list.length x.sides.cap,.slice x.data.addr x.data.list.length x.data.cap]
  len:=fun _=>rfl
  one:=fun x u hu=>by
    simp at hu
    rcases hu with rfl | rfl<;>rfl
  pos:=by decide
def meanT:Tab:=[(3,⟨.int .i64,1⟩),(2,⟨.int .i64,1⟩),(5,⟨.int .u8,1⟩),(9,⟨.string,1⟩),(4,⟨.bool,1⟩),(50,⟨.int .u8,1⟩),(34,⟨.int .i64,1⟩),(30,⟨.slice 2,1⟩),(27,⟨.slice 9,1⟩),(104,⟨.struct [(3,0),(3,1),(9,2),(2,3)],4⟩),(97,⟨.slice 104,1⟩),(36,⟨.struct [(3,0),(34,1)],2⟩),(63,⟨.struct [(9,0),(2,1)],2⟩),(59,⟨.slice 63,1⟩),(61,⟨.struct [(9,0),(3,1),(59,2)],3⟩),(22,⟨.slice 61,1⟩),(52,⟨.struct [(3,0),(3,1),(50,2),(9,3),(30,4)],5⟩),(47,⟨.slice 52,1⟩),(49,⟨.struct [(9,0),(3,1),(47,2)],3⟩),(23,⟨.slice 49,1⟩),(25,⟨.struct [(22,0),(23,1)],2⟩),(102,⟨.struct [(97,0),(3,1),(3,2)],3⟩),(42,⟨.struct [(30,0),(30,1)],2⟩),(31,⟨.slice 42,1⟩),(189,⟨.slice 30,1⟩),(100,⟨.other,1⟩),(208,⟨.slice 1,1⟩),(1,⟨.other,1⟩),(196,⟨.other,1⟩),(80,⟨.other,1⟩),(247,⟨.other,1⟩),(248,⟨.slice 247,1⟩),(243,⟨.int .u64,1⟩),(78,⟨.map 9 4,1⟩),(85,⟨.map 9 42,1⟩),(244,⟨.other,1⟩),(246,⟨.struct [(244,0),(34,1)],2⟩),(87,⟨.struct [(85,0),(3,1)],2⟩)]
theorem dA:fS Tryz.prog meanT:=vC.ok
  ⟨⟨by rw [Tryz.underlying3];rfl,by kernel_rfl⟩,
    ⟨by rw [Tryz.underlying2];rfl,by kernel_rfl⟩,
    ⟨by rw [Tryz.underlying5];rfl,by kernel_rfl⟩,
    ⟨by rw [Tryz.underlying9];rfl,by kernel_rfl⟩,
    ⟨by rw [Tryz.underlying4];rfl,by kernel_rfl⟩,
    ⟨by rw [Tryz.underlying50];rfl,by kernel_rfl⟩,
    ⟨by rw [Tryz.underlying34];rfl,by kernel_rfl⟩,
    ⟨by rw [Tryz.underlying30];rfl,by kernel_rfl⟩,
    ⟨by rw [Tryz.underlying27];rfl,by kernel_rfl⟩,
    ⟨by rw [Tryz.underlying104];rfl,by kernel_rfl⟩,
    ⟨by rw [Tryz.underlying97];rfl,by kernel_rfl⟩,
    ⟨by rw [Tryz.underlying36];rfl,by kernel_rfl⟩,
    ⟨by rw [Tryz.underlying63];rfl,by kernel_rfl⟩,
    ⟨by rw [Tryz.underlying59];rfl,by kernel_rfl⟩,
    ⟨by rw [Tryz.underlying61];rfl,by kernel_rfl⟩,
    ⟨by rw [Tryz.underlying22];rfl,by kernel_rfl⟩,
    ⟨by rw [Tryz.underlying52];rfl,by kernel_rfl⟩,
    ⟨by rw [Tryz.underlying47];rfl,by kernel_rfl⟩,
    ⟨by rw [Tryz.underlying49];rfl,by kernel_rfl⟩,
    ⟨by rw [Tryz.underlying23];rfl,by kernel_rfl⟩,
    ⟨by rw [Tryz.underlying25];rfl,by kernel_rfl⟩,
    ⟨by rw [Tryz.underlying102];rfl,by kernel_rfl⟩,
    ⟨by rw [Tryz.underlying42];rfl,by kernel_rfl⟩,
    ⟨by rw [Tryz.underlying31];rfl,by kernel_rfl⟩,
    ⟨by rw [Tryz.underlying189];rfl,by kernel_rfl⟩,
    ⟨by rw [Tryz.underlying100];rfl,by kernel_rfl⟩,
    ⟨by rw [Tryz.underlying208];rfl,by kernel_rfl⟩,
    ⟨by rw [Tryz.underlying1];rfl,by kernel_rfl⟩,
    ⟨by rw [Tryz.underlying196];rfl,by kernel_rfl⟩,
    ⟨by rw [Tryz.underlying80];rfl,by kernel_rfl⟩,
    ⟨by rw [Tryz.underlying247];rfl,by kernel_rfl⟩,
    ⟨by rw [Tryz.underlying248];rfl,by kernel_rfl⟩,
    ⟨by rw [Tryz.underlying243];rfl,by kernel_rfl⟩,
    ⟨by rw [Tryz.underlying78];rfl,by kernel_rfl⟩,
    ⟨by rw [Tryz.underlying85];rfl,by kernel_rfl⟩,
    ⟨by rw [Tryz.underlying244];rfl,by kernel_rfl⟩,
    ⟨by rw [Tryz.underlying246];rfl,by kernel_rfl⟩,
    ⟨by rw [Tryz.underlying87];rfl,by kernel_rfl⟩,trivial⟩
theorem arrInfo: ∃i:TypeInfo,Tryz.prog.info? 42=some i∧i.zero=some (.agg #[.slice none 0 0,.slice none 0 0])∧i.size=2∧i.bytes=48:=by
  have h:(Tryz.prog.info? 42).map (fun i=>(i.zero,i.size,i.bytes))=some (some (.agg #[.slice none 0 0,.slice none 0 0]),2,48):=by kernel_rfl
  cases hi:Tryz.prog.info? 42 with
  | none=>simp [hi] at h
  | some i=>simp [hi] at h;exact⟨i,rfl,h.1,h.2.1,h.2.2⟩
theorem iM{β:fE}{n:Nat}{Γ:Env}{H:List bU}{F:List Fact}{Q:Exit→Act→World→Prop}{ops:Array Oper}{rest:List Oper}{o:Oper}{d:Nat}{x:Operand}{m:ArrV}(hw:want ops Γ o=some true)(ho:o.op= .buildSlice 31 1 #[(0,x)])(hd:o.dst=some d)(hn:Nat.blt d n=true)
    (hx:Γ.ev x=some (.agg #[.slice m.sides.addr m.sides.list.length m.sides.cap,.slice m.data.addr m.data.list.length m.data.cap])) (k: ∀b,At β n ((d,.slice (some ⟨b,0,none⟩) 1 1)::Γ) (.obj b (.cells (kL.all [m]).toArray 42)::H) F (wpList Tryz.prog ops Q rest)):At β n Γ H F (wpList Tryz.prog ops Q (o::rest)):=by
  obtain⟨i,hi,hz,hs,_⟩:=arrInfo;refine jM hw ho hd hn hx Tryz.underlying31 hi hz (by omega) (by omega) ?_ k;rw [hs]
  kernel_rfl
theorem at_app_arr{β:fE}{n:Nat}{Γ:Env}{H:List bU}{F:List Fact}{Q:Exit→Act→World→Prop}{ops:Array Oper}{rest:List Oper}{o:Oper}{d:Nat}{x y:Operand}{c q:Nat}{v:Value}{A:Option Addr}{xs ys:List ArrV}{H':List bU}(hH:dL H (kL.row v 42 xs) H')(hr:cR β H F kL A ys)(hg:o.guard=none)
    (ho:o.op= .call {callee:= .builtin .append,args:= #[x,y],argTypes:= #[31,31]}) (hd:o.dst=some d) (hn:Nat.blt d n=true)
    (hx:Γ.ev x=some v) (hy:Γ.ev y=some (.slice A q c)) (hq:q=ys.length) (hl:xs.length+ys.length≤2932031007402)
    (k: ∀A' cap',At β n ((d,.slice A' (xs++ys).length cap')::Γ) (kL.row (.slice A' (xs++ys).length cap') 42 (xs++ys)::H') F (wpList Tryz.prog ops Q rest)):At β n Γ H F (wpList Tryz.prog ops Q (o::rest)):=by
  obtain⟨i,hi,hz,hs,hb⟩:=arrInfo;exact gI hH hr hg ho hd hn Tryz.underlying31 hi hz hs hb rfl hx hy hq (by omega) (by decide) k
theorem bEo: ∃i:TypeInfo,Tryz.prog.info? 30=some i∧i.zero=some (.slice none 0 0)∧i.size=1∧i.bytes=24:=by
  have h:(Tryz.prog.info? 30).map (fun i=>(i.zero,i.size,i.bytes))=some (some (.slice none 0 0),1,24):=by kernel_rfl
  cases hi:Tryz.prog.info? 30 with
  | none=>simp [hi] at h
  | some i=>simp [hi] at h;exact⟨i,rfl,h.1,h.2.1,h.2.2⟩
theorem bBm{β:fE}{n:Nat}{Γ:Env}{H:List bU}{F:List Fact}{Q:Exit→Act→World→Prop}{ops:Array Oper}{rest:List Oper}{o:Oper}{d:Nat}{x:Operand}{m:(Sl Int)}(hw:want ops Γ o=some true)(ho:o.op= .buildSlice 189 1 #[(0,x)])(hd:o.dst=some d)(hn:Nat.blt d n=true)
    (hx:Γ.ev x=some (.slice m.addr m.list.length m.cap)) (k: ∀b,At β n ((d,.slice (some ⟨b,0,none⟩) 1 1)::Γ) (.obj b (.cells (iY.all [m]).toArray 30)::H) F (wpList Tryz.prog ops Q rest)):At β n Γ H F (wpList Tryz.prog ops Q (o::rest)):=by
  obtain⟨i,hi,hz,hs,_⟩:=bEo;refine jM hw ho hd hn hx Tryz.underlying189 hi hz (by omega) (by omega) ?_ k;rw [hs]
  kernel_rfl
theorem bBw{β:fE}{n:Nat}{Γ:Env}{H:List bU}{F:List Fact}{Q:Exit→Act→World→Prop}{ops:Array Oper}{rest:List Oper}{o:Oper}{d:Nat}{x y:Operand}{c q:Nat}{v:Value}{A:Option Addr}{xs ys:List (Sl Int)}{H':List bU}(hH:dL H (iY.row v 30 xs) H')(hr:cR β H F iY A ys)(hg:o.guard=none)
    (ho:o.op= .call {callee:= .builtin .append,args:= #[x,y],argTypes:= #[189,189]}) (hd:o.dst=some d) (hn:Nat.blt d n=true)
    (hx:Γ.ev x=some v) (hy:Γ.ev y=some (.slice A q c)) (hq:q=ys.length) (hl:xs.length+ys.length≤5864062014805)
    (k: ∀A' cap',At β n ((d,.slice A' (xs++ys).length cap')::Γ) (iY.row (.slice A' (xs++ys).length cap') 30 (xs++ys)::H') F (wpList Tryz.prog ops Q rest)):At β n Γ H F (wpList Tryz.prog ops Q (o::rest)):=by
  obtain⟨i,hi,hz,hs,hb⟩:=bEo;exact gI hH hr hg ho hd hn Tryz.underlying189 hi hz hs hb rfl hx hy hq (by omega) (by decide) k
def ArrV.arr(x:ArrV):Arr:=⟨x.sides.list,x.data.list⟩
end Go.Proofs.YtbgdphbebhjpiaaGreatDoor
namespace Go.Proofs.YtbgdphbebhjpiaaGreatDoor
open Go.RowKit
section
variable {P : Program} {β : fE} {n : Nat} {Γ : Env} {H : List bU} {F : List Fact} {o : Oper} {x : Operand} {t tt e : TypeId} {A : Option Addr} {q c : Nat}
theorem sti_isnil(ht:P.underlying t=some (.slice e))(ho:o.op= .binOp .eql t x (.const (.slice none 0 0)) tt)(hx:Γ.ev x=some (.slice A q c)):Sti P β n Γ H F o (.bool A.isNone):=fun a w S f s k=>by
  have h1: ∀d,(Op.equalIn (d+1) t (.slice A q c) (.slice none 0 0)).run P w= .ok A.isNone w:=fun d=>by cases A<;>simp [Op.equalIn,run_underlying ht]
  unfold execOp;have e:a.eval (.const (.slice none 0 0))= .slice none 0 0:=rfl;simp only [ho,f.ev hx,e]
  have hb:(binOp .eql t (.slice A q c) (.slice none 0 0)).run P w= .ok (.bool A.isNone) w:=by
    simp only [binOp];have h2:(Op.equal t (.slice A q c) (.slice none 0 0)).run P w= .ok A.isNone w:=h1 9999;rw [Sem.run_bind,h2];rfl
  have hg:(eqGuard .eql t x (.const (.slice none 0 0)) (.slice A q c) (.slice none 0 0)).run P w= .ok () w:=by
    unfold eqGuard;simp
  rw [Sem.run_bind,Sem.run_bind,hg,Result.andThen_ok,hb];rfl
end
theorem has_isnil{α:Type}{E:Flat α}{F:List Fact}{A:Option Addr}{m c:Nat}{l:List α}(h:Has F (E.sl (.slice A m c) l)):Has F (Fact.pure (A.isNone=true→l=[])):=fun S w k hA=>by
  obtain⟨A',c',e,h⟩:=h S w k
  cases l with
  | nil=>rfl
  | cons x r=>
    obtain⟨b,o,cs,e1,_⟩:=h 0 x rfl;injection e with e
    subst e;subst e1;cases hA
def bHk (k:Int):List Int→Int→Int
  | [],_=> -1
  | s::r,i=>if k=s then i else bHk k r (i+1)
section
variable {k x : Int} {l : List Int} {i : Nat} {r : Int}
theorem bKl(h:r=bHk k (l.drop i) i)(hx:l[i]?=some x):(k=x→r=i)∧(k≠x→r=bHk k (l.drop (i+1)) ((i+1:Nat):Int)):=by
  rw [fQ hx,bHk] at h;refine⟨fun e=>by rw [if_pos e] at h;exact h,fun e=>by rw [if_neg e] at h;rw [h];rfl⟩
theorem idxI_end(h:r=bHk k (l.drop i) i)(hi:l.length≤i):r= -1:=by
  rw [List.drop_of_length_le hi] at h;exact h
end
theorem wH(k:Int): ∀(l:List Int) (i:Int),0≤i→decide (0≤bHk k l i)=l.contains k
  | [],i,_=>rfl
  | s::r,i,h=>by
    rw [bHk,List.contains_cons]
    by_cases e:k=s
    · subst e;simp [h]
    · rw [if_neg e,wH k r (i+1) (by omega)];simp [e]
def bHq (p:Int→Bool):List Int→Int→Int
  | [],_=> -1
  | s::r,i=>if p s=true then i else bHq p r (i+1)
section
variable {p : Int → Bool} {x : Int} {l : List Int} {i : Nat} {r : Int}
theorem bHx(h:r=bHq p (l.drop i) i)(hx:l[i]?=some x):(p x=true→r=i)∧(p x=false→r=bHq p (l.drop (i+1)) ((i+1:Nat):Int)):=by
  rw [fQ hx,bHq] at h;refine⟨fun e=>by rw [if_pos e] at h;exact h,fun e=>by rw [if_neg (by rw [e];simp)] at h;rw [h];rfl⟩
theorem idxB_end(h:r=bHq p (l.drop i) i)(hi:l.length≤i):r= -1:=by
  rw [List.drop_of_length_le hi] at h;exact h
end
theorem idxB_any(p:Int→Bool): ∀(l:List Int) (i:Int),0≤i→decide (0≤bHq p l i)=l.any p
  | [],i,_=>rfl
  | s::r,i,h=>by
    rw [bHq,List.any_cons]
    cases e:p s with
    | true=>simp [h]
    | false=>
      rw [if_neg (by simp),idxB_any p r (i+1) (by omega)];simp
section
variable {k x : Bs} {l : List Bs} {i : Nat} {r : Int}
theorem bGv(h:r=idxOf k (l.drop i) i)(hx:l[i]?=some x):(k=x→r=i)∧(k≠x→r=idxOf k (l.drop (i+1)) ((i+1:Nat):Int)):=by
  rw [fQ hx,idxOf] at h;refine⟨fun e=>by rw [if_pos e.symm] at h;exact h,fun e=>by rw [if_neg (Ne.symm e)] at h;rw [h];rfl⟩
theorem idxOf_end(h:r=idxOf k (l.drop i) i)(hi:l.length≤i):r= -1:=by
  rw [List.drop_of_length_le hi] at h;exact h
end
theorem rC{a b:List Int}(h:a≠b):Value.bool false= .bool (decide (a=b)):=by simp [h]
theorem bGq{a b:List Int}(h:a=b):Value.bool true= .bool (decide (a=b)):=by simp [h]
set_option maxRecDepth 100000 in
theorem dJ(A:Option Addr)(c:Nat)(l:List Int)(hl:l.length≤17592186044416):dG Tryz.prog 33 [.slice A l.length c] [] [cT.sl (.slice A l.length c) l] (fun(x:Option Addr×Nat)=> .slice x.1 l.length x.2) (fun(x:Option Addr×Nat)=>[cT.row (.slice x.1 l.length x.2) 2 l]) (fun _=>[]):=by
  have hT:=dA;refine cQ Tryz.func33 rfl Tryz.ntmps33 rfl ?_;intro β hM;refine sr<|sp hT ?_;refine nn<|bA<|sr<|sp hT ?_;refine ss (sti_isnil Tryz.underlying30 rfl rfl) ?_;refine nn<|bH rfl (fun hc4=>?_) (fun hc4=>?_)
  · refine bA<|bW (Fact.pure (A.isNone=true→l=[])) (has_isnil (Has.of mT0)) ?_;refine cD (Has.of mT0) fun hnil=>?_;have hl0:=hnil (by assumption);subst hl0;refine dK (t:=2) cT ?_;refine bE<|sp hT ?_;refine nn<|bG<|bC ?_;exact bQ (_,_) rfl (bD rfl) (.cons .head .nil) trivial rfl
  refine bK<|bB<|sr<|at_none_int rfl rfl rfl rfl fun b1=>?_;refine sp hT ?_;refine jU .head (bJ (Has.of mT0)) rfl rfl rfl rfl rfl rfl rfl (by simp;omega) fun A2 c3=>?_;rw [List.nil_append];refine sp hT ?_;refine nn<|bG ?_;exact bQ (_,_) rfl (bD rfl) (.cons .head .nil) trivial rfl
set_option maxRecDepth 100000 in
theorem index_spec(A:Option Addr)(c:Nat)(l:List Int)(hl:l.length≤140737488355328)(k:Int):dG Tryz.prog 128 [.slice A l.length c,.int .i64 k] [] [cT.sl (.slice A l.length c) l] (fun(_:Unit)=> .int .i64 (bHk k l 0)) (fun _=>[]) (fun _=>[]):=by
  have hT:=dA;generalize hR:bHk k l 0=r;refine cQ Tryz.func128 rfl Tryz.ntmps128 rfl ?_;intro β hM;refine sr<|sp hT ?_;refine nn<|bA<|sr<|sp3 hT ?_;refine nn<|bR<|dB (ι:=Nat) [(0,_),(1,_),(7,_)] ⟨rfl,rfl,rfl,trivial⟩ (fun i=>[(8,.int .i64 (i:Nat))]) (fun _=>[]) (fun i=>[Fact.pure (i≤l.length∧r=bHk k (l.drop i) i)]) (fun i=>l.length-i) 0 ⟨rfl,trivial⟩ .nil ⟨Has.pure (⟨by omega,hR.symm⟩),trivial⟩ ?_;rintro i;refine cD (Has.of mT0) fun hinv2=>?_;refine sr<|sp hT ?_;refine nn<|bA<|bH rfl (fun hc9=>?_) (fun hc9=>?_)
  · have hc9:=of_decide_eq_true hc9;refine bK<|bB<|bA<|bR<|sr<|sp2 hT ?_;refine nn<|sr<|sp3 hT ?_
    obtain⟨x1,hx2⟩: ∃x',l[i]?=some x':=⟨_,List.getElem?_eq_getElem (by omega)⟩
    refine ss (bS hT (k:=i) (bJ (Has.of mT1)) rfl rfl rfl rfl rfl rfl rfl (by omega)) ?_;refine ss (bZ hT (cR.knows (bJ (Has.of mT1)) (k:=i) (x:=x1) hx2 0) rfl rfl rfl rfl rfl) ?_;refine sp hT ?_;refine nn<|bH rfl (fun hc16=>?_) (fun hc16=>?_)
    · have hc16:=eq_of_beq hc16;refine sr<|sp2 hT ?_;refine nn<|bG<|bI<|bC<|bC<|bI<|bC ?_;have hr:=(bKl hinv2.2 hx2).1 (by assumption);subst hr;exact bQ () rfl (bD rfl) .nil trivial rfl
    have hc16:=beq_eq_false_iff_ne.1 hc16;refine bK<|bY<|bB<|bE<|sp hT ?_;refine bP (z':=(((i+1):Nat):Int)) (cJ (by omega) (by omega)) ?_;refine sp hT ?_;refine nn ?_;exact cO (i+1) (by omega) ⟨rfl,trivial⟩ ⟨rfl,rfl,rfl,trivial⟩ .nil ⟨Has.pure (⟨by omega,(bKl hinv2.2 hx2).2 (by assumption)⟩),trivial⟩ (bF.drop 1)
  have hc9:=Int.not_lt.1 (of_decide_eq_false hc9);refine cW<|cK<|cK<|cX<|bB<|sr<|sp hT ?_;refine nn<|bG ?_;have hr:=idxI_end hinv2.2 (by omega);subst hr;exact bQ () rfl (bD rfl) .nil trivial rfl
set_option maxRecDepth 100000 in
theorem uP(A:Option Addr)(c:Nat)(l:List Bs)(hl:l.length≤140737488355328)(k:Bs):dG Tryz.prog 42 [.slice A l.length c,.string (bs k)] [] [kG.sl (.slice A l.length c) l] (fun(_:Unit)=> .int .i64 (idxOf k l 0)) (fun _=>[]) (fun _=>[]):=by
  have hT:=dA;generalize hR:idxOf k l 0=r;refine cQ Tryz.func42 rfl Tryz.ntmps42 rfl ?_;intro β hM;refine sr<|sp hT ?_;refine nn<|bA<|sr<|sp3 hT ?_;refine nn<|bR<|dB (ι:=Nat) [(0,_),(1,_),(7,_)] ⟨rfl,rfl,rfl,trivial⟩ (fun i=>[(8,.int .i64 (i:Nat))]) (fun _=>[]) (fun i=>[Fact.pure (i≤l.length∧r=idxOf k (l.drop i) i)]) (fun i=>l.length-i) 0 ⟨rfl,trivial⟩ .nil ⟨Has.pure (⟨by omega,hR.symm⟩),trivial⟩ ?_;rintro i;refine cD (Has.of mT0) fun hinv2=>?_;refine sr<|sp hT ?_;refine nn<|bA<|bH rfl (fun hc9=>?_) (fun hc9=>?_)
  · have hc9:=of_decide_eq_true hc9;refine bK<|bB<|bA<|bR<|sr<|sp2 hT ?_;refine nn<|sr<|sp3 hT ?_
    obtain⟨x1,hx2⟩: ∃x',l[i]?=some x':=⟨_,List.getElem?_eq_getElem (by omega)⟩
    refine ss (bS hT (k:=i) (bJ (Has.of mT1)) rfl rfl rfl rfl rfl rfl rfl (by omega)) ?_;refine ss (bZ hT (cR.knows (bJ (Has.of mT1)) (k:=i) (x:=x1) hx2 0) rfl rfl rfl rfl rfl) ?_;refine sp hT ?_;refine nn<|bH rfl (fun hc16=>?_) (fun hc16=>?_)
    · have hc16:k=x1:=eq_of_beq hc16;refine sr<|sp2 hT ?_;refine nn<|bG<|bI<|bC<|bC<|bI<|bC ?_;have hr:=(bGv hinv2.2 hx2).1 (by assumption);subst hr;exact bQ () rfl (bD rfl) .nil trivial rfl
    have hc16:k≠x1:=fun h=>absurd (beq_iff_eq.2 h) (by rw [show(k==x1)=false from hc16];simp);refine bK<|bY<|bB<|bE<|sp hT ?_;refine bP (z':=(((i+1):Nat):Int)) (cJ (by omega) (by omega)) ?_;refine sp hT ?_;refine nn ?_;exact cO (i+1) (by omega) ⟨rfl,trivial⟩ ⟨rfl,rfl,rfl,trivial⟩ .nil ⟨Has.pure (⟨by omega,(bGv hinv2.2 hx2).2 (by assumption)⟩),trivial⟩ (bF.drop 1)
  have hc9:=Int.not_lt.1 (of_decide_eq_false hc9);refine cW<|cK<|cK<|cX<|bB<|sr<|sp hT ?_;refine nn<|bG ?_;have hr:=idxOf_end hinv2.2 (by omega);subst hr;exact bQ () rfl (bD rfl) .nil trivial rfl
set_option maxRecDepth 100000 in
theorem bEt(A:Option Addr)(c:Nat)(l:List Int)(hl:l.length≤140737488355328)(k:Int):dG Tryz.prog 69 [.slice A l.length c,.int .i64 k] [] [cT.sl (.slice A l.length c) l] (fun(_:Unit)=> .bool (l.contains k)) (fun _=>[]) (fun _=>[]):=by
  have hT:=dA;refine cQ Tryz.func69 rfl Tryz.ntmps69 rfl ?_;intro β hM;refine sr<|sp hT ?_;refine nn<|sr<|sp2 hT ?_;refine bO Tryz.func128 (index_spec _ _ _ hl _) rfl rfl .nil ⟨Has.of mT0,trivial⟩ fun _=>?_;refine sp2 hT ?_;refine nn<|bG ?_;exact bQ () rfl (bD rfl) .nil trivial (congrArg Value.bool (wH k l 0 (by decide)))
set_option maxRecDepth 100000 in
theorem indexF_spec(A:Option Addr)(c:Nat)(l:List Int)(hl:l.length≤140737488355328)(f:FuncId)(p:Int→Bool)(hcf: ∀(args:Array Value) (w:World),(callFunc f args).run Tryz.prog w= .ok (.enter f args) w)(hf: ∀b:Int,dG Tryz.prog f [.int .i64 b] [] [] (fun _:Unit=> .bool (p b)) (fun _=>[]) (fun _=>[])):dG Tryz.prog 104 [.slice A l.length c,.func (.func f) #[] #[]] [] [cT.sl (.slice A l.length c) l] (fun(_:Unit)=> .int .i64 (bHq p l 0)) (fun _=>[]) (fun _=>[]):=by
  have hT:=dA;generalize hR:bHq p l 0=r;refine cQ Tryz.func104 rfl Tryz.ntmps104 rfl ?_;intro β hM;refine sr<|sp hT ?_;refine nn<|bA<|sr<|sp3 hT ?_;refine nn<|bR<|dB (ι:=Nat) [(0,_),(1,_),(7,_)] ⟨rfl,rfl,rfl,trivial⟩ (fun i=>[(8,.int .i64 (i:Nat))]) (fun _=>[]) (fun i=>[Fact.pure (i≤l.length∧r=bHq p (l.drop i) i)]) (fun i=>l.length-i) 0 ⟨rfl,trivial⟩ .nil ⟨Has.pure (⟨by omega,hR.symm⟩),trivial⟩ ?_;rintro i;refine cD (Has.of mT0) fun hinv2=>?_;refine sr<|sp hT ?_;refine nn<|bA<|bH rfl (fun hc9=>?_) (fun hc9=>?_)
  · have hc9:=of_decide_eq_true hc9;refine bK<|bB<|bA<|bR<|sr<|sp2 hT ?_;refine nn<|sr<|sp3 hT ?_
    obtain⟨x1,hx2⟩: ∃x',l[i]?=some x':=⟨_,List.getElem?_eq_getElem (by omega)⟩
    refine ss (bS hT (k:=i) (bJ (Has.of mT1)) rfl rfl rfl rfl rfl rfl rfl (by omega)) ?_;refine ss (bZ hT (cR.knows (bJ (Has.of mT1)) (k:=i) (x:=x1) hx2 0) rfl rfl rfl rfl rfl) ?_;refine gQ hcf (hf x1) rfl rfl rfl rfl rfl rfl rfl .nil trivial fun _=>?_;refine nn<|bH rfl (fun hc16=>?_) (fun hc16=>?_)
    · refine sr<|sp2 hT ?_;refine nn<|bG<|bI<|bC<|bC<|bI<|bC ?_;have hr:=(bHx hinv2.2 hx2).1 (by assumption);subst hr;exact bQ () rfl (bD rfl) .nil trivial rfl
    refine bK<|bY<|bB<|bE<|sp hT ?_;refine bP (z':=(((i+1):Nat):Int)) (cJ (by omega) (by omega)) ?_;refine sp hT ?_;refine nn ?_;exact cO (i+1) (by omega) ⟨rfl,trivial⟩ ⟨rfl,rfl,rfl,trivial⟩ .nil ⟨Has.pure (⟨by omega,(bHx hinv2.2 hx2).2 (by assumption)⟩),trivial⟩ (bF.drop 1)
  have hc9:=Int.not_lt.1 (of_decide_eq_false hc9);refine cW<|cK<|cK<|cX<|bB<|sr<|sp hT ?_;refine nn<|bG ?_;have hr:=idxB_end hinv2.2 (by omega);subst hr;exact bQ () rfl (bD rfl) .nil trivial rfl
set_option maxRecDepth 100000 in
theorem qH(A:Option Addr)(c:Nat)(l:List Int)(hl:l.length≤140737488355328)(f:FuncId)(p:Int→Bool)(hcf: ∀(args:Array Value) (w:World),(callFunc f args).run Tryz.prog w= .ok (.enter f args) w)(hf: ∀b:Int,dG Tryz.prog f [.int .i64 b] [] [] (fun _:Unit=> .bool (p b)) (fun _=>[]) (fun _=>[])):dG Tryz.prog 59 [.slice A l.length c,.func (.func f) #[] #[]] [] [cT.sl (.slice A l.length c) l] (fun(_:Unit)=> .bool (l.any p)) (fun _=>[]) (fun _=>[]):=by
  have hT:=dA;refine cQ Tryz.func59 rfl Tryz.ntmps59 rfl ?_;intro β hM;refine sr<|sp hT ?_;refine nn<|sr<|sp2 hT ?_;refine bO Tryz.func104 (indexF_spec _ _ _ hl f p hcf hf) rfl rfl .nil ⟨Has.of mT0,trivial⟩ fun _=>?_;refine sp2 hT ?_;refine nn<|bG ?_;exact bQ () rfl (bD rfl) .nil trivial (congrArg Value.bool (idxB_any p l 0 (by decide)))
set_option maxRecDepth 100000 in
theorem qP(A B:Option Addr)(ca cb:Nat)(a b:List Int)(hl:a.length≤140737488355328):dG Tryz.prog 121 [.slice A a.length ca,.slice B b.length cb] [] [cT.sl (.slice A a.length ca) a,cT.sl (.slice B b.length cb) b] (fun(_:Unit)=> .bool (decide (a=b))) (fun _=>[]) (fun _=>[]):=by
  have hT:=dA;refine cQ Tryz.func121 rfl Tryz.ntmps121 rfl ?_;intro β hM;refine sr<|sp hT ?_;refine nn<|bA<|sr<|sp4 hT ?_;refine sp hT ?_;refine nn<|bH rfl (fun hc10=>?_) (fun hc10=>?_)
  · have hc10:=bne_iff_ne.1 hc10;refine sr<|sp hT ?_;refine nn<|bG<|bC ?_;exact bQ () rfl (bD rfl) .nil trivial (rC (fun e=>by have:=congrArg List.length e;omega))
  have hc10:=bne_eq_false_iff_eq.1 hc10;refine bK<|bB<|bA<|sr<|sp3 hT ?_;refine nn<|bR<|dB (ι:=Nat) [(0,_),(1,_),(12,_)] ⟨rfl,rfl,rfl,trivial⟩ (fun i=>[(13,.int .i64 (i:Nat))]) (fun _=>[]) (fun i=>[Fact.pure (i≤a.length∧a.take i=b.take i)]) (fun i=>a.length-i) 0 ⟨rfl,trivial⟩ .nil ⟨Has.pure (⟨by omega,rfl⟩),trivial⟩ ?_;rintro i;refine cD (Has.of mT0) fun hinv4=>?_;refine sr<|sp hT ?_;refine nn<|bA<|bH rfl (fun hc14=>?_) (fun hc14=>?_)
  · have hc14:=of_decide_eq_true hc14;refine bK<|bB<|bA<|bR<|sr<|sp2 hT ?_;refine nn<|bA<|cU _ _ [(true,0),(true,1),(true,2),(true,3),(true,4),(true,5),(true,6),(true,7),(true,8)] cY (by decide+kernel) .nil bF.self ?_;refine puM hT ?_;refine puM hT ?_
    obtain⟨x1,hx2⟩: ∃x',a[i]?=some x':=⟨_,List.getElem?_eq_getElem (by omega)⟩
    refine stM rfl (bS hT (k:=i) (bJ (Has.of mT1)) rfl rfl rfl rfl rfl rfl rfl (by omega)) ?_;refine stM rfl (bZ hT (cR.knows (bJ (Has.of mT1)) (k:=i) (x:=x1) hx2 0) rfl rfl rfl rfl rfl) ?_;refine puM hT ?_;refine puM hT ?_
    obtain⟨x3,hx4⟩: ∃x',b[i]?=some x':=⟨_,List.getElem?_eq_getElem (by omega)⟩
    refine stM rfl (bS hT (k:=i) (bJ (Has.of mT2)) rfl rfl rfl rfl rfl rfl rfl (by omega)) ?_;refine stM rfl (bZ hT (cR.knows (bJ (Has.of mT2)) (k:=i) (x:=x3) hx4 0) rfl rfl rfl rfl rfl) ?_;refine puM hT ?_;refine cM<|bB<|bH rfl (fun hc24=>?_) (fun hc24=>?_)
    · have hc24:=bne_iff_ne.1 hc24;refine sr<|sp hT ?_;refine nn<|bG<|bI<|bC<|bC<|bI<|bC ?_;exact bQ () rfl (bD rfl) .nil trivial (rC (not_take hx2 hx4 (by assumption)))
    have hc24:=bne_eq_false_iff_eq.1 hc24;refine bK<|bY<|bB<|bE<|sp hT ?_;refine bP (z':=(((i+1):Nat):Int)) (cJ (by omega) (by omega)) ?_;refine sp hT ?_;refine nn ?_;exact cO (i+1) (by omega) ⟨rfl,trivial⟩ ⟨rfl,rfl,rfl,trivial⟩ .nil ⟨Has.pure (⟨by omega,bJc hinv4.2 hx2 hx4 (by assumption)⟩),trivial⟩ (bF.drop 1)
  have hc14:=Int.not_lt.1 (of_decide_eq_false hc14);refine cW<|cK<|cK<|cX<|bB<|sr<|sp hT ?_;refine nn<|bG ?_;exact bQ () rfl (bD rfl) .nil trivial (bGq (take_all hinv4.2 (by omega) (by omega)))
end Go.Proofs.YtbgdphbebhjpiaaGreatDoor
