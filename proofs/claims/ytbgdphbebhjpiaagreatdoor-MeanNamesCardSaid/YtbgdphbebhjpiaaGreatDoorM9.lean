/- Texts of one proof, one behind the other: DocS, AlikeP, BackO, WordP, ArrP, ArrL, ArrR, MeanP, PrimL, MeanL. -/
import Derived.Test.YtbgdphbebhjpiaaGreatDoorM8
import Derived.Test.YtbgdphbebhjpiaaGreatDoorM6
import Derived.Test.YtbgdphbebhjpiaaGreatDoorM5
namespace Go.Proofs.YtbgdphbebhjpiaaGreatDoor
open Go.RowKit
theorem tF:dW []=false:=by decide+kernel
structure sK (p:ProgV):Prop where
  input: ∀x∈p.inputs.list,x.name.length≤140737488355328∧ ∀d∈x.sides.list,d.name.length≤140737488355328∧ -9223372036854775808≤d.n∧d.n≤9223372036854775807
  line: ∀x∈p.lines.list,x.name.length≤140737488355328∧ ∀it∈x.items.list,it.name.length≤140737488355328∧ ∀z∈it.nums.list,-9223372036854775808≤z∧z≤9223372036854775807
def oJ (p:Prog)(i:Nat)(out:Bs):Bs×Bool:=match iO (p.inputs.drop i) out with
  | (o,false)=>(o,false)
  | (o,true)=>fK p.lines o
section
variable {p : Prog} {i : Nat} {out : Bs} {x : dX} {t : Bs}
theorem yI(h:p.lines=[]∨64<p.inputs.length+p.lines.length):dS p=([],false):=by rw [dS,if_pos h]
theorem prog_start(h: ¬(p.lines=[]∨64<p.inputs.length+p.lines.length)):dS p=oJ p 0 []:=by rw [dS,if_neg h];rfl
theorem wQ(hx:p.inputs[i]?=some x)(hn:mJ x=none):oJ p i out=(out,false):=by rw [oJ,fY hx,iO,hn]
theorem prog_step(hx:p.inputs[i]?=some x)(hn:mJ x=some t):oJ p i out=oJ p (i+1) (out++(([105,110,32]++t)++[10])):=by rw [oJ,fY hx,iO,hn];rfl
theorem prog_lines(hi:p.inputs.length≤i):oJ p i out=fK (p.lines.drop 0) out:=by rw [oJ,List.drop_of_length_le hi];rfl
end
section
variable {l : List lK} {i : Nat} {out : Bs} {x : lK} {t : Bs}
theorem bLx(hi:l.length≤i):fK (l.drop i) out=(out,true):=by rw [List.drop_of_length_le hi];rfl
theorem yD(hx:l[i]?=some x)(hi:i+1=l.length):l.drop i=[x]:=by rw [fY hx,List.drop_of_length_le (by omega)]
theorem yV(hx:l[i]?=some x)(hi:i+1<l.length): ∃y r,l.drop (i+1)=y::r∧l.drop i=x::y::r:=by
  have:l[i+1]?=some l[i+1]:=List.getElem?_eq_getElem hi;exact⟨_,_,fY this,by rw [fY hx,fY this]⟩
theorem rH(hx:l[i]?=some x)(he:gM x.items (if i+1=l.length then 255 else 254)=none):fK (l.drop i) out=(out,false):=by
  have hl:=(List.getElem?_eq_some_iff.1 hx).1
  by_cases hi:i+1=l.length
  · rw [if_pos hi] at he;rw [yD hx hi,fK,he]
  · rw [if_neg hi] at he;obtain⟨y,r,_,h2⟩:=yV hx (by omega);rw [h2,fK,he];exact fun h=>by cases h
theorem pY(hx:l[i]?=some x)(hi:i+1=l.length)(hn:x.name≠[]){t:Bs}(he:gM x.items 255=some t):fK (l.drop i) out=(out,false):=by
  rw [yD hx hi,fK,he];simp [hn]
theorem lT(hx:l[i]?=some x)(hi:i+1<l.length)(hn:dW x.name=false){t:Bs}(he:gM x.items 254=some t):fK (l.drop i) out=(out,false):=by
  obtain⟨y,r,_,h2⟩:=yV hx hi;rw [h2,fK,he]
  · simp [hn]
  · exact fun h=>by cases h
theorem lines_out(hx:l[i]?=some x)(hi:i+1=l.length)(hn:x.name=[]){t:Bs}(he:gM x.items 255=some t):fK (l.drop i) out=fK (l.drop (i+1)) (out++(([111,117,116,32]++t)++[10])):=by
  rw [yD hx hi,fK,he,bLx (by omega)];simp [hn]
theorem lines_step(hx:l[i]?=some x)(hi:i+1<l.length)(hn:dW x.name=true){t:Bs}(he:gM x.items 254=some t):fK (l.drop i) out=fK (l.drop (i+1)) (out++(((x.name++[58,32])++t)++[10])):=by
  obtain⟨y,r,h1,h2⟩:=yV hx hi;rw [h2,h1,fK,he]
  · simp [hn]
  · exact fun h=>by cases h
end
theorem step_okp{st st':List fO}{x:dN}(hz: ∀z∈x.nums,-9223372036854775808≤z∧z≤9223372036854775807)(ho: ∀p∈st,p.words≠[]∧wsz p.words≤40*p.tokens)(h:iL st x=some st'): ∀p∈st',p.words≠[]∧wsz p.words≤40*p.tokens:=by
  unfold iL at h;split at h
  · cases hq:operandS x with
    | none=>rw [hq] at h;cases h
    | some q=>
      rw [hq] at h;injection h with h
      subst h;intro p hp
      rcases List.mem_cons.1 hp with rfl | hp
      · exact⟨(yM hz hq).1,(yM hz hq).2.1⟩
      · exact ho p hp
  · split at h
    · cases h
    · rename_i hn;have hv:(verbS x).1≠[]:=fun e=>hn (.inr (.inr (.inr (.inr e))));obtain⟨v1,_,v3⟩:=bAb x;have v3:=v3 hv;unfold pI at h;split at h
      · split at h
        · rename_i p q r;injection h with h
          subst h;have hq:=ho q (by simp);obtain⟨k1,k2,_,_⟩:=left_ok (q:=⟨⟨none,0,q.words⟩,q.nest,q.tokens,q.plain⟩) hq;have k1:(leftS q).words≠[]:=k1;have k2:wsz (leftS q).words≤40*(leftS q).tokens:=k2;have hp:=ho p (by simp);intro y hy
          rcases List.mem_cons.1 hy with rfl | hy
          · refine⟨by simp,?_⟩;simp only [bJb,jD];omega
          · exact ho y (by simp [hy])
        · cases h
      · split at h
        · rename_i p r;injection h with h
          subst h;have hp:=ho p (by simp);intro y hy
          rcases List.mem_cons.1 hy with rfl | hy
          · refine⟨by simp,?_⟩;simp only [jD];omega
          · exact ho y (by simp [hy])
        · cases h
theorem bMs: ∀{l:List dN} {st st':List fO},(∀x∈l,∀z∈x.nums,-9223372036854775808≤z∧z≤9223372036854775807)→(∀p∈st,p.words≠[]∧wsz p.words≤40*p.tokens)→fU l st=some st'→ ∀p∈st',p.words≠[]∧wsz p.words≤40*p.tokens
  | [],st,st',_,ho,h=>by
    simp [fU] at h;subst h;exact ho
  | x::r,st,st',hz,ho,h=>by
    rw [fU] at h
    cases h1:iL st x with
    | none=>rw [h1] at h;cases h
    | some s1=>
      rw [h1] at h;exact bMs (fun y hy=>hz y (by simp [hy])) (step_okp (hz x (by simp)) ho h1) h
theorem bMh{l:List dN}{most:Nat}{t:Bs}(hz: ∀x∈l,∀z∈x.nums,-9223372036854775808≤z∧z≤9223372036854775807)(h:gM l most=some t):t.length≤40*most:=by
  unfold gM at h;split at h
  · cases h
  · split at h
    · rename_i p hp;split at h
      · cases h
      · injection h with h
        subst h;have h1:=(bMs hz (fun p hp=>by simp at hp) hp p (by simp)).2;have:=bGi p.words;omega
    · cases h
section
variable {x : InputV} {j : Nat} {d : jH} {t : Bs}
theorem bMx(h:dW x.name=false∨4<x.sides.list.length):mJ x.inp=none:=by
  rw [mJ,if_pos (show dW x.inp.name=false∨4<x.inp.sides.length from h.imp id fun h=>by show 4<(x.sides.list.map jH.sd).length;rw [List.length_map];exact h)]
theorem input_start(h:dW x.name=true)(h4: ¬4<x.sides.list.length):mJ x.inp=kC ((x.sides.list.map jH.sd).drop 0) x.name:=by
  rw [mJ,if_neg]
  · rfl
  · rintro(h' | h')
    · rw [show x.inp.name=x.name from rfl,h] at h';cases h'
    · rw [show x.inp.sides=x.sides.list.map jH.sd from rfl,List.length_map] at h';exact h4 h'
theorem sd_at(hd:x.sides.list[j]?=some d):(x.sides.list.map jH.sd)[j]?=some d.sd:=by rw [List.getElem?_map,hd];rfl
theorem side_num(hd:x.sides.list[j]?=some d)(hn:d.name=[]):kC ((x.sides.list.map jH.sd).drop j) t=kC ((x.sides.list.map jH.sd).drop (j+1)) (t++([32]++fS d.n)):=by
  rw [fY (sd_at hd),kC,if_pos (show d.sd.name=[] from hn)];rfl
theorem side_name(hd:x.sides.list[j]?=some d)(hn:d.name≠[])(h0:d.n=0)(hb:dW d.name=true):kC ((x.sides.list.map jH.sd).drop j) t=kC ((x.sides.list.map jH.sd).drop (j+1)) (t++([32]++d.name)):=by
  rw [fY (sd_at hd),kC,if_neg (show ¬d.sd.name=[] from hn),if_pos (show d.sd.n=0∧dW d.sd.name=true from ⟨h0,hb⟩)];rfl
theorem side_bad(hd:x.sides.list[j]?=some d)(hn:d.name≠[])(h:d.n≠0∨dW d.name=false):kC ((x.sides.list.map jH.sd).drop j) t=none:=by
  rw [fY (sd_at hd),kC,if_neg (show ¬d.sd.name=[] from hn),if_neg];rintro⟨h1,h2⟩
  rcases h with h | h
  · exact h h1
  · rw [show d.sd.name=d.name from rfl,h] at h2;cases h2
theorem sides_done(hj:x.sides.list.length≤j):kC ((x.sides.list.map jH.sd).drop j) t=some t:=by
  rw [List.drop_of_length_le (by rw [List.length_map];exact hj)];rfl
end
theorem rQ{α β:Type}{f:α→β}{l:List α}{i:Nat}{x:α}(h:l[i]?=some x):(l.map f)[i]?=some (f x):=by rw [List.getElem?_map,h];rfl
theorem bMr{o:Option Bs}(h:o.isSome=true):o=some (o.getD []):=by
  cases o with
  | none=>cases h
  | some x=>rfl
theorem shower_built(r1 r2:Nat):Tryz.prog.built 179 [(0,.map (some r1)),(1,.map (some r2))]=some #[.map (some r1),.map (some r2),.pointer none,.slice none 0 0]:=by kernel_rfl
theorem tN:(Tryz.prog.info? 63).bind (·.zero)=some (.agg #[.string (bs []),.int .i64 0]):=by kernel_rfl
set_option maxRecDepth 100000 in
theorem bKk(b r1 r2:Nat)(P:ProgV)(hP:sK P)(hl1:P.inputs.list.length≤140737488355328)(hl2:P.lines.list.length≤140737488355328):dH Tryz.prog 98 [.pointer (some ⟨b,0,none⟩),.agg #[.slice P.inputs.addr P.inputs.list.length P.inputs.cap,.slice P.lines.addr P.lines.list.length P.lines.cap]] [.obj b (.cells [.map (some r1),.map (some r2),.pointer none,.slice none 0 0].toArray 179),nT.row (.slice none 0 0) 5 []] [mapF r1 .u8 (qC false),mapF r2 .u8 (qC true),iA,jT.sl (.slice P.inputs.addr P.inputs.list.length P.inputs.cap) P.inputs.list,iN P.inputs.list,nR.sl (.slice P.lines.addr P.lines.list.length P.lines.cap) P.lines.list,kL P.lines.list] (fun(_:(Option Addr×Nat)×Bool)=> .bool (dS P.pr).2) (fun(x:(Option Addr×Nat)×Bool)=>[.obj b (.cells [.map (some r1),.map (some r2),bJx x.2 b,.slice x.1.1 (dS P.pr).1.length x.1.2].toArray 179),nT.row (.slice x.1.1 (dS P.pr).1.length x.1.2) 5 (dS P.pr).1]) (fun(x:(Option Addr×Nat)×Bool)=>[Fact.pure ((dS P.pr).1=[]→x.1.1=none)]):=by
  have hT:=iW;have hpl:P.pr.lines.length=P.lines.list.length:=List.length_map _;have hpi:P.pr.inputs.length=P.inputs.list.length:=List.length_map _;generalize hR:dS P.pr=r;refine cQ Tryz.func98 rfl Tryz.ntmps98 rfl ?_;intro β hM;refine sr<|fL rfl rfl rfl rfl rfl rfl fun b1=>?_;refine sp hT ?_;refine nn<|sr<|sp hT ?_;refine ss (ldO hT (dB .head)) ?_;refine sp2 hT ?_;refine bP (z':=(((P.lines.list.length:Nat):Int)-1)) (bMl (by omega) (by omega)) ?_;refine sp hT ?_;refine nn<|bA<|sr<|sp3 hT ?_;refine cF (fun hg23=>?_) (fun hg23=>?_)
  · have hg23:=of_decide_eq_true hg23;refine sk4 ?_;refine sp2 hT ?_;refine sk4 ?_;refine sk4 ?_;refine sp hT ?_;refine nn<|cI rfl rfl ?_;refine sr<|sp hT ?_;refine nn<|bG<|bC ?_;have hr:=hR.symm.trans (yI (by first | exact .inl (List.map_eq_nil_iff.2 (List.eq_nil_of_length_eq_zero (by omega))) | exact .inr (by omega)));subst hr;exact bR ((_,_),false) rfl (bD rfl) (.cons kT1 (.cons kT1 .nil)) ⟨Has.pure (fun _=>rfl),trivial⟩ rfl
  have hg23:=Int.not_lt.1 (of_decide_eq_false hg23);refine sp hT ?_;refine ss (ldO hT (bL .head)) ?_;refine sp4 hT ?_;refine cF (fun hg29=>?_) (fun hg29=>?_)
  · have hg29:=of_decide_eq_true hg29;refine sk4 ?_;refine sk4 ?_;refine sp hT ?_;refine nn<|cI rfl rfl ?_;refine sr<|sp hT ?_;refine nn<|bG<|bC ?_;have hr:=hR.symm.trans (yI (by first | exact .inl (List.map_eq_nil_iff.2 (List.eq_nil_of_length_eq_zero (by omega))) | exact .inr (by omega)));subst hr;exact bR ((_,_),false) rfl (bD rfl) (.cons kT1 (.cons kT1 .nil)) ⟨Has.pure (fun _=>rfl),trivial⟩ rfl
  have hg29:=Int.not_lt.1 (of_decide_eq_false hg29);refine sp hT ?_;refine ss (ldO hT (dB .head)) ?_;refine sp2 hT ?_;refine ss (ldO hT (bL .head)) ?_;refine sp2 hT ?_;refine bP (z':=(((64-P.inputs.list.length):Nat):Int)) (cL (by omega) (by omega)) ?_;refine sp2 hT ?_;refine nn<|bH rfl (fun hc38=>?_) (fun hc38=>?_)
  · have hc38:=of_decide_eq_true hc38;refine sr<|sp hT ?_;refine nn<|bG<|bC ?_;have hr:=hR.symm.trans (yI (by first | exact .inl (List.map_eq_nil_iff.2 (List.eq_nil_of_length_eq_zero (by omega))) | exact .inr (by omega)));subst hr;exact bR ((_,_),false) rfl (bD rfl) (.cons kT1 (.cons kT1 .nil)) ⟨Has.pure (fun _=>rfl),trivial⟩ rfl
  have hc38:=Int.not_lt.1 (of_decide_eq_false hc38);refine bK<|bB<|bA<|sr<|sp hT ?_;refine ss (ldO hT (bL .head)) ?_;refine sp2 hT ?_;refine nn<|bT<|dD (ι:=Nat×Bs×Bool×Option Addr×Nat) [(0,_),(3,_),(5,_),(40,_),(41,_)] ⟨rfl,rfl,rfl,rfl,rfl,trivial⟩ (fun⟨i,out,u,G,c⟩=>[(42,.int .i64 (i:Nat))]) (fun⟨i,out,u,G,c⟩=>[.obj b (.cells [.map (some r1),.map (some r2),bJx u b,.slice G out.length c].toArray 179),nT.row (.slice G out.length c) 5 out]) (fun⟨i,out,u,G,c⟩=>[Fact.pure (i≤P.inputs.list.length∧dS P.pr=oJ P.pr i out∧(out=[]→G=none)∧out.length≤1000*i)]) (fun⟨i,out,u,G,c⟩=>P.inputs.list.length-i) (0,[],false,none,0) ⟨rfl,trivial⟩ (.cons kT1 (.cons kT1 .nil)) ⟨Has.pure (⟨by omega,prog_start (by rintro(h | h);(have h:=congrArg List.length h;rw [hpl,List.length_nil] at h;omega);omega),fun _=>rfl,by simp⟩),trivial⟩ ?_;rintro⟨i,out,u,G,c⟩;dsimp only;refine cD (Has.of mT0) fun hinv5=>?_;refine sr<|sp hT ?_;refine nn<|bA<|bH rfl (fun hc43=>?_) (fun hc43=>?_)
  · have hc43:=of_decide_eq_true hc43;refine bK<|bB<|bA<|bT<|sr ?_
    obtain⟨x2,hx3⟩: ∃x,P.inputs.list[i]?=some x:=⟨_,List.getElem?_eq_getElem (by omega)⟩
    refine ss (bS hT (k:=i) (bJ (Has.of mT4)) rfl rfl rfl rfl rfl rfl rfl (by omega)) ?_;refine ss (dP hT (cR.knows (bJ (Has.of mT4)) (k:=i) (x:=x2) hx3 0) rfl rfl rfl rfl rfl) ?_;refine cE rfl rfl rfl rfl jO rfl fun b4=>?_;refine sto hT .head ?_;refine nn<|bA<|bA ?_;have hxi:=hP.input x2 (List.mem_of_getElem? hx3);have hx0:P.pr.inputs[i]?=some x2.inp:=rQ hx3;refine bV (rO x2) (Has.each (Has.of mT5) (List.mem_of_getElem? hx3)) ?_;refine bE<|sp hT ?_;refine ss (ldO hT (bL .head)) ?_;refine bO Tryz.func76 (mD _ hxi.1) rfl rfl .nil ⟨Has.of mT4,trivial⟩ fun _=>?_;refine sp2 hT ?_;refine cF (fun hg50=>?_) (fun hg50=>?_)
    · have hg50:=gC hg50;refine sk4 ?_;refine sp hT ?_;refine nn<|cI rfl rfl ?_;refine sr<|sp hT ?_;refine nn<|bG<|bC<|bI<|bC<|bC<|bI<|bC ?_;have hr:=hR.symm.trans (hinv5.2.1.trans (wQ hx0 (bMx (by first | exact .inl (by assumption) | exact .inr (by omega)))));subst hr;exact bR ((_,_),u) rfl (bD rfl) (.cons kT1 (.cons kT1 .nil)) ⟨Has.pure (hinv5.2.2.1),trivial⟩ rfl
    have hg50:=fN hg50;refine sp hT ?_;refine ss (ldO hT (fE .head)) ?_;refine sp3 hT ?_;refine nn<|bH rfl (fun hc55=>?_) (fun hc55=>?_)
    · have hc55:=of_decide_eq_true hc55;refine sr<|sp hT ?_;refine nn<|bG<|bC<|bI<|bC<|bC<|bI<|bC ?_;have hr:=hR.symm.trans (hinv5.2.1.trans (wQ hx0 (bMx (by first | exact .inl (by assumption) | exact .inr (by omega)))));subst hr;exact bR ((_,_),u) rfl (bD rfl) (.cons kT1 (.cons kT1 .nil)) ⟨Has.pure (hinv5.2.2.1),trivial⟩ rfl
    have hc55:=Int.not_lt.1 (of_decide_eq_false hc55);refine bK<|bB<|sr<|sp hT ?_;refine ss (ldO hT (bL .head)) ?_;refine sp hT ?_;refine nn<|bA<|sr<|sp hT ?_;refine ss (ldO hT (fE .head)) ?_;refine sp2 hT ?_;refine nn<|bT<|dD (ι:=Nat×Bs) [(0,_),(3,_),(5,_),(40,_),(41,_),(42,_),(51,_),(52,_),(53,_),(54,_),(59,_),(60,_)] ⟨rfl,rfl,rfl,rfl,rfl,rfl,rfl,rfl,rfl,rfl,rfl,rfl,trivial⟩ (fun⟨j,text⟩=>[(8,.string (bs text)),(61,.int .i64 (j:Nat))]) (fun _=>[]) (fun⟨j,text⟩=>[Fact.pure (j≤x2.sides.list.length∧kC ((x2.sides.list.map jH.sd).drop j) text=mJ x2.inp∧text.length≤16+30*j)]) (fun⟨j,text⟩=>x2.sides.list.length-j) (0,x2.name) ⟨rfl,rfl,trivial⟩ .nil ⟨Has.pure (⟨by omega,(input_start (by assumption) (by omega)).symm,by have:=tE ‹dW x2.name=true›;omega⟩),trivial⟩ ?_;rintro⟨j,text⟩;dsimp only;refine cD (Has.of mT0) fun hinv11=>?_;refine sr<|sp hT ?_;refine nn<|bA<|bH rfl (fun hc62=>?_) (fun hc62=>?_)
    · have hc62:=of_decide_eq_true hc62;refine bK<|bB<|bA<|bT<|sr ?_
      obtain⟨x5,hx6⟩: ∃x,x2.sides.list[j]?=some x:=⟨_,List.getElem?_eq_getElem (by omega)⟩
      refine ss (bS hT (k:=j) (bJ (Has.of mT1)) rfl rfl rfl rfl rfl rfl rfl (by omega)) ?_;refine ss (dP hT (cR.knows (bJ (Has.of mT1)) (k:=j) (x:=x5) hx6 0) rfl rfl rfl rfl rfl) ?_;refine cE rfl rfl rfl rfl tN rfl fun b7=>?_;refine sto hT .head ?_;refine nn<|bT<|bA ?_;have hdn:=hxi.2 x5 (List.mem_of_getElem? hx6);refine bE<|sp hT ?_;refine ss (ldO hT (bL .head)) ?_;refine sp2 hT ?_;refine nn<|bH rfl (fun hc65=>?_) (fun hc65=>?_)
      · have hc65:x5.name=([]:Bs):=eq_of_beq hc65;refine bE<|sp2 hT ?_;refine ss (ldO hT (dB .head)) ?_;have hsp:=oV hdn.2.1 hdn.2.2;refine bO Tryz.func167 (zZ _ hdn.2.1 hdn.2.2) rfl rfl .nil ⟨Has.of mT5,trivial⟩ fun _=>?_;refine ss (gV rfl rfl rfl (by first | omega | (simp;omega))) ?_;refine ss (gV rfl rfl rfl (by first | omega | (simp;omega))) ?_;refine sp hT ?_;refine dU<|cA<|cA<|bB<|bE<|sp hT ?_;refine bP (z':=(((j+1):Nat):Int)) (cL (by omega) (by omega)) ?_;refine sp hT ?_;refine nn ?_;exact cP (j+1,_) (by dsimp only;omega) ⟨rfl,rfl,trivial⟩ ⟨rfl,rfl,rfl,rfl,rfl,rfl,rfl,rfl,rfl,rfl,rfl,rfl,trivial⟩ (.cons kT1 (.cons kT1 (.cons kT1 (.cons kT1 .nil)))) ⟨Has.pure (⟨by dsimp only;omega,hinv11.2.1▸(side_num hx6 (by assumption)).symm,by have:=oV hdn.2.1 hdn.2.2;simp;omega⟩),trivial⟩ (bF.drop 1)
      have hc65:x5.name≠([]:Bs):=fun h=>absurd (beq_iff_eq.2 h) (by rw [show(x5.name==([]:Bs))=false from hc65];simp);refine sr<|sp hT ?_;refine ss (ldO hT (dB .head)) ?_;refine sp2 hT ?_;refine cF (fun hg79=>?_) (fun hg79=>?_)
      · have hg79:=eq_of_beq hg79;refine sp hT ?_;refine ss (ldO hT (bL .head)) ?_;refine bO Tryz.func76 (mD _ hdn.1) rfl rfl .nil ⟨Has.of mT5,trivial⟩ fun _=>?_;refine sp2 hT ?_;refine nn<|bH rfl (fun hc75=>?_) (fun hc75=>?_)
        · refine bE<|sp2 hT ?_;refine ss (ldO hT (bL .head)) ?_;refine ss (gV rfl rfl rfl (by first | omega | (simp;omega))) ?_;refine ss (gV rfl rfl rfl (by first | omega | (simp;omega))) ?_;refine sp hT ?_;refine dU<|cA<|cA<|bB<|bE<|sp hT ?_;refine bP (z':=(((j+1):Nat):Int)) (cL (by omega) (by omega)) ?_;refine sp hT ?_;refine nn ?_;exact cP (j+1,_) (by dsimp only;omega) ⟨rfl,rfl,trivial⟩ ⟨rfl,rfl,rfl,rfl,rfl,rfl,rfl,rfl,rfl,rfl,rfl,rfl,trivial⟩ (.cons kT1 (.cons kT1 (.cons kT1 (.cons kT1 .nil)))) ⟨Has.pure (⟨by dsimp only;omega,hinv11.2.1▸(side_name hx6 (by assumption) (by assumption) (by assumption)).symm,by have:=tE ‹dW x5.name=true›;simp;omega⟩),trivial⟩ (bF.drop 1)
        refine sr<|sp hT ?_;refine nn<|bG<|bI<|bI<|bC<|bC<|bI<|bC<|bI<|bC<|bC<|bI<|bC ?_;have hr:=hR.symm.trans (hinv5.2.1.trans (wQ hx0 (hinv11.2.1.symm.trans (side_bad hx6 (by assumption) (by first | exact .inl (by assumption) | exact .inr (by assumption))))));subst hr;exact bR ((_,_),u) rfl (bD rfl) (.cons kT2 (.cons kT2 .nil)) ⟨Has.pure (hinv5.2.2.1),trivial⟩ rfl
      have hg79:=beq_eq_false_iff_ne.1 hg79;refine sk3 ?_;refine sp2 hT ?_;refine nn<|cN rfl rfl ?_;refine sr<|sp hT ?_;refine nn<|bG<|bI<|bI<|bC<|bC<|bI<|bC<|bI<|bC<|bC<|bI<|bC ?_;have hr:=hR.symm.trans (hinv5.2.1.trans (wQ hx0 (hinv11.2.1.symm.trans (side_bad hx6 (by assumption) (by first | exact .inl (by assumption) | exact .inr (by assumption))))));subst hr;exact bR ((_,_),u) rfl (bD rfl) (.cons kT2 (.cons kT2 .nil)) ⟨Has.pure (hinv5.2.2.1),trivial⟩ rfl
    have hc62:=Int.not_lt.1 (of_decide_eq_false hc62);refine cW<|cM<|cM<|cX<|bB ?_;have hin:=hinv11.2.1.symm.trans (sides_done (by omega));refine bE<|sp2 hT ?_;refine bO Tryz.func168 (yT b r1 r2 u G c out ([105,110,32]:Bs) text (by simp;omega)) rfl rfl (.cons kT1 (.cons kT1 .nil)) trivial fun⟨G8,c9⟩=>?_;refine dU<|cA<|bB<|bE<|sp hT ?_;refine bP (z':=(((i+1):Nat):Int)) (cL (by omega) (by omega)) ?_;refine sp hT ?_;refine nn ?_;exact cP (i+1,(out++((([105,110,32]:Bs)++text)++[10])),true,_,_) (by dsimp only;omega) ⟨rfl,trivial⟩ ⟨rfl,rfl,rfl,rfl,rfl,trivial⟩ (.cons .head (.cons .head (.cons kT1 .nil))) ⟨Has.pure (⟨by dsimp only;omega,hinv5.2.1.trans (prog_step hx0 hin),fun h=>by simp at h,by simp;omega⟩),trivial⟩ (bF.drop 3)
  have hc43:=Int.not_lt.1 (of_decide_eq_false hc43);refine cW<|cM<|cM<|cX<|bB<|bA<|sr<|sp hT ?_;refine ss (ldO hT (dB kT2)) ?_;refine sp2 hT ?_;refine nn<|bT ?_;have hlin:=hinv5.2.1.trans (prog_lines (by omega));refine dD (ι:=Nat×Bs×Bool×Option Addr×Nat) [(0,_),(5,_),(95,_),(96,_)] ⟨rfl,rfl,rfl,rfl,trivial⟩ (fun⟨i,out,u,G,c⟩=>[(97,.int .i64 (i:Nat))]) (fun⟨i,out,u,G,c⟩=>[.obj b (.cells [.map (some r1),.map (some r2),bJx u b,.slice G out.length c].toArray 179),nT.row (.slice G out.length c) 5 out]) (fun⟨i,out,u,G,c⟩=>[Fact.pure (i≤P.lines.list.length∧dS P.pr=fK (P.pr.lines.drop i) out∧(out=[]→G=none)∧out.length≤1000*64+20000*i)]) (fun⟨i,out,u,G,c⟩=>P.lines.list.length-i) (0,out,u,G,c) ⟨rfl,trivial⟩ (.cons .head (.cons .head .nil)) ⟨Has.pure (⟨by omega,hlin,hinv5.2.2.1,by omega⟩),trivial⟩ ?_;rintro⟨i,out,u,G,c⟩;dsimp only;refine cD (Has.of mT0) fun hinv22=>?_;refine sr<|sp hT ?_;refine nn<|bA<|bH rfl (fun hc98=>?_) (fun hc98=>?_)
  · have hc98:=of_decide_eq_true hc98;refine bK<|bB<|bA<|bT<|sr<|sp hT ?_
    obtain⟨x10,hx11⟩: ∃x,P.lines.list[i]?=some x:=⟨_,List.getElem?_eq_getElem (by omega)⟩
    refine ss (bS hT (k:=i) (bJ (Has.of mT7)) rfl rfl rfl rfl rfl rfl rfl (by omega)) ?_;refine ss (dP hT (cR.knows (bJ (Has.of mT7)) (k:=i) (x:=x10) hx11 0) rfl rfl rfl rfl rfl) ?_;refine cE rfl rfl rfl rfl qI rfl fun b12=>?_;refine sp hT ?_;refine sto hT .head ?_;refine nn<|bA ?_;have hli:=hP.line x10 (List.mem_of_getElem? hx11);have hx0:P.pr.lines[i]?=some x10.ln:=rQ hx11;refine bV (bJh x10) (Has.each (Has.of mT8) (List.mem_of_getElem? hx11)) ?_;refine bV (lL.sl (.slice x10.items.addr x10.items.list.length x10.items.cap) x10.items.list) (Has.left (Has.of mT0)) ?_;refine bV (mI x10.items.list) (Has.right (Has.of mT1)) ?_;have hz: ∀y∈(x10.items.list.map ItemV.it),∀z∈y.nums,-9223372036854775808≤z∧z≤9223372036854775807:=fun y hy z hzz=>by obtain⟨it,h1,rfl⟩:=List.mem_map.1 hy;exact(hli.2 it h1).2 z hzz
    refine bE<|sp hT ?_;refine ss (ldO hT (bL .head)) ?_;refine ss (gV rfl rfl rfl (by first | omega | (simp;omega))) ?_;refine sp2 hT ?_;refine nn<|bA<|sr<|sp3 hT ?_;refine nn<|bH rfl (fun hc107=>?_) (fun hc107=>?_)
    · have hc107:=eq_of_beq hc107;refine bE<|sp2 hT ?_;refine nn<|sr<|sp2 hT ?_;refine ss (ldO hT (fE .head)) ?_;refine sp hT ?_;refine bO Tryz.func169 (bGu b r1 r2 (bJx u b) G out.length c _ _ x10.items.list 255 (by omega) hli.2) rfl rfl (.cons kT1 .nil) ⟨(Has.of mT5),(Has.of mT6),(Has.of mT7),(Has.of mT1),(Has.of mT0),trivial⟩ fun _=>?_;refine sp4 hT ?_;refine sp hT ?_;refine nn<|bA<|sr<|sp3 hT ?_;refine cF (fun hg118=>?_) (fun hg118=>?_)
      · have hg118:=gC hg118;refine sk4 ?_;refine sk3 ?_;refine sp2 hT ?_;refine sk4 ?_;refine sk4 ?_;refine sk ?_;refine sp hT ?_;refine nn<|cI rfl rfl ?_;refine sr<|sp hT ?_;refine nn<|bG<|bC<|bI<|bC<|bC<|bI<|bC ?_;have hr:=hR.symm.trans (hinv22.2.1.trans (show fK (P.pr.lines.drop i) out=(out,false) from (by first | exact rH hx0 (by rw [if_pos (by omega)];exact rA (by assumption)) | exact pY hx0 (by omega) (by assumption) hex | exact lT hx0 (by omega) (by first | assumption | (rw [show x10.ln.name=[] from by assumption];exact tF)) hex | exact False.elim (by omega))));subst hr;exact bR ((_,_),u) rfl (bD rfl) (.cons .head (.cons kT1 .nil)) ⟨Has.pure (hinv22.2.2.1),trivial⟩ rfl
      have hg118:=fN hg118;have hex:=bMr (by assumption:(gM (x10.items.list.map ItemV.it) 255).isSome=true);have hexl:=bMh hz hex;refine sp3 hT ?_;refine cF (fun hg121=>?_) (fun hg121=>?_)
      · have hg121:=eq_of_beq hg121;refine sp hT ?_;refine ss (ldO hT (bL kT1)) ?_;refine sp hT ?_;refine cF (fun hg124=>?_) (fun hg124=>?_)
        · have hg124:x10.name=([]:Bs):=eq_of_beq hg124;refine sp hT ?_;refine cH (t':=false) (by decide) ?_;refine sp4 hT ?_;refine sp2 hT ?_;refine cF (fun hg131=>?_) (fun hg131=>?_)
          · have hg131:=of_decide_eq_true hg131;omega
          have hg131:=Int.not_lt.1 (of_decide_eq_false hg131);refine sk4 ?_;refine sp2 hT ?_;refine nn<|cN rfl rfl ?_;refine bK<|bB<|bE<|sp3 hT ?_;refine bO Tryz.func168 (yT b r1 r2 u G c out ([111,117,116,32]:Bs) ((gM (x10.items.list.map ItemV.it) 255).getD []) (by simp;omega)) rfl rfl (.cons .head (.cons kT1 .nil)) trivial fun⟨G13,c14⟩=>?_;refine dU<|cA<|bB<|bE<|sp hT ?_;refine bP (z':=(((i+1):Nat):Int)) (cL (by omega) (by omega)) ?_;refine sp hT ?_;refine nn ?_;exact cP (i+1,(out++((([111,117,116,32]:Bs)++((gM (x10.items.list.map ItemV.it) 255).getD []))++[10])),true,_,_) (by dsimp only;omega) ⟨rfl,trivial⟩ ⟨rfl,rfl,rfl,rfl,trivial⟩ (.cons .head (.cons .head (.cons kT1 .nil))) ⟨Has.pure (⟨by dsimp only;omega,hinv22.2.1.trans (lines_out hx0 (by omega) (by assumption) hex),fun h=>by simp at h,by simp;omega⟩),trivial⟩ (bF.drop 4)
        have hg124:x10.name≠([]:Bs):=fun h=>absurd (beq_iff_eq.2 h) (by rw [show(x10.name==([]:Bs))=false from hg124];simp);refine sp hT ?_;refine cH (t':=true) (by decide) ?_;refine sp2 hT ?_;refine sk4 ?_;refine sk4 ?_;refine sk ?_;refine sp hT ?_;refine nn<|cI rfl rfl ?_;refine sr<|sp hT ?_;refine nn<|bG<|bC<|bI<|bC<|bC<|bI<|bC ?_;have hr:=hR.symm.trans (hinv22.2.1.trans (show fK (P.pr.lines.drop i) out=(out,false) from (by first | exact rH hx0 (by rw [if_pos (by omega)];exact rA (by assumption)) | exact pY hx0 (by omega) (by assumption) hex | exact lT hx0 (by omega) (by first | assumption | (rw [show x10.ln.name=[] from by assumption];exact tF)) hex | exact False.elim (by omega))));subst hr;exact bR ((_,_),u) rfl (bD rfl) (.cons .head (.cons kT1 .nil)) ⟨Has.pure (hinv22.2.2.1),trivial⟩ rfl
      have hg121:=beq_eq_false_iff_ne.1 hg121;omega
    have hc107:=beq_eq_false_iff_ne.1 hc107;refine bK<|bB<|sr<|sp2 hT ?_;refine ss (ldO hT (fE .head)) ?_;refine sp hT ?_;refine bO Tryz.func169 (bGu b r1 r2 (bJx u b) G out.length c _ _ x10.items.list 254 (by omega) hli.2) rfl rfl (.cons kT1 .nil) ⟨(Has.of mT5),(Has.of mT6),(Has.of mT7),(Has.of mT1),(Has.of mT0),trivial⟩ fun _=>?_;refine sp4 hT ?_;refine sp hT ?_;refine nn<|bA<|sr<|sp3 hT ?_;refine cF (fun hg118=>?_) (fun hg118=>?_)
    · have hg118:=gC hg118;refine sk4 ?_;refine sk3 ?_;refine sp2 hT ?_;refine sk4 ?_;refine sk4 ?_;refine sk ?_;refine sp hT ?_;refine nn<|cI rfl rfl ?_;refine sr<|sp hT ?_;refine nn<|bG<|bC<|bI<|bC<|bC<|bI<|bC ?_;have hr:=hR.symm.trans (hinv22.2.1.trans (show fK (P.pr.lines.drop i) out=(out,false) from (by first | exact rH hx0 (by rw [if_neg (by omega)];exact rA (by assumption)) | exact pY hx0 (by omega) (by assumption) hex | exact lT hx0 (by omega) (by first | assumption | (rw [show x10.ln.name=[] from by assumption];exact tF)) hex | exact False.elim (by omega))));subst hr;exact bR ((_,_),u) rfl (bD rfl) (.cons .head (.cons kT1 .nil)) ⟨Has.pure (hinv22.2.2.1),trivial⟩ rfl
    have hg118:=fN hg118;have hex:=bMr (by assumption:(gM (x10.items.list.map ItemV.it) 254).isSome=true);have hexl:=bMh hz hex;refine sp3 hT ?_;refine cF (fun hg121=>?_) (fun hg121=>?_)
    · have hg121:=eq_of_beq hg121;omega
    have hg121:=beq_eq_false_iff_ne.1 hg121;refine sp hT ?_;refine ss (ldO hT (bL kT1)) ?_;refine sp hT ?_;refine cF (fun hg124=>?_) (fun hg124=>?_)
    · have hg124:x10.name=([]:Bs):=eq_of_beq hg124;refine sp hT ?_;refine cH (t':=true) (by decide) ?_;refine sp2 hT ?_;refine sk4 ?_;refine sk4 ?_;refine sk ?_;refine sp hT ?_;refine nn<|cI rfl rfl ?_;refine sr<|sp hT ?_;refine nn<|bG<|bC<|bI<|bC<|bC<|bI<|bC ?_;have hr:=hR.symm.trans (hinv22.2.1.trans (show fK (P.pr.lines.drop i) out=(out,false) from (by first | exact rH hx0 (by rw [if_neg (by omega)];exact rA (by assumption)) | exact pY hx0 (by omega) (by assumption) hex | exact lT hx0 (by omega) (by first | assumption | (rw [show x10.ln.name=[] from by assumption];exact tF)) hex | exact False.elim (by omega))));subst hr;exact bR ((_,_),u) rfl (bD rfl) (.cons .head (.cons kT1 .nil)) ⟨Has.pure (hinv22.2.2.1),trivial⟩ rfl
    have hg124:x10.name≠([]:Bs):=fun h=>absurd (beq_iff_eq.2 h) (by rw [show(x10.name==([]:Bs))=false from hg124];simp);refine sp hT ?_;refine cH (t':=false) (by decide) ?_;refine sp4 hT ?_;refine sp2 hT ?_;refine cF (fun hg131=>?_) (fun hg131=>?_)
    · have hg131:=of_decide_eq_true hg131;refine sp hT ?_;refine ss (ldO hT (bL kT1)) ?_;refine bO Tryz.func76 (mD _ hli.1) rfl rfl .nil ⟨Has.of mT7,trivial⟩ fun _=>?_;refine sp3 hT ?_;refine nn<|bH rfl (fun hc137=>?_) (fun hc137=>?_)
      · have hc137:=gC hc137;refine sr<|sp hT ?_;refine nn<|bG<|bC<|bI<|bC<|bC<|bI<|bC ?_;have hr:=hR.symm.trans (hinv22.2.1.trans (show fK (P.pr.lines.drop i) out=(out,false) from (by first | exact rH hx0 (by rw [if_neg (by omega)];exact rA (by assumption)) | exact pY hx0 (by omega) (by assumption) hex | exact lT hx0 (by omega) (by first | assumption | (rw [show x10.ln.name=[] from by assumption];exact tF)) hex | exact False.elim (by omega))));subst hr;exact bR ((_,_),u) rfl (bD rfl) (.cons .head (.cons kT1 .nil)) ⟨Has.pure (hinv22.2.2.1),trivial⟩ rfl
      have hc137:=fN hc137;refine bK<|bB ?_;have hnl:=tE (by assumption:dW x10.name=true);refine bE<|sp3 hT ?_;refine bO Tryz.func168 (yT b r1 r2 u G c out (x10.name++([58,32]:Bs)) ((gM (x10.items.list.map ItemV.it) 254).getD []) (by simp;omega)) rfl rfl (.cons .head (.cons kT1 .nil)) trivial fun⟨G15,c16⟩=>?_;refine dU<|cA<|bB<|bE<|sp hT ?_;refine bP (z':=(((i+1):Nat):Int)) (cL (by omega) (by omega)) ?_;refine sp hT ?_;refine nn ?_;exact cP (i+1,(out++(((x10.name++([58,32]:Bs))++((gM (x10.items.list.map ItemV.it) 254).getD []))++[10])),true,_,_) (by dsimp only;omega) ⟨rfl,trivial⟩ ⟨rfl,rfl,rfl,rfl,trivial⟩ (.cons .head (.cons .head (.cons kT1 .nil))) ⟨Has.pure (⟨by dsimp only;omega,hinv22.2.1.trans (lines_step hx0 (by omega) (by assumption) hex),fun h=>by simp at h,by have:=tE ‹dW x10.name=true›;simp;omega⟩),trivial⟩ (bF.drop 4)
    have hg131:=Int.not_lt.1 (of_decide_eq_false hg131);omega
  have hc98:=Int.not_lt.1 (of_decide_eq_false hc98);refine cW<|cM<|cM<|cX<|bB<|sr<|sp hT ?_;refine nn<|bG ?_;have hr:=hR.symm.trans (hinv22.2.1.trans (bLx (by omega)));subst hr;exact bR ((_,_),u) rfl (bD rfl) (.cons .head (.cons .head .nil)) ⟨Has.pure (hinv22.2.2.1),trivial⟩ rfl
set_option maxRecDepth 100000 in
theorem bstrN_spec(b r1 r2:Nat)(p:Value)(g c:Nat)(out:Bs)(h0:out≠[])(hc:out.length≤c):dH Tryz.prog 99 [.pointer (some ⟨b,2,none⟩)] [.obj b (.cells [.map (some r1),.map (some r2),p,.slice (some ⟨g,0,none⟩) out.length c].toArray 179),nT.row (.slice (some ⟨g,0,none⟩) out.length c) 5 out] [] (fun(_:Unit)=> .string (bs out)) (fun _=>[]) (fun _=>[]):=by
  have hT:=iW;refine cQ Tryz.func99 rfl Tryz.ntmps99 rfl ?_;intro β hM;refine sr<|sp hT ?_;refine nn<|bA<|cU _ _ [(true,0),(true,1),(true,2),(true,3),(true,4),(true,5),(true,6),(true,7),(true,8),(true,9),(false,10),(true,11)] cY (by decide+kernel) (.cons .head .nil) bF.self ?_;refine puM hT ?_;refine puM hT ?_;refine puM hT ?_;refine stM rfl (ldO hT (tS .head)) ?_;refine stM rfl (xO rfl rfl (.inr (by have:=List.length_pos_iff.2 h0;omega))) ?_;refine puM hT ?_;refine puM hT ?_;refine puM hT ?_;refine stM rfl (ldO hT (tS .head)) ?_;refine puM hT ?_;refine cC (o:=_) rfl ?_;refine bEr kT1 rfl rfl rfl rfl u8Ptr (by kernel_rfl) rfl rfl rfl h0 ?_;refine cB (.cons .head .nil) trivial ?_;refine puM hT ?_;refine cK<|bB<|bG ?_;exact bR () rfl (bD rfl) .nil trivial (rfl)
set_option maxRecDepth 100000 in
theorem bstrE_spec(b r1 r2:Nat)(p:Value)(c:Nat):dH Tryz.prog 99 [.pointer (some ⟨b,2,none⟩)] [.obj b (.cells [.map (some r1),.map (some r2),p,.slice none 0 c].toArray 179)] [] (fun(_:Unit)=> .string (bs [])) (fun _=>[]) (fun _=>[]):=by
  have hT:=iW;refine cQ Tryz.func99 rfl Tryz.ntmps99 rfl ?_;intro β hM;refine sr<|sp hT ?_;refine nn<|bA<|cU _ _ [(true,0),(true,1),(true,2),(true,3),(true,4),(true,5),(true,6),(true,7),(true,8),(true,9),(true,10),(true,11)] cY (by decide+kernel) (.cons .head .nil) bF.self ?_;refine puM hT ?_;refine puM hT ?_;refine puM hT ?_;refine stM rfl (ldO hT (tS .head)) ?_;refine stM rfl (xO rfl rfl (.inl rfl)) ?_;refine puM hT ?_;refine puM hT ?_;refine puM hT ?_;refine stM rfl (ldO hT (tS .head)) ?_;refine puM hT ?_;refine stM rfl (sti_noString rfl rfl rfl) ?_;refine puM hT ?_;refine cK<|bB<|bG ?_;exact bR () rfl (bD rfl) .nil trivial (rfl)
set_option maxRecDepth 100000 in
theorem swrite_spec(P:ProgV)(hP:sK P)(hl1:P.inputs.list.length≤140737488355328)(hl2:P.lines.list.length≤140737488355328):dH Tryz.prog 54 [.agg #[.slice P.inputs.addr P.inputs.list.length P.inputs.cap,.slice P.lines.addr P.lines.list.length P.lines.cap]] [] [iA,jT.sl (.slice P.inputs.addr P.inputs.list.length P.inputs.cap) P.inputs.list,iN P.inputs.list,nR.sl (.slice P.lines.addr P.lines.list.length P.lines.cap) P.lines.list,kL P.lines.list] (fun(_:Unit)=> .tuple #[.string (bs (dS P.pr).1),.bool (dS P.pr).2]) (fun _=>[]) (fun _=>[]):=by
  have hT:=iW;refine cQ Tryz.func54 rfl Tryz.ntmps54 rfl ?_;intro β hM;refine sr<|fL rfl rfl rfl rfl rfl rfl fun b1=>?_;refine sp2 hT ?_;refine nn<|sr<|bO Tryz.func97 (bFt false) rfl rfl .nil ⟨(Has.of mT0),trivial⟩ fun r2=>?_;refine bO Tryz.func97 (bFt true) rfl rfl .nil ⟨(Has.of mT1),trivial⟩ fun r3=>?_;refine ss (bY rfl rfl (shower_built _ _)) ?_;refine fL rfl rfl rfl rfl rfl rfl fun b4=>?_;refine sp hT ?_;refine nn<|sr<|sp hT ?_;refine ss (ldN hT (bL kT1)) ?_;refine dQ (t:=5) nT ?_;refine bO Tryz.func98 (bKk b4 r2 r3 P hP hl1 hl2) rfl rfl (.cons kT1 (.cons .head .nil)) ⟨(Has.of mT1),(Has.of mT0),(Has.of mT2),(Has.of mT3),(Has.of mT4),(Has.of mT5),(Has.of mT6),trivial⟩ fun⟨⟨G5,c6⟩,u7⟩=>?_;refine cD (Has.of mT0) fun hemp=>?_;dsimp only at hemp;refine sp hT ?_;refine nn<|bA ?_
  rcases Decidable.em ((dS P.pr).1=[]) with h0 | h0
  · skip
    refine bE<|sp3 hT ?_;have hg:=hemp h0;subst hg;rw [h0];refine bO Tryz.func99 (bstrE_spec b4 r2 r3 (bJx u7 b4) c6) rfl rfl (.cons .head .nil) trivial fun _=>?_;refine sp3 hT ?_;refine nn<|bG ?_;exact bM () rfl (bD rfl) (bD rfl) .nil trivial (by first | rfl | rw [h0])
  skip
  refine bE<|sp3 hT ?_;refine fC kT1 fun hcap=>?_;refine at_rowg kT1 (List.length_pos_iff.2 h0) fun g hg=>?_;subst hg;refine bO Tryz.func99 (bstrN_spec b4 r2 r3 (bJx u7 b4) g c6 (dS P.pr).1 h0 hcap) rfl rfl (.cons .head (.cons .head .nil)) trivial fun _=>?_;refine sp3 hT ?_;refine nn<|bG ?_;exact bM () rfl (bD rfl) (bD rfl) .nil trivial (by first | rfl | rw [h0])
set_option maxRecDepth 100000 in
theorem sRight_spec(P:ProgV)(hP:sK P)(hl1:P.inputs.list.length≤140737488355328)(hl2:P.lines.list.length≤140737488355328):dH Tryz.prog 41 [.agg #[.slice P.inputs.addr P.inputs.list.length P.inputs.cap,.slice P.lines.addr P.lines.list.length P.lines.cap]] [] [iA,jT.sl (.slice P.inputs.addr P.inputs.list.length P.inputs.cap) P.inputs.list,iN P.inputs.list,nR.sl (.slice P.lines.addr P.lines.list.length P.lines.cap) P.lines.list,kL P.lines.list] (fun(_:Unit)=> .bool (dS P.pr).2) (fun _=>[]) (fun _=>[]):=by
  have hT:=iW;refine cQ Tryz.func41 rfl Tryz.ntmps41 rfl ?_;intro β hM;refine sr<|fL rfl rfl rfl rfl rfl rfl fun b1=>?_;refine sp hT ?_;refine nn<|sr<|ss (ldN hT (bL .head)) ?_;refine bO Tryz.func54 (swrite_spec P hP hl1 hl2) rfl rfl .nil ⟨Has.of mT0,Has.of mT1,Has.of mT2,Has.of mT3,Has.of mT4,trivial⟩ fun _=>?_;refine sp4 hT ?_;refine sp hT ?_;refine nn<|sr<|sp2 hT ?_;refine nn<|bG ?_;exact bR () rfl (bD rfl) .nil trivial (rfl)
end Go.Proofs.YtbgdphbebhjpiaaGreatDoor
namespace Go.Proofs.YtbgdphbebhjpiaaGreatDoor
open Go.RowKit
section
variable {α : Type} {f : α → α → Bool} {x y : α} {i : Nat}
theorem bLl{a b:List α}{k:Nat}(h:a.take k=b.take k)(hx:a[k]?=some x)(hy:b[k]?=some y)(e:x=y):a.take (k+1)=b.take (k+1):=by
  subst e;rw [List.take_add_one,List.take_add_one,h,hx,hy]
theorem take_all{a b:List α}{k:Nat}(h:a.take k=b.take k)(ha:a.length≤k)(hb:b.length≤k):a=b:=by
  rw [List.take_of_length_le ha,List.take_of_length_le hb] at h;exact h
theorem not_take{a b:List α}{k:Nat}(hx:a[k]?=some x)(hy:b[k]?=some y)(e:x≠y):a≠b:=by
  rintro rfl;rw [hx] at hy;exact e (Option.some.inj hy)
end
end Go.Proofs.YtbgdphbebhjpiaaGreatDoor
namespace Go.Proofs.YtbgdphbebhjpiaaGreatDoor
open Go.RowKit
theorem step_bound{st st':List fO}{x:dN}(h:iL st x=some st'):x.name.length≤16∧x.nums.length≤256:=by
  unfold iL at h;split at h
  · unfold operandS at h;split at h
    · split at h
      · rename_i hb;rw [hb.2.1];exact⟨(oZ hb.2.2).len,by simp⟩
      · simp at h
    · split at h
      · simp at h
      · rename_i hb;simp only [not_or,ne_eq,Classical.not_not,Nat.not_lt] at hb;rw [hb.2.1];exact⟨by simp,hb.2.2.2⟩
  · split at h
    · cases h
    · rename_i hb;simp only [not_or,ne_eq,Classical.not_not] at hb;rw [hb.2.2.1,hb.2.2.2.1];exact⟨by simp,by simp⟩
theorem bDb: ∀{l:List dN} {st st':List fO},fU l st=some st'→ ∀x∈l,x.name.length≤16∧x.nums.length≤256
  | [],_,_,_,x,hx=>by simp at hx
  | y::l,st,st',h,x,hx=>by
    rw [fU] at h
    cases h1:iL st y with
    | none=>rw [h1] at h;cases h
    | some s1=>
      rw [h1] at h
      rcases List.mem_cons.1 hx with rfl | hx
      · exact step_bound h1
      · exact bDb h x hx
theorem bId{l:List dN}{m:Nat}{t:Bs}(h:gM l m=some t):l.length≤m∧ ∀x∈l,x.name.length≤16∧x.nums.length≤256:=by
  unfold gM at h;split at h
  · cases h
  · rename_i hl;split at h
    · rename_i hq;exact⟨by omega,bDb hq⟩
    · cases h
theorem vT: ∀{ds:List mP} {acc t:Bs},kC ds acc=some t→ ∀d∈ds,d.name.length≤16
  | [],_,_,_,d,hd=>by simp at hd
  | e::ds,acc,t,h,d,hd=>by
    rw [kC] at h;split at h
    · rename_i he
      rcases List.mem_cons.1 hd with rfl | hd
      · rw [he];simp
      · exact vT h d hd
    · split at h
      · rename_i hb
        rcases List.mem_cons.1 hd with rfl | hd
        · exact(oZ hb.2).len
        · exact vT h d hd
      · cases h
theorem bAm: ∀{xs:List dX} {o o':Bs},iO xs o=(o',true)→ ∀x∈xs,x.name.length≤16∧x.sides.length≤4∧ ∀d∈x.sides,d.name.length≤16
  | [],_,_,_,x,hx=>by simp at hx
  | y::xs,o,o',h,x,hx=>by
    rw [iO] at h
    cases hi:mJ y with
    | none=>rw [hi] at h;simp at h
    | some t=>
      rw [hi] at h;simp only at h
      rcases List.mem_cons.1 hx with rfl | hx
      · unfold mJ at hi;split at hi
        · cases hi
        · rename_i hb;simp only [not_or,Bool.not_eq_false,Nat.not_lt] at hb;exact⟨(oZ hb.1).len,hb.2,vT hi⟩
      · exact bAm h x hx
theorem bDj: ∀{ls:List lK} {o o':Bs},fK ls o=(o',true)→ ∀l∈ls,l.name.length≤16∧l.items.length≤255∧ ∀x∈l.items,x.name.length≤16∧x.nums.length≤256
  | [],_,_,_,l,hl=>by simp at hl
  | [m],o,o',h,l,hl=>by
    rw [List.mem_singleton.1 hl];simp only [fK] at h
    cases hx:gM m.items 255 with
    | none=>rw [hx] at h;simp at h
    | some t=>
      rw [hx] at h;simp only at h;split at h
      · simp at h
      · rename_i hn;simp only [ne_eq,Classical.not_not] at hn;obtain⟨a,b⟩:=bId hx;exact⟨by rw [hn];simp,a,b⟩
  | m::n::ls,o,o',h,l,hl=>by
    have h':(match gM m.items 254 with
        | none=>(o,false)
        | some t=>if dW m.name=false then (o,false) else fK (n::ls) (o++(((m.name++[58,32])++t)++[10])))=(o',true):=h
    cases hx:gM m.items 254 with
    | none=>rw [hx] at h';simp at h'
    | some t=>
      rw [hx] at h';simp only at h';split at h'
      · simp at h'
      · rename_i hb;simp only [Bool.not_eq_false] at hb
        rcases List.mem_cons.1 hl with rfl | hl
        · obtain⟨a,b⟩:=bId hx;exact⟨(oZ hb).len,by omega,b⟩
        · exact bDj h' l hl
structure Fine (p:Prog):Prop where
  ins:p.inputs.length≤64
  lns:p.lines.length≤64
  input: ∀x∈p.inputs,x.name.length≤16∧x.sides.length≤4∧ ∀d∈x.sides,d.name.length≤16
  line: ∀l∈p.lines,l.name.length≤16∧l.items.length≤255∧ ∀x∈l.items,x.name.length≤16∧x.nums.length≤256
theorem uR{p:Prog}(h:(dS p).2=true):Fine p:=by
  unfold dS at h;split at h
  · cases h
  · rename_i hb;simp only [not_or,Nat.not_lt] at hb
    cases hi:iO p.inputs [] with
    | mk o b=>
      rw [hi] at h
      cases b with
      | false=>cases h
      | true=>
        simp only at h;exact⟨by omega,by omega,bAm hi,bDj (o':=(fK p.lines o).1) (Prod.ext rfl h)⟩
section
variable {x : ProgV}
theorem zG{y:InputV}(h:y∈x.inputs.list):y.inp∈x.pr.inputs:=List.mem_map.2 ⟨y,h,rfl⟩
theorem mem_ln{y:LineV}(h:y∈x.lines.list):y.ln∈x.pr.lines:=List.mem_map.2 ⟨y,h,rfl⟩
theorem mem_sd{y:InputV}{d:jH}(h:d∈y.sides.list):d.sd∈y.inp.sides:=List.mem_map.2 ⟨d,h,rfl⟩
theorem mem_it{y:LineV}{d:ItemV}(h:d∈y.items.list):d.it∈y.ln.items:=List.mem_map.2 ⟨d,h,rfl⟩
theorem Fine.ok(h:Fine x.pr)(hr:RngP x.pr):sK x∧x.inputs.list.length≤140737488355328∧x.lines.list.length≤140737488355328:=by
  have e1:x.pr.inputs.length=x.inputs.list.length:=List.length_map _;have e2:x.pr.lines.length=x.lines.list.length:=List.length_map _;have h1:=h.ins;have h2:=h.lns;refine⟨⟨fun y hy=>?_,fun y hy=>?_⟩,by omega,by omega⟩
  · obtain⟨a,b,c⟩:=h.input _ (zG hy);refine⟨Nat.le_trans a (by decide),fun d hd=>⟨Nat.le_trans (c _ (mem_sd hd)) (by decide),?_⟩⟩;exact hr.ins _ (zG hy) _ (mem_sd hd)
  · obtain⟨a,b,c⟩:=h.line _ (mem_ln hy);refine⟨Nat.le_trans a (by decide),fun d hd=>⟨Nat.le_trans (c _ (mem_it hd)).1 (by decide),?_⟩⟩;exact hr.lns _ (mem_ln hy) _ (mem_it hd)
end
theorem flt_of{f:Flt}(h:mW ⟨f.1,f.2⟩ ⟨0,0⟩=true):f=(0,0):=pU.1 h
theorem flt_not{f:Flt}(h:mW ⟨f.1,f.2⟩ ⟨0,0⟩=false):f≠(0,0):=fun e=>by rw [e] at h;cases h
end Go.Proofs.YtbgdphbebhjpiaaGreatDoor
namespace Go.Proofs.YtbgdphbebhjpiaaGreatDoor
open Go.RowKit
abbrev w64(z:Int):Int:=IntKind.i64.wrap z
def gD (f:Int)(two:Bool):Bool:=if f<1∨17<f then false else if f=16 then !two else two || decide (f≤7)
def sP (a b:Int):Int:=if a.tmod b≠0∧decide (a.tmod b<0)≠decide (b<0) then w64 (a.tmod b+b) else a.tmod b
def uQ (b:Bool):Int:=if b then 1 else 0
def big1 (a:Int):Bool:=decide (1<IntKind.u64.wrap a)
def gQ (f a b:Int):Bool:=if f=4 then b==0 else if f=17 then decide (b<0) else if f=14∨f=15 then big1 a || big1 b else false
def lB:Nat→Int→Int→Nat→Int
  | 0,p,_,_=>p
  | k+1,p,a,n=>if n=0 then p else lB k (if n%2=1 then w64 (p*a) else p) (w64 (a*a)) (n/2)
def yY (a n:Int):Int:=lB (n.toNat+1) 1 a n.toNat
def uJ (f a b:Int):Bool:=if f=8 then a==b else if f=9 then a !=b else if f=10 then decide (a<b) else if f=11 then decide (a≤b) else if f=12 then decide (b≤a) else decide (b<a)
def andW (a b:Int):Int:=w64 ((BitVec.ofInt 64 a&&&BitVec.ofInt 64 b).toNat:Nat)
def orW (a b:Int):Int:=w64 ((BitVec.ofInt 64 a ||| BitVec.ofInt 64 b).toNat:Nat)
def xorW (a b:Int):Int:=w64 ((BitVec.ofInt 64 a^^^BitVec.ofInt 64 b).toNat:Nat)
def divW (a b:Int):Int:=if sP a b≠a.tmod b then w64 (w64 (a.tdiv b)-1) else w64 (a.tdiv b)
def minW (a b:Int):Int:=if b<a then b else a
def maxW (a b:Int):Int:=if b>a then b else a
def qG (f a b:Int):Int:=
  if f=1 then w64 (a+b) else if f=2 then w64 (a-b) else if f=3 then w64 (a*b) else if f=4 then divW a b else if f=5 then (if a=0 then b else sP b a)
  else if f=6 then minW a b else if f=7 then maxW a b else if f=14 then andW a b else if f=15 then orW a b else if f=17 then yY a b else uQ (uJ f a b)
def oP (f a b:Int):Int×Int:=if gD f true=false then (0,10) else if gQ f a b=true then (0,11) else (qG f a b,0)
def gW (f a:Int):Int×Int:=
  if gD f false=false then (0,10) else if f=2 then (w64 (0-a),0) else if f=3 then (w64 (uQ (decide (0<a))-uQ (decide (a<0))),0) else if f=4 then oP f 1 a
  else if f=5 then (maxW a (w64 (0-a)),0) else if f=16 then (if big1 a=true then (0,11) else (xorW a 1,0)) else (a,0)
def pV (f:Int):Int×Bool:=
  if f=6 then (9223372036854775807,true) else if f=7 then (-9223372036854775808,true) else if f=3∨f=4∨f=8∨f=11∨f=12∨f=14∨f=17 then (1,true) else (0,gD f true)
end Go.Proofs.YtbgdphbebhjpiaaGreatDoor
namespace Go.Proofs.YtbgdphbebhjpiaaGreatDoor
open Go.RowKit
structure Arr where
  sides:List Int
  data:List Int
  deriving Inhabited,DecidableEq
def kF:Arr:=⟨[],[]⟩
def lX (s:Int):Bool:=decide (s<0) || decide (65536<s)
def kH:List Int→Int→Int×Int
  | [],n=>(n,0)
  | s::r,n=>if 65536<w64 (n*s) then (0,61) else kH r (w64 (n*s))
def dV (s:List Int):Int×Int:=if 4<s.length∨s.any lX=true then (0,61) else if s.contains 0=true then (0,0) else kH s 1
def cO (a:Arr):Bool:=(dV a.sides).2==0&&(dV a.sides).1==(a.data.length:Int)
def nK:List Int→List Int→Int→Int×Int
  | s::sides,k::index,n=>if k<0∨s≤k then (0,62) else nK sides index (w64 (w64 (n*s)+k))
  | _,_,n=>(n,0)
def mL (sides index:List Int):Int×Int:=if (dV sides).2≠0 then (0,(dV sides).2) else if index.length≠sides.length then (0,62) else nK sides index 0
def nF:List Int→Int→List Int
  | [],_=>[]
  | s::r,p=>p.tmod s::nF r (w64 (p.tdiv s))
def jC (sides:List Int)(place:Int):List Int×Int:=
  if (dV sides).2≠0 then ([],(dV sides).2) else if place<0∨(dV sides).1≤place then ([],62) else ((nF sides.reverse place).reverse,0)
def mQ:Nat→Nat→List Int→List (List Int)
  | 0,_,_=>[]
  | _+1,_,[]=>[]
  | f+1,m,l=>l.take m::mQ f m (l.drop m)
def lastA (a:Arr):Nat:=match a.sides.getLast? with
  | none=>1
  | some s=>s.toNat
def fF (a:Arr):List (List Int)×Int:=if cO a=false then ([],60) else (mQ a.data.length (lastA a) a.data,0)
abbrev bEs:=Arr×Int
def gJ (e:Int):bEs:=(kF,e)
def gH (f wrong a b:Int):Int×Int:=((oP f a b).1,if (oP f a b).2≠0 then (oP f a b).2 else wrong)
def oM (f:Int):List (Int×Int)→Int→List Int×Int
  | [],w=>([],w)
  | (a,b)::r,w=>((gH f w a b).1::(oM f r (gH f w a b).2).1,(oM f r (gH f w a b).2).2)
def oG (sides:List Int)(r:List Int×Int):bEs:=if r.2≠0 then gJ r.2 else (⟨sides,r.1⟩,0)
def uS (a:Arr):bEs:=
  if a.sides≠[] then gJ 71 else if lX (a.data.headD 0)=true then gJ 73 else (⟨[a.data.headD 0],(List.range (a.data.headD 0).toNat).map fun i:Nat=>(i:Int)⟩,0)
def atI (l:List Int)(k:Int):Int:=l.getD k.toNat 0
def bMk (a:Arr):Arr:=⟨a.sides.reverse,(List.range a.data.length).map fun i:Nat=>atI a.data (mL a.sides (jC a.sides.reverse (i:Nat)).1.reverse).1⟩
def mapM (f:Int):List Int→List Int×Int
  | []=>([],0)
  | n::r=>if (gW f n).2≠0 then ([],(gW f n).2) else if (mapM f r).2≠0 then ([],(mapM f r).2) else ((gW f n).1::(mapM f r).1,0)
def iE (f:Int)(a:Arr):bEs:=
  if cO a=false then gJ 60
  else if f=32 then uS a
  else if f=33 then (⟨[(a.sides.length:Int)],a.sides⟩,0)
  else if f=34 then (⟨[(a.data.length:Int)],a.data⟩,0)
  else if f=35 then (⟨a.sides,((fF a).1.map List.reverse).flatten⟩,0)
  else if f=36 then (bMk a,0)
  else if gD f false=false then gJ 70
  else if (mapM f a.data).2≠0 then gJ (mapM f a.data).2 else (⟨a.sides,(mapM f a.data).1⟩,0)
def sE (l:List Int)(n:Nat):List Int:=(List.range n).map fun i=>l.getD (i%l.length) 0
def uX (a b:Arr):bEs:=
  if 1<a.sides.length then gJ 71
  else if 4<a.data.length∨a.data.any lX=true then gJ 73
  else if (dV a.data).2≠0 then gJ 74
  else if 0<(dV a.data).1∧b.data=[] then gJ 72
  else (⟨a.data,sE b.data (dV a.data).1.toNat⟩,0)
def rF (a b:Arr)(take:Bool):bEs:=
  let n:=a.data.headD 0
  let all:=b.sides.headD 0
  if a.sides≠[]∨b.sides=[] then gJ 71
  else if all<n∨n<w64 (0-all) then gJ 73
  else
    let ft:Int×Int:=if take then (if n<0 then (all+n,all) else (0,n)) else if 0≤n then (n,all) else (0,all+n)
    let sides:=(ft.2-ft.1)::b.sides.tail
    if all=0 then (⟨sides,[]⟩,0)
    else
      let cell:=b.data.length/all.toNat
      (⟨sides,(b.data.drop (ft.1.toNat*cell)).take (ft.2.toNat*cell-ft.1.toNat*cell)⟩,0)
def sidedA(s:List Int):List Int:=if s=[] then [1] else s
def bAv (a b:Arr):bEs:=
  let s:=sidedA a.sides
  let t:=sidedA b.sides
  if s.length≠t.length∨s.tail≠t.tail then gJ 72
  else
    let sides:=(s.headD 0+t.headD 0)::s.tail
    if (dV sides).2≠0 then gJ 74 else (⟨sides,a.data++b.data⟩,0)
def jF (f:Int)(a b:Arr):bEs:=
  if cO a=false∨cO b=false then gJ 60
  else if f=37 then uX a b
  else if f=38∨f=39 then rF a b (f==38)
  else if f=40 then bAv a b
  else if gD f true=false then gJ 70
  else if a.sides=b.sides then oG a.sides (oM f (a.data.zip b.data) 0)
  else if a.sides=[] then oG b.sides (oM f (b.data.map fun n=>(a.data.headD 0,n)) 0)
  else if b.sides=[] then oG a.sides (oM f (a.data.map fun n=>(n,b.data.headD 0)) 0)
  else gJ 72
def bAu (f:Int):List Int→Int→Int→Int×Int
  | [],n,w=>(n,w)
  | x::r,n,w=>bAu f r (gH f w n x).1 (gH f w n x).2
def qD (f:Int):List (List Int)→Int→List Int×Int
  | [],w=>([],w)
  | l::r,w=>((bAu f l.tail (l.headD 0) w).1::(qD f r (bAu f l.tail (l.headD 0) w).2).1,(qD f r (bAu f l.tail (l.headD 0) w).2).2)
def mH (f:Int)(a:Arr):bEs:=
  if cO a=false then gJ 60
  else if gD f true=false then gJ 70
  else if a.sides=[] then (⟨[],a.data⟩,0)
  else if (dV a.sides.dropLast).2≠0 then gJ 74
  else if a.sides.getLastD 0=0 then (⟨a.sides.dropLast,List.replicate (dV a.sides.dropLast).1.toNat (pV f).1⟩,0)
  else oG a.sides.dropLast (qD f (fF a).1 0)
def oS (f:Int):List Int→Int→Int→List Int×Int
  | [],_,w=>([],w)
  | x::r,n,w=>((gH f w n x).1::(oS f r (gH f w n x).1 (gH f w n x).2).1,(oS f r (gH f w n x).1 (gH f w n x).2).2)
def oD (f:Int):List (List Int)→Int→List (List Int)×Int
  | [],w=>([],w)
  | l::r,w=>((l.headD 0::(oS f l.tail (l.headD 0) w).1)::(oD f r (oS f l.tail (l.headD 0) w).2).1,(oD f r (oS f l.tail (l.headD 0) w).2).2)
def qF (f:Int)(a:Arr):bEs:=
  if cO a=false then gJ 60
  else if gD f true=false then gJ 70
  else oG a.sides ((oD f (fF a).1 0).1.flatten,(oD f (fF a).1 0).2)
def pairsOf(a b:List Int):List (Int×Int):=a.flatMap fun x=>b.map fun y=>(x,y)
def kK (f:Int)(a b:Arr):bEs:=
  if cO a=false∨cO b=false then gJ 60
  else if gD f true=false then gJ 70
  else if 4<(a.sides++b.sides).length then gJ 71
  else if (dV (a.sides++b.sides)).2≠0 then gJ 74
  else oG (a.sides++b.sides) (oM f (pairsOf a.data b.data) 0)
end Go.Proofs.YtbgdphbebhjpiaaGreatDoor
namespace Go.Proofs.YtbgdphbebhjpiaaGreatDoor
open Go.RowKit
theorem vG{z:Int}(h0: -9223372036854775808≤z)(h1:z≤9223372036854775807):w64 z=z:=by
  simp only [IntKind.wrap,IntKind.signed,IntKind.bits];simp;omega
def dI:List Int→Int
  | []=>1
  | s::r=>s*dI r
theorem mA: ∀{l:List Int},(∀x∈l,0≤x)→0≤dI l
  | [],_=>by decide
  | s::r,h=>Int.mul_nonneg (h s (by simp)) (mA fun x hx=>h x (by simp [hx]))
theorem yF: ∀{l:List Int},(0:Int)∈l→dI l=0
  | [],h=>by simp at h
  | s::r,h=>by
    rcases List.mem_cons.1 h with rfl | h
    · simp [dI]
    · rw [dI,yF h,Int.mul_zero]
theorem mG: ∀(a b:List Int),dI (a++b)=dI a*dI b
  | [],b=>by simp [dI]
  | s::a,b=>by rw [List.cons_append,dI,dI,mG a b,Int.mul_assoc]
theorem lH: ∀(a:List Int),dI a.reverse=dI a
  | []=>rfl
  | s::a=>by
    rw [List.reverse_cons,mG,lH a,dI,dI,dI,Int.mul_one,Int.mul_comm]
theorem bKr: ∀{l:List Int} {n m e:Int},(∀x∈l,0≤x∧x≤65536)→0≤n→n≤65536→kH l n=(m,e)→e=0→m=n*dI l∧m≤65536
  | [],n,m,e,_,_,h1,h,_=>by
    cases h;simp [dI,h1]
  | s::r,n,m,e,hl,h0,h1,h,he=>by
    obtain⟨s0,s1⟩:=hl s (by simp);have hb:0≤n*s:=Int.mul_nonneg h0 s0;have hc:n*s≤65536*65536:=Int.mul_le_mul h1 s1 s0 (by decide);have hw:w64 (n*s)=n*s:=vG (by omega) (by omega);rw [kH,hw] at h;split at h
    · cases h;cases he
    · obtain⟨a,b⟩:=bKr (fun x hx=>hl x (by simp [hx])) hb (by omega) h he;exact⟨by rw [a,dI,Int.mul_assoc],b⟩
structure lY (s:List Int):Prop where
  len:s.length≤4
  rng: ∀x∈s,0≤x∧x≤65536
  prod:0≤dI s∧dI s≤65536
theorem badN_no{x:Int}(h:lX x=false):0≤x∧x≤65536:=by
  simp only [lX,Bool.or_eq_false_iff,decide_eq_false_iff_not] at h;omega
theorem badN_of{x:Int}(h:0≤x∧x≤65536):lX x=false:=by
  simp only [lX,Bool.or_eq_false_iff,decide_eq_false_iff_not];omega
theorem tT{s:List Int}(h:(dV s).2=0):lY s∧(dV s).1=dI s:=by
  unfold dV at h⊢;split at h
  · cases h
  · rename_i hb;rw [if_neg hb];simp only [not_or,Nat.not_lt,Bool.not_eq_true,List.any_eq_false] at hb;have hr: ∀x∈s,0≤x∧x≤65536:=fun x hx=>badN_no (by simpa using hb.2 x hx);have hnn:0≤dI s:=mA fun x hx=>(hr x hx).1;split at h
    · rename_i h0;rw [if_pos h0];have h0':(0:Int)∈s:=by simpa using h0
      have hz:=yF h0';exact⟨⟨hb.1,hr,by omega⟩,hz.symm⟩
    · rename_i h0;rw [if_neg h0];obtain⟨a,b⟩:=bKr hr (by decide) (by decide) (m:=(kH s 1).1) (e:=(kH s 1).2) rfl h;rw [Int.one_mul] at a;exact⟨⟨hb.1,hr,by omega⟩,a⟩
theorem bMv: ∀{l:List Int} {n:Int},(∀x∈l,1≤x∧x≤65536)→1≤n→n*dI l≤65536→kH l n=(n*dI l,0)
  | [],n,_,_,_=>by simp [kH,dI]
  | s::r,n,hl,h0,h=>by
    obtain⟨s0,s1⟩:=hl s (by simp);have hp:1≤dI r:=prodL_pos fun x hx=>(hl x (by simp [hx])).1
    have hb:1≤n*s:=by
      have:=Int.mul_le_mul h0 s0 (by decide) (by omega);omega
    have hc:n*s≤n*s*dI r:=by
      have:=Int.mul_le_mul_of_nonneg_left hp (show 0≤n*s by omega);omega
    rw [dI,←Int.mul_assoc] at h⊢;have hw:w64 (n*s)=n*s:=vG (by omega) (by omega);rw [kH,hw,if_neg (by omega),bMv (fun x hx=>hl x (by simp [hx])) hb h]
where
  prodL_pos: ∀{l:List Int},(∀x∈l,1≤x)→1≤dI l
    | [],_=>by decide
    | s::r,h=>by
      have h1:=h s (by simp);have h2:=prodL_pos (l:=r) fun x hx=>h x (by simp [hx]);have:=Int.mul_le_mul h1 h2 (by decide) (by omega);rw [dI];omega
theorem size_of{s:List Int}(h:lY s):dV s=(dI s,0):=by
  unfold dV;rw [if_neg]
  · split
    · rename_i h0;have h0':(0:Int)∈s:=by simpa using h0
      rw [yF h0']
    · rename_i h0
      have h1: ∀x∈s,1≤x∧x≤65536:=fun x hx=>by
        obtain⟨a,b⟩:=h.rng x hx;have:x≠0:=fun e=>h0 (by simpa [e] using hx);omega
      have:=bMv h1 (show(1:Int)≤1 by decide) (by rw [Int.one_mul];exact h.prod.2);rw [this,Int.one_mul]
  · rintro(h' | h')
    · have:=h.len;omega
    · simp only [List.any_eq_true] at h';obtain⟨x,hx,hb⟩:=h';rw [badN_of (h.rng x hx)] at hb;cases hb
theorem fZ{a:Arr}:cO a=true↔lY a.sides∧dI a.sides=a.data.length:=by
  unfold cO;simp only [Bool.and_eq_true,beq_iff_eq];constructor
  · rintro⟨h1,h2⟩;obtain⟨a1,a2⟩:=tT h1;exact⟨a1,by rw [←a2,h2]⟩
  · rintro⟨h1,h2⟩;rw [size_of h1];exact⟨rfl,h2⟩
theorem lY.reverse{s:List Int}(h:lY s):lY s.reverse:=⟨by simpa using h.len,fun x hx=>h.rng x (by simpa using hx),by rw [lH];exact h.prod⟩
inductive lR:List Int→List Int→Prop
  | nil:lR [] []
  | cons {s k sides index}:0≤k→k<s→lR sides index→lR (s::sides) (k::index)
theorem lR.len{s k:List Int}(h:lR s k):k.length=s.length:=by induction h<;>simp_all
theorem lR.append{a b c d:List Int}(h:lR a b)(k:lR c d):lR (a++c) (b++d):=by
  induction h with
  | nil=>exact k
  | cons h0 h1 _ ih=>exact .cons h0 h1 ih
theorem lR.reverse{s k:List Int}(h:lR s k):lR s.reverse k.reverse:=by
  induction h with
  | nil=>exact .nil
  | cons h0 h1 _ ih=>
    rw [List.reverse_cons,List.reverse_cons];exact ih.append (.cons h0 h1 .nil)
theorem prod_div{s p:Int}{r:Int}(hs:0<s)(h0:0≤p)(h:p<s*r):0≤p.tdiv s∧p.tdiv s<r∧0≤p.tmod s∧p.tmod s<s:=by
  rw [Int.tdiv_eq_ediv_of_nonneg h0,Int.tmod_eq_emod_of_nonneg h0];refine⟨Int.ediv_nonneg h0 (by omega),Int.ediv_lt_of_lt_mul hs (by rw [Int.mul_comm];exact h),Int.emod_nonneg _ (by omega),Int.emod_lt_of_pos _ hs⟩
theorem wJ: ∀{s:List Int} {p:Int},(∀x∈s,0≤x∧x≤65536)→0≤p→p<dI s→p≤65536→lR s (nF s p)
  | [],p,_,_,_,_=> .nil
  | s::r,p,hl,h0,h,h1=>by
    obtain⟨s0,s1⟩:=hl s (by simp)
    have hs:0<s:=by
      rcases Int.lt_or_le 0 s with h' | h'
      · exact h'
      · have:s=0:=by omega
        subst this;simp [dI] at h;omega
    obtain⟨d0,d1,m0,m1⟩:=prod_div hs h0 h
    have hle:p.tdiv s≤p:=by
      rw [Int.tdiv_eq_ediv_of_nonneg h0];exact Int.ediv_le_self _ h0
    have hw:w64 (p.tdiv s)=p.tdiv s:=vG (by omega) (by omega);rw [nF,hw];exact .cons m0 m1 (wJ (fun x hx=>hl x (by simp [hx])) d0 d1 (by omega))
theorem vZ: ∀{s k:List Int},lR s k→(∀x∈s,0≤x∧x≤65536)→ ∀{n:Int},0≤n→(n+1)*dI s≤65536→ ∃m,nK s k n=(m,0)∧0≤m∧m<(n+1)*dI s
  | _,_,.nil,_,n,h0,h1=>⟨n,rfl,h0,by simp [dI];omega⟩
  | _,_,.cons (s:=s) (k:=k) (sides:=sides) (index:=index) k0 k1 hw,hl,n,h0,h1=>by
    obtain⟨s0,s1⟩:=hl s (by simp);have hnn:0≤dI sides:=mA fun x hx=>(hl x (by simp [hx])).1;rw [dI,←Int.mul_assoc] at h1⊢;have e1:(n+1)*s=n*s+s:=by rw [Int.add_mul,Int.one_mul]
    have hns:0≤n*s:=Int.mul_nonneg h0 s0
    rcases Int.lt_or_le 0 (dI sides) with hp | hp
    · have hle:(n+1)*s≤(n+1)*s*dI sides:=by
        have:=Int.mul_le_mul_of_nonneg_left (show(1:Int)≤dI sides by omega) (show 0≤(n+1)*s by omega);omega
      have w1:w64 (n*s)=n*s:=vG (by omega) (by omega);have w2:w64 (n*s+k)=n*s+k:=vG (by omega) (by omega);have hm:(n*s+k+1)*dI sides≤(n+1)*s*dI sides:=Int.mul_le_mul_of_nonneg_right (by omega) hnn;obtain⟨m,a,b,c⟩:=vZ hw (fun x hx=>hl x (by simp [hx])) (n:=n*s+k) (by omega) (by omega);refine⟨m,?_,b,by omega⟩;rw [nK,if_neg (by omega),w1,w2];exact a
    · exfalso
      have: ∀{a b:List Int},lR a b→(∀x∈a,0≤x∧x≤65536)→0<dI a:=by
        intro a b h
        induction h with
        | nil=>intro _;decide
        | cons q0 q1 _ ih=>
          intro hl;rw [dI];exact Int.mul_pos (by omega) (ih fun x hx=>hl x (by simp [hx]))
      have:=this hw fun x hx=>hl x (by simp [hx]);omega
theorem place_within{s k:List Int}(hs:lY s)(h:lR s k): ∃m,mL s k=(m,0)∧0≤m∧m<dI s:=by
  obtain⟨m,a,b,c⟩:=vZ h hs.rng (n:=0) (by decide) (by have:=hs.prod;omega);refine⟨m,?_,b,by omega⟩;unfold mL;rw [size_of hs,if_neg (by simp),if_neg (by rw [h.len];simp)];exact a
theorem bAp{s:List Int}(hs:lY s){p:Int}(h0:0≤p)(h1:p<dI s):(jC s p).2=0∧lR s (jC s p).1:=by
  unfold jC;rw [size_of hs,if_neg (by simp),if_neg (by simp only;omega)];refine⟨rfl,?_⟩;have:=(wJ hs.reverse.rng h0 (by rw [lH];exact h1) (by have:=hs.prod;omega)).reverse;rw [List.reverse_reverse] at this;exact this
theorem turn_place{a:Arr}(h:cO a=true){i:Nat}(hi:i<a.data.length): ∃m,mL a.sides (jC a.sides.reverse (i:Nat)).1.reverse=(m,0)∧0≤m∧m<a.data.length:=by
  obtain⟨hs,hp⟩:=fZ.1 h;have hw:=(bAp hs.reverse (p:=(i:Nat)) (by omega) (by rw [lH,hp];omega)).2.reverse;rw [List.reverse_reverse] at hw;obtain⟨m,x,y,z⟩:=place_within hs hw;exact⟨m,x,y,by omega⟩
end Go.Proofs.YtbgdphbebhjpiaaGreatDoor
namespace Go.Proofs.YtbgdphbebhjpiaaGreatDoor
open Go.RowKit
theorem bDc(f m:Nat)(x:Int)(l:List Int):mQ (f+1) m (x::l)=(x::l).take m::mQ f m ((x::l).drop m):=rfl
theorem bCq: ∀(f m:Nat) (l:List Int),0<m→l.length≤f→(mQ f m l).flatten=l
  | 0,_,l,_,h=>by
    have:l=[]:=List.eq_nil_of_length_eq_zero (by omega);subst this;rfl
  | f+1,m,[],_,_=>rfl
  | f+1,m,x::l,hm,h=>by
    rw [bDc,List.flatten_cons,bCq f m _ hm (by rw [List.length_drop];simp only [List.length_cons] at h⊢;omega),List.take_append_drop]
theorem bJl: ∀(f m k:Nat) (l:List Int),0<m→l.length≤f→l.length=k*m→(mQ f m l).length=k∧ ∀c∈mQ f m l,c.length=m
  | 0,m,k,l,hm,h,hk=>by
    have hl:l.length=0:=by omega
    have:k=0:=by
      rw [hl] at hk
      rcases Nat.mul_eq_zero.1 hk.symm with h | h<;>omega
    subst this;exact⟨rfl,fun c hc=>by simp [mQ] at hc⟩
  | f+1,m,k,[],hm,_,hk=>by
    have:k=0:=by
      rcases Nat.mul_eq_zero.1 (show k*m=0 from hk.symm) with h | h<;>omega
    subst this;exact⟨rfl,fun c hc=>by simp [mQ] at hc⟩
  | f+1,m,k,x::l,hm,h,hk=>by
    have hk0:0<k:=by
      rcases Nat.eq_zero_or_pos k with h0 | h0
      · subst h0;simp at hk
      · exact h0
    obtain⟨j,rfl⟩: ∃j,k=j+1:=⟨k-1,by omega⟩
    have hd:((x::l).drop m).length=j*m:=by
      rw [List.length_drop,hk,Nat.add_mul,Nat.one_mul];omega
    obtain⟨a,b⟩:=bJl f m j ((x::l).drop m) hm (by rw [List.length_drop];simp only [List.length_cons] at h⊢;omega) hd;rw [bDc];refine⟨by rw [List.length_cons,a],fun c hc=>?_⟩
    rcases List.mem_cons.1 hc with rfl | hc
    · rw [List.length_take,hk,Nat.add_mul,Nat.one_mul];omega
    · exact b c hc
theorem last_of{l:List Int}(h:l≠[]): ∃r x,l=r++[x]∧l.dropLast=r∧l.getLastD 0=x∧l.getLast?=some x:=by
  refine⟨l.dropLast,l.getLast h,(List.dropLast_concat_getLast h).symm,rfl,?_,List.getLast?_eq_some_getLast h⟩;rw [List.getLastD_eq_getLast?,List.getLast?_eq_some_getLast h];rfl
theorem rD{a:Arr}(h:cO a=true):(fF a).2=0∧(a.data≠[]→0<lastA a)∧(fF a).1.flatten=a.data∧(∀c∈(fF a).1,c.length=lastA a)∧(fF a).1.length*lastA a=a.data.length∧(a.sides≠[]→a.data≠[]→((fF a).1.length:Int)=dI a.sides.dropLast):=by
  obtain⟨hs,hp⟩:=fZ.1 h;unfold fF;rw [h,if_neg (by simp)]
  by_cases hd:a.data=[]
  · simp [hd,mQ]
  · have hlen:0<a.data.length:=List.length_pos_iff.2 hd
    have key: ∃k:Nat,0<lastA a∧a.data.length=k*lastA a∧(a.sides≠[]→(k:Int)=dI a.sides.dropLast):=by
      by_cases h0:a.sides=[]
      · refine⟨1,?_,?_,fun h=>absurd h0 h⟩
        · unfold lastA;rw [h0];decide
        · unfold lastA;rw [h0] at hp⊢;simp [dI] at hp⊢;omega
      · obtain⟨r,x,e1,e2,e3,e4⟩:=last_of h0;have hx:=hs.rng x (by rw [e1];simp);have hr:0≤dI r:=mA fun y hy=>(hs.rng y (by rw [e1];simp [hy])).1;rw [e1,mG,dI,dI,Int.mul_one] at hp;have hl:lastA a=x.toNat:=by unfold lastA;rw [e4]
        have hx0:0<x:=by
          rcases Int.lt_or_le 0 x with h | h
          · exact h
          · have:x=0:=by omega
            rw [this,Int.mul_zero] at hp;omega
        refine⟨(dI r).toNat,by omega,?_,fun _=>by rw [e2];omega⟩;rw [hl]
        have e5:(((dI r).toNat*x.toNat:Nat):Int)=dI r*x:=by
          rw [Int.natCast_mul,Int.toNat_of_nonneg hr,Int.toNat_of_nonneg hx.1]
        omega
    obtain⟨k,k1,k2,k3⟩:=key;obtain⟨c1,c2⟩:=bJl a.data.length (lastA a) k a.data k1 (Nat.le_refl _) k2;exact⟨rfl,fun _=>k1,bCq _ _ _ k1 (Nat.le_refl _),c2,by rw [c1,k2],fun h _=>by rw [c1];exact k3 h⟩
theorem vV(f:Int): ∀(l:List (Int×Int)) (w:Int),(oM f l w).1.length=l.length
  | [],_=>rfl
  | (a,b)::r,w=>by rw [oM,List.length_cons,vV f r,List.length_cons]
theorem bFx(f:Int): ∀(l:List (List Int)) (w:Int),(qD f l w).1.length=l.length
  | [],_=>rfl
  | a::r,w=>by rw [qD,List.length_cons,bFx f r,List.length_cons]
theorem bKz(f:Int): ∀(l:List Int) (n w:Int),(oS f l n w).1.length=l.length
  | [],_,_=>rfl
  | x::r,n,w=>by rw [oS,List.length_cons,bKz f r,List.length_cons]
theorem wF(f:Int): ∀(l:List (List Int)) (w:Int),(∀c∈l,c≠[])→(oD f l w).1.flatten.length=l.flatten.length
  | [],_,_=>rfl
  | a::r,w,h=>by
    have h1:=wF f r (oS f a.tail (a.headD 0) w).2 fun c hc=>h c (by simp [hc]);have h2:a≠[]:=h a (by simp);rw [oD,List.flatten_cons,List.flatten_cons,List.length_append,List.length_append,h1,List.length_cons,bKz]
    cases a with
    | nil=>exact absurd rfl h2
    | cons x a=>simp
theorem mapM_len(f:Int): ∀(l:List Int),(mapM f l).2=0→(mapM f l).1.length=l.length
  | [],_=>rfl
  | n::r,h=>by
    rw [mapM] at h⊢;split at h
    · rename_i h1;exact absurd h h1
    · rename_i h1;rw [if_neg h1];split at h
      · rename_i h2;exact absurd h h2
      · rename_i h2;rw [if_neg h2];simp only [ne_eq,Classical.not_not] at h2;rw [List.length_cons,mapM_len f r h2,List.length_cons]
theorem iT{s d:List Int}(h:lY s)(e:dI s=d.length):cO ⟨s,d⟩=true:=fZ.2 ⟨h,e⟩
theorem rY{n:Int}(h0:0≤n)(h1:n≤65536):lY [n]:=⟨by simp,fun x hx=>by rw [List.mem_singleton.1 hx];exact⟨h0,h1⟩,by simp [dI];omega⟩
theorem vL:lY []:=⟨by simp,fun x hx=>by simp at hx,by decide⟩
theorem pB{s:List Int}{r:List Int×Int}(h:(oG s r).2=0)(hs:lY s)(e:dI s=r.1.length):cO (oG s r).1=true:=by
  unfold oG at h⊢;split at h
  · rename_i h1;exact absurd h h1
  · rename_i h1;rw [if_neg h1];exact iT hs e
theorem rev_len: ∀l:List (List Int),(l.map List.reverse).flatten.length=l.flatten.length
  | []=>rfl
  | a::r=>by
    rw [List.map_cons,List.flatten_cons,List.flatten_cons,List.length_append,List.length_append,rev_len r,List.length_reverse]
theorem bDi{f:Int}{a:Arr}(h:(iE f a).2=0):cO (iE f a).1=true:=by
  unfold iE at h⊢;split at h
  · cases h
  · rename_i h0;rw [if_neg h0];simp only [Bool.not_eq_false] at h0;obtain⟨hs,hp⟩:=fZ.1 h0;have hdl:(a.data.length:Int)≤65536:=by rw [←hp];exact hs.prod.2
    split at h
    · rename_i h1;rw [if_pos h1];unfold uS at h⊢;split at h
      · cases h
      · rename_i h2;rw [if_neg h2];split at h
        · cases h
        · rename_i h3;rw [if_neg h3];simp only [Bool.not_eq_true] at h3;have:=badN_no h3;generalize a.data.headD 0=n at this⊢;exact iT (rY this.1 this.2) (by simp [dI];omega)
    · rename_i h1;rw [if_neg h1];split at h
      · rename_i h2;rw [if_pos h2];have:=hs.len;exact iT (rY (by omega) (by omega)) (by simp [dI])
      · rename_i h2;rw [if_neg h2];split at h
        · rename_i h3;rw [if_pos h3];exact iT (rY (by omega) hdl) (by simp [dI])
        · rename_i h3;rw [if_neg h3];split at h
          · rename_i h4;rw [if_pos h4];obtain⟨_,_,l3,_⟩:=rD h0;exact iT hs (by rw [rev_len,l3];exact hp)
          · rename_i h4;rw [if_neg h4];split at h
            · rename_i h5;rw [if_pos h5];exact iT hs.reverse (by rw [lH,hp];simp)
            · rename_i h5;rw [if_neg h5];split at h
              · cases h
              · rename_i h6;rw [if_neg h6];split at h
                · rename_i h7;exact absurd h h7
                · rename_i h7;rw [if_neg h7];simp only [ne_eq,Classical.not_not] at h7;exact iT hs (by rw [mapM_len f _ h7];exact hp)
theorem pC(s:Int)(r:List Int):dI (s::r)=s*dI r:=rfl
theorem part_right{a b:Arr}{take:Bool}(hb:cO b=true)(h:(rF a b take).2=0):cO (rF a b take).1=true:=by
  obtain⟨hs,hp⟩:=fZ.1 hb;unfold rF at h⊢;dsimp only at h⊢;split at h
  · cases h
  · rename_i h1;rw [if_neg h1];split at h
    · cases h
    · rename_i h2;rw [if_neg h2];simp only [not_or,ne_eq,Classical.not_not] at h1
      obtain⟨s,r,hsr⟩: ∃s r,b.sides=s::r:=by
        cases hb:b.sides with
        | nil=>exact absurd hb h1.2
        | cons s r=>exact⟨s,r,rfl⟩
      rw [hsr] at h2 hs hp⊢;simp only [List.headD_cons,List.tail_cons,not_or,Int.not_lt] at h2⊢;have s0:=hs.rng s (by simp);have hw:w64 (0-s)= -s:=by rw [vG (by omega) (by omega)];omega
      rw [hw] at h2;generalize a.data.headD 0=n at h2⊢
      have key: ∀fr tt:Int,0≤fr→fr≤tt→tt≤s→cO (if s=0 then ((⟨(tt-fr)::r,[]⟩:Arr),(0:Int)) else (⟨(tt-fr)::r,(b.data.drop (fr.toNat*(b.data.length/s.toNat))).take (tt.toNat*(b.data.length/s.toNat)-fr.toNat*(b.data.length/s.toNat))⟩,0)).1=true:=by
        intro fr tt f0 ft ts;have hr: ∀x∈r,0≤x∧x≤65536:=fun x hx=>hs.rng x (by simp [hx]);have hr0:0≤dI r:=mA fun x hx=>(hr x hx).1
        have hso:lY ((tt-fr)::r):=by
          refine⟨by have:=hs.len;simpa using this,fun x hx=>?_,?_⟩
          · rcases List.mem_cons.1 hx with rfl | hx
            · omega
            · exact hr x hx
          · rw [pC];have h1:=Int.mul_le_mul_of_nonneg_right (show tt-fr≤s by omega) hr0;have h2:=hs.prod.2;rw [pC] at h2;exact⟨Int.mul_nonneg (by omega) hr0,by omega⟩
        split
        · rename_i e;refine iT hso ?_;rw [pC,show tt-fr=0 by omega];simp
        · rename_i e;refine iT hso ?_;rw [pC] at hp
          have hc:(b.data.length/s.toNat:Nat)=(dI r).toNat:=by
            have e1:b.data.length=s.toNat*(dI r).toNat:=by
              have:((s.toNat*(dI r).toNat:Nat):Int)=s*dI r:=by rw [Int.natCast_mul,Int.toNat_of_nonneg s0.1,Int.toNat_of_nonneg hr0]
              omega
            rw [e1,Nat.mul_div_cancel_left _ (by omega)]
          rw [hc,pC,List.length_take,List.length_drop,←Nat.sub_mul]
          have e1:b.data.length=s.toNat*(dI r).toNat:=by
            have:((s.toNat*(dI r).toNat:Nat):Int)=s*dI r:=by rw [Int.natCast_mul,Int.toNat_of_nonneg s0.1,Int.toNat_of_nonneg hr0]
            omega
          have e2:(tt.toNat-fr.toNat)*(dI r).toNat≤b.data.length-fr.toNat*(dI r).toNat:=by
            rw [e1,←Nat.sub_mul];exact Nat.mul_le_mul_right _ (by omega)
          rw [Nat.min_eq_left e2,Int.natCast_mul,Int.toNat_of_nonneg hr0]
          congr 1
          omega
      cases take with
      | true=>
        simp only [if_true]
        by_cases hn:n<0
        · simp only [hn,if_true];exact key (s+n) s (by omega) (by omega) (by omega)
        · simp only [hn,if_false];exact key 0 n (by omega) (by omega) (by omega)
      | false=>
        simp only [Bool.false_eq_true,if_false]
        by_cases hn:0≤n
        · simp only [hn,if_true];exact key n s (by omega) (by omega) (by omega)
        · simp only [hn,if_false];exact key 0 (s+n) (by omega) (by omega) (by omega)
theorem bIx{a:Arr}(h:cO a=true):dI (sidedA a.sides)=a.data.length∧sidedA a.sides≠[]:=by
  obtain⟨hs,hp⟩:=fZ.1 h;unfold sidedA;split
  · rename_i e;rw [e] at hp;exact⟨hp,by simp⟩
  · rename_i e;exact⟨hp,e⟩
theorem cat_right{a b:Arr}(ha:cO a=true)(hb:cO b=true)(h:(bAv a b).2=0):cO (bAv a b).1=true:=by
  obtain⟨a1,a2⟩:=bIx ha;obtain⟨b1,b2⟩:=bIx hb;unfold bAv at h⊢;dsimp only at h⊢;split at h
  · cases h
  · rename_i h1;rw [if_neg h1];split at h
    · rename_i h2;cases h
    · rename_i h2;rw [if_neg h2];simp only [not_or,ne_eq,Classical.not_not] at h1 h2
      obtain⟨x,r,e⟩: ∃x r,sidedA a.sides=x::r:=by
        cases hb:sidedA a.sides with
        | nil=>exact absurd hb a2
        | cons s r=>exact⟨s,r,rfl⟩
      obtain⟨y,q,g⟩: ∃x r,sidedA b.sides=x::r:=by
        cases hb:sidedA b.sides with
        | nil=>exact absurd hb b2
        | cons s r=>exact⟨s,r,rfl⟩
      rw [e] at h1 h2 a1⊢;rw [g] at h1 h2 b1⊢;simp only [List.tail_cons,List.headD_cons] at h1 h2⊢;obtain⟨hs,_⟩:=tT h2;refine iT hs ?_;rw [pC] at a1 b1⊢;rw [←h1.2] at b1;rw [List.length_append,Int.add_mul];omega
theorem rho_right{a b:Arr}(h:(uX a b).2=0):cO (uX a b).1=true:=by
  unfold uX at h⊢;split at h
  · cases h
  · rename_i h1;rw [if_neg h1];split at h
    · cases h
    · rename_i h2;rw [if_neg h2];split at h
      · cases h
      · rename_i h3;rw [if_neg h3];split at h
        · cases h
        · rename_i h4;rw [if_neg h4];simp only [ne_eq,Classical.not_not] at h3;obtain⟨hs,hp⟩:=tT h3;refine iT hs ?_;have:=hs.prod;simp [sE,hp];omega
theorem bJk{f:Int}{a b:Arr}(h:(jF f a b).2=0):cO (jF f a b).1=true:=by
  unfold jF at h⊢;split at h
  · cases h
  · rename_i h0;rw [if_neg h0];simp only [not_or,Bool.not_eq_false] at h0;obtain⟨ha,hb⟩:=h0;obtain⟨sa,ap⟩:=fZ.1 ha;obtain⟨sb,bp⟩:=fZ.1 hb;split at h
    · rename_i h1;rw [if_pos h1];exact rho_right h
    · rename_i h1;rw [if_neg h1];split at h
      · rename_i h2;rw [if_pos h2];exact part_right hb h
      · rename_i h2;rw [if_neg h2];split at h
        · rename_i h3;rw [if_pos h3];exact cat_right ha hb h
        · rename_i h3;rw [if_neg h3];split at h
          · cases h
          · rename_i h4;rw [if_neg h4];split at h
            · rename_i h5;rw [if_pos h5];refine pB h sa ?_;rw [vV,List.length_zip];rw [←h5] at bp;omega
            · rename_i h5;rw [if_neg h5];split at h
              · rename_i h6;rw [if_pos h6];exact pB h sb (by rw [vV,List.length_map];exact bp)
              · rename_i h6;rw [if_neg h6];split at h
                · rename_i h7;rw [if_pos h7];exact pB h sa (by rw [vV,List.length_map];exact ap)
                · cases h
theorem yZ{a:Arr}(h:cO a=true): ∀c∈(fF a).1,c≠[]:=by
  obtain⟨_,l2,l3,l4,l5,_⟩:=rD h;intro c hc e;have h1:=l4 c hc;rw [e] at h1
  by_cases hd:a.data=[]
  · unfold fF at hc;rw [h,if_neg (by simp),hd] at hc;simp [mQ] at hc
  · have:=l2 hd;simp at h1;omega
theorem bHj{f:Int}{a:Arr}(h:(mH f a).2=0):cO (mH f a).1=true:=by
  unfold mH at h⊢;split at h
  · cases h
  · rename_i h0;rw [if_neg h0];simp only [Bool.not_eq_false] at h0;obtain⟨hs,hp⟩:=fZ.1 h0;split at h
    · cases h
    · rename_i h1;rw [if_neg h1];split at h
      · rename_i h2;rw [if_pos h2];rw [h2] at hp;exact iT vL hp
      · rename_i h2;rw [if_neg h2];split at h
        · cases h
        · rename_i h3;rw [if_neg h3];simp only [ne_eq,Classical.not_not] at h3;obtain⟨ds,dp⟩:=tT h3;split at h
          · rename_i h4;rw [if_pos h4];refine iT ds ?_;rw [List.length_replicate,dp];have:=ds.prod;omega
          · rename_i h4;rw [if_neg h4];refine pB h ds ?_;rw [bFx];obtain⟨l1,l2,l3,l4,l5,l6⟩:=rD h0
            by_cases hd:a.data=[]
            · obtain⟨r,x,e1,e2,e3,e4⟩:=last_of h2;rw [e3] at h4;rw [hd,e1,mG,dI,dI,Int.mul_one] at hp
              have:dI r=0:=by
                rcases Int.mul_eq_zero.1 (show dI r*x=0 by simpa using hp) with h | h
                · exact h
                · exact absurd h h4
              rw [e2,this];unfold fF;rw [h0,if_neg (by simp),hd];rfl
            · exact(l6 h2 hd).symm
theorem bHb{f:Int}{a:Arr}(h:(qF f a).2=0):cO (qF f a).1=true:=by
  unfold qF at h⊢;split at h
  · cases h
  · rename_i h0;rw [if_neg h0];simp only [Bool.not_eq_false] at h0;obtain⟨hs,hp⟩:=fZ.1 h0;split at h
    · cases h
    · rename_i h1;rw [if_neg h1];obtain⟨l1,l2,l3,l4,l5,l6⟩:=rD h0;exact pB h hs (by rw [wF f _ _ (yZ h0),l3];exact hp)
theorem pairs_len(a b:List Int):(pairsOf a b).length=a.length*b.length:=by
  induction a with
  | nil=>simp [pairsOf]
  | cons x a ih=>
    unfold pairsOf at*;rw [List.flatMap_cons,List.length_append,ih,List.length_map,List.length_cons,Nat.add_mul,Nat.one_mul];omega
theorem bCr{f:Int}{a b:Arr}(h:(kK f a b).2=0):cO (kK f a b).1=true:=by
  unfold kK at h⊢;split at h
  · cases h
  · rename_i h0;rw [if_neg h0];simp only [not_or,Bool.not_eq_false] at h0;obtain⟨ha,hb⟩:=h0;obtain⟨sa,ap⟩:=fZ.1 ha;obtain⟨sb,bp⟩:=fZ.1 hb;split at h
    · cases h
    · rename_i h1;rw [if_neg h1];split at h
      · cases h
      · rename_i h2;rw [if_neg h2];split at h
        · cases h
        · rename_i h3;rw [if_neg h3];simp only [ne_eq,Classical.not_not] at h3;obtain⟨ds,dp⟩:=tT h3;refine pB h ds ?_;rw [vV,pairs_len,mG,ap,bp,Int.natCast_mul]
end Go.Proofs.YtbgdphbebhjpiaaGreatDoor
namespace Go.Proofs.YtbgdphbebhjpiaaGreatDoor
open Go.RowKit
def rC:List mP→List Bs→List Bs
  | [],out=>out
  | d::r,out=>rC r (if d.name=[]∨out.contains d.name=true then out else out++[d.name])
def gY (l:List dX):List mP:=l.flatMap dX.sides
def varsP (p:Prog):List Bs:=rC (gY p.inputs) []
abbrev hJ:=List (Bs×Arr)
def look (k:Bs):hJ→Option Arr
  | []=>none
  | p::r=>if k=p.1 then some p.2 else look k r
def lE (k:Bs):List Bs→Int→Int
  | [],_=> -1
  | s::r,i=>if s=k then i else lE k r (i+1)
def vO (vars:List Bs)(x:dX):Bool:=x.sides.any fun d=>(d.name==[]&&lX d.n) || decide (6≤lE d.name vars 0)
def oL (vars:List Bs)(dims:List Int)(d:mP):Int:=if d.name=[] then d.n else atI dims (lE d.name vars 0)
def bBb (vars:List Bs)(dims:List Int)(x:dX)(a:Arr):Bool:=cO a&&(a.sides.length==x.sides.length&&(a.sides==x.sides.map (oL vars dims)))
def iC (vars:List Bs)(dims:List Int):List dX→List Arr→hJ→hJ×Flt
  | x::xs,a::ar,N=>if bBb vars dims x a=false then ([],(x.at_,82)) else iC vars dims xs ar ((x.name,a)::N)
  | _,_,N=>(N,(0,0))
def nD:List Bs→List Int→hJ→hJ
  | s::vars,n::dims,N=>nD vars dims ((s,⟨[],[n]⟩)::N)
  | _,_,N=>N
def dZ (p:Prog)(dims:List Int)(ins:List Arr):hJ×Flt:=
  if (dS p).2=false then ([],(0,50))
  else match p.inputs.find? (vO (varsP p)) with
    | some x=>([],(x.at_,80))
    | none=>
      if dims.length≠(varsP p).length∨dims.any lX=true then ([],(0,81))
      else if ins.length≠p.inputs.length then ([],(0,82))
      else iC (varsP p) dims p.inputs ins (nD (varsP p) dims [])
def fQ (N:hJ)(it:dN)(st:List Arr):bEs:=
  if it.how=1 then (⟨if 1<it.nums.length then [(it.nums.length:Int)] else [],it.nums⟩,0)
  else if it.how=2 then (match look it.name N with
    | some a=>(a,0)
    | none=>(kF,83))
  else if it.how=3 then iE it.fn (st.headD kF)
  else if it.how=5 then mH it.fn (st.headD kF)
  else if it.how=6 then qF it.fn (st.headD kF)
  else if it.how=4 then jF it.fn (st.tail.headD kF) (st.headD kF)
  else if it.how=7 then kK it.fn (st.tail.headD kF) (st.headD kF)
  else (kF,0)
def iY (it:dN):Nat:=if it.how=3∨it.how=5∨it.how=6 then 1 else if it.how=4∨it.how=7 then 2 else 0
def nB (N:hJ)(it:dN)(st:List Arr)(work:Nat):Except Int (List Arr×Nat):=
  if (fQ N it st).2≠0 then .error (fQ N it st).2
  else if 1048576<work+(fQ N it st).1.data.length then .error 84
  else .ok ((fQ N it st).1::st.drop (iY it),work+(fQ N it st).1.data.length)
def hX (N:hJ):List dN→List Arr→Nat→Except Flt (List Arr×Nat)
  | [],st,work=> .ok (st,work)
  | it::r,st,work=>match nB N it st work with
    | .error e=> .error (it.at_,e)
    | .ok (st',work')=>hX N r st' work'
def lV (N:hJ):List lK→Nat→List Arr→List Arr×Flt
  | [],_,out=>(out,(0,0))
  | l::r,work,out=>match hX N l.items [] work with
    | .error f=>([],f)
    | .ok (st,work')=>lV ((l.name,st.getLastD kF)::N) r work' (out++[st.getLastD kF])
def gB (p:Prog)(dims:List Int)(ins:List Arr):List Arr×Flt:=
  if isOk (dZ p dims ins).2=false then ([],(dZ p dims ins).2) else lV (dZ p dims ins).1 p.lines 0 []
end Go.Proofs.YtbgdphbebhjpiaaGreatDoor
namespace Go.Proofs.YtbgdphbebhjpiaaGreatDoor
open Go.RowKit
theorem gE{α:Type}{l:List α}{i:Nat}{x:α}(h:l[i]?=some x):l.drop i=x::l.drop (i+1):=by
  obtain⟨hlt,e⟩:=List.getElem?_eq_some_iff.1 h;rw [List.drop_eq_getElem_cons hlt,e]
theorem hZ{α:Type}{l:List α}{i:Nat}(h:l.length≤i):l.drop i=[]:=List.drop_eq_nil_iff.2 h
theorem take_at{α:Type}{l:List α}{i:Nat}{x:α}(h:l[i]?=some x):l.take (i+1)=l.take i++[x]:=by rw [List.take_add_one,h];rfl
theorem sQ{α:Type}{l:List α}{i:Nat}(hi:i<l.length)(x:α):(l.set i x).take (i+1)=l.take i++[x]:=by
  have h:(l.set i x)[i]?=some x:=List.getElem?_set_self hi;rw [take_at h,List.take_set_of_le (Nat.le_refl _)]
def xL (f:Int)(l:List (Int×Int))(i:Nat)(out:List Int)(w:Int)(R:List Int×Int):Prop:=R=(out++(oM f (l.drop i) w).1,(oM f (l.drop i) w).2)
theorem bBg(f:Int)(l:List (Int×Int)):xL f l 0 [] 0 (oM f l 0):=by simp [xL]
theorem bHc{f w:Int}{l:List (Int×Int)}{i:Nat}{out:List Int}{R:List Int×Int}{x y:Int}(h:xL f l i out w R)(hx:l[i]?=some (x,y)):xL f l (i+1) (out++[(gH f w x y).1]) (gH f w x y).2 R:=by
  unfold xL at h⊢;rw [h,gE hx,oM];simp
theorem zip_end{f w:Int}{l:List (Int×Int)}{i:Nat}{out:List Int}{R:List Int×Int}(h:xL f l i out w R)(hi:l.length≤i):R=(out,w):=by
  unfold xL at h;rw [h,hZ hi,oM];simp
theorem zip_at{a b:List Int}{i:Nat}{x y:Int}(hx:a[i]?=some x)(hy:b[i]?=some y):(a.zip b)[i]?=some (x,y):=by
  rw [List.getElem?_zip_eq_some];exact⟨hx,hy⟩
theorem nG{α β:Type}{f:α→β}{l:List α}{i:Nat}{x:α}(h:l[i]?=some x):(l.map f)[i]?=some (f x):=by rw [List.getElem?_map,h];rfl
def OutAt (f:Int)(a b:List Int)(i j:Nat)(out:List Int)(w:Int)(R:List Int×Int):Prop:=
  ∃x,a[i]?=some x∧R=(out++(oM f ((b.drop j).map (fun y=>(x,y))++pairsOf (a.drop (i+1)) b) w).1,(oM f ((b.drop j).map (fun y=>(x,y))++pairsOf (a.drop (i+1)) b) w).2)
def uO (f:Int)(a b:List Int)(i:Nat)(out:List Int)(w:Int)(R:List Int×Int):Prop:=R=(out++(oM f (pairsOf (a.drop i) b) w).1,(oM f (pairsOf (a.drop i) b) w).2)
theorem out_start(f:Int)(a b:List Int):uO f a b 0 [] 0 (oM f (pairsOf a b) 0):=by simp [uO]
theorem out_in{f w:Int}{a b:List Int}{i:Nat}{out:List Int}{R:List Int×Int}{x:Int}(h:uO f a b i out w R)(hx:a[i]?=some x):OutAt f a b i 0 out w R:=by
  refine⟨x,hx,?_⟩;unfold uO at h;rw [h,gE hx];rfl
theorem out_step{f w:Int}{a b:List Int}{i j:Nat}{out:List Int}{R:List Int×Int}{x y:Int}(h:OutAt f a b i j out w R)(hx:a[i]?=some x)(hy:b[j]?=some y):OutAt f a b i (j+1) (out++[(gH f w x y).1]) (gH f w x y).2 R:=by
  obtain⟨x',hx',h⟩:=h;rw [hx] at hx';injection hx' with e
  subst e;refine⟨x,hx,?_⟩;rw [h,gE hy,List.map_cons,List.cons_append,oM];simp
theorem out_out{f w:Int}{a b:List Int}{i j:Nat}{out:List Int}{R:List Int×Int}(h:OutAt f a b i j out w R)(hj:b.length≤j):uO f a b (i+1) out w R:=by
  obtain⟨x',hx',h⟩:=h;unfold uO;rw [h,hZ hj];rfl
theorem out_end{f w:Int}{a b:List Int}{i:Nat}{out:List Int}{R:List Int×Int}(h:uO f a b i out w R)(hi:a.length≤i):R=(out,w):=by
  unfold uO at h;rw [h,hZ hi];simp [pairsOf,oM]
def bLo (f:Int)(l:List Int)(i:Nat)(out:List Int):Prop:=out.length=l.length∧(mapM f l).2=(mapM f (l.drop i)).2∧((mapM f (l.drop i)).2=0→(mapM f l).1=out.take i++(mapM f (l.drop i)).1)
theorem map_start(f:Int)(l out:List Int)(h:out.length=l.length):bLo f l 0 out:=⟨h,by simp,fun _=>by simp⟩
theorem map_bad{f:Int}{l out:List Int}{i:Nat}{x:Int}(h:bLo f l i out)(hx:l[i]?=some x)(he:(gW f x).2≠0):(mapM f l).2=(gW f x).2:=by
  rw [h.2.1,gE hx,mapM,if_pos he]
theorem map_step{f:Int}{l out:List Int}{i:Nat}{x:Int}(h:bLo f l i out)(hx:l[i]?=some x)(he:(gW f x).2=0):bLo f l (i+1) (out.set i (gW f x).1):=by
  obtain⟨h1,h2,h3⟩:=h;have hi:i<out.length:=by rw [h1];exact(List.getElem?_eq_some_iff.1 hx).1
  have e:mapM f (l.drop i)=if (mapM f (l.drop (i+1))).2≠0 then ([],(mapM f (l.drop (i+1))).2) else ((gW f x).1::(mapM f (l.drop (i+1))).1,0):=by
    rw [gE hx,mapM,if_neg (by simp [he])]
  refine⟨by simpa using h1,?_,fun h0=>?_⟩
  · rw [h2,e];split
    · rfl
    · rename_i hh;exact(Classical.not_not.1 hh).symm
  · rw [e,if_neg (by simp [h0])] at h3;rw [h3 rfl,sQ hi];simp
theorem map_end{f:Int}{l out:List Int}{i:Nat}(h:bLo f l i out)(hi:l.length≤i):mapM f l=(out,0):=by
  obtain⟨h1,h2,h3⟩:=h;have e:mapM f (l.drop i)=([],0):=by rw [hZ hi];rfl
  rw [e] at h2 h3;have:=h3 rfl;rw [List.take_of_length_le (by omega),List.append_nil] at this;exact Prod.ext this h2
def bBn (f:Int)(l:List Int)(k:Nat)(n w:Int)(R:Int×Int):Prop:=R=bAu f (l.drop k) n w
theorem fold_step{f n w:Int}{l:List Int}{k:Nat}{R:Int×Int}{x:Int}(h:bBn f l k n w R)(hx:l[k]?=some x):bBn f l (k+1) (gH f w n x).1 (gH f w n x).2 R:=by
  unfold bBn at h⊢;rw [h,gE hx,bAu]
theorem fold_end{f n w:Int}{l:List Int}{k:Nat}{R:Int×Int}(h:bBn f l k n w R)(hk:l.length≤k):R=(n,w):=by
  unfold bBn at h;rw [h,hZ hk,bAu]
def bAn (f:Int)(L:List (List Int))(i:Nat)(out:List Int)(w:Int)(R:List Int×Int):Prop:=out.length=L.length∧R=(out.take i++(qD f (L.drop i) w).1,(qD f (L.drop i) w).2)
theorem folds_start(f:Int)(L:List (List Int))(out:List Int)(h:out.length=L.length):bAn f L 0 out 0 (qD f L 0):=⟨h,by simp⟩
theorem folds_step{f w n w':Int}{L:List (List Int)}{i:Nat}{out out':List Int}{R:List Int×Int}{l:List Int}(h:bAn f L i out w R)(hl:L[i]?=some l)(ho:out'=out.set i n)(hf:bAu f l.tail (l.headD 0) w=(n,w')):bAn f L (i+1) out' w' R:=by
  obtain⟨h1,h2⟩:=h;have hi:i<out.length:=by rw [h1];exact(List.getElem?_eq_some_iff.1 hl).1
  subst ho;refine⟨by simpa using h1,?_⟩;rw [h2,gE hl,qD,hf,sQ hi];simp
theorem folds_end{f w:Int}{L:List (List Int)}{i:Nat}{out:List Int}{R:List Int×Int}(h:bAn f L i out w R)(hi:L.length≤i):R=(out,w):=by
  obtain⟨h1,h2⟩:=h;rw [h2,hZ hi,qD,List.take_of_length_le (by omega),List.append_nil]
def bHv (f:Int)(l cur:List Int)(k:Nat)(w:Int)(R:List Int×Int):Prop:=
  cur.length=l.length∧1≤k∧k≤l.length∧cur.drop k=l.drop k∧ ∃n,cur[k-1]?=some n∧R=(cur.take k++(oS f (l.drop k) n w).1,(oS f (l.drop k) n w).2)
theorem scan_start{f w:Int}{l:List Int}(h:l≠[]):bHv f l l 1 w (l.headD 0::(oS f l.tail (l.headD 0) w).1,(oS f l.tail (l.headD 0) w).2):=by
  match l,h with
  | x::r,_=>exact⟨rfl,Nat.le_refl _,by simp,rfl,x,rfl,rfl⟩
theorem scan_step{f w:Int}{l cur:List Int}{k:Nat}{R:List Int×Int}{n x:Int}(h:bHv f l cur k w R)(hn:cur[k-1]?=some n)(hx:cur[k]?=some x):bHv f l (cur.set k (gH f w n x).1) (k+1) (gH f w n x).2 R:=by
  obtain⟨h1,h2,h3,h4,m,h5,h6⟩:=h;rw [hn] at h5;injection h5 with e
  subst e;have hk:k<cur.length:=(List.getElem?_eq_some_iff.1 hx).1
  have hx':l[k]?=some x:=by
    have a:=congrArg (fun q:List Int=>q[0]?) h4;simp only [List.getElem?_drop,Nat.add_zero] at a;rw [←a,hx]
  refine⟨by simpa using h1,by omega,by omega,?_,(gH f w n x).1,by rw [Nat.add_sub_cancel];exact List.getElem?_set_self hk,?_⟩
  · rw [List.drop_set_of_lt (by omega)];have a:=congrArg (List.drop 1) h4
    simpa [List.drop_drop] using a
  · rw [h6,gE hx',oS,sQ hk];simp
theorem scan_end{f w:Int}{l cur:List Int}{k:Nat}{R:List Int×Int}(h:bHv f l cur k w R)(hk:l.length≤k):R=(cur,w):=by
  obtain⟨h1,h2,h3,h4,m,h5,h6⟩:=h;rw [h6,hZ hk,oS,List.take_of_length_le (by omega),List.append_nil]
def wO (f:Int)(L cur:List (List Int))(i:Nat)(w:Int)(R:List (List Int)×Int):Prop:=cur.length=L.length∧cur.drop i=L.drop i∧R=(cur.take i++(oD f (L.drop i) w).1,(oD f (L.drop i) w).2)
theorem scans_start(f:Int)(L:List (List Int)):wO f L L 0 0 (oD f L 0):=⟨rfl,rfl,by simp⟩
theorem scans_at{f w:Int}{L cur:List (List Int)}{i:Nat}{R:List (List Int)×Int}{l:List Int}(h:wO f L cur i w R)(hl:cur[i]?=some l):L[i]?=some l:=by
  have a:=congrArg (fun q:List (List Int)=>q[0]?) h.2.1;simp only [List.getElem?_drop,Nat.add_zero] at a;rw [←a,hl]
theorem scans_step{f w w':Int}{L cur:List (List Int)}{i:Nat}{R:List (List Int)×Int}{l l':List Int}(h:wO f L cur i w R)(hl:cur[i]?=some l)(hs:(l.headD 0::(oS f l.tail (l.headD 0) w).1,(oS f l.tail (l.headD 0) w).2)=(l',w')):wO f L (cur.set i l') (i+1) w' R:=by
  have hL:=scans_at h hl;obtain⟨h1,h2,h3⟩:=h;have hi:i<cur.length:=(List.getElem?_eq_some_iff.1 hl).1;injection hs with e1 e2
  refine⟨by simpa using h1,?_,?_⟩
  · rw [List.drop_set_of_lt (by omega)];have a:=congrArg (List.drop 1) h2
    simpa [List.drop_drop] using a
  · rw [h3,gE hL,oD,e1,e2,sQ hi];simp
theorem scans_end{f w:Int}{L cur:List (List Int)}{i:Nat}{R:List (List Int)×Int}(h:wO f L cur i w R)(hi:L.length≤i):R=(cur,w):=by
  obtain⟨h1,h2,h3⟩:=h;rw [h3,hZ hi,oD,List.take_of_length_le (by omega),List.append_nil]
def bFs (L cur:List (List Int))(i:Nat):Prop:=cur.length=L.length∧cur.drop i=L.drop i∧cur.take i=(L.take i).map List.reverse
theorem revs_start(L:List (List Int)):bFs L L 0:=⟨rfl,rfl,rfl⟩
theorem revs_step{L cur:List (List Int)}{i:Nat}{l:List Int}(h:bFs L cur i)(hl:cur[i]?=some l):bFs L (cur.set i l.reverse) (i+1):=by
  obtain⟨h1,h2,h3⟩:=h;have hi:i<cur.length:=(List.getElem?_eq_some_iff.1 hl).1
  have hL:L[i]?=some l:=by
    have a:=congrArg (fun q:List (List Int)=>q[0]?) h2;simp only [List.getElem?_drop,Nat.add_zero] at a;rw [←a,hl]
  refine⟨by simpa using h1,?_,?_⟩
  · rw [List.drop_set_of_lt (by omega)];have a:=congrArg (List.drop 1) h2
    simpa [List.drop_drop] using a
  · rw [sQ hi,h3,take_at hL];simp
theorem revs_end{L cur:List (List Int)}{i:Nat}(h:bFs L cur i)(hi:L.length≤i):cur=L.map List.reverse:=by
  obtain⟨h1,h2,h3⟩:=h;rw [List.take_of_length_le (by omega),List.take_of_length_le hi] at h3;exact h3
theorem bKw{L:List (List Int)}{i:Nat}{l:List Int}(h:L[i]?=some l):(L.take i).flatten++l=(L.take (i+1)).flatten:=by
  rw [take_at h,List.flatten_append];simp
theorem flat_le{L:List (List Int)}(i:Nat):(L.take i).flatten.length≤L.flatten.length:=by
  conv=>rhs;rw [←List.take_append_drop i L]
  rw [List.flatten_append,List.length_append];omega
theorem cycle_add{l:List Int}{n m:Nat}(hd:l.length∣n)(hm:m≤l.length):sE l n++l.take m=sE l (n+m):=by
  unfold sE;rw [List.range_add,List.map_append,List.map_map]
  congr 1
  apply List.ext_getElem
  · simp;omega
  · intro i h1 h2;simp only [List.getElem_map,List.getElem_range,Function.comp];have hi:i<l.length:=by simp at h1;omega
    obtain⟨k,hk⟩:=hd;rw [hk,Nat.mul_add_mod,Nat.mod_eq_of_lt hi,List.getElem_take];simp [List.getD,hi]
theorem hO{a:Arr}(h:cO a=true):a.data.length≤65536:=by
  obtain⟨hs,hp⟩:=fZ.1 h;have:=hs.prod;omega
theorem iG{a:Arr}(h:cO a=true):a.sides.length≤4:=(fZ.1 h).1.len
theorem cZ(l:List Int)(n:Nat):(sE l n).length=n:=by simp [sE]
end Go.Proofs.YtbgdphbebhjpiaaGreatDoor
namespace Go.Proofs.YtbgdphbebhjpiaaGreatDoor
open Go.RowKit
def mO:List dN→Nat→Option Nat
  | [],n=>some n
  | x::r,n=>if iY x≤n∧1≤x.how∧x.how≤7∧(x.how=1→x.nums≠[]∧x.nums.length≤65536) then mO r (n-iY x+1) else none
theorem tP{x:dN}(h:x.how=1∨x.how=2):iY x=0:=by
  unfold iY;rw [if_neg (by omega),if_neg (by omega)]
theorem bBl{x:dN}(h:x.how=4∨x.how=7):iY x=2:=by
  unfold iY;rw [if_neg (by omega),if_pos h]
theorem xI{x:dN}(h:x.how=3∨x.how=5∨x.how=6):iY x=1:=by
  unfold iY;rw [if_pos h]
theorem step_depth{st st':List fO}{x:dN}(h:iL st x=some st'):iY x≤st.length∧st'.length=st.length-iY x+1∧1≤x.how∧x.how≤7∧(x.how=1→x.nums≠[]∧x.nums.length≤65536):=by
  unfold iL at h;split at h
  · rename_i hh;rw [tP hh]
    cases ho:operandS x with
    | none=>simp [ho] at h
    | some p=>
      simp only [ho,Option.map_some,Option.some.injEq] at h;subst h;refine⟨by omega,by simp,by omega,by omega,fun h1=>?_⟩;unfold operandS at ho;rw [if_neg (by omega)] at ho;split at ho
      · cases ho
      · rename_i hb;simp only [not_or,ne_eq,Classical.not_not,Nat.not_lt] at hb;exact⟨hb.2.2.1,by omega⟩
  · split at h
    · cases h
    · rename_i h12 hk;simp only [not_or,Int.not_lt] at hk h12;unfold pI at h
      by_cases h2:x.how=4∨x.how=7
      · have e:uW x.how=true:=by unfold uW;rcases h2 with h2 | h2<;>rw [h2]<;>rfl
        rw [if_pos e] at h;rw [bBl h2]
        match st,h with
        | p::q::r,h=>
          simp only [Option.some.injEq] at h;subst h;exact⟨by simp,by simp,by omega,by omega,fun h1=>by omega⟩
        | [p],h=>cases h
        | [],h=>cases h
      · have e:uW x.how=false:=by
          unfold uW;simp only [Bool.or_eq_false_iff,beq_eq_false_iff_ne,ne_eq];omega
        rw [if_neg (by rw [e];simp)] at h;rw [xI (by omega)]
        match st,h with
        | p::r,h=>
          simp only [Option.some.injEq] at h;subst h;exact⟨by simp,by simp,by omega,by omega,fun h1=>by omega⟩
        | [],h=>cases h
theorem bEh: ∀{l:List dN} {st st':List fO},fU l st=some st'→mO l st.length=some st'.length
  | [],st,st',h=>by
    simp only [fU,Option.some.injEq] at h;subst h;rfl
  | x::l,st,st',h=>by
    rw [fU] at h
    cases h1:iL st x with
    | none=>rw [h1] at h;cases h
    | some s1=>
      rw [h1] at h;obtain⟨a,b,c,d,e⟩:=step_depth h1;rw [mO,if_pos ⟨a,c,d,e⟩,←b];exact bEh h
theorem bJw{l:List dN}{m:Nat}{t:Bs}(h:gM l m=some t):mO l 0=some 1:=by
  unfold gM at h;split at h
  · cases h
  · split at h
    · rename_i hq;exact bEh (st:=[]) hq
    · cases h
theorem bDh: ∀{ls:List lK} {o o':Bs},fK ls o=(o',true)→ ∀l∈ls,mO l.items 0=some 1
  | [],_,_,_,l,hl=>by simp at hl
  | [m],o,o',h,l,hl=>by
    rw [List.mem_singleton.1 hl];simp only [fK] at h
    cases hx:gM m.items 255 with
    | none=>rw [hx] at h;simp at h
    | some t=>exact bJw hx
  | m::n::ls,o,o',h,l,hl=>by
    have h':(match gM m.items 254 with
        | none=>(o,false)
        | some t=>if dW m.name=false then (o,false) else fK (n::ls) (o++(((m.name++[58,32])++t)++[10])))=(o',true):=h
    cases hx:gM m.items 254 with
    | none=>rw [hx] at h';simp at h'
    | some t=>
      rw [hx] at h';simp only at h';split at h'
      · simp at h'
      · rcases List.mem_cons.1 hl with rfl | hl
        · exact bJw hx
        · exact bDh h' l hl
theorem vI{p:Prog}(h:(dS p).2=true): ∀l∈p.lines,mO l.items 0=some 1:=by
  unfold dS at h;split at h
  · cases h
  · cases hi:iO p.inputs [] with
    | mk o b=>
      rw [hi] at h
      cases b with
      | false=>cases h
      | true=>exact bDh (o':=(fK p.lines o).1) (Prod.ext rfl h)
def jE (N:hJ):Prop:= ∀p∈N,cO p.2=true
theorem look_mem{k:Bs}{a:Arr}: ∀{N:hJ},look k N=some a→ ∃p∈N,p.2=a
  | [],h=>by cases h
  | p::r,h=>by
    unfold look at h;split at h
    · injection h with h
      exact⟨p,List.mem_cons_self ..,h⟩
    · obtain⟨q,hq,e⟩:=look_mem h;exact⟨q,List.mem_cons_of_mem _ hq,e⟩
theorem jE.look{N:hJ}(h:jE N){k:Bs}{a:Arr}(hk:look k N=some a):cO a=true:=by
  obtain⟨p,hp,e⟩:=look_mem hk;rw [←e];exact h p hp
theorem jE.cons{N:hJ}(h:jE N){k:Bs}{a:Arr}(ha:cO a=true):jE ((k,a)::N):=fun p hp=>by
  rcases List.mem_cons.1 hp with rfl | hp
  · exact ha
  · exact h p hp
theorem one_right(z:Int):cO ⟨[],[z]⟩=true:=iT vL (by simp [dI])
theorem nums_right{l:List Int}(h0:l≠[])(h1:l.length≤65536):cO ⟨if 1<l.length then [(l.length:Int)] else [],l⟩=true:=by
  split
  · exact iT (rY (by omega) (by omega)) (by simp [dI])
  · have:l.length≠0:=fun e=>h0 (List.length_eq_zero_iff.1 e);exact iT vL (by simp [dI];omega)
theorem bIc{N:hJ}(hN:jE N){x:dN}(h1:1≤x.how)(h7:x.how≤7)(hn:x.how=1→x.nums≠[]∧x.nums.length≤65536){st:List Arr}(h:(fQ N x st).2=0):cO (fQ N x st).1=true:=by
  unfold fQ at h⊢;split at h
  · rename_i e;rw [if_pos e];exact nums_right (hn e).1 (hn e).2
  · rename_i e1;rw [if_neg e1];split at h
    · rename_i e;rw [if_pos e]
      cases hk:look x.name N with
      | none=>rw [hk] at h;simp at h
      | some a=>exact hN.look hk
    · rename_i e2;rw [if_neg e2];split at h
      · rename_i e;rw [if_pos e];exact bDi h
      · rename_i e3;rw [if_neg e3];split at h
        · rename_i e;rw [if_pos e];exact bHj h
        · rename_i e5;rw [if_neg e5];split at h
          · rename_i e;rw [if_pos e];exact bHb h
          · rename_i e6;rw [if_neg e6];split at h
            · rename_i e;rw [if_pos e];exact bJk h
            · rename_i e4;rw [if_neg e4];split at h
              · rename_i e;rw [if_pos e];exact bCr h
              · omega
theorem item_code{N:hJ}{x:dN}{st:List Arr}{w:Nat}{e:Int}(h:nB N x st w= .error e):e≠0:=by
  unfold nB at h;split at h
  · rename_i hh;injection h with h
    rw [←h];exact hh
  · split at h
    · injection h with h
      rw [←h];decide
    · cases h
theorem item_ok{N:hJ}{x:dN}{st st':List Arr}{w w':Nat}(h:nB N x st w= .ok (st',w')):(fQ N x st).2=0∧st'=(fQ N x st).1::st.drop (iY x)∧w'=w+(fQ N x st).1.data.length∧w'≤1048576:=by
  unfold nB at h;split at h
  · cases h
  · rename_i hh;split at h
    · cases h
    · rename_i hw;injection h with h
      injection h with h1 h2
      subst h1 h2;exact⟨Classical.not_not.1 hh,rfl,rfl,by omega⟩
theorem yE{N:hJ}(hN:jE N): ∀{l:List dN} {st st':List Arr} {w w' n:Nat},(∀a∈st,cO a=true)→mO l st.length=some n→hX N l st w= .ok (st',w')→st'.length=n∧ ∀a∈st',cO a=true
  | [],st,st',w,w',n,hs,hd,h=>by
    simp only [hX,Except.ok.injEq,Prod.mk.injEq] at h;simp only [mO,Option.some.injEq] at hd;rw [←h.1];exact⟨hd,hs⟩
  | x::l,st,st',w,w',n,hs,hd,h=>by
    rw [mO] at hd;split at hd
    · rename_i hb;rw [hX] at h
      cases hi:nB N x st w with
      | error e=>rw [hi] at h;cases h
      | ok r=>
        obtain⟨s1,w1⟩:=r;rw [hi] at h;obtain⟨a,b,_,_⟩:=item_ok hi;have hr:=bIc hN hb.2.1 hb.2.2.1 hb.2.2.2 a;refine yE hN (st:=s1) ?_ ?_ h
        · intro y hy;rw [b] at hy
          rcases List.mem_cons.1 hy with rfl | hy
          · exact hr
          · exact hs y (List.mem_of_mem_drop hy)
        · rw [b]
          simpa [List.length_drop] using hd
    · cases hd
theorem line_code{N:hJ}: ∀{l:List dN} {st:List Arr} {w:Nat} {f:Flt},hX N l st w= .error f→f.2≠0
  | [],_,_,_,h=>by cases h
  | x::l,st,w,f,h=>by
    rw [hX] at h
    cases hi:nB N x st w with
    | error e=>
      rw [hi] at h;injection h with h
      rw [←h];exact item_code hi
    | ok r=>
      obtain⟨s1,w1⟩:=r;rw [hi] at h;exact line_code h
theorem bEg{st:List Arr}(h:st.length=1): ∃a,st=[a]∧st.getLastD kF=a:=by
  match st,h with
  | [a],_=>exact⟨a,rfl,rfl⟩
theorem bDp: ∀{ls:List lK} {N:hJ} {w:Nat} {out res:List Arr} {f:Flt},jE N→(∀a∈out,cO a=true)→(∀l∈ls,mO l.items 0=some 1)→lV N ls w out=(res,f)→
    (f.2=0→f=(0,0)∧res.length=out.length+ls.length∧ ∀a∈res,cO a=true)∧(f.2≠0→res=[])
  | [],N,w,out,res,f,hN,ho,hd,h=>by
    simp only [lV,Prod.mk.injEq] at h;obtain⟨rfl,rfl⟩:=h;exact⟨fun _=>⟨rfl,by simp,ho⟩,fun h=>absurd rfl h⟩
  | l::ls,N,w,out,res,f,hN,ho,hd,h=>by
    rw [lV] at h
    cases hl:hX N l.items [] w with
    | error g=>
      rw [hl] at h;injection h with h1 h2
      subst h1 h2;exact⟨fun e=>absurd e (line_code hl),fun _=>rfl⟩
    | ok r=>
      obtain⟨s1,w1⟩:=r;rw [hl] at h;obtain⟨a,b⟩:=yE hN (st:=[]) (fun a ha=>by simp at ha) (hd l (List.mem_cons_self ..)) hl;obtain⟨v,rfl,e⟩:=bEg a;have hv:cO v=true:=b v (List.mem_cons_self ..)
      have:=bDp (hN.cons hv) (out:=out++[v]) (fun y hy=>by
        rcases List.mem_append.1 hy with hy | hy
        · exact ho y hy
        · rw [List.mem_singleton.1 hy];exact hv) (fun y hy=>hd y (List.mem_cons_of_mem _ hy)) (res:=res) (f:=f) h
      refine⟨fun e=>?_,this.2⟩;obtain⟨x,y,z⟩:=this.1 e;exact⟨x,by simp at y⊢;omega,z⟩
theorem bAl(vars:List Bs)(dims:List Int): ∀{xs:List dX} {ar:List Arr} {N N':hJ} {f:Flt},jE N→iC vars dims xs ar N=(N',f)→jE N'
  | [],ar,N,N',f,hN,h=>by
    simp only [iC,Prod.mk.injEq] at h;rw [←h.1];exact hN
  | x::xs,[],N,N',f,hN,h=>by
    simp only [iC,Prod.mk.injEq] at h;rw [←h.1];exact hN
  | x::xs,a::ar,N,N',f,hN,h=>by
    rw [iC] at h;split at h
    · injection h with h
      rw [←h];exact fun p hp=>by simp at hp
    · rename_i hf;have hf:bBb vars dims x a=true:=by simpa using hf
      refine bAl vars dims (hN.cons ?_) h;unfold bBb at hf;simp only [Bool.and_eq_true] at hf;exact hf.1
theorem bKq: ∀{vars:List Bs} {dims:List Int} {N:hJ},jE N→jE (nD vars dims N)
  | [],_,_,h=>h
  | _::_,[],_,h=>h
  | s::vars,n::dims,N,h=>by
    rw [nD];exact bKq (h.cons (one_right n))
theorem vC(p:Prog)(dims:List Int)(ins:List Arr):jE (dZ p dims ins).1:=by
  have h0:jE []:=fun p hp=>by simp at hp
  unfold dZ;split
  · exact h0
  · split
    · exact h0
    · split
      · exact h0
      · split
        · exact h0
        · exact bAl _ _ (bKq h0) rfl
theorem bCx{p:Prog}{dims:List Int}{ins:List Arr}(h:isOk (dZ p dims ins).2=true):(dS p).2=true:=by
  unfold dZ at h;split at h
  · cases h
  · rename_i hh
    simpa using hh
theorem bCt(vars:List Bs)(dims:List Int): ∀{xs:List dX} {ar:List Arr} {N:hJ},(iC vars dims xs ar N).2.2=0→(iC vars dims xs ar N).2=(0,0)
  | [],ar,N,_=>rfl
  | x::xs,[],N,_=>rfl
  | x::xs,a::ar,N,h=>by
    rw [iC] at h⊢;split at h
    · cases h
    · rename_i hf;rw [if_neg hf];exact bCt vars dims h
theorem uH{p:Prog}{dims:List Int}{ins:List Arr}(h:(dZ p dims ins).2.2=0):(dZ p dims ins).2=(0,0):=by
  unfold dZ at h⊢;split at h
  · cases h
  · rename_i h1;rw [if_neg h1];split at h
    · cases h
    · split at h
      · cases h
      · rename_i h2;simp only [if_neg h2];split at h
        · cases h
        · rename_i h3;rw [if_neg h3];exact bCt _ _ h
theorem xR{p:Prog}{dims:List Int}{ins:List Arr}:((gB p dims ins).2.2=0→(gB p dims ins).2=(0,0)∧(gB p dims ins).1.length=p.lines.length∧ ∀a∈(gB p dims ins).1,cO a=true)∧((gB p dims ins).2≠(0,0)→(gB p dims ins).1=[]):=by
  unfold gB;split
  · rename_i hb;refine⟨fun e=>?_,fun _=>rfl⟩;rw [uH e] at hb;exact absurd hb (by decide)
  · rename_i hb;have hb:isOk (dZ p dims ins).2=true:=by simpa using hb
    have:=bDp (vC p dims ins) (out:=[]) (w:=0) (fun a ha=>by simp at ha) (vI (bCx hb)) rfl;refine⟨fun e=>?_,fun e=>?_⟩
    · obtain⟨x,y,z⟩:=this.1 e;exact⟨x,by simpa using y,z⟩
    · by_cases h:(lV (dZ p dims ins).1 p.lines 0 []).2.2=0
      · exact absurd (this.1 h).1 e
      · exact this.2 h
end Go.Proofs.YtbgdphbebhjpiaaGreatDoor
