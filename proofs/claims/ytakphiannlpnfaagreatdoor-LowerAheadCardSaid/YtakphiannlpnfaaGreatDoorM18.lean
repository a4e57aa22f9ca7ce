/- Texts of one proof, one behind the other: AheadP, LowerAheadW. -/
import Derived.Test.YtakphiannlpnfaaGreatDoorM17
import Derived.Test.YtakphiannlpnfaaGreatDoorM2
namespace Go.Proofs.YtakphiannlpnfaaGreatDoor
open Go.RowKit Go.Proofs.Tryz
set_option maxRecDepth 100000
abbrev bMy(nm:Bs)(x:LineV):LineV:=⟨nm,x.at_,x.items⟩
abbrev moreV(nm:Bs)(l:List LineV)(n:Nat)(x:LineV)(last:Sl ItemV):List LineV:=l.set n (bMy nm x)++[⟨[],0,last⟩]
theorem bMz{nm:Bs}: ∀{l:List LineV} {n:Nat} {x:LineV},n+1=l.length→l[n]?=some x→(l.set n (bMy nm x)).map LineV.ln=oW nm (l.map LineV.ln)
 | [y],0,x,_,h=>by
  simp at h;subst h;rfl
 | [y],n+1,x,hn,_=>by simp at hn
 | y::z::r,0,x,hn,_=>by simp at hn
 | y::z::r,n+1,x,hn,h=>by
  have:=bMz (nm:=nm) (l:=z::r) (n:=n) (x:=x) (by simpa using hn) ab4;simp only [List.set_cons_succ,List.map_cons,oW] at this⊢;rw [this]
section
variable {P : ProgV} {n : Nat} {x : LineV} {last : Sl ItemV} {nm : Bs} {A : Option Addr} {c : Nat}
theorem more_pr(hn:n+1=P.lines.list.length)(hx:P.lines.list[n]?=some x):(⟨P.inputs,⟨A,c,moreV nm P.lines.list n x last⟩⟩:ProgV).pr=xE nm P.pr (last.list.map ItemV.it):=by
 unfold ProgV.pr xE;simp only [List.map_append,bMz hn hx];rfl
def ItemsOk(l:List ItemV):Prop:= ∀it∈l,it.name.length≤140737488355328∧ ∀z∈it.nums.list,-9223372036854775808≤z∧z≤9223372036854775807
theorem more_ok(hP:qA P)(hl:ItemsOk last.list)(hm:nm.length≤140737488355328)(hx:P.lines.list[n]?=some x):qA (⟨P.inputs,⟨A,c,moreV nm P.lines.list n x last⟩⟩:ProgV):=by
 refine⟨hP.input,fun y hy=>?_⟩;have hy:y∈P.lines.list.set n (bMy nm x)++[⟨[],0,last⟩]:=hy
 rcases List.mem_append.1 hy with hy | hy
 ·rcases List.mem_or_eq_of_mem_set hy with hy | rfl
  ·exact hP.line y hy
  ·exact⟨hm,(hP.line x (j4 hx)).2⟩
 ·rw [List.mem_singleton.1 hy];exact⟨o9,hl⟩
theorem more_lns{F:List Fact}(h:Has F (kK P.lines.list))(hx:P.lines.list[n]?=some x)(h1:Has F (jZ.sl (.slice last.addr last.list.length last.cap) last.list))(h2:Has F (lH last.list)):Has F (kK (moreV nm P.lines.list n x last)):=fun S w q y hy=>by
 have hy:y∈P.lines.list.set n (bMy nm x)++[⟨[],0,last⟩]:=hy
 rcases List.mem_append.1 hy with hy | hy
 ·rcases List.mem_or_eq_of_mem_set hy with hy | rfl
  ·exact h S w q y hy
  ·exact h S w q x (j4 hx)
 ·rw [List.mem_singleton.1 hy];exact⟨h1 S w q,h2 S w q⟩
end
abbrev cutV(d c:CoreV):CoreV:=⟨d.vars,⟨d.bufs.addr,d.bufs.cap,d.bufs.list.take c.bufs.list.length⟩,⟨d.steps.addr,d.steps.cap,d.steps.list.take c.steps.list.length⟩,⟨d.outs.addr,d.outs.cap,d.outs.list.take c.outs.list.length⟩⟩
structure AheadV (c d:CoreV):Prop where
 b:c.bufs.list.length≤d.bufs.list.length
 s:c.steps.list.length≤d.steps.list.length
 o:d.outs.list.length=c.outs.list.length+1
 same:c.c=(cutV d c).c
theorem ahead_v{nm:Bs}{p:gQ}{last:List cT}{c d:CoreV}(h:(dX p).2=(0,0))(k:(dX (xE nm p last)).2=(0,0))(hc:c.c=(dX p).1)(hd:d.c=(dX (xE nm p last)).1):AheadV c d:=by
 obtain⟨e1,e2,e3,e4,e5⟩:=ahead_law h k;rw [←hc,←hd] at e1 e2 e3 e4 e5;have e1:d.vars=c.vars:=e1;have e2:gZ c.bufs.list<+:gZ d.bufs.list:=e2;have e3:dD c.steps.list<+:dD d.steps.list:=e3;have e4:c.outs.list<+:d.outs.list:=e4;have e5:d.outs.list.length=c.outs.list.length+1:=e5;have l2:=e2.length_le;have l3:=e3.length_le;rw [dI,dI] at l2;rw [gW,gW] at l3;refine⟨l2,l3,e5,?_⟩;have t2:=List.prefix_iff_eq_take.1 e2;have t3:=List.prefix_iff_eq_take.1 e3;have t4:=List.prefix_iff_eq_take.1 e4;rw [dI] at t2;rw [gW] at t3;show(⟨c.vars,gZ c.bufs.list,dD c.steps.list,c.outs.list⟩:bCx)=⟨d.vars,gZ (d.bufs.list.take c.bufs.list.length),dD (d.steps.list.take c.steps.list.length),d.outs.list.take c.outs.list.length⟩;rw [e1,t2,t3]
 congr 1
 ·simp [gZ,List.map_take]
 ·simp [dD,List.map_take]
theorem Has.each_take{α:Type}{g:α→Fact}{F:List Fact}{l:List α}{k:Nat}(h:Has F (Fact.each l g)):Has F (Fact.each (l.take k) g):=fun S w q y hy=>h S w q y (List.mem_of_mem_take hy)
theorem bGh{α:Type}{E:Flat α}{F:List Fact}{A:Option Addr}{c k:Nat}{xs:List α}(h:Has F (E.sl (.slice A xs.length c) xs))(hk:k≤xs.length):Has F (E.sl (.slice A (xs.take k).length c) (xs.take k)):=by
 rw [List.length_take,Nat.min_eq_left hk];exact bMu h hk
theorem bFy{α:Type}{F:List Fact}{b k:Nat}{x:Sl α}(h:Has F (xP b x)):Has F (xP b ⟨x.addr,x.cap,x.list.take k⟩):=fun S w q=>by
 obtain⟨h1,h2⟩:=h S w q;have h3:(x.list.take k).length≤x.list.length:=by rw [List.length_take];exact Nat.min_le_right _ _
 exact⟨Nat.le_trans h3 h1,Nat.le_trans (Nat.mul_le_mul_right _ h3) h2⟩
theorem cut_F{F:List Fact}{c d:CoreV}(h:Has F (bAt d))(a:AheadV c d):Has F (bAt (cutV d c)):=
 Has.and (Has.and (Has.and (bGh (bAj (lK h)) a.b) (bAd (lK h)).each_take) (bFy (bufsF_c (lK h))))
  (Has.and (Has.and (Has.and (bGh (uN (lN h)) a.s) (uO (lN h)).each_take) (bFy (bMp (lN h))))
   (Has.and (bGh (zK (rV h)) (by have:=a.o;omega)) (bFy (outsF_c (rV h)))))
theorem cut_val{c d:CoreV}(a:AheadV c d):(.agg #[.int .i64 d.vars,.slice d.bufs.addr c.bufs.list.length d.bufs.cap,.slice d.steps.addr c.steps.list.length d.steps.cap,.slice d.outs.addr c.outs.list.length d.outs.cap]:Value)=bNk (cutV d c):=by
 have h1:(d.bufs.list.take c.bufs.list.length).length=c.bufs.list.length:=by rw [List.length_take,Nat.min_eq_left a.b]
 have h2:(d.steps.list.take c.steps.list.length).length=c.steps.list.length:=by rw [List.length_take,Nat.min_eq_left a.s]
 have h3:(d.outs.list.take c.outs.list.length).length=c.outs.list.length:=by rw [List.length_take,Nat.min_eq_left (by have:=a.o;omega)]
 show _=Value.agg #[.int .i64 d.vars,.slice d.bufs.addr (d.bufs.list.take c.bufs.list.length).length d.bufs.cap,.slice d.steps.addr (d.steps.list.take c.steps.list.length).length d.steps.cap,.slice d.outs.addr (d.outs.list.take c.outs.list.length).length d.outs.cap];rw [h1,h2,h3]
theorem items_of{a:Sl ItemV}{S:Nat→Prop}{w:World}(h:((bGo.slice 64).deep a).p S w):
  ((jZ.sl (.slice a.addr a.list.length a.cap) a.list).p S w∧(lH a.list).p S w)∧ItemsOk a.list∧a.list.length≤140737488355328:=by
 obtain⟨⟨l1,l2⟩,l3⟩:=h;have l2: ∀x∈a.list,(bGo.deep x).p S w:=l2;refine⟨⟨l1,fun y hy=>?_⟩,fun it hit=>?_,?_⟩
 ·have:=l2 y hy;exact this.2.2.2.2.1.1.1
 ·have:=l2 it hit;exact⟨this.2.2.2.1,fun z hz=>wf_i64 (this.2.2.2.2.1.1.2 z hz)⟩
 ·have l3:a.list.length*64≤140737488355328:=l3;omega
end Go.Proofs.YtakphiannlpnfaaGreatDoor
namespace Go.Proofs.YtakphiannlpnfaaGreatDoor.lowerAhead
open Go.ChangeShapes Go.WideShapes Go.ChangeAt Go.RowKit Go.Proofs.Tryz
theorem pM(a0:Option Addr)(l0 c0:Nat):prog.built 25 [(0,.slice a0 l0 c0)]=some #[.slice a0 l0 c0,.slice none 0 0]:=o0
theorem rP(a2:Option Addr)(l2 c2:Nat):prog.built 54 [(2,.slice a2 l2 c2)]=some #[.string (bs []),.int .i64 0,.slice a2 l2 c2]:=o0
theorem law_spec(P:ProgV)(hP:qA P)(hl1:P.inputs.list.length≤140737488355328)(hl2:P.lines.list.length≤140737488355328)(last:Sl ItemV)(hla:ItemsOk last.list):cN prog 4 [.agg #[.slice P.inputs.addr P.inputs.list.length P.inputs.cap,.slice P.lines.addr P.lines.list.length P.lines.cap],.slice last.addr last.list.length last.cap] [] [iD,jT.sl (.slice P.inputs.addr P.inputs.list.length P.inputs.cap) P.inputs.list,iO P.inputs.list,nM.sl (.slice P.lines.addr P.lines.list.length P.lines.cap) P.lines.list,kK P.lines.list,jZ.sl (.slice last.addr last.list.length last.cap) last.list,lH last.list] (fun(_:Unit)=> .bool true) (fun _=>[]) (fun _=>[]):=by
 have hT:=fX;refine k8 func4 ntmps4 ?_;intro β hM;refine g2 ?_;refine j9 fun b1=>?_;refine g5 ?_;refine j5 func7 (shown11_spec) ⟨d7,j2⟩ fun _=>?_;refine g17 ?_;refine mY (fun hg18=>?_) fun hg18=>?_
 ·refine g19 ?_;exact rs1 () trivial
 refine g4 ?_;refine k_le (fun hg22=>?_) fun hg22=>?_
 ·refine g15 ?_;exact rs1 () trivial
 refine g6 ?_;refine dM (fun hc26=>?_) fun hc26=>?_
 ·refine g8 ?_;exact rs1 () trivial
 refine g3 ?_;have hn:(P.lines.list.length-1)+1=P.lines.list.length:=n9
 obtain⟨x,hx⟩:=gx P.lines.list (P.lines.list.length-1);refine g3 ?_;refine ss (k7 (pM _ _ _)) ?_;refine j6 pA fun b2=>?_;refine g4 ?_;refine cH (t:=54) nM ?_;refine g5 ?_;refine tM .head (cD e6) rfl rfl rfl rfl rfl rfl rfl r8 fun A3 c4=>?_;refine g10 ?_;refine inc (P.lines.list.length-1) ?_;refine ss (cJ hT (k:=(P.lines.list.length-1)) (cM kT1) rfl rfl rfl rfl rfl rfl rfl (by rw [List.nil_append];omega)) ?_;refine one ?_;refine fT hT (k:=(P.lines.list.length-1)) (fo:=0) (y':=(bMy [102,114,101,115,104] x)) kT1 rfl rfl rfl rfl rfl rfl rfl rfl rfl hx rfl ?_;refine g7 ?_;refine ss (k7 (rP _ _ _)) ?_;refine yQ (m:=(⟨[],0,last⟩:LineV)) rfl rfl rfl rfl rfl fun b5=>?_;refine tM kT1 (cA .head rfl) rfl rfl rfl rfl rfl rfl rfl r8 fun A6 c7=>?_;refine g7 ?_;refine j5 func8 (zI P hP hl1 hl2) ⟨d7,d8,d9,e6,e7,j2⟩ fun c=>?_;refine jO (v':= .tuple #[bNk c,.agg #[.int .i64 (dX P.pr).2.1,.int .i64 (dX P.pr).2.2]]) rfl<|bC d8 fun hc=>bB (xH.sl (.slice c.bufs.addr c.bufs.list.length c.bufs.cap) c.bufs.list) (bAj (lK d7))<|bB (jS.sl (.slice c.steps.addr c.steps.list.length c.steps.cap) c.steps.list) (uN (lN d8))<|bB (rJ.sl (.slice c.outs.addr c.outs.list.length c.outs.cap) c.outs.list) (zK (rV d9))<|bB (Fact.each c.bufs.list bAo) (bAd (lK e6))<|bB (Fact.each c.steps.list fJ) (uO (lN e7)) ?_;refine g3 ?_;refine j6 bAm fun b8=>?_;refine j6 bCd fun b9=>?_;refine g5 ?_;refine bE kT3<|bB (kK (moreV [102,114,101,115,104] P.lines.list (P.lines.list.length-1) x last)) (more_lns i7 hx j0 j1) ?_;have hqo:=more_ok (A:=A6) (c:=c7) (nm:=[102,114,101,115,104]) hP hla p7 hx;have hqp:=more_pr (A:=A6) (c:=c7) (last:=last) (nm:=[102,114,101,115,104]) hn hx;refine g2 ?_;refine j5 func8 (zI (⟨P.inputs,⟨A6,c7,(moreV [102,114,101,115,104] P.lines.list (P.lines.list.length-1) x last)⟩⟩:ProgV) hqo hl1 r8) ⟨f7,f9,i6,d8,d7,j2⟩ fun d=>?_;refine jO (v':= .tuple #[bNk d,.agg #[.int .i64 (dX (xE [102,114,101,115,104] P.pr (last.list.map ItemV.it))).2.1,.int .i64 (dX (xE [102,114,101,115,104] P.pr (last.list.map ItemV.it))).2.2]]) (by rw [hqp])<|bC d8 fun hd=>?_;rw [hqp] at hd;refine bB (xH.sl (.slice d.bufs.addr d.bufs.list.length d.bufs.cap) d.bufs.list) (bAj (lK d7))<|bB (jS.sl (.slice d.steps.addr d.steps.list.length d.steps.cap) d.steps.list) (uN (lN d8))<|bB (rJ.sl (.slice d.outs.addr d.outs.list.length d.outs.cap) d.outs.list) (zK (rV d9))<|bB (Fact.each d.bufs.list bAo) (bAd (lK e6))<|bB (Fact.each d.steps.list fJ) (uO (lN e7)) ?_;refine g3 ?_;refine j6 bAm fun b10=>?_;refine j6 bCd fun b11=>?_;refine g8 ?_;refine ss (k7 (yN)) ?_;refine ss (fK ⟨(dX P.pr).2.1,(dX P.pr).2.2⟩ ⟨0,0⟩ rfl rfl rfl) ?_;refine one ?_;refine k_nt (fun hg63=>?_) fun hg63=>?_
 ·refine g15 ?_;exact rs1 () trivial
 refine one ?_;refine ss (k7 (yN)) ?_;refine ss (fK ⟨(dX (xE [102,114,101,115,104] P.pr (last.list.map ItemV.it))).2.1,(dX (xE [102,114,101,115,104] P.pr (last.list.map ItemV.it))).2.2⟩ ⟨0,0⟩ rfl rfl rfl) ?_;refine g3 ?_;refine jB (fun hc67=>?_) fun hc67=>?_
 ·refine g8 ?_;exact rs1 () trivial
 refine g4 ?_;have hlp:=flt_of (by assumption:nU ⟨(dX P.pr).2.1,(dX P.pr).2.2⟩ ⟨0,0⟩=true);have hlq:=flt_of (by assumption:nU ⟨(dX (xE [102,114,101,115,104] P.pr (last.list.map ItemV.it))).2.1,(dX (xE [102,114,101,115,104] P.pr (last.list.map ItemV.it))).2.2⟩ ⟨0,0⟩=true);have hav:=ahead_v hlp hlq hc hd;have hav1:=hav.b;have hav2:=hav.s;have hav3:=hav.o;refine bC (bufsF_c (lK e8)) fun hkb=>?_;have hkb1:=hkb.1;refine bC (bMp (lN e8)) fun hks=>?_;have hks1:=hks.1;refine bC (outsF_c (rV e8)) fun hko=>?_;have hko1:=hko.1;refine g8 ?_;refine bL (t':=false) (decide_eq_false n9) ?_;refine g8 ?_;refine bL (t':=false) (decide_eq_false n9) ?_;refine g9 ?_;refine inc (c.outs.list.length+1) ?_;refine one ?_;refine bL (t':=false) (bne_eq_false_iff_eq.2 n9) ?_;refine g13 ?_;refine ss (iQ hT (k:=c.steps.list.length) rfl rfl rfl rfl rfl rfl n9) ?_;refine g11 ?_;refine ss (iQ hT (k:=c.bufs.list.length) rfl rfl rfl rfl rfl rfl n9) ?_;refine g11 ?_;refine ss (iQ hT (k:=c.outs.list.length) rfl rfl rfl rfl rfl rfl n9) ?_;refine g10 ?_;refine jO (v':=bNk (cutV d c)) (cut_val hav) ?_;refine j5 func11 (same11_spec c (cutV d c) hav.same) ⟨j1,cut_F e8 hav,j2⟩ fun _=>?_;refine g5 ?_;exact rs1 () trivial
end Go.Proofs.YtakphiannlpnfaaGreatDoor.lowerAhead
