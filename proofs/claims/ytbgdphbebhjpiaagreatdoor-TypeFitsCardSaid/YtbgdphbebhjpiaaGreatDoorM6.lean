/- Texts of one proof, one behind the other: BackE, BackC, BackD, BackR, BackN. -/
import Derived.Test.YtbgdphbebhjpiaaGreatDoorM5
namespace Go.Proofs.YtbgdphbebhjpiaaGreatDoor
open Go.RowKit
def Sep (c:UInt8):Prop:=c=32∨c=41∨c=10
theorem Sep.word{c:UInt8}(h:Sep c):mS c=false:=by rcases h with rfl | rfl | rfl<;>decide
def NoNl (T:List Tk):Prop:= ∀t∈T,t.kind≠4
theorem NoNl.append{A B:List Tk}(h:NoNl A)(k:NoNl B):NoNl (A++B):=fun t ht=>(List.mem_append.1 ht).elim (h t) (k t)
theorem NoNl.one{t:Tk}(h:t.kind≠4):NoNl [t]:=fun u hu=>by rw [List.mem_singleton.1 hu];exact h
def Rng (n:Int):Prop:= -9223372036854775808≤n∧n≤9223372036854775807
def tokS (l:List fI):Nat:=match gB l [] with
 | some [p]=>p.tokens
 | _=>0
def pC.un (l:pC):pC:=⟨l.name,0,vT l.items⟩
def iS.un (x:iS):iS:=⟨x.name,0,x.sides⟩
def iM.un (p:iM):iM:=⟨p.inputs.map iS.un,p.lines.map pC.un⟩
def costI (x:iS):Nat:=x.sides.length+3
def costL (l:pC):Nat:=tokS l.items+if l.name=[] then 2 else 3
def zH (p:iM):Nat:=(p.inputs.map costI).sum+(p.lines.map costL).sum
structure SideOk (d:qL):Prop where
 ok:d.name=[]∨d.n=0∧fJ d.name=true
theorem name_ne{s:Bs}(h:fJ s=true):s≠[]∧s≠[105,110]∧s≠[111,117,116]:=by
 refine⟨?_,?_,?_⟩
 ·rintro rfl;obtain⟨b,r,e,_⟩:=(tI h).head;cases e
 ·rintro rfl;simp [fJ] at h
 ·rintro rfl;simp [fJ] at h
theorem bMh(ins:List iS)(lns:List pC)(l:pC):pD ⟨ins,lns++[l]⟩=(l.name==[]):=by simp [pD]
structure RngP (p:iM):Prop where
 ins: ∀x∈p.inputs,∀d∈x.sides,Rng d.n
 lns: ∀l∈p.lines,∀x∈l.items,∀n∈x.nums,Rng n
def oV:Stk→Nat
 | []=>0
 | none::r=>oV r+1
 | some _::r=>oV r
def VbOk (it:fI):Prop:= ¬(it.how<3∨7<it.how∨it.nums≠[]∨it.name≠[]∨(verbS it).1=[])
inductive zK:Stk→List fS→Nat→Prop
 | nil:zK [] [] 0
 | brk {st P c}:zK st P c→zK (none::st) P (c+1)
 | one {it st P c}:VbOk it→uX it.how=false→zK st P c→zK (some it::st) P (c+(verbS it).2)
 | two {it st q P c}:VbOk it→uX it.how=true→(leftS q).nest+oV st≤32→zK st P c→zK (some it::st) (q::P) (c+(verbS it).2+(leftS q).tokens)
theorem qK: ∀(a b:List fI) (st:List fS),gB (a++b) st=(gB a st).bind (gB b)
 | [],b,st=>rfl
 | x::a,b,st=>by
  rw [List.cons_append,gB,gB]
  cases iK st x with
  | none=>rfl
  | some s=>exact qK a b s
theorem steps_snoc{a:List fI}{x:fI}{st P P':List fS}(h:gB a st=some P)(hx:iK P x=some P'):gB (a++[x]) st=some P':=by
 rw [qK,h];show gB [x] P=_;rw [gB,hx];rfl
theorem bLj{it:fI}(h:VbOk it)(st:List fS):iK st it=oQ it st:=by
 have h3: ¬(it.how=1∨it.how=2):=fun e=>h (.inl (by omega));unfold iK;rw [if_neg h3,if_neg h]
theorem fin_pend{st:Stk}{P:List fS}{c:Nat}(h:zK st P c): ∀{p:fS},p.nest+oV st≤32→ ∃p' P' c',gB (mQ st).1 (p::P)=some (p'::P')∧zK (mQ st).2 P' c'∧p'.tokens+c'=p.tokens+c∧p'.nest+oV st≤32:=by
 induction h with
 | nil=>exact fun{p} hp=>⟨p,[],0,rfl,.nil,rfl,hp⟩
 | brk h _=>exact fun{p} hp=>⟨p,_,_,rfl,.brk h,rfl,hp⟩
 | one hv ht h ih=>
  rename_i it st P c;intro p hp;obtain⟨p',P',c',h1,h2,h3,h4⟩:=ih (p:=⟨(verbS it).1::p.words,p.nest,p.tokens+(verbS it).2,false⟩) hp;refine⟨p',P',c',?_,h2,by rw [h3];simp only;omega,h4⟩;rw [mQ];simp only [gB];rw [bLj hv];unfold oQ;rw [ht];exact h1
 | two hv ht hn h ih=>
  rename_i it st q P c;intro p hp
  obtain⟨p',P',c',h1,h2,h3,h4⟩:=ih (p:=⟨(leftS q).words++(verbS it).1::p.words,max p.nest (leftS q).nest,p.tokens+(verbS it).2+(leftS q).tokens,false⟩) (by
   have:p.nest+oV st≤32:=hp;simp only
   omega)
  refine⟨p',P',c',?_,h2,by rw [h3];simp only;omega,h4⟩;rw [mQ];simp only [gB];rw [bLj hv];unfold oQ;rw [ht];exact h1
theorem bHx: ∀st:Stk,((mQ st).2=[]∧oV st=0)∨ ∃r,(mQ st).2=none::r∧oV st=oV r+1
 | []=> .inl ⟨rfl,rfl⟩
 | none::r=> .inr ⟨r,rfl,rfl⟩
 | some _::r=>bHx r
theorem isOk_43{a:Int}:kU (a,43)=false:=by simp [kU,pF]
theorem iB{a c:Int}(hc:c≠0):kU (a,c)=false:=by
 have:(c==0)=false:=by simpa using hc
 simp [kU,pF,this]
theorem two_mem{w:Bs}(h:gV w≠0):w∈verbWords:=by
 refine Classical.byContradiction fun hn=>h ?_;simp only [verbWords,List.mem_cons,not_or] at hn;unfold gV;simp only [hn,if_false]
theorem one_mem{w:Bs}(h:mH w≠0):w∈verbWords:=by
 refine Classical.byContradiction fun hn=>h ?_;simp only [verbWords,List.mem_cons,not_or] at hn;unfold mH;simp only [hn,or_self,if_false]
theorem verb_mem{w:Bs}{two:Bool}(h:gI w two≠0):w∈verbWords:=by
 cases two with
 | false=>exact one_mem h
 | true=>exact two_mem h
theorem bJf{two:Bool}{f:Int}{w:Bs}(hf:gI w two=f)(h0:f≠0): ∀l:List Bs,w∈l→(∀s∈l,s≠[])→mX two f l≠[]
 | [],h,_=>by simp at h
 | s::r,h,hne=>by
  rw [mX]
  by_cases hs:(gI s two !=0&&gI s two==f)=true
  ·rw [if_pos hs];exact hne s (by simp)
  ·rw [if_neg hs];refine bJf hf h0 r ?_ fun x hx=>hne x (by simp [hx])
   rcases List.mem_cons.1 h with rfl | h
   ·exact absurd (by simp [hf,h0]) hs
   ·exact h
theorem bKl{two:Bool}{w:Bs}{f:Int}(hf:gI w two=f)(h0:f≠0):kD two f≠[]:=by
 rw [←bIx];exact bJf hf h0 _ (verb_mem (by rw [hf];exact h0)) (by decide)
theorem bKm{toks:List TokV}{k:Nat}{e:Int}{two:Bool}(h:kU (bW toks k e two).flt=true):VbOk (bW toks k e two).it∧uX (bW toks k e two).it.how=two∧(verbS (bW toks k e two).it).2+k≤(bW toks k e two).next:=by
 unfold bW at h⊢;split at h
 ·rename_i hm;rw [if_pos hm];split at h
  ·simp only [isOk_43] at h;cases h
  ·rename_i hb;rw [if_neg hb];rw [not_or] at hb;obtain⟨h17,hl⟩:=hb
   by_cases h0:gV (bR toks k).word=0
   ·simp only [h0,if_true,isOk_43] at h;cases h
   ·have ht:=bKl (two:=true) (w:=(bR toks k).word) rfl h0;have ht':kD true (gV (bR toks k).word)≠[]:=ht;simp only [ne_eq,Classical.not_not] at hl;obtain⟨hm1,hm2⟩:=hm
    rcases hm2 with hw | hw | hw
    all_goals
     rw [hw] at hl;simp only [hw] at*;subst hl;refine⟨?_,rfl,?_⟩
     ·simp [VbOk,Phr.it,verbS,ht',h17]
     ·simp [Phr.it,verbS,ht',h17];omega
 ·rename_i hm;rw [if_neg hm]
  by_cases h0:gI (bR toks k).word two=0
  ·simp only [h0,if_true,isOk_43] at h;cases h
  ·have ht:=bKl (two:=two) (w:=(bR toks k).word) rfl h0
   cases two with
   | false=>
    refine⟨?_,rfl,?_⟩
    ·simp [VbOk,Phr.it,verbS,ht]
    ·simp [Phr.it,verbS];omega
   | true=>
    refine⟨?_,rfl,?_⟩
    ·simp [VbOk,Phr.it,verbS,ht]
    ·simp [Phr.it,verbS];omega
structure bFz (t:TokV):Prop where
 num:t.kind=2→t.word=[]
 word:t.kind=1→t.n=0
 rng:Rng t.n
def RngI (l:List fI):Prop:= ∀x∈l,∀n∈x.nums,Rng n
theorem RngI.append{a b:List fI}(h:RngI a)(k:RngI b):RngI (a++b):=fun x hx=>(List.mem_append.1 hx).elim (h x) (k x)
def uZ (l:List fI)(m:Nat):Prop:=(∃p,gB l []=some [p]∧p.tokens≤m∧p.nest≤32)∧RngI l
def RngS (st:Stk):Prop:= ∀x,some x∈st→x.nums=[]
theorem fin_rng: ∀{st:Stk},RngS st→RngI (mQ st).1∧RngS (mQ st).2
 | [],_=>⟨fun x hx=>by simp [mQ] at hx,fun x hx=>by simp [mQ] at hx⟩
 | none::r,h=>⟨fun x hx=>by simp [mQ] at hx,h⟩
 | some y::r,h=>by
  obtain⟨a,b⟩:=fin_rng (st:=r) fun x hx=>h x (List.mem_cons_of_mem _ hx);refine⟨fun x hx=>?_,b⟩;rw [mQ] at hx
  rcases List.mem_cons.1 hx with rfl | hx
  ·rw [h x (List.mem_cons_self ..)];simp
  ·exact a x hx
theorem vF(p:fS):p.tokens≤(leftS p).tokens∧(leftS p).tokens≤p.tokens+2∧p.nest≤(leftS p).nest∧(leftS p).nest≤p.nest+1:=by
 unfold leftS;split<;>simp
theorem pend_none{P:List fS}{c:Nat}(h:zK [] P c):P=[]∧c=0:=by
 cases h;exact⟨rfl,rfl⟩
theorem pend_brk{st:Stk}{P:List fS}{c:Nat}(h:zK (none::st) P c): ∃d,c=d+1∧zK st P d:=by
 cases h with
 | brk h=>exact⟨_,rfl,h⟩
theorem nums_mem{toks:List TokV}(ht: ∀t∈toks,bFz t){k:Nat}{n:Int}(h:n∈gG toks k):Rng n:=by
 unfold gG at h;obtain⟨t,h1,rfl⟩:=List.mem_map.1 h;exact(ht t (List.mem_of_mem_drop (List.takeWhile_sublist _ |>.subset h1))).rng
section
variable {toks : List TokV} {e : Int} {l : List fI} {flt : Flt} {k0 : Nat}
structure StB (toks:List TokV) (k0 k:Nat) (out:List fI) (st:Stk) (o:Nat) (p:fS) (P:List fS) (c:Nat):Prop where
 steps:gB out []=some (p::P)
 pend:zK st P c
 cost:c+(leftS p).tokens+k0≤k
 nest:oV st+(leftS p).nest≤32
 opens:oV st=o
 rng:RngI out
 rngS:RngS st
 le:k≤toks.length
structure StA (toks:List TokV) (k0 k:Nat) (out:List fI) (st:Stk) (o:Nat) (P:List fS) (c:Nat):Prop where
 steps:gB out []=some P
 pend:zK st P c
 cost:c+k0≤k
 opens:oV st=o
 rng:RngI out
 rngS:RngS st
 le:k≤toks.length
theorem bDw(toks:List TokV)(k:Nat)(e:Int)(b:Bool):(bW toks k e b).it.nums=[]:=rfl
theorem StB.verb{k:Nat}{out:List fI}{st:Stk}{o:Nat}{p:fS}{P:List fS}{c:Nat}(h:StB toks k0 k out st o p P c)(hok:kU (bW toks k e true).flt=true)(hk:k<toks.length):
  StA toks k0 (bW toks k e true).next out (some (bW toks k e true).it::st) o (p::P) (c+(verbS (bW toks k e true).it).2+(leftS p).tokens):=by
 obtain⟨v1,v2,v3⟩:=bKm hok;refine⟨h.steps,.two v1 v2 (by have:=h.nest;omega) h.pend,by have:=h.cost;omega,h.opens,h.rng,fun x hx=>?_,xA hk⟩
 rcases List.mem_cons.1 hx with e1 | hx
 ·cases e1;exact bDw ..
 ·exact h.rngS x hx
theorem StA.verb{k:Nat}{out:List fI}{st:Stk}{o:Nat}{P:List fS}{c:Nat}(h:StA toks k0 k out st o P c)(hok:kU (bW toks k e false).flt=true)(hk:k<toks.length):
  StA toks k0 (bW toks k e false).next out (some (bW toks k e false).it::st) o P (c+(verbS (bW toks k e false).it).2):=by
 obtain⟨v1,v2,v3⟩:=bKm hok;refine⟨h.steps,.one v1 v2 h.pend,by have:=h.cost;omega,h.opens,h.rng,fun x hx=>?_,xA hk⟩
 rcases List.mem_cons.1 hx with e1 | hx
 ·cases e1;exact bDw ..
 ·exact h.rngS x hx
theorem StA.operand{k m:Nat}{out:List fI}{st:Stk}{o:Nat}{P:List fS}{c:Nat}{x:fI}{p:fS}(h:StA toks k0 k out st o P c)(hx:iK P x=some (p::P))(hp:p.plain=true)(hn:p.nest=0)(ht:p.tokens≤m)(ho:o≤32)(hr: ∀n∈x.nums,Rng n)(hl:k+m≤toks.length):
  StB toks k0 (k+m) (out++[x]) st o p P c:=by
 have e1:leftS p=p:=by unfold leftS;rw [if_pos hp]
 exact⟨steps_snoc h.steps hx,h.pend,by rw [e1];have:=h.cost;omega,by rw [e1,hn,h.opens];exact ho,h.opens,h.rng.append fun y hy=>by rw [List.mem_singleton.1 hy];exact hr,h.rngS,hl⟩
theorem StB.close{k:Nat}{out:List fI}{st:Stk}{o:Nat}{p:fS}{P:List fS}{c:Nat}(h:StB toks k0 k out st (o+1) p P c)(hk:k<toks.length):
  ∃p' P' c',StB toks k0 (k+1) (out++(mQ st).1) (mQ st).2.tail o p' P' c':=by
 have hn:=h.nest;have hc:=h.cost;have ho:=h.opens;obtain⟨l1,l2,l3,l4⟩:=vF p;obtain⟨p',P',c',h1,h2,h3,h4⟩:=fin_pend h.pend (p:=p) (by omega)
 rcases bHx st with ⟨_,h0⟩ | ⟨r,e1,e2⟩
 ·omega
 ·rw [e1] at h2;obtain⟨d,rfl,h5⟩:=pend_brk h2;obtain⟨m1,m2,m3,m4⟩:=vF p';obtain⟨r1,r2⟩:=fin_rng h.rngS;refine⟨p',P',d,by rw [qK,h.steps];exact h1,by rw [e1];exact h5,by omega,by rw [e1];simp only [List.tail_cons];omega,by rw [e1];simp only [List.tail_cons];omega,h.rng.append r1,?_,by omega⟩;intro x hx;rw [e1] at r2 hx;exact r2 x (List.mem_cons_of_mem _ hx)
theorem StB.done{k:Nat}{out:List fI}{st:Stk}{p:fS}{P:List fS}{c:Nat}(h:StB toks k0 k out st 0 p P c):uZ (out++(mQ st).1) (toks.length-k0):=by
 have hn:=h.nest;have hc:=h.cost;have ho:=h.opens;have hle:=h.le;obtain⟨l1,l2,l3,l4⟩:=vF p;obtain⟨p',P',c',h1,h2,h3,h4⟩:=fin_pend h.pend (p:=p) (by omega)
 rcases bHx st with ⟨e1,_⟩ | ⟨r,_,e2⟩
 ·rw [e1] at h2;obtain⟨rfl,rfl⟩:=pend_none h2;exact⟨⟨p',by rw [qK,h.steps];exact h1,by omega,by omega⟩,h.rng.append (fin_rng h.rngS).1⟩
 ·omega
theorem bMq{rec:Nat→List fI→Stk→Nat→uQ}{kk:Nat}(hrec: ∀{k out st o P c},kk<k→StA toks k0 k out st o P c→o≤32→rec k out st o=(l,flt)→uZ l (toks.length-k0))(hok:kU flt=true):
  ∀(o:Nat) {k:Nat} {out:List fI} {st:Stk} {p:fS} {P:List fS} {c:Nat},kk≤k→StB toks k0 k out st o p P c→sE toks e rec o k out st=(l,flt)→uZ l (toks.length-k0):=by
 have rest: ∀(o:Nat) {k:Nat} {out:List fI} {st:Stk} {p:fS} {P:List fS} {c:Nat},kk≤k→StB toks k0 k out st o p P c→bAc toks e rec o k out st=(l,flt)→uZ l (toks.length-k0):=by
  intro o k out st p P c hkk h hr;unfold bAc at hr;split at hr
  ·split at hr
   ·cases hr;rw [iB (by decide)] at hok;cases hok
   ·rename_i h0;cases hr;obtain rfl:o=0:=by omega
    exact h.done
  ·rename_i h4;split at hr
   ·cases hr;rw [iB (by decide)] at hok;cases hok
   ·split at hr
    ·rename_i hp;have:=dQ toks k e true;exact hrec (by omega) (h.verb hp (iJ h4)) (by have:=h.nest;have:=h.opens;omega) hr
    ·rename_i hp;cases hr;exact absurd hok hp
 intro o
 induction o with
 | zero=>exact fun hkk h hr=>rest 0 hkk h hr
 | succ o ih=>
  intro k out st p P c hkk h hr;rw [sE] at hr;split at hr
  ·rename_i hc;obtain⟨p',P',c',h'⟩:=h.close (iJ (by rw [hc.1];decide));exact ih (by omega) h' hr
  ·exact rest _ hkk h hr
theorem go_ok(ht: ∀t∈toks,bFz t)(h256:toks.length≤256)(hok:kU flt=true): ∀(f:Nat) {k:Nat} {out:List fI} {st:Stk} {o:Nat} {P:List fS} {c:Nat},toks.length+1≤f+k→StA toks k0 k out st o P c→o≤32→lF toks e f k out st o=(l,flt)→uZ l (toks.length-k0)
 | 0,k,out,st,o,P,c,hf,h,_,_=>by have:=h.le;omega
 | f+1,k,out,st,o,P,c,hf,h,ho,hg=>by
  have hrec: ∀(k':Nat),k<k'→ ∀{out st o P c},StA toks k0 k' out st o P c→o≤32→lF toks e f k' out st o=(l,flt)→uZ l (toks.length-k0):=fun k' hk'=>go_ok ht h256 hok f (by omega);rw [lF] at hg;split at hg
  ·rename_i hv;split at hg
   ·rename_i hp;have:=dQ toks k e false;exact hrec _ (by omega) (h.verb hp (iJ hv.2.1)) ho hg
   ·rename_i hp;cases hg;exact absurd hok hp
  ·split at hg
   ·rename_i hb;split at hg
    ·cases hg;rw [iB (by decide)] at hok;cases hok
    ·rename_i h32;have hk:=iJ (toks:=toks) (k:=k) (by rw [hb.1];decide);refine hrec (k+1) (by omega) (P:=P) (c:=c+1) ⟨h.steps,.brk h.pend,by have:=h.cost;omega,by rw [oV,h.opens],h.rng,fun x hx=>h.rngS x (by simpa using hx),hk⟩ (by omega) hg
   ·split at hg
    ·rename_i h2;have hn:=tB h2;have hl:=nums_le toks k;have hk:=iJ (toks:=toks) (k:=k) (by rw [h2];decide)
     have hst:iK P (xI toks k)=some (⟨(gG toks k).map fW,0,(gG toks k).length,true⟩::P):=by
      have hne:gG toks k≠[]:=by rw [hn];simp
      have h3: ¬256<(gG toks k).length:=by omega
      simp [iK,xI,operandS,hne,h3]
     have hB:=h.operand (m:=(gG toks k).length) hst rfl rfl (Nat.le_refl _) ho (fun n hn=>nums_mem ht hn) (by omega);exact bMq (kk:=k) (fun hk'=>hrec _ hk') hok o (by omega) hB hg
    ·split at hg
     ·rename_i hnm;have hk:=iJ (toks:=toks) (k:=k) (by rw [hnm.1];decide);have hst:iK P (qS toks k)=some (⟨[(bR toks k).word],0,1,true⟩::P):=by simp [iK,qS,operandS,hnm.2]
      have hB:=h.operand (m:=1) hst rfl rfl (Nat.le_refl _) ho (fun n hn=>by simp [qS] at hn) (by omega);exact bMq (kk:=k) (fun hk'=>hrec _ hk') hok o (by omega) hB hg
     ·split at hg
      ·cases hg;rw [iB (by decide)] at hok;cases hok
      ·cases hg;rw [iB (by decide)] at hok;cases hok
end
theorem bEz: ∀(f i:Nat) (s:Bs) (out:List Tok),(∀t∈out,bFz t)→ ∀t∈(lexGo f i s out).1,bFz t
 | 0,_,_,out,h=>h
 | _+1,_,[],out,h=>h
 | f+1,i,b::r,out,h=>by
  unfold lexGo;split
  ·exact bEz f _ _ _ h
  ·split
   ·exact bEz f _ _ _ h
   ·split
    ·exact fun t ht=>by simp at ht
    ·rename_i ht;refine bEz f _ _ _ fun t hm=>?_
     rcases List.mem_append.1 hm with hm | hm
     ·exact h t hm
     ·rw [List.mem_singleton.1 hm];have h1:=bBz ht;obtain⟨_,h2,h3⟩:=bKx ht;exact⟨h1.num,h1.word,h2,h3⟩
theorem tkOk(s:Bs): ∀t∈(lexP s).1,bFz t:=by
 unfold lexP;split
 ·exact fun t ht=>by simp at ht
 ·exact bEz _ _ _ _ fun t ht=>by simp at ht
theorem expr_ok{toks:List TokV}{e:Int}{k:Nat}(ht: ∀t∈toks,bFz t)(h256:toks.length≤256)(hk:k≤toks.length)(hok:kU (qU toks e k).2=true):uZ (qU toks e k).1 (toks.length-k):=
 go_ok (k0:=k) (e:=e) (l:=(qU toks e k).1) (flt:=(qU toks e k).2) ht h256 hok (toks.length+1) (k:=k) (o:=0) (P:=[]) (c:=0) (by omega) ⟨rfl,.nil,by omega,rfl,fun x hx=>by simp at hx,fun x hx=>by simp at hx,hk⟩ (by omega) rfl
def InOk (x:iS):Prop:=fJ x.name=true∧x.sides.length≤4∧ ∀d∈x.sides,SideOk d∧Rng d.n
def LnOk (l:pC):Prop:=fJ l.name=true∧uZ l.items 254
def LastOk(l:pC):Prop:=l.name=[]∧uZ l.items 255
theorem uZ.mono{l:List fI}{a b:Nat}(h:uZ l a)(hab:a≤b):uZ l b:=by
 obtain⟨⟨p,h1,h2,h3⟩,h4⟩:=h;exact⟨⟨p,h1,by omega,h3⟩,h4⟩
theorem uZ.tok{l:List fI}{a:Nat}(h:uZ l a):tokS l≤a:=by
 obtain⟨⟨p,h1,h2,h3⟩,h4⟩:=h;unfold tokS;rw [h1];exact h2
theorem uZ.expr{l:List fI}{a:Nat}(h:uZ l a): ∃t,hU l a=some t:=by
 obtain⟨⟨p,h1,h2,h3⟩,h4⟩:=h;have:=zQ h1;simp at this;refine⟨joinSp p.words,?_⟩;unfold hU;rw [if_neg (by omega),h1];simp only;rw [if_neg (by omega)]
def LinesOk(ls:List pC)(over:Bool):Prop:=(over=false∧ ∀l∈ls,LnOk l)∨(over=true∧ ∃L z,ls=L++[z]∧(∀l∈L,LnOk l)∧LastOk z)
structure PSt (p:iM) (n:Nat) (over:Bool):Prop where
 ins: ∀x∈p.inputs,InOk x
 lns:LinesOk p.lines over
 num:p.inputs.length+p.lines.length≤n
 le:n≤64
theorem bIc: ∀(toks:List TokV) (acc:List qL),(∀t∈toks,bFz t)→acc.length≤4→kU (lQ toks acc).2=true→ ∃ds,(lQ toks acc).1=acc++ds∧ds.length=toks.length∧(acc++ds).length≤4∧ ∀d∈ds,SideOk d∧Rng d.n
 | [],acc,_,ha,_=>⟨[],by simp [lQ],rfl,by simpa using ha,by simp⟩
 | t::r,acc,ht,ha,h=>by
  rw [lQ] at h⊢;split at h
  ·rw [iB (by decide)] at h;cases h
  ·rename_i hk;rw [if_neg hk];split at h
   ·rw [iB (by decide)] at h;cases h
   ·rename_i h4;rw [if_neg h4];obtain⟨ds,h1,h2,h3,h5⟩:=bIc r (acc++[⟨t.word,t.n⟩]) (fun x hx=>ht x (by simp [hx])) (by simp;omega) h;refine⟨⟨t.word,t.n⟩::ds,by rw [h1];simp,by simp [h2],by simpa using h3,fun d hd=>?_⟩
    rcases List.mem_cons.1 hd with rfl | hd
    ·have hto:=ht t (by simp);refine⟨⟨?_⟩,hto.rng⟩
     by_cases h2:t.kind=2
     ·exact .inl (hto.num h2)
     ·have: ¬(t.kind≠1∨fJ t.word=false):=fun hh=>hk ⟨h2,hh⟩;simp only [not_or,ne_eq,Classical.not_not,Bool.not_eq_false] at this;exact .inr ⟨hto.word this.1,this.2⟩
    ·exact h5 d hd
theorem input_conv{own:List TokV}{e:Int}(h0:own≠[])(ht: ∀t∈own,bFz t)(hok:kU (jU own e).2=true):InOk (jU own e).1∧(jU own e).1.sides.length+2=own.length:=by
 have hpos:0<own.length:=List.length_pos_iff.2 h0;unfold jU at hok⊢;split at hok
 ·rw [iB (by decide)] at hok;cases hok
 ·rename_i h1;rw [if_neg h1];split at hok
  ·rw [iB (by decide)] at hok;cases hok
  ·rename_i h2;rw [if_neg h2];simp only [not_or,ne_eq,Classical.not_not,Bool.not_eq_false] at h2;obtain⟨ds,s1,s2,s3,s4⟩:=bIc (own.drop 2) [] (fun t hm=>ht t (List.mem_of_mem_drop hm)) (by simp) hok;rw [List.nil_append] at s1 s3;refine⟨⟨h2.2,by rw [s1];exact s3,by rw [s1];exact s4⟩,?_⟩;rw [s1,s2,List.length_drop];omega
theorem into_conv{own:List TokV}{e:Int}{p:iM}{n:Nat}{over:Bool}(h0:own≠[])(ht: ∀t∈own,bFz t)(h:PSt p n over)(hok:kU (gJ own e p n over).2=true):PSt (gJ own e p n over).1 (n+1) (pD (gJ own e p n over).1)∧zH (gJ own e p n over).1≤zH p+own.length+1:=by
 have hpos:0<own.length:=List.length_pos_iff.2 h0;obtain⟨ins,lns⟩:=p;obtain⟨h1,h2,h3,h4⟩:=h;unfold gJ at hok⊢;split at hok
 ·rw [iB (by decide)] at hok;cases hok
 ·rename_i c1;rw [if_neg c1];split at hok
  ·rw [iB (by decide)] at hok;cases hok
  ·rename_i c2;rw [if_neg c2];split at hok
   ·rw [iB (by decide)] at hok;cases hok
   ·rename_i c3;rw [if_neg c3];simp only [not_or,Bool.not_eq_true,not_and,ne_eq,Classical.not_not] at c3;obtain⟨rfl,c3⟩:=c3
    have hL: ∀l∈lns,LnOk l:=by
     rcases h2 with ⟨_,h⟩ | ⟨h,_⟩
     ·exact h
     ·cases h
    split at hok
    ·rename_i c4;rw [if_pos c4];have hl:lns=[]:=c3 c4;subst hl;obtain⟨i1,i2⟩:=input_conv h0 ht hok;refine⟨⟨fun x hx=>?_,.inl ⟨rfl,fun l hl=>by simp at hl⟩,by simp at h3⊢;omega,by omega⟩,?_⟩
     ·rcases List.mem_append.1 hx with hx | hx
      ·exact h1 x hx
      ·rw [List.mem_singleton.1 hx];exact i1
     ·simp only [zH,List.map_append,List.sum_append,List.map_cons,List.map_nil,List.sum_cons,List.sum_nil,costI];omega
    ·rename_i c4;rw [if_neg c4];split at hok
     ·rename_i c5;rw [if_pos c5];have hx:uZ (qU own e 1).1 (own.length-1):=expr_ok ht (by omega) hpos hok;have htk:=hx.tok;refine⟨⟨h1,.inr ⟨by rw [bMh];rfl,lns,_,rfl,hL,rfl,hx.mono (by omega)⟩,by simp only [List.length_append,List.length_singleton] at h3⊢;omega,by omega⟩,?_⟩;simp only [zH,List.map_append,List.sum_append,List.map_cons,List.map_nil,List.sum_cons,List.sum_nil,costL,rW,if_true];omega
     ·rename_i c5;rw [if_neg c5];split at hok
      ·rw [iB (by decide)] at hok;cases hok
      ·rename_i c6;rw [if_neg c6];simp only [not_or,ne_eq,Classical.not_not,Bool.not_eq_false] at c6;split at hok
       ·rw [iB (by decide)] at hok;cases hok
       ·rename_i c7;rw [if_neg c7];simp only [not_or,ne_eq,Classical.not_not] at c7;have hk:=iJ (toks:=own) (k:=1) (by rw [c7.1];decide);have hx:uZ (qU own e 2).1 (own.length-2):=expr_ok ht (by omega) (by omega) hok;have htk:=hx.tok;have hne:=(name_ne c6.2).1
        have hov:pD ⟨ins,lns++[(rW own e (bR own 0).word 2).1]⟩=false:=by
         rw [bMh]
         simpa [rW] using hne
        refine⟨⟨h1,.inl ⟨hov,fun l hl=>?_⟩,by simp only [List.length_append,List.length_singleton] at h3⊢;omega,by omega⟩,?_⟩
        ·rcases List.mem_append.1 hl with hl | hl
         ·exact hL l hl
         ·rw [List.mem_singleton.1 hl];exact⟨c6.2,hx.mono (by omega)⟩
        ·simp only [zH,List.map_append,List.sum_append,List.map_cons,List.map_nil,List.sum_cons,List.sum_nil,costL,rW,hne,if_false];omega
theorem sR{len:Int}{tot:Nat}: ∀(f:Nat) {toks:List TokV} {p q:iM} {n:Nat} {over:Bool} {flt:Flt},toks.length+1≤f→(∀t∈toks,bFz t)→PSt p n over→zH p+toks.length≤tot+(if toks=[] then 1 else 0)→qM len f toks p n over=(q,flt)→kU flt=true→PSt q 64 true∧zH q≤tot+1
 | 0,toks,_,_,_,_,_,hf,_,_,_,_,_=>by omega
 | f+1,toks,p,q,n,over,flt,hf,ht,hp,hc,h,hok=>by
  rw [qM] at h
  by_cases h0:toks=[]
  ·rw [if_pos h0] at h;rw [if_pos h0] at hc;split at h
   ·rename_i ho;cases h;subst ho;have:toks.length=0:=by rw [h0];rfl
    exact⟨⟨hp.ins,hp.lns,by have:=hp.num;have:=hp.le;omega,by omega⟩,by omega⟩
   ·cases h;rw [iB (by decide)] at hok;cases hok
  ·rw [if_neg h0] at h;rw [if_neg h0] at hc;have hpos:0<toks.length:=List.length_pos_iff.2 h0;split at h
   ·refine sR f (by rw [List.length_drop];omega) (fun t hm=>ht t (List.mem_of_mem_drop hm)) hp ?_ h hok;rw [List.length_drop];split<;>omega
   ·rename_i hon;split at h
    ·rename_i hi;have hsub: ∀t∈ownP toks,bFz t:=fun t hm=>ht t (by rw [←zS] at hm;exact List.mem_of_mem_take hm);obtain⟨a,b⟩:=into_conv hon hsub hp hi;have hle:=bGm toks;refine sR f (by rw [List.length_drop];omega) (fun t hm=>ht t (List.mem_of_mem_drop hm)) a ?_ h hok;rw [List.length_drop];split
     ·omega
     ·rename_i hd;have:(toks.drop ((ownP toks).length+1)).length≠0:=fun e=>hd (List.eq_nil_of_length_eq_zero e);rw [List.length_drop] at this;omega
    ·rename_i hi;cases h;exact absurd hok hi
theorem parse_conv{text:Bs}{p:iM}{flt:Flt}(h:gP text=(p,flt))(hok:kU flt=true):PSt p 64 true∧zH p≤(lexP text).1.length+1:=by
 unfold gP at h;split at h
 ·refine sR _ (Nat.le_refl _) (tkOk text) ⟨fun x hx=>by simp at hx,.inl ⟨rfl,fun l hl=>by simp at hl⟩,by simp,by omega⟩ ?_ h hok;simp [zH]
 ·rename_i hl;cases h;exact absurd hok hl
theorem zE: ∀(ds:List qL) (acc:Bs),(∀d∈ds,SideOk d)→ ∃t,kY ds acc=some t
 | [],acc,_=>⟨acc,rfl⟩
 | d::ds,acc,h=>by
  rw [kY];split
  ·exact zE ds _ fun x hx=>h x (by simp [hx])
  ·rename_i he;rw [if_pos ((h d (by simp)).ok.resolve_left he)];exact zE ds _ fun x hx=>h x (by simp [hx])
theorem bEn: ∀(xs:List iS) (o:Bs),(∀x∈xs,InOk x)→ ∃o',nU xs o=(o',true)
 | [],o,_=>⟨o,rfl⟩
 | x::xs,o,h=>by
  obtain⟨h1,h2,h3⟩:=h x (by simp);obtain⟨t,ht⟩:=zE x.sides x.name fun d hd=>(h3 d hd).1
  have hi:pT x=some t:=by
   unfold pT;rw [if_neg (by rw [h1];simp;omega),ht]
  rw [nU,hi];exact bEn xs _ fun y hy=>h y (by simp [hy])
theorem bFv{z:pC}(hz:LastOk z): ∀(L:List pC) (o:Bs),(∀l∈L,LnOk l)→ ∃o',gA (L++[z]) o=(o',true)
 | [],o,_=>by
  obtain⟨t,ht⟩:=hz.2.expr;refine⟨o++(([111,117,116,32]++t)++[10]),?_⟩;show gA [z] o=_;simp only [gA];rw [ht];simp only [hz.1,ne_eq,not_true_eq_false,if_false]
 | l::L,o,h=>by
  obtain⟨h1,h2⟩:=h l (by simp);obtain⟨t,ht⟩:=h2.expr;obtain⟨o',ho⟩:=bFv hz L (o++(((l.name++[58,32])++t)++[10])) fun y hy=>h y (by simp [hy]);refine⟨o',?_⟩
  obtain⟨m,M,hM⟩: ∃m M,L++[z]=m::M:=by
   cases L with
   | nil=>exact⟨z,[],rfl⟩
   | cons m M=>exact⟨m,M++[z],rfl⟩
  rw [List.cons_append];rw [hM] at ho⊢
  have:gA (l::m::M) o=match hU l.items 254 with
    | none=>(o,false)
    | some t=>if fJ l.name=false then (o,false) else gA (m::M) (o++(((l.name++[58,32])++t)++[10])):=rfl
  rw [this,ht];simp only;rw [if_neg (by rw [h1];simp)];exact ho
theorem PSt.lines_ne{p:iM}{n:Nat}(h:PSt p n true):p.lines≠[]:=by
 rcases h.lns with ⟨h,_⟩ | ⟨_,L,z,h,_⟩
 ·cases h
 ·rw [h];simp
theorem PSt.right{p:iM}(h:PSt p 64 true):(fH p).2=true:=by
 unfold fH;rw [if_neg]
 ·obtain⟨o,ho⟩:=bEn p.inputs [] h.ins;rw [ho]
  rcases h.lns with ⟨h,_⟩ | ⟨_,L,z,hl,hL,hz⟩
  ·cases h
  ·obtain⟨o',ho'⟩:=bFv hz L o hL;simp only [hl,ho']
 ·have:=h.num;rintro(h' | h')
  ·exact h.lines_ne h'
  ·omega
theorem PSt.rng{p:iM}{n:Nat}(h:PSt p n true):RngP p:=by
 refine⟨fun x hx d hd=>((h.ins x hx).2.2 d hd).2,fun l hl=>?_⟩
 rcases h.lns with ⟨h,_⟩ | ⟨_,L,z,e,hL,hz⟩
 ·cases h
 ·rw [e] at hl
  rcases List.mem_append.1 hl with hl | hl
  ·exact(hL l hl).2.2
  ·rw [List.mem_singleton.1 hl];exact hz.2.2
theorem isOk_iff{f:Flt}:kU f=true↔f=(0,0):=by
 constructor
 ·intro h;simp only [kU,pF,Bool.and_eq_true,beq_iff_eq] at h;exact Prod.ext h.1 h.2
 ·rintro rfl;rfl
theorem bMl{text:Bs}(h:(gP text).2=(0,0)):(fH (gP text).1).2=true∧RngP (gP text).1:=by
 have:=parse_conv (text:=text) (p:=(gP text).1) (flt:=(gP text).2) rfl (isOk_iff.2 h);exact⟨this.1.right,this.1.rng⟩
end Go.Proofs.YtbgdphbebhjpiaaGreatDoor
