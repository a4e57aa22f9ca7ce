/- Texts of one proof, one behind the other: BackE, BackC, BackD, BackR, BackN. -/
import Derived.Test.YtbgdphbebhjpiaaGreatDoorM5
namespace Go.Proofs.YtbgdphbebhjpiaaGreatDoor
open Go.RowKit
def Sep (c:UInt8):Prop:=c=32∨c=41∨c=10
theorem Sep.word{c:UInt8}(h:Sep c):jQ c=false:=by rcases h with rfl | rfl | rfl<;>decide
theorem bFq:isOk (0,0)=true:=rfl
def tB (T:List Tk):Prop:= ∀t∈T,t.kind≠4
theorem tB.append{A B:List Tk}(h:tB A)(k:tB B):tB (A++B):=fun t ht=>(List.mem_append.1 ht).elim (h t) (k t)
theorem tB.one{t:Tk}(h:t.kind≠4):tB [t]:=fun u hu=>by rw [List.mem_singleton.1 hu];exact h
def Rng (n:Int):Prop:= -9223372036854775808≤n∧n≤9223372036854775807
theorem Lx.gap{s rest:Bs}{T:List Tk}(h:Lx s T (32::rest)):Lx (s++[32]) T rest:=by
 have:=Lx.append (a:=s) (b:=[32]) (A:=T) (B:=[]) h Lx.blank;rw [List.append_nil] at this;exact this
def tokS (l:List dJ):Nat:=match fT l [] with
 | some [p]=>p.tokens
 | _=>0
def kL.un (l:kL):kL:=⟨l.name,0,gO l.items⟩
def gG.un (x:gG):gG:=⟨x.name,0,x.sides⟩
def Prog.un(p:Prog):Prog:=⟨p.inputs.map gG.un,p.lines.map kL.un⟩
def costI (x:gG):Nat:=x.sides.length+3
def costL (l:kL):Nat:=tokS l.items+if l.name=[] then 2 else 3
def bAs (p:Prog):Nat:=(p.inputs.map costI).sum+(p.lines.map costL).sum
def NL:Tk:=⟨4,[],0⟩
def WT (w:Bs):Tk:=⟨1,w,0⟩
theorem bLd{toks:List TokV}{T:List Tk}(h:toks.map TokV.tk=T):fU toks 0 T:=⟨Nat.zero_le _,h⟩
structure SideOk (d:qM):Prop where
 ok:d.name=[]∨d.n=0∧dS d.name=true
theorem name_ne{s:Bs}(h:dS s=true):s≠[]∧s≠[105,110]∧s≠[111,117,116]:=by
 refine⟨?_,?_,?_⟩
 ·rintro rfl;obtain⟨b,r,e,_⟩:=(oR h).head;cases e
 ·rintro rfl;simp [dS] at h
 ·rintro rfl;simp [dS] at h
theorem out_word:WordB [111,117,116]:=⟨⟨111,[117,116],rfl,by decide⟩,by decide,by decide⟩
theorem isW_of{toks:List TokV}{k:Nat}{t:Tk}{T:List Tk}(h:fU toks k (t::T))(w:Bs):isW (bP toks k) w=(t.kind==1&&t.word==w):=by unfold isW;rw [h.kind,h.word]
theorem xC(ins:List gG)(lns:List kL)(l:kL):iG ⟨ins,lns++[l]⟩=(l.name==[]):=by simp [iG]
structure RngP (p:Prog):Prop where
 ins: ∀x∈p.inputs,∀d∈x.sides,Rng d.n
 lns: ∀l∈p.lines,∀x∈l.items,∀n∈x.nums,Rng n
def iM:Stk→Nat
 | []=>0
 | none::r=>iM r+1
 | some _::r=>iM r
def VbOk (it:dJ):Prop:= ¬(it.how<3∨7<it.how∨it.nums≠[]∨it.name≠[]∨(verbS it).1=[])
inductive bAq:Stk→List fS→Nat→Prop
 | nil:bAq [] [] 0
 | brk {st P c}:bAq st P c→bAq (none::st) P (c+1)
 | one {it st P c}:VbOk it→uW it.how=false→bAq st P c→bAq (some it::st) P (c+(verbS it).2)
 | two {it st q P c}:VbOk it→uW it.how=true→(leftS q).nest+iM st≤32→bAq st P c→bAq (some it::st) (q::P) (c+(verbS it).2+(leftS q).tokens)
theorem qL: ∀(a b:List dJ) (st:List fS),fT (a++b) st=(fT a st).bind (fT b)
 | [],b,st=>rfl
 | x::a,b,st=>by
  rw [List.cons_append,fT,fT]
  cases iH st x with
  | none=>rfl
  | some s=>exact qL a b s
theorem steps_snoc{a:List dJ}{x:dJ}{st P P':List fS}(h:fT a st=some P)(hx:iH P x=some P'):fT (a++[x]) st=some P':=by
 rw [qL,h];show fT [x] P=_;rw [fT,hx];rfl
theorem bKq{it:dJ}(h:VbOk it)(st:List fS):iH st it=oU it st:=by
 have h3: ¬(it.how=1∨it.how=2):=fun e=>h (.inl (by omega));unfold iH;rw [if_neg h3,if_neg h]
theorem fin_pend{st:Stk}{P:List fS}{c:Nat}(h:bAq st P c): ∀{p:fS},p.nest+iM st≤32→ ∃p' P' c',fT (jG st).1 (p::P)=some (p'::P')∧bAq (jG st).2 P' c'∧p'.tokens+c'=p.tokens+c∧p'.nest+iM st≤32:=by
 induction h with
 | nil=>exact fun{p} hp=>⟨p,[],0,rfl,.nil,rfl,hp⟩
 | brk h _=>exact fun{p} hp=>⟨p,_,_,rfl,.brk h,rfl,hp⟩
 | one hv ht h ih=>
  rename_i it st P c;intro p hp;obtain⟨p',P',c',h1,h2,h3,h4⟩:=ih (p:=⟨(verbS it).1::p.words,p.nest,p.tokens+(verbS it).2,false⟩) hp;refine⟨p',P',c',?_,h2,by rw [h3];simp only;omega,h4⟩;rw [jG];simp only [fT];rw [bKq hv];unfold oU;rw [ht];exact h1
 | two hv ht hn h ih=>
  rename_i it st q P c;intro p hp
  obtain⟨p',P',c',h1,h2,h3,h4⟩:=ih (p:=⟨(leftS q).words++(verbS it).1::p.words,max p.nest (leftS q).nest,p.tokens+(verbS it).2+(leftS q).tokens,false⟩) (by
   have:p.nest+iM st≤32:=hp;simp only
   omega)
  refine⟨p',P',c',?_,h2,by rw [h3];simp only;omega,h4⟩;rw [jG];simp only [fT];rw [bKq hv];unfold oU;rw [ht];exact h1
theorem wG: ∀st:Stk,((jG st).2=[]∧iM st=0)∨ ∃r,(jG st).2=none::r∧iM st=iM r+1
 | []=> .inl ⟨rfl,rfl⟩
 | none::r=> .inr ⟨r,rfl,rfl⟩
 | some _::r=>wG r
theorem bBh{a:Int}:isOk (a,43)=false:=by simp [isOk,nQ]
theorem fW{a c:Int}(hc:c≠0):isOk (a,c)=false:=by
 have:(c==0)=false:=by simpa using hc
 simp [isOk,nQ,this]
theorem two_mem{w:Bs}(h:gS w≠0):w∈verbWords:=by
 refine Classical.byContradiction fun hn=>h ?_;simp only [verbWords,List.mem_cons,not_or] at hn;unfold gS;simp only [hn,if_false]
theorem one_mem{w:Bs}(h:mJ w≠0):w∈verbWords:=by
 refine Classical.byContradiction fun hn=>h ?_;simp only [verbWords,List.mem_cons,not_or] at hn;unfold mJ;simp only [hn,or_self,if_false]
theorem verb_mem{w:Bs}{two:Bool}(h:gF w two≠0):w∈verbWords:=by
 cases two with
 | false=>exact one_mem h
 | true=>exact two_mem h
theorem bJr{two:Bool}{f:Int}{w:Bs}(hf:gF w two=f)(h0:f≠0): ∀l:List Bs,w∈l→(∀s∈l,s≠[])→mZ two f l≠[]
 | [],h,_=>by simp at h
 | s::r,h,hne=>by
  rw [mZ]
  by_cases hs:(gF s two !=0&&gF s two==f)=true
  ·rw [if_pos hs];exact hne s (by simp)
  ·rw [if_neg hs];refine bJr hf h0 r ?_ fun x hx=>hne x (by simp [hx])
   rcases List.mem_cons.1 h with rfl | h
   ·exact absurd (by simp [hf,h0]) hs
   ·exact h
theorem bLw{two:Bool}{w:Bs}{f:Int}(hf:gF w two=f)(h0:f≠0):kO two f≠[]:=by
 rw [←bFu];exact bJr hf h0 _ (verb_mem (by rw [hf];exact h0)) (by decide)
theorem bLr{toks:List TokV}{k:Nat}{e:Int}{two:Bool}(h:isOk (bQ toks k e two).flt=true):VbOk (bQ toks k e two).it∧uW (bQ toks k e two).it.how=two∧(verbS (bQ toks k e two).it).2+k≤(bQ toks k e two).next:=by
 unfold bQ at h⊢;split at h
 ·rename_i hm;rw [if_pos hm];split at h
  ·simp only [bBh] at h;cases h
  ·rename_i hb;rw [if_neg hb];rw [not_or] at hb;obtain⟨h17,hl⟩:=hb
   by_cases h0:gS (bP toks k).word=0
   ·simp only [h0,if_true,bBh] at h;cases h
   ·have ht:=bLw (two:=true) (w:=(bP toks k).word) rfl h0;have ht':kO true (gS (bP toks k).word)≠[]:=ht;simp only [ne_eq,Classical.not_not] at hl;obtain⟨hm1,hm2⟩:=hm
    rcases hm2 with hw | hw | hw
    all_goals
     rw [hw] at hl;simp only [hw] at*;subst hl;refine⟨?_,rfl,?_⟩
     ·simp [VbOk,Phr.it,verbS,ht',h17]
     ·simp [Phr.it,verbS,ht',h17];omega
 ·rename_i hm;rw [if_neg hm]
  by_cases h0:gF (bP toks k).word two=0
  ·simp only [h0,if_true,bBh] at h;cases h
  ·have ht:=bLw (two:=two) (w:=(bP toks k).word) rfl h0
   cases two with
   | false=>
    refine⟨?_,rfl,?_⟩
    ·simp [VbOk,Phr.it,verbS,ht]
    ·simp [Phr.it,verbS];omega
   | true=>
    refine⟨?_,rfl,?_⟩
    ·simp [VbOk,Phr.it,verbS,ht]
    ·simp [Phr.it,verbS];omega
structure bGc (t:TokV):Prop where
 num:t.kind=2→t.word=[]
 word:t.kind=1→t.n=0
 rng:Rng t.n
def RngI (l:List dJ):Prop:= ∀x∈l,∀n∈x.nums,Rng n
theorem RngI.append{a b:List dJ}(h:RngI a)(k:RngI b):RngI (a++b):=fun x hx=>(List.mem_append.1 hx).elim (h x) (k x)
def uT (l:List dJ)(m:Nat):Prop:=(∃p,fT l []=some [p]∧p.tokens≤m∧p.nest≤32)∧RngI l
def RngS (st:Stk):Prop:= ∀x,some x∈st→x.nums=[]
theorem fin_rng: ∀{st:Stk},RngS st→RngI (jG st).1∧RngS (jG st).2
 | [],_=>⟨fun x hx=>by simp [jG] at hx,fun x hx=>by simp [jG] at hx⟩
 | none::r,h=>⟨fun x hx=>by simp [jG] at hx,h⟩
 | some y::r,h=>by
  obtain⟨a,b⟩:=fin_rng (st:=r) fun x hx=>h x (List.mem_cons_of_mem _ hx);refine⟨fun x hx=>?_,b⟩;rw [jG] at hx
  rcases List.mem_cons.1 hx with rfl | hx
  ·rw [h x (List.mem_cons_self ..)];simp
  ·exact a x hx
theorem vW(p:fS):p.tokens≤(leftS p).tokens∧(leftS p).tokens≤p.tokens+2∧p.nest≤(leftS p).nest∧(leftS p).nest≤p.nest+1:=by
 unfold leftS;split<;>simp
theorem pend_none{P:List fS}{c:Nat}(h:bAq [] P c):P=[]∧c=0:=by
 cases h;exact⟨rfl,rfl⟩
theorem pend_brk{st:Stk}{P:List fS}{c:Nat}(h:bAq (none::st) P c): ∃d,c=d+1∧bAq st P d:=by
 cases h with
 | brk h=>exact⟨_,rfl,h⟩
theorem nums_mem{toks:List TokV}(ht: ∀t∈toks,bGc t){k:Nat}{n:Int}(h:n∈fY toks k):Rng n:=by
 unfold fY at h;obtain⟨t,h1,rfl⟩:=List.mem_map.1 h;exact(ht t (List.mem_of_mem_drop (List.takeWhile_sublist _ |>.subset h1))).rng
section
variable {toks : List TokV} {e : Int} {l : List dJ} {flt : Flt} {k0 : Nat}
structure StB (toks:List TokV) (k0 k:Nat) (out:List dJ) (st:Stk) (o:Nat) (p:fS) (P:List fS) (c:Nat):Prop where
 steps:fT out []=some (p::P)
 pend:bAq st P c
 cost:c+(leftS p).tokens+k0≤k
 nest:iM st+(leftS p).nest≤32
 opens:iM st=o
 rng:RngI out
 rngS:RngS st
 le:k≤toks.length
structure StA (toks:List TokV) (k0 k:Nat) (out:List dJ) (st:Stk) (o:Nat) (P:List fS) (c:Nat):Prop where
 steps:fT out []=some P
 pend:bAq st P c
 cost:c+k0≤k
 opens:iM st=o
 rng:RngI out
 rngS:RngS st
 le:k≤toks.length
theorem bDd(toks:List TokV)(k:Nat)(e:Int)(b:Bool):(bQ toks k e b).it.nums=[]:=rfl
theorem StB.verb{k:Nat}{out:List dJ}{st:Stk}{o:Nat}{p:fS}{P:List fS}{c:Nat}(h:StB toks k0 k out st o p P c)(hok:isOk (bQ toks k e true).flt=true)(hk:k<toks.length):
  StA toks k0 (bQ toks k e true).next out (some (bQ toks k e true).it::st) o (p::P) (c+(verbS (bQ toks k e true).it).2+(leftS p).tokens):=by
 obtain⟨v1,v2,v3⟩:=bLr hok;refine⟨h.steps,.two v1 v2 (by have:=h.nest;omega) h.pend,by have:=h.cost;omega,h.opens,h.rng,fun x hx=>?_,wV hk⟩
 rcases List.mem_cons.1 hx with e1 | hx
 ·cases e1;exact bDd ..
 ·exact h.rngS x hx
theorem StA.verb{k:Nat}{out:List dJ}{st:Stk}{o:Nat}{P:List fS}{c:Nat}(h:StA toks k0 k out st o P c)(hok:isOk (bQ toks k e false).flt=true)(hk:k<toks.length):
  StA toks k0 (bQ toks k e false).next out (some (bQ toks k e false).it::st) o P (c+(verbS (bQ toks k e false).it).2):=by
 obtain⟨v1,v2,v3⟩:=bLr hok;refine⟨h.steps,.one v1 v2 h.pend,by have:=h.cost;omega,h.opens,h.rng,fun x hx=>?_,wV hk⟩
 rcases List.mem_cons.1 hx with e1 | hx
 ·cases e1;exact bDd ..
 ·exact h.rngS x hx
theorem StA.operand{k m:Nat}{out:List dJ}{st:Stk}{o:Nat}{P:List fS}{c:Nat}{x:dJ}{p:fS}(h:StA toks k0 k out st o P c)(hx:iH P x=some (p::P))(hp:p.plain=true)(hn:p.nest=0)(ht:p.tokens≤m)(ho:o≤32)(hr: ∀n∈x.nums,Rng n)(hl:k+m≤toks.length):
  StB toks k0 (k+m) (out++[x]) st o p P c:=by
 have e1:leftS p=p:=by unfold leftS;rw [if_pos hp]
 exact⟨steps_snoc h.steps hx,h.pend,by rw [e1];have:=h.cost;omega,by rw [e1,hn,h.opens];exact ho,h.opens,h.rng.append fun y hy=>by rw [List.mem_singleton.1 hy];exact hr,h.rngS,hl⟩
theorem StB.close{k:Nat}{out:List dJ}{st:Stk}{o:Nat}{p:fS}{P:List fS}{c:Nat}(h:StB toks k0 k out st (o+1) p P c)(hk:k<toks.length):
  ∃p' P' c',StB toks k0 (k+1) (out++(jG st).1) (jG st).2.tail o p' P' c':=by
 have hn:=h.nest;have hc:=h.cost;have ho:=h.opens;obtain⟨l1,l2,l3,l4⟩:=vW p;obtain⟨p',P',c',h1,h2,h3,h4⟩:=fin_pend h.pend (p:=p) (by omega)
 rcases wG st with ⟨_,h0⟩ | ⟨r,e1,e2⟩
 ·omega
 ·rw [e1] at h2;obtain⟨d,rfl,h5⟩:=pend_brk h2;obtain⟨m1,m2,m3,m4⟩:=vW p';obtain⟨r1,r2⟩:=fin_rng h.rngS;refine⟨p',P',d,by rw [qL,h.steps];exact h1,by rw [e1];exact h5,by omega,by rw [e1];simp only [List.tail_cons];omega,by rw [e1];simp only [List.tail_cons];omega,h.rng.append r1,?_,by omega⟩;intro x hx;rw [e1] at r2 hx;exact r2 x (List.mem_cons_of_mem _ hx)
theorem StB.done{k:Nat}{out:List dJ}{st:Stk}{p:fS}{P:List fS}{c:Nat}(h:StB toks k0 k out st 0 p P c):uT (out++(jG st).1) (toks.length-k0):=by
 have hn:=h.nest;have hc:=h.cost;have ho:=h.opens;have hle:=h.le;obtain⟨l1,l2,l3,l4⟩:=vW p;obtain⟨p',P',c',h1,h2,h3,h4⟩:=fin_pend h.pend (p:=p) (by omega)
 rcases wG st with ⟨e1,_⟩ | ⟨r,_,e2⟩
 ·rw [e1] at h2;obtain⟨rfl,rfl⟩:=pend_none h2;exact⟨⟨p',by rw [qL,h.steps];exact h1,by omega,by omega⟩,h.rng.append (fin_rng h.rngS).1⟩
 ·omega
theorem bMj{rec:Nat→List dJ→Stk→Nat→qF}{kk:Nat}(hrec: ∀{k out st o P c},kk<k→StA toks k0 k out st o P c→o≤32→rec k out st o=(l,flt)→uT l (toks.length-k0))(hok:isOk flt=true):
  ∀(o:Nat) {k:Nat} {out:List dJ} {st:Stk} {p:fS} {P:List fS} {c:Nat},kk≤k→StB toks k0 k out st o p P c→mY toks e rec o k out st=(l,flt)→uT l (toks.length-k0):=by
 have rest: ∀(o:Nat) {k:Nat} {out:List dJ} {st:Stk} {p:fS} {P:List fS} {c:Nat},kk≤k→StB toks k0 k out st o p P c→sX toks e rec o k out st=(l,flt)→uT l (toks.length-k0):=by
  intro o k out st p P c hkk h hr;unfold sX at hr;split at hr
  ·split at hr
   ·cases hr;rw [fW (by decide)] at hok;cases hok
   ·rename_i h0;cases hr;obtain rfl:o=0:=by omega
    exact h.done
  ·rename_i h4;split at hr
   ·cases hr;rw [fW (by decide)] at hok;cases hok
   ·split at hr
    ·rename_i hp;have:=dP toks k e true;exact hrec (by omega) (h.verb hp (iT h4)) (by have:=h.nest;have:=h.opens;omega) hr
    ·rename_i hp;cases hr;exact absurd hok hp
 intro o
 induction o with
 | zero=>exact fun hkk h hr=>rest 0 hkk h hr
 | succ o ih=>
  intro k out st p P c hkk h hr;rw [mY] at hr;split at hr
  ·rename_i hc;obtain⟨p',P',c',h'⟩:=h.close (iT (by rw [hc.1];decide));exact ih (by omega) h' hr
  ·exact rest _ hkk h hr
theorem go_ok(ht: ∀t∈toks,bGc t)(h256:toks.length≤256)(hok:isOk flt=true): ∀(f:Nat) {k:Nat} {out:List dJ} {st:Stk} {o:Nat} {P:List fS} {c:Nat},toks.length+1≤f+k→StA toks k0 k out st o P c→o≤32→jF toks e f k out st o=(l,flt)→uT l (toks.length-k0)
 | 0,k,out,st,o,P,c,hf,h,_,_=>by have:=h.le;omega
 | f+1,k,out,st,o,P,c,hf,h,ho,hg=>by
  have hrec: ∀(k':Nat),k<k'→ ∀{out st o P c},StA toks k0 k' out st o P c→o≤32→jF toks e f k' out st o=(l,flt)→uT l (toks.length-k0):=fun k' hk'=>go_ok ht h256 hok f (by omega);rw [jF] at hg;split at hg
  ·rename_i hv;split at hg
   ·rename_i hp;have:=dP toks k e false;exact hrec _ (by omega) (h.verb hp (iT hv.2.1)) ho hg
   ·rename_i hp;cases hg;exact absurd hok hp
  ·split at hg
   ·rename_i hb;split at hg
    ·cases hg;rw [fW (by decide)] at hok;cases hok
    ·rename_i h32;have hk:=iT (toks:=toks) (k:=k) (by rw [hb.1];decide);refine hrec (k+1) (by omega) (P:=P) (c:=c+1) ⟨h.steps,.brk h.pend,by have:=h.cost;omega,by rw [iM,h.opens],h.rng,fun x hx=>h.rngS x (by simpa using hx),hk⟩ (by omega) hg
   ·split at hg
    ·rename_i h2;have hn:=lX h2;have hl:=nums_le toks k;have hk:=iT (toks:=toks) (k:=k) (by rw [h2];decide)
     have hst:iH P (rX toks k)=some (⟨(fY toks k).map fZ,0,(fY toks k).length,true⟩::P):=by
      have hne:fY toks k≠[]:=by rw [hn];simp
      have h3: ¬256<(fY toks k).length:=by omega
      simp [iH,rX,operandS,hne,h3]
     have hB:=h.operand (m:=(fY toks k).length) hst rfl rfl (Nat.le_refl _) ho (fun n hn=>nums_mem ht hn) (by omega);exact bMj (kk:=k) (fun hk'=>hrec _ hk') hok o (by omega) hB hg
    ·split at hg
     ·rename_i hnm;have hk:=iT (toks:=toks) (k:=k) (by rw [hnm.1];decide);have hst:iH P (kZ toks k)=some (⟨[(bP toks k).word],0,1,true⟩::P):=by simp [iH,kZ,operandS,hnm.2]
      have hB:=h.operand (m:=1) hst rfl rfl (Nat.le_refl _) ho (fun n hn=>by simp [kZ] at hn) (by omega);exact bMj (kk:=k) (fun hk'=>hrec _ hk') hok o (by omega) hB hg
     ·split at hg
      ·cases hg;rw [fW (by decide)] at hok;cases hok
      ·cases hg;rw [fW (by decide)] at hok;cases hok
end
theorem bFn: ∀(f i:Nat) (s:Bs) (out:List Tok),(∀t∈out,bGc t)→ ∀t∈(lexGo f i s out).1,bGc t
 | 0,_,_,out,h=>h
 | _+1,_,[],out,h=>h
 | f+1,i,b::r,out,h=>by
  unfold lexGo;split
  ·exact bFn f _ _ _ h
  ·split
   ·exact bFn f _ _ _ h
   ·split
    ·exact fun t ht=>by simp at ht
    ·rename_i ht;refine bFn f _ _ _ fun t hm=>?_
     rcases List.mem_append.1 hm with hm | hm
     ·exact h t hm
     ·rw [List.mem_singleton.1 hm];have h1:=bCf ht;obtain⟨_,h2,h3⟩:=bMk ht;exact⟨h1.num,h1.word,h2,h3⟩
theorem tkOk(s:Bs): ∀t∈(lexP s).1,bGc t:=by
 unfold lexP;split
 ·exact fun t ht=>by simp at ht
 ·exact bFn _ _ _ _ fun t ht=>by simp at ht
theorem expr_ok{toks:List TokV}{e:Int}{k:Nat}(ht: ∀t∈toks,bGc t)(h256:toks.length≤256)(hk:k≤toks.length)(hok:isOk (hZ toks e k).2=true):uT (hZ toks e k).1 (toks.length-k):=
 go_ok (k0:=k) (e:=e) (l:=(hZ toks e k).1) (flt:=(hZ toks e k).2) ht h256 hok (toks.length+1) (k:=k) (o:=0) (P:=[]) (c:=0) (by omega) ⟨rfl,.nil,by omega,rfl,fun x hx=>by simp at hx,fun x hx=>by simp at hx,hk⟩ (by omega) rfl
def InOk (x:gG):Prop:=dS x.name=true∧x.sides.length≤4∧ ∀d∈x.sides,SideOk d∧Rng d.n
def LnOk (l:kL):Prop:=dS l.name=true∧uT l.items 254
def LastOk(l:kL):Prop:=l.name=[]∧uT l.items 255
theorem uT.mono{l:List dJ}{a b:Nat}(h:uT l a)(hab:a≤b):uT l b:=by
 obtain⟨⟨p,h1,h2,h3⟩,h4⟩:=h;exact⟨⟨p,h1,by omega,h3⟩,h4⟩
theorem uT.tok{l:List dJ}{a:Nat}(h:uT l a):tokS l≤a:=by
 obtain⟨⟨p,h1,h2,h3⟩,h4⟩:=h;unfold tokS;rw [h1];exact h2
theorem uT.expr{l:List dJ}{a:Nat}(h:uT l a): ∃t,gE l a=some t:=by
 obtain⟨⟨p,h1,h2,h3⟩,h4⟩:=h;have:=bAk h1;simp at this;refine⟨joinSp p.words,?_⟩;unfold gE;rw [if_neg (by omega),h1];simp only;rw [if_neg (by omega)]
def LinesOk(ls:List kL)(over:Bool):Prop:=(over=false∧ ∀l∈ls,LnOk l)∨(over=true∧ ∃L z,ls=L++[z]∧(∀l∈L,LnOk l)∧LastOk z)
structure PSt (p:Prog) (n:Nat) (over:Bool):Prop where
 ins: ∀x∈p.inputs,InOk x
 lns:LinesOk p.lines over
 num:p.inputs.length+p.lines.length≤n
 le:n≤64
theorem bJj: ∀(toks:List TokV) (acc:List qM),(∀t∈toks,bGc t)→acc.length≤4→isOk (lW toks acc).2=true→ ∃ds,(lW toks acc).1=acc++ds∧ds.length=toks.length∧(acc++ds).length≤4∧ ∀d∈ds,SideOk d∧Rng d.n
 | [],acc,_,ha,_=>⟨[],by simp [lW],rfl,by simpa using ha,by simp⟩
 | t::r,acc,ht,ha,h=>by
  rw [lW] at h⊢;split at h
  ·rw [fW (by decide)] at h;cases h
  ·rename_i hk;rw [if_neg hk];split at h
   ·rw [fW (by decide)] at h;cases h
   ·rename_i h4;rw [if_neg h4];obtain⟨ds,h1,h2,h3,h5⟩:=bJj r (acc++[⟨t.word,t.n⟩]) (fun x hx=>ht x (by simp [hx])) (by simp;omega) h;refine⟨⟨t.word,t.n⟩::ds,by rw [h1];simp,by simp [h2],by simpa using h3,fun d hd=>?_⟩
    rcases List.mem_cons.1 hd with rfl | hd
    ·have hto:=ht t (by simp);refine⟨⟨?_⟩,hto.rng⟩
     by_cases h2:t.kind=2
     ·exact .inl (hto.num h2)
     ·have: ¬(t.kind≠1∨dS t.word=false):=fun hh=>hk ⟨h2,hh⟩;simp only [not_or,ne_eq,Classical.not_not,Bool.not_eq_false] at this;exact .inr ⟨hto.word this.1,this.2⟩
    ·exact h5 d hd
theorem input_conv{own:List TokV}{e:Int}(h0:own≠[])(ht: ∀t∈own,bGc t)(hok:isOk (kK own e).2=true):InOk (kK own e).1∧(kK own e).1.sides.length+2=own.length:=by
 have hpos:0<own.length:=List.length_pos_iff.2 h0;unfold kK at hok⊢;split at hok
 ·rw [fW (by decide)] at hok;cases hok
 ·rename_i h1;rw [if_neg h1];split at hok
  ·rw [fW (by decide)] at hok;cases hok
  ·rename_i h2;rw [if_neg h2];simp only [not_or,ne_eq,Classical.not_not,Bool.not_eq_false] at h2;obtain⟨ds,s1,s2,s3,s4⟩:=bJj (own.drop 2) [] (fun t hm=>ht t (List.mem_of_mem_drop hm)) (by simp) hok;rw [List.nil_append] at s1 s3;refine⟨⟨h2.2,by rw [s1];exact s3,by rw [s1];exact s4⟩,?_⟩;rw [s1,s2,List.length_drop];omega
theorem into_conv{own:List TokV}{e:Int}{p:Prog}{n:Nat}{over:Bool}(h0:own≠[])(ht: ∀t∈own,bGc t)(h:PSt p n over)(hok:isOk (intoP own e p n over).2=true):PSt (intoP own e p n over).1 (n+1) (iG (intoP own e p n over).1)∧bAs (intoP own e p n over).1≤bAs p+own.length+1:=by
 have hpos:0<own.length:=List.length_pos_iff.2 h0;obtain⟨ins,lns⟩:=p;obtain⟨h1,h2,h3,h4⟩:=h;unfold intoP at hok⊢;split at hok
 ·rw [fW (by decide)] at hok;cases hok
 ·rename_i c1;rw [if_neg c1];split at hok
  ·rw [fW (by decide)] at hok;cases hok
  ·rename_i c2;rw [if_neg c2];split at hok
   ·rw [fW (by decide)] at hok;cases hok
   ·rename_i c3;rw [if_neg c3];simp only [not_or,Bool.not_eq_true,not_and,ne_eq,Classical.not_not] at c3;obtain⟨rfl,c3⟩:=c3
    have hL: ∀l∈lns,LnOk l:=by
     rcases h2 with ⟨_,h⟩ | ⟨h,_⟩
     ·exact h
     ·cases h
    split at hok
    ·rename_i c4;rw [if_pos c4];have hl:lns=[]:=c3 c4;subst hl;obtain⟨i1,i2⟩:=input_conv h0 ht hok;refine⟨⟨fun x hx=>?_,.inl ⟨rfl,fun l hl=>by simp at hl⟩,by simp at h3⊢;omega,by omega⟩,?_⟩
     ·rcases List.mem_append.1 hx with hx | hx
      ·exact h1 x hx
      ·rw [List.mem_singleton.1 hx];exact i1
     ·simp only [bAs,List.map_append,List.sum_append,List.map_cons,List.map_nil,List.sum_cons,List.sum_nil,costI];omega
    ·rename_i c4;rw [if_neg c4];split at hok
     ·rename_i c5;rw [if_pos c5];have hx:uT (hZ own e 1).1 (own.length-1):=expr_ok ht (by omega) hpos hok;have htk:=hx.tok;refine⟨⟨h1,.inr ⟨by rw [xC];rfl,lns,_,rfl,hL,rfl,hx.mono (by omega)⟩,by simp only [List.length_append,List.length_singleton] at h3⊢;omega,by omega⟩,?_⟩;simp only [bAs,List.map_append,List.sum_append,List.map_cons,List.map_nil,List.sum_cons,List.sum_nil,costL,rT,if_true];omega
     ·rename_i c5;rw [if_neg c5];split at hok
      ·rw [fW (by decide)] at hok;cases hok
      ·rename_i c6;rw [if_neg c6];simp only [not_or,ne_eq,Classical.not_not,Bool.not_eq_false] at c6;split at hok
       ·rw [fW (by decide)] at hok;cases hok
       ·rename_i c7;rw [if_neg c7];simp only [not_or,ne_eq,Classical.not_not] at c7;have hk:=iT (toks:=own) (k:=1) (by rw [c7.1];decide);have hx:uT (hZ own e 2).1 (own.length-2):=expr_ok ht (by omega) (by omega) hok;have htk:=hx.tok;have hne:=(name_ne c6.2).1
        have hov:iG ⟨ins,lns++[(rT own e (bP own 0).word 2).1]⟩=false:=by
         rw [xC]
         simpa [rT] using hne
        refine⟨⟨h1,.inl ⟨hov,fun l hl=>?_⟩,by simp only [List.length_append,List.length_singleton] at h3⊢;omega,by omega⟩,?_⟩
        ·rcases List.mem_append.1 hl with hl | hl
         ·exact hL l hl
         ·rw [List.mem_singleton.1 hl];exact⟨c6.2,hx.mono (by omega)⟩
        ·simp only [bAs,List.map_append,List.sum_append,List.map_cons,List.map_nil,List.sum_cons,List.sum_nil,costL,rT,hne,if_false];omega
theorem sK{len:Int}{tot:Nat}: ∀(f:Nat) {toks:List TokV} {p q:Prog} {n:Nat} {over:Bool} {flt:Flt},toks.length+1≤f→(∀t∈toks,bGc t)→PSt p n over→bAs p+toks.length≤tot+(if toks=[] then 1 else 0)→qJ len f toks p n over=(q,flt)→isOk flt=true→PSt q 64 true∧bAs q≤tot+1
 | 0,toks,_,_,_,_,_,hf,_,_,_,_,_=>by omega
 | f+1,toks,p,q,n,over,flt,hf,ht,hp,hc,h,hok=>by
  rw [qJ] at h
  by_cases h0:toks=[]
  ·rw [if_pos h0] at h;rw [if_pos h0] at hc;split at h
   ·rename_i ho;cases h;subst ho;have:toks.length=0:=by rw [h0];rfl
    exact⟨⟨hp.ins,hp.lns,by have:=hp.num;have:=hp.le;omega,by omega⟩,by omega⟩
   ·cases h;rw [fW (by decide)] at hok;cases hok
  ·rw [if_neg h0] at h;rw [if_neg h0] at hc;have hpos:0<toks.length:=List.length_pos_iff.2 h0;split at h
   ·refine sK f (by rw [List.length_drop];omega) (fun t hm=>ht t (List.mem_of_mem_drop hm)) hp ?_ h hok;rw [List.length_drop];split<;>omega
   ·rename_i hon;split at h
    ·rename_i hi;have hsub: ∀t∈ownP toks,bGc t:=fun t hm=>ht t (by rw [←bBf] at hm;exact List.mem_of_mem_take hm);obtain⟨a,b⟩:=into_conv hon hsub hp hi;have hle:=bJu toks;refine sK f (by rw [List.length_drop];omega) (fun t hm=>ht t (List.mem_of_mem_drop hm)) a ?_ h hok;rw [List.length_drop];split
     ·omega
     ·rename_i hd;have:(toks.drop ((ownP toks).length+1)).length≠0:=fun e=>hd (List.eq_nil_of_length_eq_zero e);rw [List.length_drop] at this;omega
    ·rename_i hi;cases h;exact absurd hok hi
theorem parse_conv{text:Bs}{p:Prog}{flt:Flt}(h:fG text=(p,flt))(hok:isOk flt=true):PSt p 64 true∧bAs p≤(lexP text).1.length+1:=by
 unfold fG at h;split at h
 ·refine sK _ (Nat.le_refl _) (tkOk text) ⟨fun x hx=>by simp at hx,.inl ⟨rfl,fun l hl=>by simp at hl⟩,by simp,by omega⟩ ?_ h hok;simp [bAs]
 ·rename_i hl;cases h;exact absurd hok hl
theorem yO: ∀(ds:List qM) (acc:Bs),(∀d∈ds,SideOk d)→ ∃t,lD ds acc=some t
 | [],acc,_=>⟨acc,rfl⟩
 | d::ds,acc,h=>by
  rw [lD];split
  ·exact yO ds _ fun x hx=>h x (by simp [hx])
  ·rename_i he;rw [if_pos ((h d (by simp)).ok.resolve_left he)];exact yO ds _ fun x hx=>h x (by simp [hx])
theorem bDw: ∀(xs:List gG) (o:Bs),(∀x∈xs,InOk x)→ ∃o',jX xs o=(o',true)
 | [],o,_=>⟨o,rfl⟩
 | x::xs,o,h=>by
  obtain⟨h1,h2,h3⟩:=h x (by simp);obtain⟨t,ht⟩:=yO x.sides x.name fun d hd=>(h3 d hd).1
  have hi:nX x=some t:=by
   unfold nX;rw [if_neg (by rw [h1];simp;omega),ht]
  rw [jX,hi];exact bDw xs _ fun y hy=>h y (by simp [hy])
theorem bJp{z:kL}(hz:LastOk z): ∀(L:List kL) (o:Bs),(∀l∈L,LnOk l)→ ∃o',fO (L++[z]) o=(o',true)
 | [],o,_=>by
  obtain⟨t,ht⟩:=hz.2.expr;refine⟨o++(([111,117,116,32]++t)++[10]),?_⟩;show fO [z] o=_;simp only [fO];rw [ht];simp only [hz.1,ne_eq,not_true_eq_false,if_false]
 | l::L,o,h=>by
  obtain⟨h1,h2⟩:=h l (by simp);obtain⟨t,ht⟩:=h2.expr;obtain⟨o',ho⟩:=bJp hz L (o++(((l.name++[58,32])++t)++[10])) fun y hy=>h y (by simp [hy]);refine⟨o',?_⟩
  obtain⟨m,M,hM⟩: ∃m M,L++[z]=m::M:=by
   cases L with
   | nil=>exact⟨z,[],rfl⟩
   | cons m M=>exact⟨m,M++[z],rfl⟩
  rw [List.cons_append];rw [hM] at ho⊢
  have:fO (l::m::M) o=match gE l.items 254 with
    | none=>(o,false)
    | some t=>if dS l.name=false then (o,false) else fO (m::M) (o++(((l.name++[58,32])++t)++[10])):=rfl
  rw [this,ht];simp only;rw [if_neg (by rw [h1];simp)];exact ho
theorem PSt.lines_ne{p:Prog}{n:Nat}(h:PSt p n true):p.lines≠[]:=by
 rcases h.lns with ⟨h,_⟩ | ⟨_,L,z,h,_⟩
 ·cases h
 ·rw [h];simp
theorem PSt.right{p:Prog}(h:PSt p 64 true):(dQ p).2=true:=by
 unfold dQ;rw [if_neg]
 ·obtain⟨o,ho⟩:=bDw p.inputs [] h.ins;rw [ho]
  rcases h.lns with ⟨h,_⟩ | ⟨_,L,z,hl,hL,hz⟩
  ·cases h
  ·obtain⟨o',ho'⟩:=bJp hz L o hL;simp only [hl,ho']
 ·have:=h.num;rintro(h' | h')
  ·exact h.lines_ne h'
  ·omega
theorem PSt.rng{p:Prog}{n:Nat}(h:PSt p n true):RngP p:=by
 refine⟨fun x hx d hd=>((h.ins x hx).2.2 d hd).2,fun l hl=>?_⟩
 rcases h.lns with ⟨h,_⟩ | ⟨_,L,z,e,hL,hz⟩
 ·cases h
 ·rw [e] at hl
  rcases List.mem_append.1 hl with hl | hl
  ·exact(hL l hl).2.2
  ·rw [List.mem_singleton.1 hl];exact hz.2.2
theorem steps_un: ∀(l:List dJ) (st:List fS),fT (gO l) st=fT l st
 | [],_=>rfl
 | x::l,st=>by
  show(match iH st x with
   | none=>none
   | some st'=>fT (gO l) st')=_
  rw [fT]
  cases iH st x with
  | none=>rfl
  | some s=>exact steps_un l s
theorem expr_un(l:List dJ)(m:Nat):gE (gO l) m=gE l m:=by
 unfold gE;rw [steps_un];simp [gO]
theorem bMy: ∀(xs:List gG) (o:Bs),jX (xs.map gG.un) o=jX xs o
 | [],_=>rfl
 | x::xs,o=>by
  rw [List.map_cons,jX,jX]
  show(match nX x with
   | none=>(o,false)
   | some t=>jX (xs.map gG.un) (o++(([105,110,32]++t)++[10])))=_
  cases nX x with
  | none=>rfl
  | some t=>exact bMy xs _
theorem lines_un: ∀(ls:List kL) (o:Bs),fO (ls.map kL.un) o=fO ls o
 | [],_=>rfl
 | [l],o=>by
  show fO [l.un] o=_;simp only [fO]
  show(match gE (gO l.items) 255 with
   | none=>(o,false)
   | some t=>_)=_
  rw [expr_un];rfl
 | l::m::ls,o=>by
  show(match gE (gO l.items) 254 with
    | none=>(o,false)
    | some t=>if dS l.name=false then (o,false) else fO ((m::ls).map kL.un) (o++(((l.name++[58,32])++t)++[10])))=match gE l.items 254 with
    | none=>(o,false)
    | some t=>if dS l.name=false then (o,false) else fO (m::ls) (o++(((l.name++[58,32])++t)++[10]))
  rw [expr_un]
  cases gE l.items 254 with
  | none=>rfl
  | some t=>
   simp only;split
   ·rfl
   ·exact lines_un (m::ls) _
theorem yC(p:Prog):dQ p.un=dQ p:=by
 unfold dQ Prog.un;simp only [List.map_eq_nil_iff,List.length_map,bMy,lines_un]
theorem bAn{f:Flt}:isOk f=true↔f=(0,0):=by
 constructor
 ·intro h;simp only [isOk,nQ,Bool.and_eq_true,beq_iff_eq] at h;exact Prod.ext h.1 h.2
 ·rintro rfl;rfl
theorem qT{text:Bs}(h:(fG text).2=(0,0)):(dQ (fG text).1).2=true∧RngP (fG text).1:=by
 have:=parse_conv (text:=text) (p:=(fG text).1) (flt:=(fG text).2) rfl (bAn.2 h);exact⟨this.1.right,this.1.rng⟩
end Go.Proofs.YtbgdphbebhjpiaaGreatDoor
