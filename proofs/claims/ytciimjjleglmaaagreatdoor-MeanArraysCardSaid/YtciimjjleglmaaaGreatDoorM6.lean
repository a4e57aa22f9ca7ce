/- Texts of one proof, one behind the other: BackE, BackC, BackD, BackR, BackN. -/
import Derived.Test.YtciimjjleglmaaaGreatDoorM5
namespace Go.Proofs.YtciimjjleglmaaaGreatDoor
open Go.RowKit
def Sep (c:UInt8):Prop:=c=32∨c=41∨c=10
theorem Sep.word{c:UInt8}(h:Sep c):mL c=false:=by rcases h with rfl | rfl | rfl<;>decide
def NoNl (T:List Tk):Prop:= ∀t∈T,t.kind≠4
theorem NoNl.append{A B:List Tk}(h:NoNl A)(k:NoNl B):NoNl (A++B):=fun t ht=>(List.mem_append.1 ht).elim (h t) (k t)
theorem NoNl.one{t:Tk}(h:t.kind≠4):NoNl [t]:=fun u hu=>by rw [List.mem_singleton.1 hu];exact h
def Rng (n:Int):Prop:= -9223372036854775808≤n∧n≤9223372036854775807
end Go.Proofs.YtciimjjleglmaaaGreatDoor
namespace Go.Proofs.YtciimjjleglmaaaGreatDoor
open Go.RowKit
def rF.un (l:rF):rF:=⟨l.name,0,uS l.items⟩
def gF.un (x:gF):gF:=⟨x.name,0,x.sides⟩
def iK.un (p:iK):iK:=⟨p.inputs.map gF.un,p.lines.map rF.un⟩
structure SideOk (d:pK):Prop where
  ok:d.name=[]∨d.n=0∧fC d.name=true
structure RngP (p:iK):Prop where
  ins: ∀x∈p.inputs,∀d∈x.sides,Rng d.n
  lns: ∀l∈p.lines,∀x∈l.items,∀n∈x.nums,Rng n
end Go.Proofs.YtciimjjleglmaaaGreatDoor
namespace Go.Proofs.YtciimjjleglmaaaGreatDoor
open Go.RowKit
def pM:Stk→Nat
  | []=>0
  | none::r=>pM r+1
  | some _::r=>pM r
def VbOk (it:fB):Prop:= ¬(it.how<3∨7<it.how∨it.nums≠[]∨it.name≠[]∨(verbS it).1=[])
inductive bDl:Stk→List gE→Nat→Prop
  | nil:bDl [] [] 0
  | brk {st P c}:bDl st P c→bDl (none::st) P (c+1)
  | one {it st P c}:VbOk it→uJ it.how=false→bDl st P c→bDl (some it::st) P (c+(verbS it).2)
  | two {it st q P c}:VbOk it→uJ it.how=true→(leftS q).nest+pM st≤32→bDl st P c→bDl (some it::st) (q::P) (c+(verbS it).2+(leftS q).tokens)
theorem sS: ∀(a b:List fB) (st:List gE),gD (a++b) st=(gD a st).bind (gD b)
  | [],b,st=>rfl
  | x::a,b,st=>by
    rw [List.cons_append,gD,gD]
    cases iV st x with
    | none=>rfl
    | some s=>exact sS a b s
theorem steps_snoc{a:List fB}{x:fB}{st P P':List gE}(h:gD a st=some P)(hx:iV P x=some P'):gD (a++[x]) st=some P':=by
  rw [sS,h];show gD [x] P=_;rw [gD,hx];rfl
theorem bJf{it:fB}(h:VbOk it)(st:List gE):iV st it=oS it st:=by
  have h3: ¬(it.how=1∨it.how=2):=fun e=>h (.inl (by omega));unfold iV;rw [if_neg h3,if_neg h]
theorem fin_pend{st:Stk}{P:List gE}{c:Nat}(h:bDl st P c): ∀{p:gE},p.nest+pM st≤32→ ∃p' P' c',gD (nP st).1 (p::P)=some (p'::P')∧bDl (nP st).2 P' c'∧p'.tokens+c'=p.tokens+c∧p'.nest+pM st≤32:=by
  induction h with
  | nil=>exact fun{p} hp=>⟨p,[],0,rfl,.nil,rfl,hp⟩
  | brk h _=>exact fun{p} hp=>⟨p,_,_,rfl,.brk h,rfl,hp⟩
  | one hv ht h ih=>
    rename_i it st P c;intro p hp;obtain⟨p',P',c',h1,h2,h3,h4⟩:=ih (p:=⟨(verbS it).1::p.words,p.nest,p.tokens+(verbS it).2,false⟩) hp;refine⟨p',P',c',?_,h2,by rw [h3];simp only;omega,h4⟩;rw [nP];simp only [gD];rw [bJf hv];unfold oS;rw [ht];exact h1
  | two hv ht hn h ih=>
    rename_i it st q P c;intro p hp
    obtain⟨p',P',c',h1,h2,h3,h4⟩:=ih (p:=⟨(leftS q).words++(verbS it).1::p.words,max p.nest (leftS q).nest,p.tokens+(verbS it).2+(leftS q).tokens,false⟩) (by
      have:p.nest+pM st≤32:=hp;simp only
      omega)
    refine⟨p',P',c',?_,h2,by rw [h3];simp only;omega,h4⟩;rw [nP];simp only [gD];rw [bJf hv];unfold oS;rw [ht];exact h1
theorem fin_stop: ∀st:Stk,((nP st).2=[]∧pM st=0)∨ ∃r,(nP st).2=none::r∧pM st=pM r+1
  | []=> .inl ⟨rfl,rfl⟩
  | none::r=> .inr ⟨r,rfl,rfl⟩
  | some _::r=>fin_stop r
def RngI (l:List fB):Prop:= ∀x∈l,∀n∈x.nums,Rng n
theorem RngI.append{a b:List fB}(h:RngI a)(k:RngI b):RngI (a++b):=fun x hx=>(List.mem_append.1 hx).elim (h x) (k x)
def ExOk (l:List fB)(m:Nat):Prop:=(∃p,gD l []=some [p]∧p.tokens≤m∧p.nest≤32)∧RngI l
def RngS (st:Stk):Prop:= ∀x,some x∈st→x.nums=[]
theorem fin_rng: ∀{st:Stk},RngS st→RngI (nP st).1∧RngS (nP st).2
  | [],_=>⟨fun x hx=>by simp [nP] at hx,fun x hx=>by simp [nP] at hx⟩
  | none::r,h=>⟨fun x hx=>by simp [nP] at hx,h⟩
  | some y::r,h=>by
    obtain⟨a,b⟩:=fin_rng (st:=r) fun x hx=>h x (List.mem_cons_of_mem _ hx);refine⟨fun x hx=>?_,b⟩;rw [nP] at hx
    rcases List.mem_cons.1 hx with rfl | hx
    · rw [h x (List.mem_cons_self ..)];simp
    · exact a x hx
theorem left_tokens(p:gE):p.tokens≤(leftS p).tokens∧(leftS p).tokens≤p.tokens+2∧p.nest≤(leftS p).nest∧(leftS p).nest≤p.nest+1:=by
  unfold leftS;split<;>simp
theorem pend_none{P:List gE}{c:Nat}(h:bDl [] P c):P=[]∧c=0:=by
  cases h;exact⟨rfl,rfl⟩
section
variable {toks : List TokV} {e : Int} {l : List fB} {flt : Flt} {k0 : Nat}
structure StB (toks:List TokV) (k0 k:Nat) (out:List fB) (st:Stk) (o:Nat) (p:gE) (P:List gE) (c:Nat):Prop where
  steps:gD out []=some (p::P)
  pend:bDl st P c
  cost:c+(leftS p).tokens+k0≤k
  nest:pM st+(leftS p).nest≤32
  opens:pM st=o
  rng:RngI out
  rngS:RngS st
  le:k≤toks.length
structure StA (toks:List TokV) (k0 k:Nat) (out:List fB) (st:Stk) (o:Nat) (P:List gE) (c:Nat):Prop where
  steps:gD out []=some P
  pend:bDl st P c
  cost:c+k0≤k
  opens:pM st=o
  rng:RngI out
  rngS:RngS st
  le:k≤toks.length
theorem StA.operand{k m:Nat}{out:List fB}{st:Stk}{o:Nat}{P:List gE}{c:Nat}{x:fB}{p:gE}(h:StA toks k0 k out st o P c)(hx:iV P x=some (p::P))(hp:p.plain=true)(hn:p.nest=0)(ht:p.tokens≤m)(ho:o≤32)(hr: ∀n∈x.nums,Rng n)(hl:k+m≤toks.length):
    StB toks k0 (k+m) (out++[x]) st o p P c:=by
  have e1:leftS p=p:=by unfold leftS;rw [if_pos hp]
  exact⟨steps_snoc h.steps hx,h.pend,by rw [e1];have:=h.cost;omega,by rw [e1,hn,h.opens];exact ho,h.opens,h.rng.append fun y hy=>by rw [List.mem_singleton.1 hy];exact hr,h.rngS,hl⟩
theorem StB.done{k:Nat}{out:List fB}{st:Stk}{p:gE}{P:List gE}{c:Nat}(h:StB toks k0 k out st 0 p P c):ExOk (out++(nP st).1) (toks.length-k0):=by
  have hn:=h.nest;have hc:=h.cost;have ho:=h.opens;have hle:=h.le;obtain⟨l1,l2,l3,l4⟩:=left_tokens p;obtain⟨p',P',c',h1,h2,h3,h4⟩:=fin_pend h.pend (p:=p) (by omega)
  rcases fin_stop st with ⟨e1,_⟩ | ⟨r,_,e2⟩
  · rw [e1] at h2;obtain⟨rfl,rfl⟩:=pend_none h2;exact⟨⟨p',by rw [sS,h.steps];exact h1,by omega,by omega⟩,h.rng.append (fin_rng h.rngS).1⟩
  · omega
end
end Go.Proofs.YtciimjjleglmaaaGreatDoor
namespace Go.Proofs.YtciimjjleglmaaaGreatDoor
open Go.RowKit
def InOk (x:gF):Prop:=fC x.name=true∧x.sides.length≤4∧ ∀d∈x.sides,SideOk d∧Rng d.n
def LnOk (l:rF):Prop:=fC l.name=true∧ExOk l.items 254
def LastOk(l:rF):Prop:=l.name=[]∧ExOk l.items 255
theorem ExOk.mono{l:List fB}{a b:Nat}(h:ExOk l a)(hab:a≤b):ExOk l b:=by
  obtain⟨⟨p,h1,h2,h3⟩,h4⟩:=h;exact⟨⟨p,h1,by omega,h3⟩,h4⟩
theorem ExOk.expr{l:List fB}{a:Nat}(h:ExOk l a): ∃t,hU l a=some t:=by
  obtain⟨⟨p,h1,h2,h3⟩,h4⟩:=h;have:=zS h1;simp at this;refine⟨joinSp p.words,?_⟩;unfold hU;rw [if_neg (by omega),h1];simp only;rw [if_neg (by omega)]
def LinesOk(ls:List rF)(over:Bool):Prop:=(over=false∧ ∀l∈ls,LnOk l)∨(over=true∧ ∃L z,ls=L++[z]∧(∀l∈L,LnOk l)∧LastOk z)
structure PSt (p:iK) (n:Nat) (over:Bool):Prop where
  ins: ∀x∈p.inputs,InOk x
  lns:LinesOk p.lines over
  num:p.inputs.length+p.lines.length≤n
  le:n≤64
theorem xW: ∀(ds:List pK) (acc:Bs),(∀d∈ds,SideOk d)→ ∃t,kV ds acc=some t
  | [],acc,_=>⟨acc,rfl⟩
  | d::ds,acc,h=>by
    rw [kV];split
    · exact xW ds _ fun x hx=>h x (by simp [hx])
    · rename_i he;rw [if_pos ((h d (by simp)).ok.resolve_left he)];exact xW ds _ fun x hx=>h x (by simp [hx])
theorem bCc: ∀(xs:List gF) (o:Bs),(∀x∈xs,InOk x)→ ∃o',nX xs o=(o',true)
  | [],o,_=>⟨o,rfl⟩
  | x::xs,o,h=>by
    obtain⟨h1,h2,h3⟩:=h x (by simp);obtain⟨t,ht⟩:=xW x.sides x.name fun d hd=>(h3 d hd).1
    have hi:pP x=some t:=by
      unfold pP;rw [if_neg (by rw [h1];simp;omega),ht]
    rw [nX,hi];exact bCc xs _ fun y hy=>h y (by simp [hy])
theorem bHb{z:rF}(hz:LastOk z): ∀(L:List rF) (o:Bs),(∀l∈L,LnOk l)→ ∃o',fX (L++[z]) o=(o',true)
  | [],o,_=>by
    obtain⟨t,ht⟩:=hz.2.expr;refine⟨o++(([111,117,116,32]++t)++[10]),?_⟩;show fX [z] o=_;simp only [fX];rw [ht];simp only [hz.1,ne_eq,not_true_eq_false,if_false]
  | l::L,o,h=>by
    obtain⟨h1,h2⟩:=h l (by simp);obtain⟨t,ht⟩:=h2.expr;obtain⟨o',ho⟩:=bHb hz L (o++(((l.name++[58,32])++t)++[10])) fun y hy=>h y (by simp [hy]);refine⟨o',?_⟩
    obtain⟨m,M,hM⟩: ∃m M,L++[z]=m::M:=by
      cases L with
      | nil=>exact⟨z,[],rfl⟩
      | cons m M=>exact⟨m,M++[z],rfl⟩
    rw [List.cons_append];rw [hM] at ho⊢
    have:fX (l::m::M) o=match hU l.items 254 with
        | none=>(o,false)
        | some t=>if fC l.name=false then (o,false) else fX (m::M) (o++(((l.name++[58,32])++t)++[10])):=rfl
    rw [this,ht];simp only;rw [if_neg (by rw [h1];simp)];exact ho
theorem PSt.lines_ne{p:iK}{n:Nat}(h:PSt p n true):p.lines≠[]:=by
  rcases h.lns with ⟨h,_⟩ | ⟨_,L,z,h,_⟩
  · cases h
  · rw [h];simp
theorem PSt.right{p:iK}(h:PSt p 64 true):(dX p).2=true:=by
  unfold dX;rw [if_neg]
  · obtain⟨o,ho⟩:=bCc p.inputs [] h.ins;rw [ho]
    rcases h.lns with ⟨h,_⟩ | ⟨_,L,z,hl,hL,hz⟩
    · cases h
    · obtain⟨o',ho'⟩:=bHb hz L o hL;simp only [hl,ho']
  · have:=h.num;rintro(h' | h')
    · exact h.lines_ne h'
    · omega
theorem PSt.rng{p:iK}{n:Nat}(h:PSt p n true):RngP p:=by
  refine⟨fun x hx d hd=>((h.ins x hx).2.2 d hd).2,fun l hl=>?_⟩
  rcases h.lns with ⟨h,_⟩ | ⟨_,L,z,e,hL,hz⟩
  · cases h
  · rw [e] at hl
    rcases List.mem_append.1 hl with hl | hl
    · exact(hL l hl).2.2
    · rw [List.mem_singleton.1 hl];exact hz.2.2
theorem yN{f:Flt}:oP f=true↔f=(0,0):=by
  constructor
  · intro h;simp only [oP,pH,Bool.and_eq_true,beq_iff_eq] at h;exact Prod.ext h.1 h.2
  · rintro rfl;rfl
end Go.Proofs.YtciimjjleglmaaaGreatDoor
namespace Go.Proofs.YtciimjjleglmaaaGreatDoor
open Go.RowKit
end Go.Proofs.YtciimjjleglmaaaGreatDoor
