/- Texts of one proof, one behind the other: BackE, BackC, BackD, BackR, BackN. -/
import Derived.Test.YtbgdphbebhjpiaaGreatDoorM5
namespace Go.Proofs.YtbgdphbebhjpiaaGreatDoor
open Go.RowKit
def Sep (c:UInt8):Prop:=c=32∨c=41∨c=10
theorem Sep.word{c:UInt8}(h:Sep c):lZ c=false:=by rcases h with rfl | rfl | rfl<;>decide
def NoNl (T:List Tk):Prop:= ∀t∈T,t.kind≠4
theorem NoNl.append{A B:List Tk}(h:NoNl A)(k:NoNl B):NoNl (A++B):=fun t ht=>(List.mem_append.1 ht).elim (h t) (k t)
theorem NoNl.one{t:Tk}(h:t.kind≠4):NoNl [t]:=fun u hu=>by rw [List.mem_singleton.1 hu];exact h
def Rng (n:Int):Prop:= -9223372036854775808≤n∧n≤9223372036854775807
end Go.Proofs.YtbgdphbebhjpiaaGreatDoor
namespace Go.Proofs.YtbgdphbebhjpiaaGreatDoor
open Go.RowKit
def rP.un (l:rP):rP:=⟨l.name,0,uT l.items⟩
def gE.un (x:gE):gE:=⟨x.name,0,x.sides⟩
def iF.un (p:iF):iF:=⟨p.inputs.map gE.un,p.lines.map rP.un⟩
structure SideOk (d:nI):Prop where
  ok:d.name=[]∨d.n=0∧fB d.name=true
structure RngP (p:iF):Prop where
  ins: ∀x∈p.inputs,∀d∈x.sides,Rng d.n
  lns: ∀l∈p.lines,∀x∈l.items,∀n∈x.nums,Rng n
end Go.Proofs.YtbgdphbebhjpiaaGreatDoor
namespace Go.Proofs.YtbgdphbebhjpiaaGreatDoor
open Go.RowKit
def pI:Stk→Nat
  | []=>0
  | none::r=>pI r+1
  | some _::r=>pI r
def VbOk (it:fC):Prop:= ¬(it.how<3∨7<it.how∨it.nums≠[]∨it.name≠[]∨(verbS it).1=[])
inductive bCr:Stk→List gF→Nat→Prop
  | nil:bCr [] [] 0
  | brk {st P c}:bCr st P c→bCr (none::st) P (c+1)
  | one {it st P c}:VbOk it→uZ it.how=false→bCr st P c→bCr (some it::st) P (c+(verbS it).2)
  | two {it st q P c}:VbOk it→uZ it.how=true→(leftS q).nest+pI st≤32→bCr st P c→bCr (some it::st) (q::P) (c+(verbS it).2+(leftS q).tokens)
theorem tN: ∀(a b:List fC) (st:List gF),gC (a++b) st=(gC a st).bind (gC b)
  | [],b,st=>rfl
  | x::a,b,st=>by
    rw [List.cons_append,gC,gC]
    cases iP st x with
    | none=>rfl
    | some s=>exact tN a b s
theorem steps_snoc{a:List fC}{x:fC}{st P P':List gF}(h:gC a st=some P)(hx:iP P x=some P'):gC (a++[x]) st=some P':=by
  rw [tN,h];show gC [x] P=_;rw [gC,hx];rfl
theorem bIt{it:fC}(h:VbOk it)(st:List gF):iP st it=oB it st:=by
  have h3: ¬(it.how=1∨it.how=2):=fun e=>h (.inl (by omega));unfold iP;rw [if_neg h3,if_neg h]
theorem fin_pend{st:Stk}{P:List gF}{c:Nat}(h:bCr st P c): ∀{p:gF},p.nest+pI st≤32→ ∃p' P' c',gC (nH st).1 (p::P)=some (p'::P')∧bCr (nH st).2 P' c'∧p'.tokens+c'=p.tokens+c∧p'.nest+pI st≤32:=by
  induction h with
  | nil=>exact fun{p} hp=>⟨p,[],0,rfl,.nil,rfl,hp⟩
  | brk h _=>exact fun{p} hp=>⟨p,_,_,rfl,.brk h,rfl,hp⟩
  | one hv ht h ih=>
    rename_i it st P c;intro p hp;obtain⟨p',P',c',h1,h2,h3,h4⟩:=ih (p:=⟨(verbS it).1::p.words,p.nest,p.tokens+(verbS it).2,false⟩) hp;refine⟨p',P',c',?_,h2,by rw [h3];simp only;omega,h4⟩;rw [nH];simp only [gC];rw [bIt hv];unfold oB;rw [ht];exact h1
  | two hv ht hn h ih=>
    rename_i it st q P c;intro p hp
    obtain⟨p',P',c',h1,h2,h3,h4⟩:=ih (p:=⟨(leftS q).words++(verbS it).1::p.words,max p.nest (leftS q).nest,p.tokens+(verbS it).2+(leftS q).tokens,false⟩) (by
      have:p.nest+pI st≤32:=hp;simp only
      omega)
    refine⟨p',P',c',?_,h2,by rw [h3];simp only;omega,h4⟩;rw [nH];simp only [gC];rw [bIt hv];unfold oB;rw [ht];exact h1
theorem fin_stop: ∀st:Stk,((nH st).2=[]∧pI st=0)∨ ∃r,(nH st).2=none::r∧pI st=pI r+1
  | []=> .inl ⟨rfl,rfl⟩
  | none::r=> .inr ⟨r,rfl,rfl⟩
  | some _::r=>fin_stop r
def RngI (l:List fC):Prop:= ∀x∈l,∀n∈x.nums,Rng n
theorem RngI.append{a b:List fC}(h:RngI a)(k:RngI b):RngI (a++b):=fun x hx=>(List.mem_append.1 hx).elim (h x) (k x)
def ExOk (l:List fC)(m:Nat):Prop:=(∃p,gC l []=some [p]∧p.tokens≤m∧p.nest≤32)∧RngI l
def RngS (st:Stk):Prop:= ∀x,some x∈st→x.nums=[]
theorem fin_rng: ∀{st:Stk},RngS st→RngI (nH st).1∧RngS (nH st).2
  | [],_=>⟨fun x hx=>by simp [nH] at hx,fun x hx=>by simp [nH] at hx⟩
  | none::r,h=>⟨fun x hx=>by simp [nH] at hx,h⟩
  | some y::r,h=>by
    obtain⟨a,b⟩:=fin_rng (st:=r) fun x hx=>h x (List.mem_cons_of_mem _ hx);refine⟨fun x hx=>?_,b⟩;rw [nH] at hx
    rcases List.mem_cons.1 hx with rfl | hx
    · rw [h x (List.mem_cons_self ..)];simp
    · exact a x hx
theorem left_tokens(p:gF):p.tokens≤(leftS p).tokens∧(leftS p).tokens≤p.tokens+2∧p.nest≤(leftS p).nest∧(leftS p).nest≤p.nest+1:=by
  unfold leftS;split<;>simp
theorem pend_none{P:List gF}{c:Nat}(h:bCr [] P c):P=[]∧c=0:=by
  cases h;exact⟨rfl,rfl⟩
section
variable {toks : List TokV} {e : Int} {l : List fC} {flt : Flt} {k0 : Nat}
structure StB (toks:List TokV) (k0 k:Nat) (out:List fC) (st:Stk) (o:Nat) (p:gF) (P:List gF) (c:Nat):Prop where
  steps:gC out []=some (p::P)
  pend:bCr st P c
  cost:c+(leftS p).tokens+k0≤k
  nest:pI st+(leftS p).nest≤32
  opens:pI st=o
  rng:RngI out
  rngS:RngS st
  le:k≤toks.length
structure StA (toks:List TokV) (k0 k:Nat) (out:List fC) (st:Stk) (o:Nat) (P:List gF) (c:Nat):Prop where
  steps:gC out []=some P
  pend:bCr st P c
  cost:c+k0≤k
  opens:pI st=o
  rng:RngI out
  rngS:RngS st
  le:k≤toks.length
theorem StA.operand{k m:Nat}{out:List fC}{st:Stk}{o:Nat}{P:List gF}{c:Nat}{x:fC}{p:gF}(h:StA toks k0 k out st o P c)(hx:iP P x=some (p::P))(hp:p.plain=true)(hn:p.nest=0)(ht:p.tokens≤m)(ho:o≤32)(hr: ∀n∈x.nums,Rng n)(hl:k+m≤toks.length):
    StB toks k0 (k+m) (out++[x]) st o p P c:=by
  have e1:leftS p=p:=by unfold leftS;rw [if_pos hp]
  exact⟨steps_snoc h.steps hx,h.pend,by rw [e1];have:=h.cost;omega,by rw [e1,hn,h.opens];exact ho,h.opens,h.rng.append fun y hy=>by rw [List.mem_singleton.1 hy];exact hr,h.rngS,hl⟩
theorem StB.done{k:Nat}{out:List fC}{st:Stk}{p:gF}{P:List gF}{c:Nat}(h:StB toks k0 k out st 0 p P c):ExOk (out++(nH st).1) (toks.length-k0):=by
  have hn:=h.nest;have hc:=h.cost;have ho:=h.opens;have hle:=h.le;obtain⟨l1,l2,l3,l4⟩:=left_tokens p;obtain⟨p',P',c',h1,h2,h3,h4⟩:=fin_pend h.pend (p:=p) (by omega)
  rcases fin_stop st with ⟨e1,_⟩ | ⟨r,_,e2⟩
  · rw [e1] at h2;obtain⟨rfl,rfl⟩:=pend_none h2;exact⟨⟨p',by rw [tN,h.steps];exact h1,by omega,by omega⟩,h.rng.append (fin_rng h.rngS).1⟩
  · omega
end
end Go.Proofs.YtbgdphbebhjpiaaGreatDoor
namespace Go.Proofs.YtbgdphbebhjpiaaGreatDoor
open Go.RowKit
def InOk (x:gE):Prop:=fB x.name=true∧x.sides.length≤4∧ ∀d∈x.sides,SideOk d∧Rng d.n
def LnOk (l:rP):Prop:=fB l.name=true∧ExOk l.items 254
def LastOk(l:rP):Prop:=l.name=[]∧ExOk l.items 255
theorem ExOk.mono{l:List fC}{a b:Nat}(h:ExOk l a)(hab:a≤b):ExOk l b:=by
  obtain⟨⟨p,h1,h2,h3⟩,h4⟩:=h;exact⟨⟨p,h1,by omega,h3⟩,h4⟩
theorem ExOk.expr{l:List fC}{a:Nat}(h:ExOk l a): ∃t,hO l a=some t:=by
  obtain⟨⟨p,h1,h2,h3⟩,h4⟩:=h;have:=zL h1;simp at this;refine⟨joinSp p.words,?_⟩;unfold hO;rw [if_neg (by omega),h1];simp only;rw [if_neg (by omega)]
def LinesOk(ls:List rP)(over:Bool):Prop:=(over=false∧ ∀l∈ls,LnOk l)∨(over=true∧ ∃L z,ls=L++[z]∧(∀l∈L,LnOk l)∧LastOk z)
structure PSt (p:iF) (n:Nat) (over:Bool):Prop where
  ins: ∀x∈p.inputs,InOk x
  lns:LinesOk p.lines over
  num:p.inputs.length+p.lines.length≤n
  le:n≤64
theorem xK: ∀(ds:List nI) (acc:Bs),(∀d∈ds,SideOk d)→ ∃t,kP ds acc=some t
  | [],acc,_=>⟨acc,rfl⟩
  | d::ds,acc,h=>by
    rw [kP];split
    · exact xK ds _ fun x hx=>h x (by simp [hx])
    · rename_i he;rw [if_pos ((h d (by simp)).ok.resolve_left he)];exact xK ds _ fun x hx=>h x (by simp [hx])
theorem bBu: ∀(xs:List gE) (o:Bs),(∀x∈xs,InOk x)→ ∃o',nV xs o=(o',true)
  | [],o,_=>⟨o,rfl⟩
  | x::xs,o,h=>by
    obtain⟨h1,h2,h3⟩:=h x (by simp);obtain⟨t,ht⟩:=xK x.sides x.name fun d hd=>(h3 d hd).1
    have hi:pK x=some t:=by
      unfold pK;rw [if_neg (by rw [h1];simp;omega),ht]
    rw [nV,hi];exact bBu xs _ fun y hy=>h y (by simp [hy])
theorem bEb{z:rP}(hz:LastOk z): ∀(L:List rP) (o:Bs),(∀l∈L,LnOk l)→ ∃o',fX (L++[z]) o=(o',true)
  | [],o,_=>by
    obtain⟨t,ht⟩:=hz.2.expr;refine⟨o++(([111,117,116,32]++t)++[10]),?_⟩;show fX [z] o=_;simp only [fX];rw [ht];simp only [hz.1,ne_eq,not_true_eq_false,if_false]
  | l::L,o,h=>by
    obtain⟨h1,h2⟩:=h l (by simp);obtain⟨t,ht⟩:=h2.expr;obtain⟨o',ho⟩:=bEb hz L (o++(((l.name++[58,32])++t)++[10])) fun y hy=>h y (by simp [hy]);refine⟨o',?_⟩
    obtain⟨m,M,hM⟩: ∃m M,L++[z]=m::M:=by
      cases L with
      | nil=>exact⟨z,[],rfl⟩
      | cons m M=>exact⟨m,M++[z],rfl⟩
    rw [List.cons_append];rw [hM] at ho⊢
    have:fX (l::m::M) o=match hO l.items 254 with
        | none=>(o,false)
        | some t=>if fB l.name=false then (o,false) else fX (m::M) (o++(((l.name++[58,32])++t)++[10])):=rfl
    rw [this,ht];simp only;rw [if_neg (by rw [h1];simp)];exact ho
theorem PSt.lines_ne{p:iF}{n:Nat}(h:PSt p n true):p.lines≠[]:=by
  rcases h.lns with ⟨h,_⟩ | ⟨_,L,z,h,_⟩
  · cases h
  · rw [h];simp
theorem PSt.right{p:iF}(h:PSt p 64 true):(dZ p).2=true:=by
  unfold dZ;rw [if_neg]
  · obtain⟨o,ho⟩:=bBu p.inputs [] h.ins;rw [ho]
    rcases h.lns with ⟨h,_⟩ | ⟨_,L,z,hl,hL,hz⟩
    · cases h
    · obtain⟨o',ho'⟩:=bEb hz L o hL;simp only [hl,ho']
  · have:=h.num;rintro(h' | h')
    · exact h.lines_ne h'
    · omega
theorem PSt.rng{p:iF}{n:Nat}(h:PSt p n true):RngP p:=by
  refine⟨fun x hx d hd=>((h.ins x hx).2.2 d hd).2,fun l hl=>?_⟩
  rcases h.lns with ⟨h,_⟩ | ⟨_,L,z,e,hL,hz⟩
  · cases h
  · rw [e] at hl
    rcases List.mem_append.1 hl with hl | hl
    · exact(hL l hl).2.2
    · rw [List.mem_singleton.1 hl];exact hz.2.2
theorem bGc{f:Flt}:oV f=true↔f=(0,0):=by
  constructor
  · intro h;simp only [oV,qS,Bool.and_eq_true,beq_iff_eq] at h;exact Prod.ext h.1 h.2
  · rintro rfl;rfl
end Go.Proofs.YtbgdphbebhjpiaaGreatDoor
namespace Go.Proofs.YtbgdphbebhjpiaaGreatDoor
open Go.RowKit
end Go.Proofs.YtbgdphbebhjpiaaGreatDoor
