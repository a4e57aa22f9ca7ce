/- Texts of one proof, one behind the other: Kit, Eng, Rule, Pure, Mem, Heap, Row, Mix, Typ, Lend, More, Two. -/
import Derived.WalkKit
import Derived.Lib.Bytealg
import Derived.WalkSpells
import Derived.WalkLawsBesides
import Derived.Handy
import Derived.Deep.QuietTactic
import Derived.Deep.Light
import Derived.BigQuiet
import Derived.Deep.Draws
import Derived.Lib.Hide
import Derived.Deep.RegionHeld3
import Derived.Deep.DeepFit
import Derived.Deep.DeepMust
import Derived.Laws.OwnMore
import Derived.Maps.AppendAt
import Derived.Laws.CopyRow
import Derived.LoopN
import Derived.StillTail
import Derived.Laws.Tables
import Derived.Great.BuildSlice
import Derived.Laws.MakeOwn
namespace Go.Proofs.YtnfiadlonjediaaGreatDoor
open Go.RowKit
theorem e8:True:=trivial
theorem f5{α:Type _}{l:List α}{i:Nat}{a:α}(h:l[i]?=some a):a∈l:=List.mem_of_getElem? h
theorem k7{p:Prop}(h:p:=by omega):p:=h
theorem k8{p:Prop}(h:p:=by kernel_rfl):p:=h
theorem k9{p:Prop}(h:p:=by first|omega|(simp only[List.length_set];omega)):p:=h
theorem l4{p:Prop}(h:p:=by first|exact .inl (by show x23.buf<0;omega)|exact .inr (.inl (by show((bufsL c.bufs.list).length:Int)<=x23.buf;rw[bY];omega))|exact .inr (.inr (.inl ⟨_,bT ‹_›,by show 0<=jD.input _;omega⟩))|exact .inr (.inr (.inr (show lD c.vars made (fW.c _)=false by assumption)))):p:=h
theorem l5{p:Prop}(h:p:=by first|exact .inl (show gK (polsL (jD.sides _).list) c.vars=false by assumption)|exact .inr (.inl (by show x4.input< -1;omega))|exact .inr (.inr (.inl (by show 64<=x4.input;omega)))|exact .inr (.inr (.inr ⟨by show 0<=x4.input;omega,by subst_vars;assumption⟩))):p:=h
theorem l7{p:Prop}(h:p:=by first|rfl|(simp only[List.length_set])):p:=h
theorem l8{p:Prop}(h:p:=by decide+kernel):p:=h
theorem l9{p:Prop}(h:p:=by simpa[Nat.blt_eq]using hn):p:=h
theorem m7{p:Prop}(h:p:=by decide):p:=h
theorem m8{p:Prop}(h:p:=by first|exact qB hinv14.2 (bT hu) (by show ¬u.input<0;omega) (gS hx) ‹_›|exact qA hinv14.2 (bT hu) (by show ¬u.input<0;omega) (gS hx) hz (by show ¬(_/\_/\((x.data.list.length:Nat):Int)<=_);omega)):p:=h
theorem m9{p:Prop}(h:p:=by simp):p:=h
theorem n3{p:Prop}(h:p:=by first|exact qB rfl (bT hu) (by show ¬u.input<0;omega) (gS hx) ‹_›|exact qA rfl (bT hu) (by show ¬u.input<0;omega) (gS hx) hz (by show ¬(_/\_/\((x.data.list.length:Nat):Int)<=_);omega)):p:=h
theorem n4{p:Prop}(h:p:=by simp only[List.length_set];omega):p:=h
theorem n5{p:Prop}(h:p:=by first|exact .inl (show gK (polsL (jD.sides _).list) c.vars=false by assumption)|exact .inr (.inl (by show x3.input< -1;omega))|exact .inr (.inr (.inl (by show 64<=x3.input;omega)))):p:=h
theorem n7{p:Prop}(h:p:=by first|exact bW.head|exact kT1|exact kT2|exact kT3|exact kT4|exact kT5|exact kT6|exact kT7|exact kT8|exact kT9|exact bDp|exact bDf|exact bDm|exact bDd):p:=h
theorem n9{p:Prop}(h:p:=by dsimp only;omega):p:=h
theorem o5{p:Prop}(h:p:=by show ¬u.input<0;omega):p:=h
theorem o6{p:Prop}(h:p:=by show ¬(_/\_/\((x.data.list.length:Nat):Int)<=_);omega):p:=h
theorem o7{p:Prop}(h:p:=by simp;omega):p:=h
theorem o8{p:Prop}(h:p:=by rw[show c.c.bufs.length=c.bufs.list.length from bY _];omega):p:=h
theorem o9{p:Prop}(h:p:=by rw[cC];omega):p:=h
theorem p6{p:Prop}(h:p:=by rw[show c.c.steps.length=c.steps.list.length from fG _];omega):p:=h
theorem p7{p:Prop}(h:p:=by rw[List.length_append,List.length_singleton,show((l.length+1:Nat):Int)-1=(l.length:Nat) by omega];exact zE rfl (by omega)):p:=h
theorem p8{p:Prop}(h:p:=by show((bufsL c.bufs.list).length:Int)<=x23.buf;rw[bY];omega):p:=h
theorem p9{p:Prop}(h:p:=by show((hasN i.op).1==[])=_;exact beq_eq_false_iff_ne.2 h0):p:=h
theorem q7{p:Prop}(h:p:=by simpa using hlt):p:=h
theorem q8{p:Prop}(h:p:=by first|exact .inl (by omega)|exact .inr (by omega)):p:=h
theorem q9{p:Prop}(h:p:=by simp only[List.length_singleton];omega):p:=h
theorem r7{p:Prop}(h:p:=by first|rfl|simp_all):p:=h
theorem r8{p:Prop}(h:p:=by show _=_;rw[HS.out,if_neg (by omega),show j+1+1-1=j+1 from rfl,HM.out];simp[ho]):p:=h
theorem r9{p:Prop}(h:p:=by rw[h]at hr;cases hr):p:=h
theorem s7{p:Prop}(h:p:=by simp[hx]):p:=h
theorem s8{p:Prop}(h:p:=by simp only[MkV.st,List.length_singleton];omega):p:=h
theorem t6{p:Prop}(h:p:=by rw[hB.1]at h0;cases h0):p:=h
theorem t7{p:Prop}(h:p:=by simp[maxLen];omega):p:=h
theorem t8{p:Prop}(h:p:=by rw[show((m+1:Nat):Int)-1=(m:Nat) by omega];exact zE rfl (by omega)):p:=h
theorem u0{p:Prop}(h:p:=by rw[hTw,decide_eq_false (show ¬x4.at_.list.length=0 by omega)];simp):p:=h
theorem u1{p:Prop}(h:p:=by first|exact .inl (by show 0<=jD.input _;omega)|exact .inr ‹_›):p:=h
theorem u2{p:Prop}(h:p:=by intro h;rcases h with h|h;exact absurd h (by simp);exact hq h):p:=h
theorem u3{p:Prop}(h:p:=by rw[hel];exact hu):p:=h
theorem u4{p:Prop}(h:p:=by simp[h]):p:=h
theorem u5{p:Prop}(h:p:=by rw[HS.out,decide_eq_false (by omega),Bool.false_and]):p:=h
theorem u6{p:Prop}(h:p:=by show pX c.vars dims=true;exact hd):p:=h
theorem u7{p:Prop}(h:p:=by show x4.input< -1;omega):p:=h
theorem u9{p:Prop}(h:p:=by show 64<=x4.input;omega):p:=h
theorem v6{p:Prop}(h:p:=by first|(subst_vars;assumption)|(exfalso;omega)):p:=h
theorem v7{p:Prop}(h:p:=by rw[hb];omega):p:=h
theorem v8{p:Prop}(h:p:=by rw[bY];omega):p:=h
theorem w6{p:Prop}(h:p:=by rw[rV];show _≠rnMost (bufsL c.bufs.list) 0;omega):p:=h
theorem w7{p:Prop}(h:p:=by simpa using hc16):p:=h
theorem w8{p:Prop}(h:p:=by show _/\_/\((x.data.list.length:Nat):Int)<=_;omega):p:=h
theorem w9{p:Prop}(h:p:=by first|exact .inl (by omega)|exact .inr ‹_›):p:=h
theorem z7{p:Prop}(h:p:=by simp only[MkV.ly,List.length_singleton];omega):p:=h
theorem z8{p:Prop}(h:p:=by show x23.buf<0;omega):p:=h
theorem aa0{p:Prop}(h:p:=by first|omega|(rw[List.length_take];omega)):p:=h
theorem aa1{p:Prop}(h:p:=by simpa[Nat.beq_eq]using hn0):p:=h
theorem aa2{p:Prop}(h:p:=by rw[hl];rfl):p:=h
theorem aa3{p:Prop}(h:p:=by rw[List.length_take];omega):p:=h
theorem aa4{p:Prop}(h:p:=by show ¬(0<=x3.input/\x6.input=x3.input);omega):p:=h
theorem aa5{p:Prop}(h:p:=by unfold yR;simp_all):p:=h
theorem aa6{p:Prop}(h:p:=by rw[hdp]):p:=h
theorem aa7{p:Prop}(h:p:=by simpa using h):p:=h
theorem aa8{p:Prop}(h:p:=by rw[tJ];have:=fI h4;omega):p:=h
theorem aa9{p:Prop}(h:p:=by rw[h];decide):p:=h
theorem ab0{p:Prop}(h:p:=by show x3.input< -1;omega):p:=h
theorem ab1{p:Prop}(h:p:=by simpa using hc20):p:=h
theorem ab2{p:Prop}(h:p:=by rw[h1]at h0;cases h0):p:=h
theorem ab3{p:Prop}(h:p:=by show 64<=x3.input;omega):p:=h
theorem ab4{p:Prop}(h:p:=by rw[bNb,hg];rfl):p:=h
theorem ab5{p:Prop}(h:p:=by rw[bJu];omega):p:=h
theorem ret_int{k:IntKind}{a b:Int}(h:a=b):Ending.returned (.int k a)= .returned (.int k b):=by rw[h]
theorem jB{a b:Bool}(h:a=b):Ending.returned (.bool a)= .returned (.bool b):=by rw[h]
theorem bFr{B:Nat}{a w:World}(h:Below B a w)(n:Nat):Below B a (w.drewN n):=⟨h.os,h.tape,h.output,h.size,h.block⟩
structure fN (W:World) where
 w:World
 h:Below W.heap.size W w
instance (W : World) : Nonempty (fN W) := ⟨⟨W, Below.refl _ _⟩⟩
theorem fN.of{W w:World}(h:Below W.heap.size W w): ∃x:fN W,w=x.w:=⟨⟨w,h⟩,rfl⟩
theorem fN.cell{W:World}{b o:Nat}{v:Value}(h:W.cell? ⟨b,o,none⟩=some v): ∀x:fN W,x.w.cell? ⟨b,o,none⟩=some v:=λx=>by
 have hb:b<W.heap.size:=by
  rcases Nat.lt_or_ge b W.heap.size with hlt|hge
  .exact hlt
  .simp[World.cell?,Array.getElem?_eq_none hge]at h
 exact(x.h.cell (p:=⟨b,o,none⟩) hb).trans h
theorem fN.calls{P:Program}{f:FuncId}{args:Array Value}{v:Value}{W0:World}(h: ∀W,Below W0.heap.size W0 W->Calls P f args W λe w'=>e= .returned v/\Below W.heap.size W w'):
  ∀x:fN W0,Calls P f args x.w λe w'=>e= .returned v/\ ∃y:fN W0,w'=y.w:=
 λx=>(h x.w x.h).mono λ_ _ ⟨he,hb⟩=>⟨he,fN.of (x.h.trans (hb.mono x.h.size))⟩
theorem kQ{P:Program}{id:Nat}{Q:Exit->Act->World->Prop}{a:Act}{w:World}{l:List Oper}(hm:P.follows .mixedOrders=true)(hB:Region.lexB .any l.toArray=true)
  (h:wpQuiet P l.toArray (λw'=> ∃x:fN w,w'=x.w) (λa'=> ∀w',(∃x:fN w,w'=x.w)->Q .normal a' w') l a):(Code.region id l.toArray true).wp P Q a w:=
 wp_region_quiet (C:=λw'=> ∃x:fN w,w'=x.w) hm hB (fN.of (Below.refl _ _).drew) aa7
abbrev Env:=List (Nat×Value)
def Env.get:Env->Nat->Option Value
 |[],_=>none
 |(i,v)::r,j=>cond (Nat.beq i j) (some v) (Env.get r j)
def Env.ev(Γ:Env):Operand->Option Value
 |.tmp t=>Γ.get t
 |.const v=>some v
 |.global g=>some (.pointer (some ⟨g,0,none⟩))
 |.func f=>some (.func (.func f) #[] #[])
def Env.evs(Γ:Env):List Operand->Option (List Value)
 |[]=>some []
 |x::r=>match Γ.ev x with
  |some v=>match Γ.evs r with
   |some vs=>some (v::vs)
   |none=>none
  |none=>none
structure Fits (n:Nat) (Γ:Env) (a:Act):Prop where
 defers:a.defers=[]
 size:n<=a.tmps.size
 get: ∀i v,Γ.get i=some v->a.tmps[i]?=some v
section
variable {n : Nat} {Γ : Env} {a : Act}
theorem Fits.ev(h:Fits n Γ a){x:Operand}{v:Value}(hx:Γ.ev x=some v):a.eval x=v:=by
 cases x with
 |tmp t=>have:=h.get t v hx;simp[Act.eval,Array.getD_eq_getD_getElem?,this]
 |const u=>simp[Env.ev]at hx;exact hx
 |global g=>simp[Env.ev]at hx;exact hx
 |func f=>simp[Env.ev]at hx;exact hx
theorem Fits.evs(h:Fits n Γ a): ∀{xs:List Operand} {vs:List Value},Γ.evs xs=some vs->xs.map a.eval=vs
 |[],vs,hx=>by simp[Env.evs]at hx;simp[hx]
 |x::r,vs,hx=>by
  unfold Env.evs at hx
  cases hv:Γ.ev x with
  |none=>simp[hv]at hx
  |some v=>
   cases hr:Γ.evs r with
   |none=>simp[hv,hr]at hx
   |some us=>
    simp[hv,hr]at hx;subst hx;simp[h.ev hv,h.evs hr]
theorem Fits.put(h:Fits n Γ a){d:Nat}(hd:d<n)(v:Value):Fits n ((d,v)::Γ) (a.put (some d) v):=by
 refine⟨h.defers,by simpa[Act.put]using h.size,λi u hu=>?_⟩;have hlt:d<a.tmps.size:=Nat.lt_of_lt_of_le hd h.size;unfold Env.get at hu
 by_cases e:d=i
 .subst e;simp at hu;subst hu;simp[Act.put,hlt]
 .have:Nat.beq d i=false:=by
   cases hb:Nat.beq d i with
   |false=>rfl
   |true=>exact absurd (Nat.eq_of_beq_eq_true hb) e
  simp[this]at hu;simp[Act.put,e,h.get i u hu]
theorem Fits.put_none(h:Fits n Γ a)(v:Value):Fits n Γ (a.put none v):=h
def Env.Sub(Γ:Env):Env->Prop
 |[]=>True
 |(i,v)::r=>Γ.get i=some v/\Env.Sub Γ r
theorem Env.Sub.get{Γ:Env}: ∀{Δ:Env},Γ.Sub Δ-> ∀i v,Δ.get i=some v->Γ.get i=some v
 |[],_,i,v,h=>by simp[Env.get]at h
 |(j,u)::r,hs,i,v,h=>by
  unfold Env.get at h
  cases hb:Nat.beq j i with
  |true=>
   have:=Nat.eq_of_beq_eq_true hb;subst this;simp at h;rw[<-h];exact hs.1
  |false=>
   simp[hb]at h;exact Env.Sub.get hs.2 i v h
theorem Fits.sub(h:Fits n Γ a){Δ:Env}(hs:Γ.Sub Δ):Fits n Δ a:=⟨h.defers,h.size,λi v hv=>h.get i v (hs.get i v hv)⟩
end
abbrev jF:=Nat->Prop
def Agree (S:jF)(w w':World):Prop:= ∀b,S b->w'.heap[b]?=w.heap[b]?
structure bC where
 p:jF->World->Prop
 mono: ∀{S S':jF} {w w':World},(∀b,S b->S' b)->Agree S w w'->p S w->p S' w'
def All (F:List bC)(S:jF)(w:World):Prop:= ∀f∈F,f.p S w
theorem All.mono{F:List bC}{S S':jF}{w w':World}(hs: ∀b,S b->S' b)(ha:Agree S w w')(h:All F S w):All F S' w':=λf hf=>f.mono hs ha (h f hf)
theorem All.cons{f:bC}{F:List bC}{S:jF}{w:World}(h:f.p S w)(k:All F S w):All (f::F) S w:=λg hg=>by
 rcases List.mem_cons.1 hg with rfl|hg
 .exact h
 .exact k g hg
theorem All.append{F G:List bC}{S:jF}{w:World}(h:All F S w)(k:All G S w):All (F++G) S w:=λg hg=>by
 rcases List.mem_append.1 hg with hg|hg
 .exact h g hg
 .exact k g hg
def bC.pure(c:Prop):bC:=⟨λ_ _=>c,λ_ _ h=>h⟩
def Has (F:List bC)(g:bC):Prop:= ∀S w,All F S w->g.p S w
theorem Has.of{F:List bC}{g:bC}(h:g∈F):Has F g:=λ_ _ k=>k g h
theorem Has.pure{F:List bC}{c:Prop}(h:c):Has F (bC.pure c):=λ_ _ _=>h
theorem e9{F:List bC}{c:Prop}(h:c):Has F (bC.pure c):=Has.pure h
def bA (F:List bC):List bC->Prop
 |[]=>True
 |g::G=>Has F g/\bA F G
theorem bA.all{F:List bC}: ∀{G:List bC},bA F G-> ∀S w,All F S w->All G S w
 |[],_,_,_,_=>λg hg=>by simp at hg
 |g::G,h,S,w,k=>All.cons (h.1 S w k) (bA.all h.2 S w k)
inductive bD where
 |obj (b:Nat) (o:Obj)
 |row (v:Value) (t:TypeId) (size n:Nat) (cs:List Value)
 |gen (b:Option Nat) (p:Option Obj->Prop)
def bD.blk:bD->Option Nat
 |.obj b _=>some b
 |.row v _ _ _ _=>v.ownBlock
 |.gen b _=>b
def bD.ok (w:World):bD->Prop
 |.obj b o=>w.heap[b]?=some o
 |.row v t size n cs=>w.ownsRow 0 t size v n cs
 |.gen b p=>p (b.bind λi=>w.heap[i]?)
structure nP (M:jF) (w0 w:World):Prop where
 os:w.os=w0.os
 tape:w.tape=w0.tape
 output:w.output=w0.output
 size:w0.heap.size<=w.heap.size
 block: ∀b,b<w0.heap.size-> ¬M b->w.heap[b]?=w0.heap[b]?
theorem nP.refl(M:jF)(w:World):nP M w w:=⟨rfl,rfl,rfl,Nat.le_refl _,λ_ _ _=>rfl⟩
theorem nP.trans{M M':jF}{a b c:World}(h:nP M a b)(k:nP M' b c)(hm: ∀i,M' i->M i\/a.heap.size<=i):nP M a c:=
 ⟨k.os.trans h.os,k.tape.trans h.tape,k.output.trans h.output,Nat.le_trans h.size k.size,λi hi hn=>(k.block i (Nat.lt_of_lt_of_le hi h.size) (λhm'=>by rcases hm i hm' with h'|h';exact hn h';omega)).trans (h.block i hi hn)⟩
theorem nP.below{w0 w:World}(h:nP (λ_=>False) w0 w):Below w0.heap.size w0 w:=⟨h.os,h.tape,h.output,h.size,λk hk=>h.block k hk (λe=>e)⟩
theorem nP.of_below{w0 w:World}(M:jF)(h:Below w0.heap.size w0 w):nP M w0 w:=⟨h.os,h.tape,h.output,h.size,λk hk _=>h.block k hk⟩
structure dC where
 w:World
 M:jF
 S:jF
structure St (β:dC) (H:List bD) (S:jF) (w:World):Prop where
 kept:nP β.M β.w w
 ok: ∀c∈H,c.ok w
 own: ∀c∈H,∀b,c.blk=some b->b<w.heap.size/\(β.M b\/β.w.heap.size<=b)/\ ¬S b
 sep:H.Pairwise λc d=> ∀b,c.blk=some b->d.blk≠some b
 zone: ∀b,S b->b<w.heap.size/\(β.S b\/β.M b\/β.w.heap.size<=b)
def At (β:dC)(n:Nat)(Γ:Env)(H:List bD)(F:List bC)(K:Act->World->Prop):Prop:=
 ∀a w S,Fits n Γ a->St β H S w->All F S w->K a w
theorem bD.ok_of{w w':World}{c:bD}(h:c.ok w)(hs: ∀b,c.blk=some b->w'.heap[b]?=w.heap[b]?):c.ok w':=by
 cases c with
 |obj b o=>exact(hs b rfl).trans h
 |row v t size n cs=>
  refine⟨h.1,?_⟩
  rcases h.2 with h|⟨g,cap,cur,e,h1,h2,h3⟩
  .exact .inl h
  .subst e;exact .inr ⟨g,cap,cur,rfl,h1,(hs g rfl).trans h2,h3⟩
 |gen b p=>
  cases b with
  |none=>exact h
  |some i=>
   show p (w'.heap[i]?);rw[hs i rfl];exact h
theorem St.grow{β:dC}{H:List bD}{S:jF}{w w':World}{M':jF}(h:St β H S w)(k:nP M' w w')(hM: ∀b,M' b->(β.M b\/β.w.heap.size<=b))(hH: ∀c∈H,∀b,c.blk=some b-> ¬M' b):St β H S w' where
 kept:=h.kept.trans k hM
 ok:=λc hc=>bD.ok_of (h.ok c hc) λb hb=>k.block b (h.own c hc b hb).1 (hH c hc b hb)
 own:=λc hc b hb=>⟨Nat.lt_of_lt_of_le (h.own c hc b hb).1 k.size,(h.own c hc b hb).2⟩
 sep:=h.sep
 zone:=λb hb=>⟨Nat.lt_of_lt_of_le (h.zone b hb).1 k.size,(h.zone b hb).2⟩
section
variable {P : Program} {β : dC} {n : Nat} {Γ : Env} {H : List bD} {F : List bC} {Q : Exit -> Act -> World -> Prop} {K : Act -> World -> Prop}
theorem At.mono{K':Act->World->Prop}(h:At β n Γ H F K)(hk: ∀a w,K a w->K' a w):At β n Γ H F K':=λa w S f s k=>hk a w (h a w S f s k)
theorem fT{x y:Code}(h:At β n Γ H F (x.wp P (Exit.then (y.wp P Q) Q))):At β n Γ H F ((Code.seq x y).wp P Q):=λa w S f s k=>wp_seq (h a w S f s k)
theorem wQ{id:Nat}{c:Code}(h:At β n Γ H F (c.wp P (Exit.inBlock id Q))):At β n Γ H F ((Code.block id c).wp P Q):=λa w S f s k=>wp_block (h a w S f s k)
theorem sL(h:At β n Γ H F (Q .normal)):At β n Γ H F (Code.skip.wp P Q):=λa w S f s k=>wp_skip (h a w S f s k)
theorem at_exit{id:Nat}(h:At β n Γ H F (Q (.exit id))):At β n Γ H F ((Code.exit id).wp P Q):=λa w S f s k=>wp_exit (h a w S f s k)
theorem uY(h:At β n Γ H F (Q .ret)):At β n Γ H F (Code.ret.wp P Q):=λa w S f s k=>wp_ret (h a w S f s k)
theorem lV{id:Nat}{l:List Oper}(h:At β n Γ H F (wpList P l.toArray Q l)):At β n Γ H F ((Code.region id l.toArray false).wp P Q):=λa w S f s k=>wp_region_lit (h a w S f s k)
theorem iY{ops:Array Oper}(h:At β n Γ H F (Q .normal)):At β n Γ H F (wpList P ops Q []):=h
theorem lM(h:At β n Γ H F K):At β n Γ H F (Exit.then K Q .normal):=h
theorem bKo{i:Nat}(h:At β n Γ H F (Q (.exit i))):At β n Γ H F (Exit.then K Q (.exit i)):=h
theorem uH(h:At β n Γ H F (Q .ret)):At β n Γ H F (Exit.then K Q .ret):=h
theorem n_block{i:Nat}(h:At β n Γ H F (Q .normal)):At β n Γ H F (Exit.inBlock i Q .normal):=h
theorem bAr{i:Nat}(h:At β n Γ H F (Q .ret)):At β n Γ H F (Exit.inBlock i Q .ret):=h
theorem x_block{i:Nat}(h:At β n Γ H F (Q .normal)):At β n Γ H F (Exit.inBlock i Q (.exit i)):=λa w S f s k=>by
 simp only[Exit.inBlock,if_true];exact h a w S f s k
theorem x_pass{i j:Nat}(hne:Nat.beq j i=false)(h:At β n Γ H F (Q (.exit j))):At β n Γ H F (Exit.inBlock i Q (.exit j)):=λa w S f s k=>by
 have:j≠i:=λe=>by rw[e,Nat.beq_refl]at hne;cases hne
 simp only[Exit.inBlock,if_neg this];exact h a w S f s k
theorem cG{c:Operand}{x y:Code}{t:Bool}(hc:Γ.ev c=some (.bool t))(ht:t=true->At β n Γ H F (x.wp P Q))(hf:t=false->At β n Γ H F (y.wp P Q)):At β n Γ H F ((Code.cond c x y).wp P Q):=
 λa w S f s k=>wp_cond_split (f.ev hc) (λe=>ht e a w S f s k) (λe=>hf e a w S f s k)
theorem kP{c:Operand}{x y:Code}{t:Bool}(hc:Γ.ev c=some (.bool t))(ht:t=true)(h:At β n Γ H F (x.wp P Q)):At β n Γ H F ((Code.cond c x y).wp P Q):=
 cG hc (λ_=>h) (λe=>by rw[ht]at e;cases e)
theorem at_false{c:Operand}{x y:Code}{t:Bool}(hc:Γ.ev c=some (.bool t))(ht:t=false)(h:At β n Γ H F (y.wp P Q)):At β n Γ H F ((Code.cond c x y).wp P Q):=
 cG hc (λe=>by rw[ht]at e;cases e) (λ_=>h)
theorem bJ{c:Prop}(hc:Has F (bC.pure c))(h:c->At β n Γ H F K):At β n Γ H F K:=λa w S f s k=>h (hc S w k) a w S f s k
theorem bK(g:bC)(hg:Has F g)(h:At β n Γ H (g::F) K):At β n Γ H F K:=λa w S f s k=>h a w S f s (All.cons (hg S w k) k)
inductive bW:List bD->bD->List bD->Prop
 |head {c:bD} {H:List bD}:bW (c::H) c H
 |tail {c d:bD} {H H':List bD} (h:bW H c H'):bW (d::H) c (d::H')
theorem bW.perm{H H':List bD}{c:bD}(h:bW H c H'):H.Perm (c::H'):=by
 induction h with
 |head=>exact List.Perm.refl _
 |tail _ ih=>exact(ih.cons _).trans (List.Perm.swap _ _ _)
inductive Sel:List bD->List bD->Prop
 |nil {H:List bD}:Sel H []
 |cons {H H' R:List bD} {c:bD} (h:bW H c H') (k:Sel H' R):Sel H (c::R)
theorem St.perm{H H':List bD}{S:jF}{w:World}(h:St β H S w)(p:H.Perm H'):St β H' S w where
 kept:=h.kept
 ok:=λc hc=>h.ok c (p.mem_iff.2 hc)
 own:=λc hc=>h.own c (p.mem_iff.2 hc)
 sep:=h.sep.perm p (λhcd b hb hc=>hcd b hc hb)
 zone:=h.zone
theorem St.tail{H:List bD}{c:bD}{S:jF}{w:World}(h:St β (c::H) S w):St β H S w where
 kept:=h.kept
 ok:=λd hd=>h.ok d (List.mem_cons_of_mem _ hd)
 own:=λd hd=>h.own d (List.mem_cons_of_mem _ hd)
 sep:=(List.pairwise_cons.1 h.sep).2
 zone:=h.zone
theorem Sel.sub{H R:List bD}(h:Sel H R): ∃H',H.Perm (R++H'):=by
 induction h with
 |nil=>exact⟨_,List.Perm.refl _⟩
 |cons h _ ih=>
  obtain⟨H',p⟩:=ih;exact⟨H',h.perm.trans (p.cons _)⟩
theorem St.sel{H R:List bD}{S:jF}{w:World}(h:St β H S w)(hs:Sel H R):St β R S w:=by
 obtain⟨H',p⟩:=hs.sub;have h:=h.perm p;exact⟨h.kept,λc hc=>h.ok c (List.mem_append_left _ hc),λc hc=>h.own c (List.mem_append_left _ hc),(List.pairwise_append.1 h.sep).1,h.zone⟩
theorem oS{R:List bD}(hs:Sel H R)(h:At β n Γ R F K):At β n Γ H F K:=λa w S f s k=>h a w S f (s.sel hs) k
def Back {ι:Type}(β:dC)(n:Nat)(G:ι->Env)(HH:ι->List bD)(FF:ι->List bC)(μ:ι->Nat)(m:Nat)(a:Act)(w:World):Prop:=
 ∃x S,μ x<m/\Fits n (G x) a/\St β (HH x) S w/\All (FF x) S w
theorem at_loop{ι:Type}{c:Code}(G:ι->Env)(HH:ι->List bD)(FF:ι->List bC)(μ:ι->Nat)(x0:ι)(hG:Γ.Sub (G x0))(hH:Sel H (HH x0))(hF:bA F (FF x0))
  (round: ∀x,At β n (G x) (HH x) (FF x) (c.wp P (Exit.then (Back β n G HH FF μ (μ x)) Q))):At β n Γ H F ((Code.loop c).wp P Q):=by
 have key: ∀m x,μ x<=m-> ∀a w S,Fits n (G x) a->St β (HH x) S w->All (FF x) S w->Code.rounds P c Q (m+1) a w:=by
  intro m
  induction m with
  |zero=>
   intro x hx a w S f s k;rw[rounds_succ];refine Code.wp_mono (λe a' w' q=>?_) (round x a w S f s k)
   cases e with
   |normal=>obtain⟨x',S',hlt,_⟩:=q;omega
   |_=>exact q
  |succ m ih=>
   intro x hx a w S f s k;rw[rounds_succ];refine Code.wp_mono (λe a' w' q=>?_) (round x a w S f s k)
   cases e with
   |normal=>obtain⟨x',S',hlt,f',s',k'⟩:=q;exact ih x' k7 a' w' S' f' s' k'
   |_=>exact q
 intro a w S f s k;exact wp_loop_rounds (μ x0+1) (key (μ x0) x0 (Nat.le_refl _) a w S (f.sub hG) (s.sel hH) (hF.all S w k))
theorem at_back{ι:Type}{G:ι->Env}{HH:ι->List bD}{FF:ι->List bC}{μ:ι->Nat}{m:Nat}(x:ι)(hμ:μ x<m)(hG:Γ.Sub (G x))(hH:Sel H (HH x))(hF:bA F (FF x)):
  At β n Γ H F (Back β n G HH FF μ m):=λ_ w S f s k=>⟨x,S,hμ,f.sub hG,s.sel hH,hF.all S w k⟩
def want (ops:Array Oper)(Γ:Env)(o:Oper):Option Bool:=
 match o.guard with
 |none=>some true
 |some (j,b)=>match (ops[j]?).bind (·.dst)with
  |some d=>match Γ.get d with
   |some (.bool c)=>some (c==b)
   |some (.tuple _)=>some false
   |_=>none
  |none=>none
theorem Fits.want{ops:Array Oper}{o:Oper}{t:Bool}{a:Act}(h:Fits n Γ a)(hw:want ops Γ o=some t):Region.wanted o (yielded ops a.tmps)=t:=by
 unfold Proofs.YtnfiadlonjediaaGreatDoor.want at hw;unfold Region.wanted;split at hw
 .rename_i hg;simp at hw;simp[hg,hw]
 .rename_i j b hg;rw[hg];simp only;split at hw
  .rename_i d hd;split at hw
   .rename_i c hc;have:=h.get d _ hc;simp at hw;simp[yielded,hd,this,<-hw]
   .rename_i c hc;have:=h.get d _ hc;simp at hw;simp[yielded,hd,this,<-hw]
   .cases hw
  .cases hw
def StF (β:dC)(H:List bD)(F:List bC)(w:World):Prop:= ∃S,St β H S w/\All F S w
def Det (P:Program)(β:dC)(n:Nat)(Γ:Env)(H:List bD)(F:List bC)(o:Oper)(v:Value):Prop:=
 ∀a,Fits n Γ a-> ∀w,StF β H F w->o.quietAt P a (StF β H F) w v
theorem det_of{o:Oper}{v:Value}(h: ∀a w S,Fits n Γ a->St β H S w->All F S w->(execOp a.eval o).run P w= .ok (.value v) w):Det P β n Γ H F o v:=λa f w ⟨S,s,k⟩=>by
 unfold Oper.quietAt;rw[h a w S f s k];exact⟨rfl,rfl⟩
theorem at_det{ops:Array Oper}{rest:List Oper}{o:Oper}{d:Nat}{v:Value}(hw:want ops Γ o=some true)(hd:o.dst=some d)(hn:Nat.blt d n=true)(h:Det P β n Γ H F o v)
  (k:At β n ((d,v)::Γ) H F (wpList P ops Q rest)):At β n Γ H F (wpList P ops Q (o::rest)):=by
 intro a w S f s hk;unfold wpList;rw[f.want hw,if_pos rfl];refine .inl (Oper.wp_of_quiet (C:=StF β H F) (K:=λa'=>a'=a.put o.dst v) ⟨S,s,hk⟩ ?_ ⟨v,λw' hw'=>h a f w' hw',rfl⟩);rintro a' w' ⟨S',s',k'⟩ rfl;rw[hd];exact k _ _ S' (f.put l9 v) s' k'
theorem bJn{ops:Array Oper}{rest:List Oper}{o:Oper}{d:Nat}(hw:want ops Γ o=some false)(hd:o.dst=some d)(hn:Nat.blt d n=true)
  (k:At β n ((d,undef)::Γ) H F (wpList P ops Q rest)):At β n Γ H F (wpList P ops Q (o::rest)):=by
 intro a w S f s hk;unfold wpList;rw[f.want hw,if_neg m9,hd];exact k _ _ S (f.put l9 undef) s hk
theorem StF.drew{w:World}(h:StF β H F w):StF β H F {w with drawn:=w.drawn+1}:=by
 obtain⟨S,s,k⟩:=h;exact⟨S,⟨⟨s.kept.os,s.kept.tape,s.kept.output,s.kept.size,s.kept.block⟩,λc hc=>bD.ok_of (s.ok c hc) (λ_ _=>rfl),s.own,s.sep,s.zone⟩,All.mono (w:=w) (S:=S) (λ_ h=>h) (λ_ _=>rfl) k⟩
theorem bS{d:Nat}{t t':Bool}(ht:t=t')(k:At β n ((d,.bool t')::Γ) H F K):At β n ((d,.bool t)::Γ) H F K:=by rw[ht];exact k
end
inductive TD where
 |int (k:IntKind)
 |slice (e:Nat)
 |string
 |bool
 |array (n e:Nat)
 |struct (fs:List (Nat×Nat))
 |map (k e:Nat)
 |other
def TD.of:TypeDesc->TD
 |.int k=> .int k
 |.slice e=> .slice e
 |.string=> .string
 |.bool=> .bool
 |.array n e=> .array n e
 |.struct fs=> .struct (fs.toList.map λf=>(f.type,f.offset))
 |.map k e=> .map k e
 |_=> .other
structure TI where
 desc:TD
 size:Nat
abbrev Tab:=List (Nat×TI)
def Tab.get:Tab->Nat->Option TI
 |[],_=>none
 |(i,v)::r,j=>cond (Nat.beq i j) (some v) (Tab.get r j)
def dY (P:Program)(T:Tab):Prop:= ∀t i,T.get t=some i->(P.underlying t).map TD.of=some i.desc/\(P.info? t).map (·.size)=some i.size
def uO (P:Program):Tab->Prop
 |[]=>True
 |(t,i)::r=>((P.underlying t).map TD.of=some i.desc/\(P.info? t).map (·.size)=some i.size)/\uO P r
theorem uO.ok{P:Program}: ∀{T:Tab},uO P T->dY P T
 |[],_,t,i,h=>by simp[Tab.get]at h
 |(j,u)::r,hs,t,i,h=>by
  unfold Tab.get at h
  cases hb:Nat.beq j t with
  |true=>
   have:=Nat.eq_of_beq_eq_true hb;subst this;simp at h;subst h;exact hs.1
  |false=>
   simp[hb]at h;exact uO.ok hs.2 t i h
def aggD:TD->Bool
 |.struct _=>true
 |.array _ _=>true
 |_=>false
section
variable {P : Program} {T : Tab} (hT : dY P T) {t : Nat}
include hT
theorem dY.any{i:TI}(h:T.get t=some i): ∃d,P.underlying t=some d/\TD.of d=i.desc:=by
 have:=(hT t i h).1
 cases hu:P.underlying t with
 |none=>simp[hu]at this
 |some d=>simp[hu]at this;exact⟨d,rfl,this⟩
theorem dY.size{i:TI}(h:T.get t=some i)(w:World):(sizeOf t).run P w= .ok i.size w:=by
 have:=(hT t i h).2
 cases hi:P.info? t with
 |none=>simp[hi]at this
 |some x=>simp[hi]at this;simp[sizeOf,typeInfo,hi,this]
theorem dY.agg{i:TI}(h:T.get t=some i)(w:World):(isAgg t).run P w= .ok (aggD i.desc) w:=by
 obtain⟨d,hu,hd⟩:=hT.any h;unfold isAgg;rw[Sem.run_bind,run_underlying hu,<-hd];cases d<;>simp[aggD,TD.of]
theorem dY.slice{e s:Nat}(h:T.get t=some ⟨.slice e,s⟩)(w:World):(underlying t).run P w= .ok (.slice e) w:=by
 obtain⟨d,hu,hd⟩:=hT.any h;cases d<;>simp[TD.of]at hd
 subst hd;exact run_underlying hu w
theorem dY.int{k:IntKind}{s:Nat}(h:T.get t=some ⟨.int k,s⟩)(w:World):(underlying t).run P w= .ok (.int k) w:=by
 obtain⟨d,hu,hd⟩:=hT.any h;cases d<;>simp[TD.of]at hd
 subst hd;exact run_underlying hu w
theorem dY.string{s:Nat}(h:T.get t=some ⟨.string,s⟩)(w:World):(underlying t).run P w= .ok .string w:=by
 obtain⟨d,hu,hd⟩:=hT.any h;cases d<;>simp[TD.of]at hd
 exact run_underlying hu w
theorem dY.array{n e s:Nat}(h:T.get t=some ⟨.array n e,s⟩)(w:World):(underlying t).run P w= .ok (.array n e) w:=by
 obtain⟨d,hu,hd⟩:=hT.any h;cases d<;>simp[TD.of]at hd
 obtain⟨rfl,rfl⟩:=hd;exact run_underlying hu w
theorem dY.struct{fs:List (Nat×Nat)}{s:Nat}(h:T.get t=some ⟨.struct fs,s⟩): ∃gs:Array Field,(∀w,(underlying t).run P w= .ok (.struct gs) w)/\gs.toList.map (λf=>(f.type,f.offset))=fs:=by
 obtain⟨d,hu,hd⟩:=hT.any h;cases d<;>simp[TD.of]at hd
 rename_i gs;exact⟨gs,λw=>run_underlying hu w,by simpa using hd⟩
end
theorem field_at{gs:Array Field}{fs:List (Nat×Nat)}(h:gs.toList.map (λf=>(f.type,f.offset))=fs){i ty off:Nat}(hf:fs[i]?=some (ty,off)): ∃g,gs[i]?=some g/\g.type=ty/\g.offset=off:=by
 subst h;rw[List.getElem?_map]at hf
 cases hg:gs.toList[i]? with
 |none=>simp[hg]at hf
 |some g=>
  simp[hg]at hf;exact⟨g,by simpa using hg,hf.1,hf.2⟩
def sameKind:IntKind->IntKind->Bool
 |.i8,.i8|.i16,.i16|.i32,.i32|.i64,.i64|.u8,.u8|.u16,.u16|.u32,.u32|.u64,.u64=>true
 |_,_=>false
theorem jZ{k k':IntKind}(h:sameKind k k'=true):k=k':=by cases k<;>cases k'<;>simp[sameKind]at h<;>rfl
def arith:BinOp->IntKind->Int->Int->Option Value
 |.add,k,a,b=>some (.int k (k.wrap (a+b)))
 |.sub,k,a,b=>some (.int k (k.wrap (a-b)))
 |.mul,k,a,b=>some (.int k (k.wrap (a*b)))
 |.or,k,a,b=>some (.int k (k.wrap ((BitVec.ofInt k.bits a ||| BitVec.ofInt k.bits b).toNat:Nat)))
 |.and,k,a,b=>some (.int k (k.wrap ((BitVec.ofInt k.bits a&&&BitVec.ofInt k.bits b).toNat:Nat)))
 |.eql,_,a,b=>some (.bool (a==b))
 |.neq,_,a,b=>some (.bool (a !=b))
 |.lss,_,a,b=>some (.bool (decide (a<b)))
 |.leq,_,a,b=>some (.bool (decide (a<=b)))
 |.gtr,_,a,b=>some (.bool (decide (b<a)))
 |.geq,_,a,b=>some (.bool (decide (b<=a)))
 |_,_,_,_=>none
def strBin:BinOp->ByteArray->ByteArray->Option Value
 |.eql,a,b=>some (.bool (a.data.toList==b.data.toList))
 |.neq,a,b=>some (.bool (!(a.data.toList==b.data.toList)))
 |_,_,_=>none
def pureBin(op:BinOp):Value->Value->Option Value
 |.int k a,.int k' b=>cond (sameKind k k') (arith op k a b) none
 |.string a,.string b=>strBin op a b
 |_,_=>none
theorem pureBin_run{P:Program}{op:BinOp}{xt:TypeId}{x y:Operand}{a b v:Value}(h:pureBin op a b=some v)(w:World):
  ((do eqGuard op xt x y a b;binOp op xt a b:Sem Value)).run P w= .ok v w:=by
 unfold pureBin at h;split at h
 .rename_i k a k' b
  cases hk:sameKind k k' with
  |false=>simp[hk]at h
  |true=>
   have:=jZ hk;subst this;simp[hk]at h;cases op<;>simp[arith]at h<;>subst h<;>simp[eqGuard,binOp,Op.intArith,Op.intCmp,Op.intBits]<;>rfl
 .rename_i a b;cases op<;>simp[strBin]at h<;>subst h<;>simp[eqGuard,binOp,Op.stringOp,ByteArray.toList_eq]
 .cases h
def addOff(o:Nat):Nat->Nat
 |0=>o
 |k+1=>o+(k+1)
theorem addr_add(b o k:Nat):(⟨b,o,none⟩:Addr).add k=⟨b,addOff o k,none⟩:=by
 cases k<;>simp[Addr.add,addOff]
def cut:List Value->Nat->Nat->Option (List Value)
 |_,0,0=>some []
 |c::r,0,n+1=>match cut r 0 n with
  |some l=>some (c::l)
  |none=>none
 |[],0,_+1=>none
 |_::r,o+1,n=>cut r o n
 |[],_+1,_=>none
theorem xB: ∀{cs:List Value} {o n:Nat} {l:List Value},cut cs o n=some l->l=(cs.drop o).take n/\l.length=n/\ ∀j u,l[j]?=some u->cs[o+j]?=some u
 |cs,0,0,l,h=>by simp[cut]at h;subst h;simp
 |c::r,0,n+1,l,h=>by
  unfold cut at h
  cases hc:cut r 0 n with
  |none=>simp[hc]at h
  |some l'=>
   simp[hc]at h;subst h;obtain⟨h1,h2,h3⟩:=xB hc;refine⟨by simp[h1],by simp[h2],λj u hj=>?_⟩
   cases j with
   |zero=>simpa using hj
   |succ j=>have:=h3 j u (by simpa using hj);simpa using this
 |[],0,_+1,l,h=>by simp[cut]at h
 |c::r,o+1,n,l,h=>by
  unfold cut at h;obtain⟨h1,h2,h3⟩:=xB h;refine⟨by simp[h1],h2,λj u hj=>?_⟩;have:=h3 j u hj;rw[show o+1+j=(o+j)+1 from by omega]
  simpa using this
 |[],_+1,_,l,h=>by simp[cut]at h
def rQ:List Value->Nat->List Value->Option (List Value)
 |cs,0,[]=>some cs
 |_::r,0,v::vs=>match rQ r 0 vs with
  |some l=>some (v::l)
  |none=>none
 |[],0,_::_=>none
 |c::r,o+1,vs=>match rQ r o vs with
  |some l=>some (c::l)
  |none=>none
 |[],_+1,_=>none
theorem oX: ∀{cs:List Value} {o:Nat} {vs l:List Value},rQ cs o vs=some l->o+vs.length<=cs.length/\l=cs.take o++vs++cs.drop (o+vs.length)
 |cs,0,[],l,h=>by simp[rQ]at h;subst h;simp
 |c::r,0,v::vs,l,h=>by
  unfold rQ at h
  cases hc:rQ r 0 vs with
  |none=>simp[hc]at h
  |some l'=>
   simp[hc]at h;subst h;obtain⟨h1,h2⟩:=oX hc;simp at h1 h2;refine⟨by simp;omega,by simp[h2]⟩
 |[],0,_::_,l,h=>by simp[rQ]at h
 |c::r,o+1,vs,l,h=>by
  unfold rQ at h
  cases hc:rQ r o vs with
  |none=>simp[hc]at h
  |some l'=>
   simp[hc]at h;subst h;obtain⟨h1,h2⟩:=oX hc;refine⟨by simp;omega,?_⟩;rw[show o+1+vs.length=(o+vs.length)+1 from by omega];simp[h2]
 |[],_+1,_,l,h=>by simp[rQ]at h
def binV (T:Tab)(op:BinOp)(t:Nat):Value->Value->Option Value
 |.bool a,.bool b=>match T.get t,op with
  |some ⟨.bool,_⟩,.eql=>some (.bool (a==b))
  |some ⟨.bool,_⟩,.neq=>some (.bool (a !=b))
  |_,_=>none
 |u,v=>pureBin op u v
def nV (T:Tab)(Γ:Env):Op->Option Value
 |.move x=>Γ.ev x
 |.assign x=>Γ.ev x
 |.pick c a b=>match Γ.ev c with
  |some (.bool true)=>Γ.ev a
  |some (.bool false)=>Γ.ev b
  |_=>none
 |.binOp op xt x y _=>match Γ.ev x with
  |some u=>match Γ.ev y with
   |some v=>binV T op xt u v
   |none=>none
  |none=>none
 |.unOp op _ x=>match op,Γ.ev x with
  |.not,some (.bool b)=>some (.bool (!b))
  |.neg,some (.int k a)=>some (.int k (k.wrap (0-a)))
  |_,_=>none
 |.convert s d x=>match T.get s,T.get d,Γ.ev x with
  |some _,some ⟨.int k,_⟩,some (.int _ a)=>some (.int k (k.wrap a))
  |_,_,_=>none
 |.extract x i=>match Γ.ev x with
  |some (.tuple vs)=>vs.toList[i]?
  |_=>none
 |.fieldAddr s x f=>match T.get s,Γ.ev x with
  |some ⟨.struct fs,_⟩,some (.pointer (some ⟨b,o,none⟩))=>match fs[f]? with
   |some (ft,fo)=>match T.get ft with
    |some ⟨_,_+1⟩=>some (.pointer (some ⟨b,addOff o fo,none⟩))
    |_=>none
   |none=>none
  |_,_=>none
 |.field s x f=>match T.get s,Γ.ev x with
  |some ⟨.struct fs,_⟩,some (.agg cs)=>match fs[f]? with
   |some (ft,fo)=>match T.get ft with
    |some i=>cond (aggD i.desc) (match cut cs.toList fo i.size with
     |some l=>some (.agg l.toArray)
     |none=>none) cs.toList[fo]?
    |none=>none
   |none=>none
  |_,_=>none
 |.nilCheck x=>match Γ.ev x with
  |some (.pointer (some a))=>some (.pointer (some a))
  |_=>none
 |.makeFunc fn first cap=>match Γ.evs first.toList with
  |some a=>match Γ.evs cap.toList with
   |some b=>some (.func fn a.toArray b.toArray)
   |none=>none
  |none=>none
 |.call ⟨.builtin .len,args,ts⟩=>match args.toList,ts.toList with
  |[x],[t]=>match T.get t,Γ.ev x with
   |some ⟨.slice _,_⟩,some (.slice _ k _)=>some (.int .i64 k)
   |some ⟨.string,_⟩,some (.string s)=>some (.int .i64 s.size)
   |some ⟨.array k _,_⟩,some _=>some (.int .i64 k)
   |_,_=>none
  |_,_=>none
 |.call ⟨.builtin .max,args,_⟩=>match args.toList with
  |[x,y]=>match Γ.ev x,Γ.ev y with
   |some (.int k a),some (.int _ b)=>some (.int k (if b>a then b else a))
   |_,_=>none
  |_=>none
 |.call ⟨.builtin .min,args,_⟩=>match args.toList with
  |[x,y]=>match Γ.ev x,Γ.ev y with
   |some (.int k a),some (.int _ b)=>some (.int k (if b<a then b else a))
   |_,_=>none
  |_=>none
 |_=>none
section
variable {P : Program} {β : dC} {n : Nat} {Γ : Env} {H : List bD} {F : List bC} {Q : Exit -> Act -> World -> Prop} {K : Act -> World -> Prop} {T : Tab}
theorem run_part_agg(hT:dY P T){t:Nat}{i:TI}(ht:T.get t=some i)(ha:aggD i.desc=true)(cs:Array Value)(off:Nat){l:List Value}(h:cut cs.toList off i.size=some l)(w:World):(part t cs off).run P w= .ok (.agg l.toArray) w:=by
 unfold part;rw[Sem.run_bind,hT.agg ht,Result.andThen_ok,ha];simp only[if_true,Sem.run_bind,hT.size ht,Result.andThen_ok,Sem.run_pure];obtain⟨h1,_,_⟩:=xB h;rw[h1]
 congr 2
 apply Array.ext';simp[Array.toList_extract,List.extract_eq_take_drop]
theorem run_part_one(hT:dY P T){t:Nat}{i:TI}(ht:T.get t=some i)(ha:aggD i.desc=false)(cs:Array Value)(off:Nat){v:Value}(h:cs.toList[off]?=some v)(w:World):(part t cs off).run P w= .ok v w:=by
 unfold part;rw[Sem.run_bind,hT.agg ht,Result.andThen_ok,ha];have:cs[off]?=some v:=by simpa using h
 simp[this]
theorem binV_run(hT:dY P T){op:BinOp}{xt:TypeId}{x y:Operand}{a b v:Value}(h:binV T op xt a b=some v)(w:World):
  ((do eqGuard op xt x y a b;binOp op xt a b:Sem Value)).run P w= .ok v w:=by
 unfold binV at h;split at h
 .rename_i a b;split at h
  .rename_i sz ht;simp at h;subst h;obtain⟨d,hu,hd⟩:=hT.any ht;cases d<;>simp[TD.of]at hd
   have he: ∀d,(Op.equalIn (d+1) xt (.bool a) (.bool b)).run P w= .ok (a==b) w:=λd=>by simp[Op.equalIn,run_underlying hu]
   have hb:(binOp .eql xt (.bool a) (.bool b)).run P w= .ok (.bool (a==b)) w:=by
    simp only[binOp];rw[Sem.run_bind,show Op.equal xt (.bool a) (.bool b)=Op.equalIn 10000 xt (.bool a) (.bool b)from rfl,he 9999];rfl
   have hg:(eqGuard .eql xt x y (.bool a) (.bool b)).run P w= .ok () w:=rfl;rw[Sem.run_bind,hg,Result.andThen_ok,hb]
  .rename_i sz ht;simp at h;subst h;obtain⟨d,hu,hd⟩:=hT.any ht;cases d<;>simp[TD.of]at hd
   have he: ∀d,(Op.equalIn (d+1) xt (.bool a) (.bool b)).run P w= .ok (a==b) w:=λd=>by simp[Op.equalIn,run_underlying hu]
   have hb:(binOp .neq xt (.bool a) (.bool b)).run P w= .ok (.bool (a !=b)) w:=by
    simp only[binOp];rw[Sem.run_bind,show Op.equal xt (.bool a) (.bool b)=Op.equalIn 10000 xt (.bool a) (.bool b)from rfl,he 9999];rfl
   have hg:(eqGuard .neq xt x y (.bool a) (.bool b)).run P w= .ok () w:=rfl;rw[Sem.run_bind,hg,Result.andThen_ok,hb]
  .cases h
 .exact pureBin_run h w
theorem bMn(hT:dY P T){o:Oper}{v:Value}{a:Act}(f:Fits n Γ a)(h:nV T Γ o.op=some v)(w:World):(execOp a.eval o).run P w= .ok (.value v) w:=by
 unfold execOp;unfold nV at h;split at h
 .rename_i x ho;simp[ho,f.ev h]
 .rename_i x ho;simp[ho,f.ev h]
 .rename_i c x y ho;split at h
  .rename_i hc;simp[ho,f.ev hc,f.ev h,asBool]
  .rename_i hc;simp[ho,f.ev hc,f.ev h,asBool]
  .cases h
 .rename_i op xt x y yt ho;split at h
  .rename_i u hu;split at h
   .rename_i v' hv;have:=binV_run hT (x:=x) (y:=y) h w;simp only[ho,f.ev hu,f.ev hv];rw[Sem.run_bind,this];rfl
   .cases h
  .cases h
 .rename_i op xt x ho;split at h
  .rename_i b hb;simp at h;subst h;simp[ho,f.ev hb,Op.unary]
  .rename_i k b hb;simp at h;subst h;simp[ho,f.ev hb,Op.unary,Op.intArith]
  .cases h
 .rename_i s d x ho;split at h
  .rename_i is k sz kk b hs hd hx;simp at h;subst h;obtain⟨ds,hds,_⟩:=hT.any hs;simp only[ho,f.ev hx,convert,Sem.run_bind,run_underlying hds,hT.int hd,Result.andThen_ok,Conv.intToInt,Sem.run_pure]
  .cases h
 .rename_i x i ho;split at h
  .rename_i vs hx;have:vs[i]?=some v:=by simpa using h
   simp[ho,f.ev hx,Instr.extract,this]
  .cases h
 .rename_i s x fi ho;split at h
  .rename_i fs sz b off hs hx;obtain⟨gs,hgs,hmap⟩:=hT.struct hs;split at h
   .rename_i ft fo hfd;obtain⟨g,hg,rfl,rfl⟩:=field_at hmap hfd;split at h
    .rename_i de k hft;simp at h;subst h;simp only[ho,f.ev hx,Instr.fieldAt,Sem.run_bind,hgs,Result.andThen_ok,hg,Instr.sureAddr,Sem.run_pure,fieldPlace,hT.size hft,addr_add];rfl
    .cases h
   .cases h
  .cases h
 .rename_i s x fi ho;split at h
  .rename_i fs sz cs hs hx;obtain⟨gs,hgs,hmap⟩:=hT.struct hs;split at h
   .rename_i ft fo hfd;obtain⟨g,hg,rfl,rfl⟩:=field_at hmap hfd;split at h
    .rename_i ti hft
     cases hagg:aggD ti.desc with
     |true=>
      simp only[hagg,cond_true]at h;split at h
      .rename_i l hl;simp at h;subst h;have hp:=run_part_agg hT hft hagg cs g.offset hl w;simp only[ho,f.ev hx,Instr.field,Sem.run_bind,hgs,Result.andThen_ok,hg,asAgg,Sem.run_pure,hp]
      .cases h
     |false=>
      simp only[hagg,cond_false]at h;have hp:=run_part_one hT hft hagg cs g.offset h w;simp only[ho,f.ev hx,Instr.field,Sem.run_bind,hgs,Result.andThen_ok,hg,asAgg,Sem.run_pure,hp]
    .cases h
   .cases h
  .cases h
 .rename_i x ho;split at h
  .rename_i ad hx;simp at h;subst h;simp[ho,f.ev hx]
  .cases h
 .rename_i fn first cap ho
  split at h
  .rename_i a1 h1;split at h
   .rename_i b1 h2;simp at h;subst h;have e1:first.map a.eval=a1.toArray:=by apply Array.ext';simpa using f.evs h1
    have e2:cap.map a.eval=b1.toArray:=by apply Array.ext';simpa using f.evs h2
    simp only[ho,e1,e2,Instr.makeFunc];rfl
   .cases h
  .cases h
 .rename_i args ts ho;split at h
  .rename_i x t hxa hta;have ha:args= #[x]:=by apply Array.ext';simpa using hxa
   have hb:ts= #[t]:=by apply Array.ext';simpa using hta
   subst ha hb;split at h
   .rename_i e sz A k c ht hx;simp at h;subst h;simp[ho,resolve,invoke,builtin,Builtin.len_,f.ev hx,hT.slice ht,goInt]
   .rename_i sz s ht hx;simp at h;subst h;simp[ho,resolve,invoke,builtin,Builtin.len_,f.ev hx,hT.string ht,goInt]
   .rename_i k e sz u ht hx;simp at h;subst h;simp[ho,resolve,invoke,builtin,Builtin.len_,hT.array ht,goInt]
   .cases h
  .cases h
 .rename_i args ts ho;split at h
  .rename_i x y hxa;have ha:args= #[x,y]:=by apply Array.ext';simpa using hxa
   subst ha;split at h
   .rename_i k a' kk b hx hy;simp at h;subst h;simp[ho,resolve,invoke,builtin,Builtin.max_,Builtin.max2,f.ev hx,f.ev hy]
   .cases h
  .cases h
 .rename_i args ts ho;split at h
  .rename_i x y hxa;have ha:args= #[x,y]:=by apply Array.ext';simpa using hxa
   subst ha;split at h
   .rename_i k a' kk b hx hy;simp at h;subst h;simp[ho,resolve,invoke,builtin,Builtin.min_,Builtin.min2,f.ev hx,f.ev hy]
   .cases h
  .cases h
 .cases h
end
section
variable {P : Program} {β : dC} {n : Nat} {Γ : Env} {H : List bD} {F : List bC} {Q : Exit -> Act -> World -> Prop} {K : Act -> World -> Prop} {T : Tab}
theorem St.agree{S:jF}{w w':World}{M':jF}(s:St β H S w)(k:nP M' w w')(hS: ∀b,S b-> ¬M' b):Agree S w w':=λb hb=>k.block b (s.zone b hb).1 (hS b hb)
theorem bJi(w:World)(o:Obj):nP (λ_=>False) w (w.alloc o):=
 ⟨rfl,rfl,rfl,m9,λb hb _=>Below.heap_alloc _ _ _ hb⟩
theorem St.alloc{S:jF}{w:World}(s:St β H S w)(o:Obj):St β (.obj w.heap.size o::H) S (w.alloc o):=by
 have s':=s.grow (bJi w o) (λ_ h=>h.elim) (λ_ _ _ _ h=>h);refine⟨s'.kept,λc hc=>?_,λc hc b hb=>?_,List.pairwise_cons.2 ⟨λd hd b hb hdb=>?_,s'.sep⟩,s'.zone⟩
 .rcases List.mem_cons.1 hc with rfl|hc
  .exact heap_alloc_new _ _
  .exact s'.ok c hc
 .rcases List.mem_cons.1 hc with rfl|hc
  .injection hb with hb
   subst hb;exact⟨m9,.inr s.kept.size,λh=>absurd (s.zone _ h).1 (Nat.lt_irrefl _)⟩
  .exact s'.own c hc b hb
 .injection hb with hb
  subst hb;exact absurd (s.own d hd _ hdb).1 (Nat.lt_irrefl _)
theorem All.alloc{S:jF}{w:World}(s:St β H S w)(k:All F S w)(o:Obj):All F S (w.alloc o):=All.mono (λ_ h=>h) (s.agree (bJi w o) (λ_ _ h=>h)) k
theorem fY{ops:Array Oper}{rest:List Oper}{o:Oper}(hw:want ops Γ o=some true)(h: ∀a w S,Fits n Γ a->St β H S w->All F S w->o.wp P a w (wpList P ops Q rest) Q):At β n Γ H F (wpList P ops Q (o::rest)):=λa w S f s k=>by
 unfold wpList;rw[f.want hw,if_pos rfl];exact .inl (h a w S f s k)
theorem fB{ops:Array Oper}{rest:List Oper}{o:Oper}{d:Nat}{t:TypeId}{x:Operand}{v:Value}{cs:List Value}(hw:want ops Γ o=some true)(ho:o.op= .box t x)(hd:o.dst=some d)(hn:Nat.blt d n=true)
  (hx:Γ.ev x=some v) (hc:v.cells=cs.toArray) (k: ∀b,At β n ((d,.pointer (some ⟨b,0,none⟩))::Γ) (.obj b (.cells cs.toArray t)::H) F (wpList P ops Q rest)):At β n Γ H F (wpList P ops Q (o::rest)):=
 fY hw λa w S f s hk=>by
  have hr:(execOp a.eval o).run P w= .ok (.value (.pointer (some ⟨w.heap.size,0,none⟩))) (w.alloc (.cells cs.toArray t)):=by
   unfold execOp;simp only[ho,f.ev hx,Instr.box,newVar,newRow,hc];rfl
  unfold Oper.wp;rw[hr,Oper.upon_value,hd];exact k _ _ _ S (f.put l9 _) (s.alloc _) (All.alloc s hk _)
theorem j0{ops:Array Oper}{rest:List Oper}{o:Oper}{d:Nat}{t:TypeId}{x:Operand}{v:Value}{cs:List Value}(k: ∀b,At β n ((d,.pointer (some ⟨b,0,none⟩))::Γ) (.obj b (.cells cs.toArray t)::H) F (wpList P ops Q rest))(hw:want ops Γ o=some true:=by exact rfl)(ho:o.op= .box t x:=by exact rfl)(hd:o.dst=some d:=by exact rfl)(hn:Nat.blt d n=true:=by exact rfl)(hx:Γ.ev x=some v:=by exact rfl)(hc:v.cells=cs.toArray:=by exact rfl):At β n Γ H F (wpList P ops Q (o::rest)):=fB hw ho hd hn hx hc k
def nE (β:dC)(H:List bD)(F:List bC)(b q:Nat)(cs:List Value):Prop:= ∀w S,St β H S w->All F S w-> ∀j u,cs[j]?=some u->w.cell? ⟨b,q+j,none⟩=some u
theorem bW.mem{H H':List bD}{c:bD}(h:bW H c H'):c∈H:=h.perm.mem_iff.2 (List.mem_cons_self ..)
theorem bP{b off:Nat}{cs:List Value}{t:TypeId}{fz:Nat×Nat}{H':List bD}(hH:bW H (.obj b (.cells cs.toArray t fz)) H'):nE β H F b off (cs.drop off):=λw S s _ j u hj=>by
 have h:w.heap[b]?=some (.cells cs.toArray t fz):=s.ok _ hH.mem;unfold World.cell?;rw[h]
 simpa using hj
theorem bBr{b:Nat}{cs:List Value}{t:TypeId}{fz:Nat×Nat}{H':List bD}(hH:bW H (.obj b (.cells cs.toArray t fz)) H'):nE β H F b 0 (cs.drop 0):=bP hH
def bC.cells(b o:Nat)(cs:List Value):bC where
 p S w:=S b/\ ∀j u,cs[j]?=some u->w.cell? ⟨b,o+j,none⟩=some u
 mono:=λhs ha h=>⟨hs _ h.1,λj u hj=>by
  have:=h.2 j u hj;unfold World.cell? at*;rw[ha b h.1]
  exact this⟩
theorem nE.drop{b q:Nat}{cs:List Value}(h:nE β H F b q cs)(j:Nat):nE β H F b (q+j) (cs.drop j):=λw S s k i u hi=>by
 have:=h w S s k (j+i) u (by simpa using hi)
 rwa[<-Nat.add_assoc]at this
theorem bFw{w:World}{g:Nat}{cs:Array Value}:nP (λb=>b=g) w (w.setRow g cs):=by
 refine⟨rfl,rfl,rfl,by simp[World.setRow],λb hb hne=>?_⟩;simp[World.setRow,Array.getElem?_modify,Ne.symm hne]
theorem setRow_at{w:World}{g:Nat}{cur cs:Array Value}{t:TypeId}{fz:Nat×Nat}(h:w.heap[g]?=some (.cells cur t fz)):(w.setRow g cs).heap[g]?=some (.cells cs t fz):=by
 simp[World.setRow,Array.getElem?_modify,h]
theorem St.swap{c c':bD}{S:jF}{w w':World}{g:Nat}(s:St β (c::H) S w)(k:nP (λb=>b=g) w w')(hc:c.blk=some g)(hc':c'.blk=some g)(ok:c'.ok w'):St β (c'::H) S w':=by
 have hg:=s.own c (List.mem_cons_self ..) g hc;have hsep:=List.pairwise_cons.1 s.sep;have s':St β H S w':=s.tail.grow k (λb hb=>by subst hb;exact hg.2.1) (λd hd b hb e=>by subst e;exact hsep.1 d hd _ hc hb);refine⟨s'.kept,λd hd=>?_,λd hd b hb=>?_,List.pairwise_cons.2 ⟨λd hd b hb=>?_,s'.sep⟩,s'.zone⟩
 .rcases List.mem_cons.1 hd with rfl|hd
  .exact ok
  .exact s'.ok d hd
 .rcases List.mem_cons.1 hd with rfl|hd
  .rw[hc']at hb;injection hb with hb
   subst hb;exact⟨Nat.lt_of_lt_of_le hg.1 k.size,hg.2⟩
  .exact s'.own d hd b hb
 .rw[hc']at hb;injection hb with hb
  subst hb;exact hsep.1 d hd _ hc
theorem at_store{ops:Array Oper}{rest:List Oper}{o:Oper}(hT:dY P T){t t' b off:Nat}{p x:Operand}{v:Value}{vs cs cs':List Value}{i:TI}{H':List bD}(hw:want ops Γ o=some true)(ho:o.op= .store t p x)(hd:o.dst=none)
  (hp:Γ.ev p=some (.pointer (some ⟨b,off,none⟩))) (hx:Γ.ev x=some v) (hH:bW H (.obj b (.cells cs.toArray t')) H') (ht:T.get t=some i) (hc:v.cells=vs.toArray) (hs:Nat.beq vs.length i.size=true)
  (h1:vs.all (·.oneCell')=true) (hput:rQ cs off vs=some cs') (k:At β n Γ (.obj b (.cells cs'.toArray t')::H') F (wpList P ops Q rest)):At β n Γ H F (wpList P ops Q (o::rest)):=
 fY hw λa w S f s hk=>by
  have hb:w.heap[b]?=some (.cells cs.toArray t' (0,0)):=s.ok _ hH.mem;obtain⟨hl,e⟩:=oX hput;have hst:=run_storeCells_at (P:=P) b off t' vs 0 cs.toArray w hb (by simpa using hl) (λu hu=>by simpa using (List.all_eq_true.1 h1) u hu);simp only[Nat.add_zero]at hst;rw[<-e]at hst;have hsz:v.cells.size=i.size:=by rw[hc];simpa using Nat.eq_of_beq_eq_true hs
  have hr:(execOp a.eval o).run P w= .ok .skip (w.setRow b cs'.toArray):=by
   unfold execOp;simp only[ho,f.ev hp,f.ev hx,Instr.storeAt,Instr.sureAddr,storeVar,Sem.run_bind,Sem.run_pure,Result.andThen_ok,hT.size ht,hsz];simp[hc,hst]
  unfold Oper.wp;rw[hr,Oper.upon_skip,hd];have s2:=s.perm hH.perm;exact k _ _ S (f.put_none _) (s2.swap bFw rfl rfl (setRow_at hb)) (All.mono (λ_ h=>h) (s.agree bFw (λc hc e=>by subst e;exact(s2.own _ (List.mem_cons_self ..) _ rfl).2.2 hc)) hk)
structure Enc (α:Type) where
 size:Nat
 rep:List Value->α->bC
def Enc.flat{α:Type}(size:Nat)(cells:α->List Value):Enc α:=⟨size,λcs x=>bC.pure (cs=cells x)⟩
def bC.sl {α:Type}(E:Enc α)(v:Value)(xs:List α):bC where
 p S w:= ∃A cap,v= .slice A xs.length cap/\ ∀k x,xs[k]?=some x-> ∃b o cs,A=some ⟨b,o,none⟩/\S b/\(∀j u,cs[j]?=some u->w.cell? ⟨b,o+k*E.size+j,none⟩=some u)/\(E.rep cs x).p S w
 mono:=λhs ha ⟨A,cap,e,h⟩=>⟨A,cap,e,λk x hk=>by
  obtain⟨b,o,cs,e1,e2,e3,e4⟩:=h k x hk;refine⟨b,o,cs,e1,hs _ e2,λj u hj=>?_,(E.rep cs x).mono hs ha e4⟩;have:=e3 j u hj;unfold World.cell? at*;rw[ha b e2]
  exact this⟩
theorem Has.slice{α:Type}{E:Enc α}{v:Value}{xs:List α}(h:Has F (bC.sl E v xs)):Has F (bC.pure (∃A cap,v= .slice A xs.length cap)):=λS w k=>by
 obtain⟨A,cap,e,_⟩:=h S w k;exact⟨A,cap,e⟩
theorem Has.addr{α:Type}{E:Enc α}{A:Option Addr}{l c:Nat}{xs:List α}(h:Has F (bC.sl E (.slice A l c) xs)){k:Nat}(hk:k<xs.length):Has F (bC.pure (∃b o,A=some ⟨b,o,none⟩)):=λS w hF=>by
 obtain⟨A',cap,e,h⟩:=h S w hF;obtain⟨b,o,cs,e1,_⟩:=h k _ (List.getElem?_eq_getElem hk);injection e with e
 exact⟨b,o,e.trans e1⟩
theorem Has.elem{α:Type}{sz:Nat}{cells:α->List Value}{b o l c:Nat}{xs:List α}(h:Has F (bC.sl (Enc.flat sz cells) (.slice (some ⟨b,o,none⟩) l c) xs)){k:Nat}{x:α}(hk:xs[k]?=some x):Has F (bC.cells b (o+k*sz) (cells x)):=λS w hF=>by
 obtain⟨A',cap,e,h⟩:=h S w hF;obtain⟨b',o',cs,e1,e2,e3,e4⟩:=h k x hk;injection e with e
 rw[e1]at e;injection e with e
 injection e with e e'
 subst e e';have e4:cs=cells x:=e4;subst e4;exact⟨e2,e3⟩
def kV (H:List bD):jF:=λb=> ∃c∈H,c.blk=some b
def cE {ι:Type}(P:Program)(f:FuncId)(args:List Value)(Hin:List bD)(Pre:List bC)(val:ι->Value)(Hout:ι->List bD)(post:ι->List bC):Prop:=
 ∀S w,St ⟨w,kV Hin,S⟩ Hin S w->All Pre S w->Calls P f args.toArray w λe w'=> ∃x S',e= .returned (val x)/\St ⟨w,kV Hin,S⟩ (Hout x) S' w'/\All (post x) S' w'
inductive Split:List bD->List bD->List bD->Prop
 |nil {H:List bD}:Split H [] H
 |cons {H H' R H2:List bD} {c:bD} (h:bW H c H') (k:Split H' R H2):Split H (c::R) H2
theorem Split.perm{H R H2:List bD}(h:Split H R H2):H.Perm (R++H2):=by
 induction h with
 |nil=>exact List.Perm.refl _
 |cons h _ ih=>exact h.perm.trans (ih.cons _)
theorem St.enter{Hin H2:List bD}{S:jF}{w:World}(s:St β (Hin++H2) S w):St ⟨w,kV Hin,S⟩ Hin S w where
 kept:=nP.refl _ _
 ok:=λc hc=>s.ok c (List.mem_append_left _ hc)
 own:=λc hc b hb=>⟨(s.own c (List.mem_append_left _ hc) b hb).1,.inl ⟨c,hc,hb⟩,(s.own c (List.mem_append_left _ hc) b hb).2.2⟩
 sep:=(List.pairwise_append.1 s.sep).1
 zone:=λb hb=>⟨(s.zone b hb).1,.inl hb⟩
theorem St.leave{Hin Hout H2:List bD}{S S':jF}{w w':World}(s:St β (Hin++H2) S w)(s':St ⟨w,kV Hin,S⟩ Hout S' w'):St β (Hout++H2) (λb=>S b\/S' b) w':=by
 have sp:=List.pairwise_append.1 s.sep;have hin: ∀b,kV Hin b->b<w.heap.size/\(β.M b\/β.w.heap.size<=b)/\ ¬S b:=λb ⟨c,hc,hb⟩=>s.own c (List.mem_append_left _ hc) b hb
 have h2: ∀c∈H2,∀b,c.blk=some b->b<w.heap.size/\(β.M b\/β.w.heap.size<=b)/\ ¬S b/\ ¬kV Hin b:=λc hc b hb=>by
  obtain⟨h1,h2,h3⟩:=s.own c (List.mem_append_right _ hc) b hb;exact⟨h1,h2,h3,λ⟨d,hd,hdb⟩=>sp.2.2 d hd c hc b hdb hb⟩
 refine⟨s.kept.trans s'.kept (λi hi=>(hin i hi).2.1),λc hc=>?_,λc hc b hb=>?_,List.pairwise_append.2 ⟨s'.sep,sp.2.1,λc hc d hd b hb hdb=>?_⟩,λb hb=>?_⟩
 .rcases List.mem_append.1 hc with hc|hc
  .exact s'.ok c hc
  .exact bD.ok_of (s.ok c (List.mem_append_right _ hc)) λb hb=>s'.kept.block b (h2 c hc b hb).1 (h2 c hc b hb).2.2.2
 .rcases List.mem_append.1 hc with hc|hc
  .obtain⟨a1,a2,a3⟩:=s'.own c hc b hb;refine⟨a1,?_,λh=>?_⟩
   .rcases a2 with a2|a2
    .exact(hin b a2).2.1
    .exact .inr (Nat.le_trans s.kept.size a2)
   .rcases h with h|h
    .rcases a2 with a2|a2
     .exact(hin b a2).2.2 h
     .exact absurd (s.zone b h).1 (Nat.not_lt.2 a2)
    .exact a3 h
  .obtain⟨a1,a2,a3,a4⟩:=h2 c hc b hb;refine⟨Nat.lt_of_lt_of_le a1 s'.kept.size,a2,λh=>?_⟩
   rcases h with h|h
   .exact a3 h
   .rcases (s'.zone b h).2 with h'|h'|h'
    .exact a3 h'
    .exact a4 h'
    .exact absurd a1 (Nat.not_lt.2 h')
 .obtain⟨a1,_,_,a4⟩:=h2 d hd b hdb
  rcases (s'.own c hc b hb).2.1 with a2|a2
  .exact a4 a2
  .exact absurd a1 (Nat.not_lt.2 a2)
 .rcases hb with hb|hb
  .exact⟨Nat.lt_of_lt_of_le (s.zone b hb).1 s'.kept.size,(s.zone b hb).2⟩
  .refine⟨(s'.zone b hb).1,?_⟩
   rcases (s'.zone b hb).2 with h|h|h
   .exact(s.zone b h).2
   .exact .inr (hin b h).2.1
   .exact .inr (.inr (Nat.le_trans s.kept.size h))
theorem All.leave{Hin Hout H2:List bD}{S S':jF}{w w':World}(s:St β (Hin++H2) S w)(s':St ⟨w,kV Hin,S⟩ Hout S' w')(k:All F S w):All F (λb=>S b\/S' b) w':=
 All.mono (λ_ h=> .inl h) (λb hb=>s'.kept.block b (s.zone b hb).1 (λ⟨c,hc,h⟩=>(s.own c (List.mem_append_left _ hc) b h).2.2 hb)) k
theorem bLp{o:Oper}{f:FuncId}{ars:Array Operand}{ts:Array TypeId}{vs:List Value}{a:Act}(hcf: ∀(args:Array Value) (w:World),(callFunc f args).run P w= .ok (.enter f args) w)(ho:o.op= .call ⟨.value (.func f),ars,ts⟩)(fi:Fits n Γ a)
  (hv:Γ.evs ars.toList=some vs) (w:World):(execOp a.eval o).run P w= .ok (.enter f vs.toArray) w:=by
 have hm:ars.map a.eval=vs.toArray:=by
  apply Array.ext'
  simpa using fi.evs hv
 unfold execOp;simp only[ho,resolve,Act.eval,Deferred.ofValue,Sem.run_bind,Sem.run_pure,Result.andThen_ok,invoke];simp[hm,hcf]
theorem at_call{ι:Type}{ops:Array Oper}{rest:List Oper}{o:Oper}{d:Nat}{f:FuncId}{ars:Array Operand}{ts:Array TypeId}{vs:List Value}{Hin H2:List bD}{Pre:List bC}{val:ι->Value}{Hout:ι->List bD}{post:ι->List bC}
  (hcf: ∀(args:Array Value) (w:World),(callFunc f args).run P w= .ok (.enter f args) w) (hs:cE P f vs Hin Pre val Hout post) (hw:want ops Γ o=some true) (ho:o.op= .call ⟨.value (.func f),ars,ts⟩) (hd:o.dst=some d) (hn:Nat.blt d n=true)
  (hv:Γ.evs ars.toList=some vs) (hH:Split H Hin H2) (hF:bA F Pre) (k: ∀x,At β n ((d,val x)::Γ) (Hout x++H2) (post x++F) (wpList P ops Q rest)):At β n Γ H F (wpList P ops Q (o::rest)):=
 fY hw λa w S f s hk=>by
  unfold Oper.wp;rw[bLp hcf ho f hv w,Oper.upon_enter];have s1:=s.perm hH.perm;refine(hs S w s1.enter (hF.all S w hk)).mono ?_;rintro e w' ⟨x,S',rfl,s',k'⟩;show wpList P ops Q rest (a.put o.dst (val x)) w';rw[hd];exact k x _ _ _ (f.put l9 _) (s1.leave s') ((All.mono (λ_ h=> .inr h) (λ_ _=>rfl) k').append (All.leave s1 s' hk))
def zG:Nat->List Value->Env
 |_,[]=>[]
 |i,v::r=>(i,v)::zG (i+1) r
theorem rB: ∀(i:Nat) (l:List Value) (j:Nat) (v:Value),(zG i l).get j=some v->i<=j/\l[j-i]?=some v
 |i,[],j,v,h=>by simp[zG,Env.get]at h
 |i,u::r,j,v,h=>by
  unfold zG Env.get at h
  cases hb:Nat.beq i j with
  |true=>
   have:=Nat.eq_of_beq_eq_true hb;subst this;simp at h;simp[h]
  |false=>
   simp[hb]at h;obtain⟨h1,h2⟩:=rB (i+1) r j v h;refine⟨k7,?_⟩;rw[show j-i=(j-(i+1))+1 from by omega]
   simpa using h2
def bNl {ι:Type}(β:dC)(val:ι->Value)(Hout:ι->List bD)(post:ι->List bC)(e:Ending)(w':World):Prop:= ∃x S',e= .returned (val x)/\St β (Hout x) S' w'/\All (post x) S' w'
theorem bM{ι:Type}{f:FuncId}{fn:Func}{c:Code}{args:List Value}{Hin:List bD}{Pre:List bC}{val:ι->Value}{Hout:ι->List bD}{post:ι->List bC}(hf:P.funcs[f]?=some fn)(hb:fn.body=some c)(hn:fn.ntmps=n)
  (hl:Nat.ble args.length n=true) (h: ∀β,β.M=kV Hin->At β n (zG 0 args) Hin Pre (c.wp P (bodyPost P fn (bNl β val Hout post)))):cE P f args Hin Pre val Hout post:=λS w s k=>by
 refine calls_of_wp hf hb (h ⟨w,kV Hin,S⟩ rfl _ w S ⟨rfl,?_,λi v hi=>?_⟩ s k)
 .have:=Nat.le_of_ble_eq_true hl;simp;omega
 .obtain⟨_,h2⟩:=rB 0 args i v hi;simp only[Nat.sub_zero]at h2;have hlt:i<args.length:=(List.getElem?_eq_some_iff.1 h2).1;simp only[Array.getElem?_append];rw[if_pos q7]
  simpa using h2
theorem j2{ι:Type}{f:FuncId}{fn:Func}{c:Code}{args:List Value}{Hin:List bD}{Pre:List bC}{val:ι->Value}{Hout:ι->List bD}{post:ι->List bC}(hf:P.funcs[f]?=some fn)(hn:fn.ntmps=n)(h: ∀β,β.M=kV Hin->At β n (zG 0 args) Hin Pre (c.wp P (bodyPost P fn (bNl β val Hout post))))(hb:fn.body=some c:=by exact rfl)(hl:Nat.ble args.length n=true:=by exact rfl):cE P f args Hin Pre val Hout post:=bM hf hb hn hl h
end
section
variable {P : Program} {β : dC} {n : Nat} {Γ : Env} {H : List bD} {F : List bC} {Q : Exit -> Act -> World -> Prop} {K : Act -> World -> Prop} {T : Tab}
theorem at_row{v:Value}{t:TypeId}{sz m:Nat}{cs:List Value}{H':List bD}(hH:bW H (.row v t sz m cs) H')(h:cs.length=m*sz->(∃A cap,v= .slice A m cap/\(0<m-> ∃g,A=some ⟨g,0,none⟩))->At β n Γ H F K):At β n Γ H F K:=λa w S f s k=>by
 have ho:w.ownsRow 0 t sz v m cs:=s.ok _ hH.mem;refine h ho.1 ?_ a w S f s k
 rcases ho.2 with ⟨e,e0⟩|⟨g,cap,cur,e,_⟩
 .exact⟨none,0,by rw[e,e0],λh=>by omega⟩
 .exact⟨_,cap,e,λ_=>⟨g,rfl⟩⟩
theorem nE.part{b q o:Nat}{cs ds:List Value}(h:nE β H F b q cs)(hd: ∀j u,ds[j]?=some u->cs[o+j]?=some u):nE β H F b (q+o) ds:=λw S s k j u hj=>by
 have:=h w S s k (o+j) u (hd j u hj)
 rwa[<-Nat.add_assoc]at this
theorem at_nilrow{t:TypeId}{sz:Nat}(h:At β n Γ (.row (.slice none 0 0) t sz 0 []::H) F K):At β n Γ H F K:=λa w S f s k=>by
 refine h a w S f ⟨s.kept,λc hc=>?_,λc hc b hb=>?_,List.pairwise_cons.2 ⟨λd _ b hb=>?_,s.sep⟩,s.zone⟩ k
 .rcases List.mem_cons.1 hc with rfl|hc
  .exact World.ownsRow_nil _ _ _ _
  .exact s.ok c hc
 .rcases List.mem_cons.1 hc with rfl|hc
  .simp[bD.blk,Value.ownBlock]at hb
  .exact s.own c hc b hb
 .simp[bD.blk,Value.ownBlock]at hb
theorem jK(g:Nat): ∀(vs:List Value) (o:Nat) (w:World),nP (λb=>b=g) w (w.setCells g o vs)
 |[],_,w=>nP.refl _ _
 |v::r,o,w=>by
  have h1:nP (λb=>b=g) w (w.setCell ⟨g,o,none⟩ v):=by
   refine⟨rfl,rfl,rfl,m9,λb hb hne=>?_⟩;simp[World.setCell,Array.getElem?_modify,Ne.symm hne]
  exact h1.trans (jK g r (o+1) _) (λi hi=> .inl hi)
def kK:List Value->Nat->List Value->List Value
 |xs,_,[]=>xs
 |xs,j,v::r=>kK (xs.set j v) (j+1) r
theorem rL{base:Nat}{e:TypeId}{size g m cap:Nat}: ∀(vs:List Value) (j:Nat) (w:World) (xs:List Value),w.ownsRow base e size (.slice (some ⟨g,0,none⟩) m cap) m xs->
  (w.setCells g j vs).ownsRow base e size (.slice (some ⟨g,0,none⟩) m cap) m (kK xs j vs)
 |[],_,_,_,h=>h
 |v::r,j,_,_,h=>rL r (j+1) _ _ (World.ownsRow.stored h j v).1
theorem at_store_row{ops:Array Oper}{rest:List Oper}{o:Oper}(hT:dY P T){t t' g off m cap sz:Nat}{p x:Operand}{v:Value}{vs cs cs':List Value}{i:TI}{H':List bD}(hw:want ops Γ o=some true)(ho:o.op= .store t p x)(hd:o.dst=none)
  (hp:Γ.ev p=some (.pointer (some ⟨g,off,none⟩))) (hx:Γ.ev x=some v) (hH:bW H (.row (.slice (some ⟨g,0,none⟩) m cap) t' sz m cs) H') (ht:T.get t=some i) (hc:v.cells=vs.toArray) (hs:Nat.beq vs.length i.size=true)
  (h1:vs.all (·.oneCell')=true) (hoff:off+vs.length<=m*sz) (hput:kK cs off vs=cs') (k:At β n Γ (.row (.slice (some ⟨g,0,none⟩) m cap) t' sz m cs'::H') F (wpList P ops Q rest)):At β n Γ H F (wpList P ops Q (o::rest)):=
 fY hw λa w S f s hk=>by
  have hown:w.ownsRow 0 t' sz (.slice (some ⟨g,0,none⟩) m cap) m cs:=s.ok _ hH.mem
  have hth:w.there g off vs.length:=λj hj=>by
   refine⟨?_,World.ownsRow.frozenAt hown _⟩;rw[World.ownsRow.cellAt hown _ k7,List.getElem?_eq_getElem (by rw[hown.1];omega)];rfl
  have hst:=run_storeCells_cells (P:=P) g off vs 0 w (λj hj=>by simpa using (hth j hj).1) (λj hj=>by simpa using (hth j hj).2) (λu hu=>by simpa using (List.all_eq_true.1 h1) u hu);rw[Nat.add_zero]at hst;have hsz:v.cells.size=i.size:=by rw[hc];simpa using Nat.eq_of_beq_eq_true hs
  have hr:(execOp a.eval o).run P w= .ok .skip (w.setCells g off vs):=by
   unfold execOp;simp only[ho,f.ev hp,f.ev hx,Instr.storeAt,Instr.sureAddr,storeVar,Sem.run_bind,Sem.run_pure,Result.andThen_ok,hT.size ht,hsz];simp[hc,hst]
  unfold Oper.wp;rw[hr,Oper.upon_skip,hd];have s2:=s.perm hH.perm;refine k _ _ S (f.put_none _) (s2.swap (jK g vs off w) rfl rfl ?_) (All.mono (λ_ h=>h) (s.agree (jK g vs off w) (λc hc e=>by subst e;exact(s2.own _ (List.mem_cons_self ..) _ rfl).2.2 hc)) hk);rw[<-hput];exact rL vs off w cs hown
theorem rY{w w':World}{row:Option Nat}(h:w.grownBy w' row):nP (λb=>some b=row) w w':=⟨h.os,h.tape,h.output,h.size,λb hb hne=>h.block b hb hne⟩
theorem St.swap_row{v v':Value}{t:TypeId}{sz m m':Nat}{cs cs':List Value}{S:jF}{w w':World}(s:St β (.row v t sz m cs::H) S w)(k:nP (λb=>some b=v.ownBlock) w w')(hv:v'.ownBlock=v.ownBlock\/v'.ownBlock=some w.heap.size)(ok:w'.ownsRow 0 t sz v' m' cs'):
  St β (.row v' t sz m' cs'::H) S w':=by
 have hsep:=List.pairwise_cons.1 s.sep;have hown:=s.own _ (List.mem_cons_self ..);have s':St β H S w':=s.tail.grow k (λb hb=>(hown b hb.symm).2.1) (λd hd b hb e=>hsep.1 d hd b e.symm hb)
 have hnew: ∀b,v'.ownBlock=some b->b<w'.heap.size/\(β.M b\/β.w.heap.size<=b)/\ ¬S b:=λb hb=>by
  refine⟨(World.ownsRow.lt ok b hb).2,?_⟩
  rcases hv with hv|hv
  .exact(hown b (hv.symm.trans hb)).2
  .rw[hv]at hb;injection hb with hb
   subst hb;exact⟨.inr s.kept.size,λh=>absurd (s.zone _ h).1 (Nat.lt_irrefl _)⟩
 refine⟨s'.kept,λd hd=>?_,λd hd b hb=>?_,List.pairwise_cons.2 ⟨λd hd b hb hdb=>?_,s'.sep⟩,s'.zone⟩
 .rcases List.mem_cons.1 hd with rfl|hd
  .exact ok
  .exact s'.ok d hd
 .rcases List.mem_cons.1 hd with rfl|hd
  .exact hnew b hb
  .exact s'.own d hd b hb
 .rcases hv with hv|hv
  .exact hsep.1 d hd b (hv.symm.trans hb) hdb
  .have hb:v'.ownBlock=some b:=hb;rw[hv]at hb;injection hb with hb
   subst hb;exact absurd (s.own d (List.mem_cons_of_mem _ hd) _ hdb).1 (Nat.lt_irrefl _)
theorem at_append{ops:Array Oper}{rest:List Oper}{o:Oper}{d:Nat}{x y:Operand}{t e:TypeId}{i:TypeInfo}{z:Value}{sz by_ m q c b off:Nat}{v:Value}{cs news:List Value}{H':List bD}(hg:o.guard=none)
  (ho:o.op= .call {callee:= .builtin .append,args:= #[x,y],argTypes:= #[t,t]}) (hd:o.dst=some d) (hn:Nat.blt d n=true) (hu:P.underlying t=some (.slice e)) (hi:P.info? e=some i) (hz:i.zero=some z) (hsize:i.size=sz) (hby:i.bytes=by_) (hzs:z.cells.size=sz) (hsz:0<sz)
  (hx:Γ.ev x=some v) (hH:bW H (.row v e sz m cs) H') (hy:Γ.ev y=some (.slice (some ⟨b,off,none⟩) q c)) (hl:news.length=q*sz) (hk:nE β H F b off news) (h1: ∀u∈news,u.oneCell'=true) (h63:m+q<=maxLen) (hbytes:(m+q)*by_<=140737488355328)
  (k: ∀v',At β n ((d,v')::Γ) (.row v' e sz (m+q) (cs++news)::H') F (wpList P ops Q rest)):At β n Γ H F (wpList P ops Q (o::rest)):=λa w S f s hF=>by
 have hown:w.ownsRow 0 e sz v m cs:=s.ok _ hH.mem;refine wpList_append_own_at w hg x y t ho 0 e i z sz by_ hu hi hz hsize hby hzs hsz v m cs (f.ev hx) hown ⟨b,off,none⟩ q c news (f.ev hy) hl (λj u hj=>by rw[Addr.add_mid];exact hk w S s hF j u hj) h1 h63 hbytes (Nat.zero_le _) ?_;intro v' w' hown' hgrow _ hat;have s2:=s.perm hH.perm;rw[hd];exact k v' _ _ S (f.put l9 _) (s2.swap_row (rY hgrow) hat hown') (All.mono (λ_ h=>h) (s.agree (rY hgrow) (λb hb e=>(s2.own _ (List.mem_cons_self ..) b e.symm).2.2 hb)) hF)
theorem at_build{ops:Array Oper}{rest:List Oper}{o:Oper}{d m:Nat}{t e:TypeId}{parts:Array (Nat×Operand)}{cs:List Value}(hw:want ops Γ o=some true)(ho:o.op= .buildSlice t m parts)(hd:o.dst=some d)(hn:Nat.blt d n=true)
  (hr: ∀a w,Fits n Γ a->(Instr.buildSlice t m (parts.map λ(i,x)=>(i,a.eval x))).run P w= .ok (.slice (some ⟨w.heap.size,0,none⟩) m m) (w.alloc (.cells cs.toArray e)))
  (k: ∀b,At β n ((d,.slice (some ⟨b,0,none⟩) m m)::Γ) (.obj b (.cells cs.toArray e)::H) F (wpList P ops Q rest)):At β n Γ H F (wpList P ops Q (o::rest)):=
 fY hw λa w S f s hk=>by
  have hr':(execOp a.eval o).run P w= .ok (.value (.slice (some ⟨w.heap.size,0,none⟩) m m)) (w.alloc (.cells cs.toArray e)):=by
   unfold execOp;simp only[ho];rw[Sem.run_bind,hr a w f];rfl
  unfold Oper.wp;rw[hr',Oper.upon_value,hd];exact k _ _ _ S (f.put l9 _) (s.alloc _) (All.alloc s hk _)
end
section
variable {P : Program} {ops : Array Oper} {md : Region.Mode} {C : World -> Prop} {Q : Exit -> Act -> World -> Prop}
def Nm (K:Act->World->Prop):Exit->Act->World->Prop:=λe a w=>e= .normal/\K a w
theorem Nm.out{K:Act->World->Prop}(h:LetsOut (Nm K)):False:=by
 obtain⟨_,_,h,_⟩:=h;cases h
def fOp (P:Program)(ops:Array Oper)(i:Nat)(K:Act->World->Prop)(a:Act)(w:World):Prop:= ∀o,ops[i]?=some o->wpList P ops (Nm K) [o] a w
theorem wpNm{o:Oper}{K:Act->World->Prop}{a:Act}{w:World}(h:wpList P ops (Nm K) [o] a w):if Region.wanted o (yielded ops a.tmps)then o.wp P a w K (Nm K)else K (a.put o.dst undef) w:=by
 unfold wpList at h;split
 .rename_i hw;simp only[hw,if_true]at h
  rcases h with h|⟨_,h⟩
  .exact Oper.wp_mono (λa w h=>h.2) h
  .exact(Nm.out h).elim
 .rename_i hw;simp only[hw]at h;exact h.2
theorem kJ{o:Oper}{K:Act->World->Prop}{a:Act}{w:World}(h:if Region.wanted o (yielded ops a.tmps)then o.wp P a w K (Nm K)else K (a.put o.dst undef) w):wpList P ops (Nm K) [o] a w:=by
 unfold wpList;split
 .rename_i hw;simp only[hw,if_true]at h;exact .inl (Oper.wp_mono (λa w h=>⟨rfl,h⟩) h)
 .rename_i hw;simp only[hw]at h;exact⟨rfl,h⟩
theorem nQ{o:Oper}{a a':Act}{w:World}{K K':Act->World->Prop}{Q':Exit->Act->World->Prop}(he:execOp a'.eval o=execOp a.eval o)(hK: ∀u w',K (a.put o.dst u) w'->K' (a'.put o.dst u) w')
  (hD: ∀d w',K ({a with defers:=d::a.defers}.put o.dst undef) w'->K' ({a' with defers:=d::a'.defers}.put o.dst undef) w') (h:o.wp P a w K (Nm K)):o.wp P a' w K' Q':=by
 unfold Oper.wp at*;rw[he];generalize (execOp a.eval o).run P w=r at*
 cases r with
 |ok n w'=>
  cases n<;>simp only[Oper.upon]at h⊢
  case value u=>exact hK _ _ h
  case skip=>exact hK _ _ h
  case defer d=>exact hD _ _ h
  case enter f args=>
   refine h.mono λe w'' he=>?_
   cases e with
   |returned v=>exact hK _ _ he
   |panicked c=>exact absurd he.1 m9
   |outgrown=>exact(Nm.out he).elim
  case row row args=>exact h.mono λ_ _ he=>hK _ _ he
 |halt x w'=>
  cases x<;>simp only[Oper.upon]at h
  exact absurd h.1 m9
def bAh (P:Program)(md:Region.Mode)(ops:Array Oper)(C:World->Prop)(Q:Exit->Act->World->Prop):Nat->Array Bool->Act->World->Prop
 |0,listed,a,w=>C w/\Region.ready md ops listed=[]/\Q .normal a w
 |fuel+1,listed,a,w=>C w/\(Region.ready md ops listed=[]->Q .normal a w)/\ ∀i∈Region.ready md ops listed,fOp P ops i (bAh P md ops C Q fuel (listed.setIfInBounds i true)) a w
theorem oW: ∀(fuel:Nat) (listed:Array Bool) (a:Act) (w:World),bAh P md ops C Q fuel listed a w->wpAny P md ops Q fuel listed a w
 |0,_,_,_,h=>h.2
 |fuel+1,listed,a,w,h=>by
  refine⟨h.2.1,λi hi=>?_⟩;have hf:=h.2.2 i hi;unfold wpOp;split
  .rename_i ho;obtain⟨_,oi,hoi,_⟩:=mem_ready.1 hi;rw[ho]at hoi;cases hoi
  .rename_i o ho;have h1:=wpNm (hf o ho);split
   .rename_i hw;simp only[hw,if_true]at h1;exact .inl (nQ rfl (λu w' h'=>oW fuel _ _ _ h') (λd w' h'=>oW fuel _ _ _ h') h1)
   .rename_i hw;simp only[hw]at h1;exact oW fuel _ _ _ h1
def Fl (P:Program)(ops:Array Oper)(C:World->Prop)(o:Oper)(v:Value)(a:Act):Prop:=
 (Region.wanted o (yielded ops a.tmps)=true/\ ∀w,C w->(execOp a.eval o).run P w= .ok (.value v) w)\/(Region.wanted o (yielded ops a.tmps)=false/\v=undef)
theorem Fl.of_same{o:Oper}{v:Value}{a a':Act}(hy:Fl P ops C o v a)(he:execOp a'.eval o=execOp a.eval o)
  (hw:Region.wanted o (yielded ops a'.tmps)=Region.wanted o (yielded ops a.tmps)):Fl P ops C o v a':=by
 unfold Fl at*;rw[he,hw];exact hy
theorem Fl.fOp{i:Nat}{o:Oper}{v:Value}{a:Act}{w:World}(hi:ops[i]?=some o)(hy:Fl P ops C o v a)(hC:C w){K:Act->World->Prop}(h:K (a.put o.dst v) w):fOp P ops i K a w:=λo' ho'=>by
 have:o'=o:=Option.some.inj (ho'.symm.trans hi);subst this;apply kJ
 rcases hy with ⟨hw,hv⟩|⟨hw,rfl⟩
 .simp only[hw,if_true,Oper.wp,hv w hC,Oper.upon];exact h
 .simp only[hw,Bool.false_eq_true,if_false];exact h
theorem fOp_put{j:Nat}{oi oj:Oper}{v:Value}(hj:ops[j]?=some oj)(hap:oi.apart ops oj=true)
  (hsi: ∀cs b,oi.op≠ .select cs b) (hsj: ∀cs b,oj.op≠ .select cs b) {K:Act->World->Prop} {a:Act} {w:World}
  (hy:Fl P ops C oi v a) (h:fOp P ops j K (a.put oi.dst v) w):fOp P ops j (λa' w'=>Fl P ops C oi v a'/\K (a'.put oi.dst v) w') a w:=λo ho=>by
 have:o=oj:=Option.some.inj (ho.symm.trans hj);subst this;obtain⟨h1,h2,h3⟩:=Oper.apart_spec hap
 have keep: ∀(a:Act),Fl P ops C oi v a-> ∀u,Fl P ops C oi v (a.put o.dst u):=λa hy u=>
  hy.of_same (execOp_put oi hsi a o.dst u h3) (wanted_put oi a o.dst u h3)
 have h:=wpNm (h o ho);rw[wanted_put o a oi.dst v h1]at h;apply kJ;split
 .rename_i hw;simp only[hw,if_true]at h;refine nQ (execOp_put o hsj a oi.dst v h1).symm (λu w' h'=>⟨keep a hy u,by rw[<-Act.put_comm a v u h2];exact h'⟩) (λd w' h'=>?_) h;refine⟨keep {a with defers:=d::a.defers} hy undef,?_⟩;rw[<-Act.put_comm {a with defers:=d::a.defers} v undef h2]
  have:({a.put oi.dst v with defers:=d::(a.put oi.dst v).defers}:Act)=({a with defers:=d::a.defers}:Act).put oi.dst v:=by
   cases oi.dst<;>rfl
  rw[<-this];exact h'
 .rename_i hw;simp only[hw]at h;exact⟨keep a hy _,by rw[<-Act.put_comm a v undef h2];exact h⟩
theorem fR{i:Nat}{K K':Act->World->Prop}{a:Act}{w:World}(hk: ∀a w,K a w->K' a w)(h:fOp P ops i K a w):fOp P ops i K' a w:=λo ho=>by
 have h:=wpNm (h o ho);apply kJ;split
 .rename_i hw;simp only[hw,if_true]at h;exact nQ rfl (λu w' h'=>hk _ _ h') (λd w' h'=>hk _ _ h') h
 .rename_i hw;simp only[hw]at h;exact hk _ _ h
theorem vP{i:Nat}{oi:Oper}{v:Value}(hi:ops[i]?=some oi)(hsel: ∀(j:Nat) (o:Oper) cs b,ops[j]?=some o->o.op≠ .select cs b):
  ∀(fuel:Nat) (listed:Array Bool) (a:Act) (w:World),
   (∀j oj,ops[j]?=some oj->j≠i->listed.getD j true=false->(∀e∈oj.after,Region.binds md e=true->e.on≠i)->oi.apart ops oj=true)->
   i∈Region.ready md ops listed->Fl P ops C oi v a->
   bAh P md ops C Q fuel (listed.setIfInBounds i true) (a.put oi.dst v) w->bAh P md ops C Q (fuel+1) listed a w:=by
 intro fuel
 induction fuel with
 |zero=>
  intro listed a w _ hr hy H;refine⟨H.1,λh=>r9,λj hj=>?_⟩
  by_cases hji:j=i
  .subst hji;exact hy.fOp hi H.1 H
  .have:=ready_mono hj hji;rw[H.2.1]at this;cases this
 |succ fuel ih=>
  intro listed a w hfree hr hy H;refine⟨H.1,λh=>r9,λj hj=>?_⟩
  by_cases hji:j=i
  .subst hji;exact hy.fOp hi H.1 H
  .have h1:=H.2.2 j (ready_mono hj hji);obtain⟨hjun,oj,hoj,hall⟩:=mem_ready.1 hj
   have hnot: ∀e∈oj.after,Region.binds md e=true->e.on≠i:=λe he hb heq=>by
    have h1:=hall e he hb;have h0:=(mem_ready.1 hr).1;rw[heq]at h1
    rcases Nat.lt_or_ge i listed.size with h'|h'
    .simp[h']at h0 h1;rw[h0]at h1;cases h1
    .simp[Array.getElem?_eq_none h']at h1
   have h2:=fOp_put hoj (hfree j oj hoj hji hjun hnot) (λcs b=>hsel i oi cs b hi) (λcs b=>hsel j oj cs b hoj) hy h1;have hfree': ∀k ok,ops[k]?=some ok->k≠i->(listed.setIfInBounds j true).getD k true=false->
     (∀e∈ok.after,Region.binds md e=true->e.on≠i)->oi.apart ops ok=true:=λk ok hk hki hun hno=>by
    refine hfree k ok hk hki ?_ hno
    by_cases hjk:j=k
    .subst hjk;exact hjun
    .rw[getD_set_ne true hjk]at hun;exact hun
   refine fR (λa' w' h3=>ih (listed.setIfInBounds j true) a' w' hfree' (ready_mono hr (Ne.symm hji)) h3.1 ?_) h2;rw[Array.setIfInBounds_comm _ _ hji];exact h3.2
def oJ (P:Program)(ops:Array Oper)(C:World->Prop)(Q:Exit->Act->World->Prop):List (Bool×Nat)->Act->World->Prop
 |[],a,w=>Q .normal a w
 |(true,k)::r,a,w=> ∃o v,ops[k]?=some o/\Fl P ops C o v a/\oJ P ops C Q r (a.put o.dst v) w
 |(false,k)::r,a,w=>fOp P ops k (λa w=>C w/\oJ P ops C Q r a w) a w
def mixB (md:Region.Mode)(ops:Array Oper):List (Bool×Nat)->Array Bool->Bool
 |[],listed=>(Region.ready md ops listed).isEmpty
 |(true,k)::r,listed=>(Region.ready md ops listed).contains k&&Region.free md ops listed k&&mixB md ops r (listed.setIfInBounds k true)
 |(false,k)::r,listed=>(Region.ready md ops listed==[k])&&mixB md ops r (listed.setIfInBounds k true)
theorem zW(hs:Region.noSelect ops=true): ∀(l:List (Bool×Nat)) (listed:Array Bool) (a:Act) (w:World),mixB md ops l listed=true->C w->oJ P ops C Q l a w->bAh P md ops C Q l.length listed a w
 |[],listed,a,w,hB,hC,h=>⟨hC,by simpa[mixB]using hB,h⟩
 |(true,k)::r,listed,a,w,hB,hC,h=>by
  simp only[mixB,Bool.and_eq_true]at hB;obtain⟨o,v,ho,hy,hK⟩:=h;exact vP ho (Region.noSelect_spec hs) r.length listed a w (Region.free_spec ho hB.1.2) (by simpa using hB.1.1) hy (zW hs r _ _ _ hB.2 hC hK)
 |(false,k)::r,listed,a,w,hB,hC,h=>by
  simp only[mixB,Bool.and_eq_true,beq_iff_eq]at hB;refine⟨hC,λh0=>t6,λi hi=>?_⟩;rw[hB.1]at hi;have:i=k:=by simpa using hi
  subst this;exact fR (λa' w' h'=>zW hs r _ _ _ hB.2 h'.1 h'.2) h
def mixOk (l:List (Bool×Nat))(ops:Array Oper):Bool:=Region.noSelect ops&&Nat.beq l.length ops.size&&mixB .any ops l (Array.replicate ops.size false)
end
section
variable {P : Program} {β : dC} {n : Nat} {Γ : Env} {H : List bD} {F : List bC} {Q : Exit -> Act -> World -> Prop} {K : Act -> World -> Prop} {Hk : List bD} {F0 : List bC} {ops : Array Oper}
theorem StF.sel(hH:Sel H Hk)(hF:bA F F0){w:World}(h:StF β H F w):StF β Hk F0 w:=by
 obtain⟨S,s,k⟩:=h;exact⟨S,s.sel hH,hF.all S w k⟩
theorem dS{id:Nat}{l:List Oper}(Hk:List bD)(F0:List bC)(od:List (Bool×Nat))(hm:P.follows .mixedOrders=true)(hB:mixOk od l.toArray=true)(hH:Sel H Hk)(hF:bA F F0)
  (h:At β n Γ H F (oJ P l.toArray (StF β Hk F0) Q od)):At β n Γ H F ((Code.region id l.toArray true).wp P Q):=λa w S f s k=>by
 simp only[mixOk,Bool.and_eq_true]at hB;have hw:=StF.drew ⟨S,s,k⟩;obtain⟨S',s',k'⟩:=hw;refine wp_region_any hm (oW (C:=StF β Hk F0) _ _ _ _ ?_);have:=zW (P:=P) (md:= .any) (C:=StF β Hk F0) (Q:=Q) hB.1.1 od (Array.replicate l.toArray.size false) a _ hB.2 (StF.sel hH hF ⟨S',s',k'⟩) (h a _ S' f s' k')
 rwa[Nat.eq_of_beq_eq_true hB.1.2]at this
def Sti (P:Program)(β:dC)(n:Nat)(Γ:Env)(H:List bD)(F:List bC)(o:Oper)(v:Value):Prop:= ∀a w S,Fits n Γ a->St β H S w->All F S w->(execOp a.eval o).run P w= .ok (.value v) w
theorem Sti.det{o:Oper}{v:Value}(h:Sti P β n Γ H F o v):Det P β n Γ H F o v:=det_of h
theorem iG{rest:List Oper}{o:Oper}{d:Nat}{v:Value}(hw:want ops Γ o=some true)(hd:o.dst=some d)(hn:Nat.blt d n=true)(h:Sti P β n Γ H F o v)
  (k:At β n ((d,v)::Γ) H F (wpList P ops Q rest)):At β n Γ H F (wpList P ops Q (o::rest)):=at_det hw hd hn h.det k
theorem atm_nil{C:World->Prop}(h:At β n Γ H F (Q .normal)):At β n Γ H F (oJ P ops C Q []):=h
theorem bCq{r:List (Bool×Nat)}{o:Oper}{k d:Nat}{v:Value}(hk:ops[k]?=some o)(hw:want ops Γ o=some true)(hd:o.dst=some d)(hn:Nat.blt d n=true)(h:Sti P β n Γ Hk F0 o v)
  (K:At β n ((d,v)::Γ) H F (oJ P ops (StF β Hk F0) Q r)):At β n Γ H F (oJ P ops (StF β Hk F0) Q ((true,k)::r)):=λa w S f s hF=>by
 refine⟨o,v,hk,.inl ⟨f.want hw,λw' ⟨S',s',k'⟩=>h a w' S' f s' k'⟩,?_⟩;rw[hd];exact K _ _ S (f.put l9 v) s hF
theorem stM{r:List (Bool×Nat)}{o:Oper}{k d:Nat}{v:Value}(hk:ops[k]?=some o)(h:Sti P β n Γ Hk F0 o v)(K:At β n ((d,v)::Γ) H F (oJ P ops (StF β Hk F0) Q r))(hw:want ops Γ o=some true:=by exact rfl)(hd:o.dst=some d:=by exact rfl)(hn:Nat.blt d n=true:=by exact rfl):At β n Γ H F (oJ P ops (StF β Hk F0) Q ((true,k)::r)):=bCq hk hw hd hn h K
theorem puM{r:List (Bool×Nat)}{o:Oper}{k d:Nat}{v:Value}{T:Tab}(hT:dY P T)(K:At β n ((d,v)::Γ) H F (oJ P ops (StF β Hk F0) Q r))(hk:ops[k]?=some o:=by exact rfl)(hw:want ops Γ o=some true:=by exact rfl)(hd:o.dst=some d:=by exact rfl)(hn:Nat.blt d n=true:=by exact rfl)(h:nV T Γ o.op=some v:=by exact rfl):At β n Γ H F (oJ P ops (StF β Hk F0) Q ((true,k)::r)):=bCq hk hw hd hn (λ_ w _ f _ _=>bMn hT f h w) K
theorem atm_skipped{r:List (Bool×Nat)}{o:Oper}{k d:Nat}{C:World->Prop}(hk:ops[k]?=some o)(hw:want ops Γ o=some false)(hd:o.dst=some d)(hn:Nat.blt d n=true)
  (K:At β n ((d,undef)::Γ) H F (oJ P ops C Q r)):At β n Γ H F (oJ P ops C Q ((true,k)::r)):=λa w S f s hF=>by
 refine⟨o,undef,hk,.inr ⟨f.want hw,rfl⟩,?_⟩;rw[hd];exact K _ _ S (f.put l9 undef) s hF
theorem atm_op{r:List (Bool×Nat)}{o:Oper}{k:Nat}{C:World->Prop}(hk:ops[k]?=some o)(h:At β n Γ H F (wpList P ops (Nm λa w=>C w/\oJ P ops C Q r a w) [o])):At β n Γ H F (oJ P ops C Q ((false,k)::r)):=λa w S f s hF o' ho'=>by
 have:o'=o:=Option.some.inj (ho'.symm.trans hk);subst this;exact h a w S f s hF
theorem zQ{r:List (Bool×Nat)}(hH:Sel H Hk)(hF:bA F F0)(h:At β n Γ H F (oJ P ops (StF β Hk F0) Q r)):At β n Γ H F (wpList P ops (Nm λa w=>StF β Hk F0 w/\oJ P ops (StF β Hk F0) Q r a w) []):=λa w S f s k=>
 ⟨rfl,StF.sel hH hF ⟨S,s,k⟩,h a w S f s k⟩
end
structure Flat (α:Type) where
 size:Nat
 cells:α->List Value
 len: ∀x,(cells x).length=size
 one: ∀x,∀u∈cells x,u.oneCell'=true
 pos:0<size
section
variable {α : Type} (E : Flat α)
def Flat.all(xs:List α):List Value:=xs.flatMap E.cells
theorem Flat.all_length(xs:List α):(E.all xs).length=xs.length*E.size:=by
 induction xs with
 |nil=>simp[Flat.all]
 |cons x r ih=>
  have:E.all (x::r)=E.cells x++E.all r:=rfl;rw[this,List.length_append,ih,E.len,List.length_cons,Nat.add_mul,Nat.one_mul,Nat.add_comm]
theorem Flat.all_append(xs ys:List α):E.all (xs++ys)=E.all xs++E.all ys:=by simp[Flat.all]
theorem Flat.all_one{xs:List α}: ∀u∈E.all xs,u.oneCell'=true:=λu hu=>by
 obtain⟨x,_,h⟩:=List.mem_flatMap.1 hu;exact E.one x u h
theorem Flat.all_get{xs:List α}{k:Nat}{x:α}(h:xs[k]?=some x){j:Nat}{u:Value}(hj:(E.cells x)[j]?=some u):(E.all xs)[k*E.size+j]?=some u:=by
 induction xs generalizing k with
 |nil=>simp at h
 |cons y r ih=>
  have e:E.all (y::r)=E.cells y++E.all r:=rfl
  cases k with
  |zero=>
   simp at h;subst h;have hlt:=(List.getElem?_eq_some_iff.1 hj).1;rw[e,Nat.zero_mul,Nat.zero_add,List.getElem?_append_left hlt];exact hj
  |succ k=>
   rw[e,List.getElem?_append_right (by rw[E.len,Nat.add_mul,Nat.one_mul];omega),E.len];rw[show(k+1)*E.size+j-E.size=k*E.size+j from by rw[Nat.add_mul,Nat.one_mul];omega];exact ih aa7
theorem bAl: ∀(vs xs:List Value) (j:Nat),j+vs.length<=xs.length->kK xs j vs=xs.take j++vs++xs.drop (j+vs.length)
 |[],xs,j,_=>by simp[kK]
 |v::r,xs,j,h=>by
  simp only[List.length_cons]at h;rw[kK,bAl r (xs.set j v) (j+1) o7]
  have h1:(xs.set j v).take (j+1)=xs.take j++[v]:=by
   rw[List.take_add_one,List.getElem?_set_self k7,List.take_set_of_le (Nat.le_refl _)];rfl
  have h2:(xs.set j v).drop (j+1+r.length)=xs.drop (j+(r.length+1)):=by
   rw[List.drop_set_of_lt k7]
   congr 1
   omega
  rw[h1,h2];simp
theorem Flat.all_set{xs:List α}{k fo:Nat}{x x':α}{vs:List Value}(h:xs[k]?=some x)(hp:rQ (E.cells x) fo vs=some (E.cells x')):kK (E.all xs) (k*E.size+fo) vs=E.all (xs.set k x'):=by
 obtain⟨h1,h2⟩:=oX hp;rw[E.len]at h1;have hk:k<xs.length:=(List.getElem?_eq_some_iff.1 h).1
 have hxs:xs=xs.take k++x::xs.drop (k+1):=by
  have:x=xs[k]:=(List.getElem?_eq_some_iff.1 h).2.symm;rw[this];simp
 have hset:xs.set k x'=xs.take k++x'::xs.drop (k+1):=by rw[List.set_eq_take_append_cons_drop,if_pos hk]
 have htl:(xs.take k).length=k:=by simp;omega
 have ea:E.all xs=E.all (xs.take k)++(E.cells x++E.all (xs.drop (k+1))):=(congrArg E.all hxs).trans (E.all_append _ _);have la:(E.all (xs.take k)).length=k*E.size:=by rw[E.all_length,htl]
 rw[bAl _ _ _ (by rw[E.all_length];have:(k+1)*E.size<=xs.length*E.size:=Nat.mul_le_mul_right _ hk;rw[Nat.add_mul,Nat.one_mul]at this;omega)];rw[hset,E.all_append];show _=E.all (xs.take k)++(E.cells x'++E.all (xs.drop (k+1)));rw[h2,ea];generalize E.all (xs.take k)=A at*;generalize E.all (xs.drop (k+1))=B at*
 have t1:(A++(E.cells x++B)).take (k*E.size+fo)=A++(E.cells x).take fo:=by
  rw[<-la,List.take_append,List.take_of_length_le k7,show A.length+fo-A.length=fo from by omega,List.take_append_of_le_length (by rw[E.len];omega)]
 have t2:(A++(E.cells x++B)).drop (k*E.size+fo+vs.length)=(E.cells x).drop (fo+vs.length)++B:=by
  rw[<-la,Nat.add_assoc,List.drop_append,List.drop_of_length_le k7,show A.length+(fo+vs.length)-A.length=fo+vs.length from by omega,List.drop_append_of_le_length (by rw[E.len];omega)];simp
 rw[t1,t2];simp
end
def bNo:Option Addr->Nat
 |some a=>a.block
 |none=>0
def bNu:Option Addr->Nat
 |some a=>a.off
 |none=>0
section
variable {P : Program} {β : dC} {n : Nat} {Γ : Env} {H : List bD} {F : List bC} {Q : Exit -> Act -> World -> Prop} {K : Act -> World -> Prop} {T : Tab} {α : Type} {E : Flat α}
def Flat.row(E:Flat α)(v:Value)(t:TypeId)(xs:List α):bD:= .row v t E.size xs.length (E.all xs)
def Flat.sl(E:Flat α)(v:Value)(xs:List α):bC:=bC.sl (Enc.flat E.size E.cells) v xs
def dL (β:dC)(H:List bD)(F:List bC)(E:Flat α)(A:Option Addr)(xs:List α):Prop:= ∀w S,St β H S w->All F S w-> ∀k x,xs[k]?=some x->(∃b o,A=some ⟨b,o,none⟩)/\
 ∀j u,(E.cells x)[j]?=some u->w.cell? ⟨bNo A,bNu A+k*E.size+j,none⟩=some u
theorem bR{A:Option Addr}{l c:Nat}{xs:List α}(h:Has F (E.sl (.slice A l c) xs)):dL β H F E A xs:=λw S _ k i x hi=>by
 obtain⟨A',cap,e,h⟩:=h S w k;obtain⟨b,o,cs,e1,e2,e3,e4⟩:=h i x hi;injection e with e
 subst e;subst e1;have e4:cs=E.cells x:=e4;subst e4;exact⟨⟨b,o,rfl⟩,e3⟩
theorem cM{A:Option Addr}{t:TypeId}{m cap:Nat}{xs:List α}{H':List bD}(hH:bW H (E.row (.slice A m cap) t xs) H'):dL β H F E A xs:=λw S s _ i x hi=>by
 have ho:w.ownsRow 0 t E.size (.slice A m cap) xs.length (E.all xs):=s.ok _ hH.mem;have hlt:i<xs.length:=(List.getElem?_eq_some_iff.1 hi).1
 rcases ho.2 with ⟨e,e0⟩|⟨g,cap',cur,e,_⟩
 .omega
 .injection e with e1 e2 e3
  subst e1 e2;refine⟨⟨g,0,rfl⟩,λj u hj=>?_⟩;have hj':=(List.getElem?_eq_some_iff.1 hj).1;rw[E.len]at hj';show w.cell? ⟨g,0+i*E.size+j,none⟩=some u;rw[Nat.zero_add,World.ownsRow.cellAt ho _ (by have:(i+1)*E.size<=xs.length*E.size:=Nat.mul_le_mul_right _ hlt;rw[Nat.add_mul,Nat.one_mul]at this;omega)];exact E.all_get hi hj
theorem fM(hT:dY P T){o:Oper}{v:Value}(h:nV T Γ o.op=some v):Sti P β n Γ H F o v:=λ_ w _ f _ _=>bMn hT f h w
theorem bG(hT:dY P T){o:Oper}{t e l c k:Nat}{x i:Operand}{kk:IntKind}{z:Int}{sz:Nat}{de:TD}{A:Option Addr}{xs:List α}(hr:dL β H F E A xs)(ho:o.op= .indexAddr t x i)(hx:Γ.ev x=some (.slice A l c))(hi:Γ.ev i=some (.int kk z))
  (ht:T.get t=some ⟨.slice e,sz⟩) (he:T.get e=some ⟨de,E.size⟩) (hl:l=xs.length) (hz:z=(k:Nat)) (hk:k<xs.length):Sti P β n Γ H F o (.pointer (some ⟨bNo A,bNu A+k*E.size,none⟩)):=λa w S f s hF=>by
 obtain⟨⟨b,off,rfl⟩,_⟩:=hr w S s hF k _ (List.getElem?_eq_getElem hk);subst hz;subst hl;have ha:(⟨b,off,none⟩:Addr).add (k*E.size)=⟨b,off+k*E.size,none⟩:=Addr.add_mid _ _ _
 have h0:(0:Int)<=(k:Int)/\(k:Int)<(xs.length:Int):=⟨k7,k7⟩
 unfold execOp;simp only[ho,f.ev hx,f.ev hi,Instr.indexAt,asIntOf,Sem.run_bind,Sem.run_pure,Result.andThen_ok,hT.slice ht w,h0,and_self,if_true,hT.size he,Int.toNat_natCast,ha];rfl
theorem f7(hT:dY P T){o:Oper}{t e l c k:Nat}{x i:Operand}{kk:IntKind}{z:Int}{sz:Nat}{de:TD}{A:Option Addr}{xs:List α}(hr:dL β H F E A xs)(hl:l=xs.length)(hk:k<xs.length)(ho:o.op= .indexAddr t x i:=by exact rfl)(hx:Γ.ev x=some (.slice A l c):=by exact rfl)(hi:Γ.ev i=some (.int kk z):=by exact rfl)(ht:T.get t=some ⟨.slice e,sz⟩:=by exact rfl)(he:T.get e=some ⟨de,E.size⟩:=by exact rfl)(hz:z=(k:Nat):=by exact rfl):Sti P β n Γ H F o (.pointer (some ⟨bNo A,bNu A+k*E.size,none⟩)):=bG hT hr ho hx hi ht he hl hz hk
theorem dL.knows{A:Option Addr}{xs:List α}(hr:dL β H F E A xs){k:Nat}{x:α}(hk:xs[k]?=some x)(fo:Nat):nE β H F (bNo A) (bNu A+k*E.size+fo) ((E.cells x).drop fo):=λw S s hF j u hj=>by
 have:=(hr w S s hF k x hk).2 (fo+j) u (by simpa using hj)
 rwa[<-Nat.add_assoc]at this
theorem bO(hT:dY P T){o:Oper}{t b q:Nat}{p:Operand}{cs:List Value}{i:TI}{v:Value}(hk:nE β H F b q cs)(ho:o.op= .load t p)(hp:Γ.ev p=some (.pointer (some ⟨b,q,none⟩)))(ht:T.get t=some i)(ha:aggD i.desc=false)
  (hv:cs[0]?=some v):Sti P β n Γ H F o v:=λa w S f s k=>by
 have hc:=hk w S s k 0 v hv;rw[Nat.add_zero]at hc;unfold execOp;simp only[ho,f.ev hp,Instr.loadAt,Instr.sureAddr,loadVar,Sem.run_bind,Sem.run_pure,Result.andThen_ok,hT.agg ht,ha,Bool.false_eq_true,if_false,run_load,hc]
theorem i6(hT:dY P T){o:Oper}{t b q:Nat}{p:Operand}{cs:List Value}{i:TI}{v:Value}(hk:nE β H F b q cs)(ho:o.op= .load t p:=by exact rfl)(hp:Γ.ev p=some (.pointer (some ⟨b,q,none⟩)):=by exact rfl)(ht:T.get t=some i:=by exact rfl)(ha:aggD i.desc=false:=by exact rfl)(hv:cs[0]?=some v:=by exact rfl):Sti P β n Γ H F o v:=bO hT hk ho hp ht ha hv
theorem rD(hT:dY P T){o:Oper}{t b q:Nat}{p:Operand}{cs l:List Value}{i:TI}(hk:nE β H F b q cs)(ho:o.op= .load t p)(hp:Γ.ev p=some (.pointer (some ⟨b,q,none⟩)))(ht:T.get t=some i)(ha:aggD i.desc=true)
  (hv:cut cs 0 i.size=some l):Sti P β n Γ H F o (.agg l.toArray):=λa w S f s k=>by
 obtain⟨h1,h2,h3⟩:=xB hv;have hl:=run_loadCells_list (P:=P) w ⟨b,q,none⟩ l (λj u hj=>by rw[Addr.add_mid];exact hk w S s k j u (by simpa using h3 j u hj));rw[h2]at hl;unfold execOp;simp only[ho,f.ev hp,Instr.loadAt,Instr.sureAddr,loadVar,Sem.run_bind,Sem.run_pure,Result.andThen_ok,hT.agg ht,ha,if_true,hT.size ht,hl]
theorem bZ{t:TypeId}(E:Flat α)(h:At β n Γ (E.row (.slice none 0 0) t []::H) F K):At β n Γ H F K:=at_nilrow (t:=t) (sz:=E.size) h
theorem at_rowv{v:Value}{t:TypeId}{xs:List α}{H':List bD}(hH:bW H (E.row v t xs) H')(h: ∀A cap,v= .slice A xs.length cap->At β n Γ H F K):At β n Γ H F K:=at_row hH λ_ ⟨A,cap,e,_⟩=>h A cap e
theorem cN{ops:Array Oper}{rest:List Oper}{o:Oper}(hT:dY P T){t t' k fo m cap:Nat}{p x:Operand}{v:Value}{vs:List Value}{i:TI}{A:Option Addr}{xs:List α}{y y':α}{H':List bD}(hH:bW H (E.row (.slice A m cap) t' xs) H')(hw:want ops Γ o=some true)(ho:o.op= .store t p x)(hd:o.dst=none)
  (hp:Γ.ev p=some (.pointer (some ⟨bNo A,bNu A+k*E.size+fo,none⟩))) (hx:Γ.ev x=some v) (ht:T.get t=some i) (hc:v.cells=vs.toArray) (hs:Nat.beq vs.length i.size=true)
  (h1:vs.all (·.oneCell')=true) (hk:xs[k]?=some y) (hput:rQ (E.cells y) fo vs=some (E.cells y')) (K:At β n Γ (E.row (.slice A m cap) t' (xs.set k y')::H') F (wpList P ops Q rest)):At β n Γ H F (wpList P ops Q (o::rest)):=by
 have hlt:k<xs.length:=(List.getElem?_eq_some_iff.1 hk).1;refine at_row hH λ_ ⟨A',cap',e,hA⟩=>?_;injection e with e1 e2 e3
 subst e1 e2 e3;obtain⟨g,rfl⟩:=hA k7;have hb:=(oX hput).1;rw[E.len]at hb;have hmul:(k+1)*E.size<=xs.length*E.size:=Nat.mul_le_mul_right _ hlt;rw[Nat.add_mul,Nat.one_mul]at hmul;refine at_store_row hT (off:=k*E.size+fo) hw ho hd (by rw[hp];show _=some (Value.pointer (some ⟨g,_,none⟩));simp[bNo,bNu]) hx (t':=t') (m:=xs.length) (cap:=cap) (sz:=E.size) hH ht hc hs h1 k7 (E.all_set hk hput) ?_;have K':=K;unfold Flat.row at K';rw[List.length_set]at K';exact K'
theorem bGz{ops:Array Oper}{rest:List Oper}{o:Oper}{d:Nat}{x y:Operand}{t e:TypeId}{i:TypeInfo}{z:Value}{by_ c q:Nat}{v:Value}{A:Option Addr}{xs ys:List α}{H':List bD}(hH:bW H (E.row v e xs) H')(hr:dL β H F E A ys)(hg:o.guard=none)
  (ho:o.op= .call {callee:= .builtin .append,args:= #[x,y],argTypes:= #[t,t]}) (hd:o.dst=some d) (hn:Nat.blt d n=true) (hu:P.underlying t=some (.slice e)) (hi:P.info? e=some i) (hz:i.zero=some z) (hsize:i.size=E.size) (hby:i.bytes=by_) (hzs:z.cells.size=E.size)
  (hx:Γ.ev x=some v) (hy:Γ.ev y=some (.slice A q c)) (hq:q=ys.length) (hne:0<ys.length) (hbytes:(xs.length+ys.length)*by_<=140737488355328) (hpos:0<by_)
  (k: ∀A' cap',At β n ((d,.slice A' (xs++ys).length cap')::Γ) (E.row (.slice A' (xs++ys).length cap') e (xs++ys)::H') F (wpList P ops Q rest)):At β n Γ H F (wpList P ops Q (o::rest)):=λa w S f s hF=>by
 obtain⟨⟨b,off,rfl⟩,_⟩:=hr w S s hF 0 _ (List.getElem?_eq_getElem hne);subst hq
 have h63:xs.length+ys.length<=maxLen:=by
  have:xs.length+ys.length<=(xs.length+ys.length)*by_:=Nat.le_mul_of_pos_right _ hpos;simp[maxLen];omega
 refine at_append hg ho hd hn hu hi hz hsize hby hzs E.pos hx hH hy (news:=E.all ys) (E.all_length ys) (λw S s hF j u hj=>?_) E.all_one h63 hbytes (λv'=>?_) a w S f s hF
 .have hlt:=(List.getElem?_eq_some_iff.1 hj).1;rw[E.all_length]at hlt;have hk:j/E.size<ys.length:=Nat.div_lt_of_lt_mul (by rwa[Nat.mul_comm]at hlt);have hm:j%E.size<E.size:=Nat.mod_lt _ E.pos;have hx':=List.getElem?_eq_getElem hk;have hu':=List.getElem?_eq_getElem (l:=E.cells ys[j/E.size]) (i:=j%E.size) (by rw[E.len];exact hm);have e:j/E.size*E.size+j%E.size=j:=by rw[Nat.mul_comm];exact Nat.div_add_mod j E.size
  have h1:=(hr w S s hF _ _ hx').2 _ _ hu';have h2:=E.all_get hx' hu';rw[e,hj]at h2;injection h2 with h2
  have h3:=h1.trans (congrArg some h2.symm);rw[Nat.add_assoc,e]at h3;exact h3
 .have K':=k;refine at_row (H:=_::H') .head λ_ ⟨A',cap',e,_⟩=>?_;subst e;have:=k A' cap';unfold Flat.row at this;rw[E.all_append,List.length_append]at this;exact this
end
section
variable {P : Program} {β : dC} {n : Nat} {Γ : Env} {H : List bD} {F : List bC} {Q : Exit -> Act -> World -> Prop} {K : Act -> World -> Prop} {T : Tab} {α : Type} {E : Flat α}
theorem bE{f:FuncId}{fn:Func}(hf:P.funcs[f]?=some fn)(hn:(fn.name== "runtime.NumGoroutine")=false)(hb:fn.body.isNone=false)(args:Array Value)(w:World):(callFunc f args).run P w= .ok (.enter f args) w:=by
 have hp:(program:Sem Program).run P w= .ok P w:=rfl;unfold callFunc;rw[Sem.run_bind,hp,Result.andThen_ok,hf];simp only[hn,hb,Bool.false_eq_true,if_false,Sem.run_pure]
theorem j4{f:FuncId}{fn:Func}(hf:P.funcs[f]?=some fn)(args:Array Value)(w:World)(hn:(fn.name== "runtime.NumGoroutine")=false:=by exact rfl)(hb:fn.body.isNone=false:=by exact rfl):(callFunc f args).run P w= .ok (.enter f args) w:=bE hf hn hb args w
theorem bF{β:dC}{n:Nat}{Γ:Env}{H:List bD}{F:List bC}{Q:Exit->Act->World->Prop}{fn:Func}{ι:Type}{ops:Array Oper}{rest:List Oper}{o:Oper}{d:Nat}{f:FuncId}{ars:Array Operand}{ts:Array TypeId}{vs:List Value}{Hin H2:List bD}{Pre:List bC}{val:ι->Value}{Hout:ι->List bD}{post:ι->List bC}(hf:P.funcs[f]?=some fn)(hs:cE P f vs Hin Pre val Hout post)(ho:o.op= .call ⟨.value (.func f),ars,ts⟩)(hv:Γ.evs ars.toList=some vs)(hH:Split H Hin H2)(hF:bA F Pre)(k: ∀x,At β n ((d,val x)::Γ) (Hout x++H2) (post x++F) (wpList P ops Q rest))(hw:want ops Γ o=some true:=by exact rfl)(hd:o.dst=some d:=by exact rfl)(hn:Nat.blt d n=true:=by exact rfl)(h1:(fn.name== "runtime.NumGoroutine")=false:=by exact rfl)(h2:fn.body.isNone=false:=by exact rfl):At β n Γ H F (wpList P ops Q (o::rest)):=at_call (bE hf h1 h2) hs hw ho hd hn hv hH hF k
theorem f9{β:dC}{n:Nat}{Γ:Env}{H:List bD}{F:List bC}{Q:Exit->Act->World->Prop}{fn:Func}{ι:Type}{ops:Array Oper}{rest:List Oper}{o:Oper}{d:Nat}{f:FuncId}{ars:Array Operand}{ts:Array TypeId}{vs:List Value}{Hin H2:List bD}{Pre:List bC}{val:ι->Value}{Hout:ι->List bD}{post:ι->List bC}(hf:P.funcs[f]?=some fn)(hs:cE P f vs Hin Pre val Hout post)(hH:Split H Hin H2)(hF:bA F Pre)(k: ∀x,At β n ((d,val x)::Γ) (Hout x++H2) (post x++F) (wpList P ops Q rest))(ho:o.op= .call ⟨.value (.func f),ars,ts⟩:=by exact rfl)(hv:Γ.evs ars.toList=some vs:=by exact rfl)(hw:want ops Γ o=some true:=by exact rfl)(hd:o.dst=some d:=by exact rfl)(hn:Nat.blt d n=true:=by exact rfl)(h1:(fn.name== "runtime.NumGoroutine")=false:=by exact rfl)(h2:fn.body.isNone=false:=by exact rfl):At β n Γ H F (wpList P ops Q (o::rest)):=bF hf hs ho hv hH hF k (hw:=hw) (hd:=hd) (hn:=hn) (h1:=h1) (h2:=h2)
theorem jA{v:Value}{t:TypeId}{xs:List α}{H':List bD}(hH:bW H (E.row v t xs) H')(h:At β n Γ H' (E.sl v xs::F) K):At β n Γ H F K:=λa w S f s k=>by
 have s2:=s.perm hH.perm;have hok:w.ownsRow 0 t E.size v xs.length (E.all xs):=s2.ok _ (List.mem_cons_self ..);have hsep:=List.pairwise_cons.1 s2.sep;have hown:=s2.own _ (List.mem_cons_self ..);have hmono:All F (λb=>S b\/v.ownBlock=some b) w:=All.mono (λ_ h=> .inl h) (λ_ _=>rfl) k;refine h a w (λb=>S b\/v.ownBlock=some b) f ⟨s2.kept,λc hc=>s2.ok c (List.mem_cons_of_mem _ hc),λc hc b hb=>?_,hsep.2,λb hb=>?_⟩ (All.cons ?_ hmono)
 .obtain⟨h1,h2,h3⟩:=s2.own c (List.mem_cons_of_mem _ hc) b hb;refine⟨h1,h2,λh=>?_⟩
  rcases h with h|h
  .exact h3 h
  .exact hsep.1 c hc b h hb
 .rcases hb with hb|hb
  .exact s2.zone b hb
  .obtain⟨h1,h2,_⟩:=hown b hb;exact⟨h1,.inr h2⟩
 .exact row_slice hok λb hb=> .inr hb
where
 row_slice {v:Value} {t:TypeId} {xs:List α} {S:jF} {w:World} (hok:w.ownsRow 0 t E.size v xs.length (E.all xs)) (hS: ∀b,v.ownBlock=some b->S b):(E.sl v xs).p S w:=by
  rcases hok.2 with ⟨e,e0⟩|⟨g,cap,cur,e,_⟩
  .have:xs=[]:=List.eq_nil_of_length_eq_zero e0;subst this;exact⟨none,0,e,λk x hk=>by simp at hk⟩
  .subst e;refine⟨_,cap,rfl,λk x hk=>⟨g,0,E.cells x,rfl,hS g rfl,λj u hj=>?_,rfl⟩⟩;have hlt:k<xs.length:=(List.getElem?_eq_some_iff.1 hk).1;have hj':=(List.getElem?_eq_some_iff.1 hj).1;rw[E.len]at hj';show w.cell? ⟨g,0+k*E.size+j,none⟩=some u;rw[Nat.zero_add,World.ownsRow.cellAt hok _ (by have:(k+1)*E.size<=xs.length*E.size:=Nat.mul_le_mul_right _ hlt;rw[Nat.add_mul,Nat.one_mul]at this;omega)];exact E.all_get hk hj
def vZ (L:List bD)(G:List bC):Prop:= ∀S w,(∀c∈L,c.ok w)->(∀c∈L,∀b,c.blk=some b->S b)->All G S w
theorem oQ:vZ [] []:=λ_ _ _ _ g hg=>by simp at hg
theorem rC{v:Value}{t:TypeId}{xs:List α}{L:List bD}{G:List bC}(h:vZ L G):vZ (E.row v t xs::L) (E.sl v xs::G):=λS w hok hS=>
 All.cons (jA.row_slice (hok _ (List.mem_cons_self ..)) λb hb=>hS _ (List.mem_cons_self ..) b hb) (h S w (λc hc=>hok c (List.mem_cons_of_mem _ hc)) λc hc=>hS c (List.mem_cons_of_mem _ hc))
theorem St.lend{Hin L H2:List bD}{S:jF}{w:World}(s:St β (Hin++(L++H2)) S w):St ⟨w,kV Hin,λb=>S b\/kV L b⟩ Hin (λb=>S b\/kV L b) w where
 kept:=nP.refl _ _
 ok:=λc hc=>s.ok c (List.mem_append_left _ hc)
 own:=λc hc b hb=>⟨(s.own c (List.mem_append_left _ hc) b hb).1,.inl ⟨c,hc,hb⟩,λh=>by
  rcases h with h|⟨d,hd,hdb⟩
  .exact(s.own c (List.mem_append_left _ hc) b hb).2.2 h
  .exact(List.pairwise_append.1 s.sep).2.2 c hc d (List.mem_append_left _ hd) b hb hdb⟩
 sep:=(List.pairwise_append.1 s.sep).1
 zone:=λb hb=>⟨by
  rcases hb with hb|⟨d,hd,hdb⟩
  .exact(s.zone b hb).1
  .exact(s.own d (List.mem_append_right _ (List.mem_append_left _ hd)) b hdb).1,.inl hb⟩
theorem St.leave'{Hin Hout H1:List bD}{S S' Z:jF}{w w':World}(s:St β (Hin++H1) S w)(s':St ⟨w,kV Hin,Z⟩ Hout S' w'):St β (Hout++H1) S w':=by
 have sp:=List.pairwise_append.1 s.sep;have hin: ∀b,kV Hin b->b<w.heap.size/\(β.M b\/β.w.heap.size<=b)/\ ¬S b:=λb ⟨c,hc,hb⟩=>s.own c (List.mem_append_left _ hc) b hb
 have h2: ∀c∈H1,∀b,c.blk=some b->b<w.heap.size/\(β.M b\/β.w.heap.size<=b)/\ ¬S b/\ ¬kV Hin b:=λc hc b hb=>by
  obtain⟨h1,h2,h3⟩:=s.own c (List.mem_append_right _ hc) b hb;exact⟨h1,h2,h3,λ⟨d,hd,hdb⟩=>sp.2.2 d hd c hc b hdb hb⟩
 refine⟨s.kept.trans s'.kept (λi hi=>(hin i hi).2.1),λc hc=>?_,λc hc b hb=>?_,List.pairwise_append.2 ⟨s'.sep,sp.2.1,λc hc d hd b hb hdb=>?_⟩,λb hb=>⟨Nat.lt_of_lt_of_le (s.zone b hb).1 s'.kept.size,(s.zone b hb).2⟩⟩
 .rcases List.mem_append.1 hc with hc|hc
  .exact s'.ok c hc
  .exact bD.ok_of (s.ok c (List.mem_append_right _ hc)) λb hb=>s'.kept.block b (h2 c hc b hb).1 (h2 c hc b hb).2.2.2
 .rcases List.mem_append.1 hc with hc|hc
  .obtain⟨a1,a2,a3⟩:=s'.own c hc b hb;refine⟨a1,?_,λh=>?_⟩
   .rcases a2 with a2|a2
    .exact(hin b a2).2.1
    .exact .inr (Nat.le_trans s.kept.size a2)
   .rcases a2 with a2|a2
    .exact(hin b a2).2.2 h
    .exact absurd (s.zone b h).1 (Nat.not_lt.2 a2)
  .obtain⟨a1,a2,a3,a4⟩:=h2 c hc b hb;exact⟨Nat.lt_of_lt_of_le a1 s'.kept.size,a2,a3⟩
 .obtain⟨a1,_,_,a4⟩:=h2 d hd b hdb
  rcases (s'.own c hc b hb).2.1 with a2|a2
  .exact a4 a2
  .exact absurd a1 (Nat.not_lt.2 a2)
theorem kC{ι:Type}{ops:Array Oper}{rest:List Oper}{o:Oper}{d:Nat}{f:FuncId}{ars:Array Operand}{ts:Array TypeId}{vs:List Value}{Hin H1 L H2:List bD}{G Pre:List bC}{val:ι->Value}{Hout:ι->List bD}{post:ι->List bC}
  (hcf: ∀(args:Array Value) (w:World),(callFunc f args).run P w= .ok (.enter f args) w) (hs:cE P f vs Hin Pre val Hout post) (hw:want ops Γ o=some true) (ho:o.op= .call ⟨.value (.func f),ars,ts⟩) (hd:o.dst=some d) (hn:Nat.blt d n=true)
  (hv:Γ.evs ars.toList=some vs) (hH:Split H Hin H1) (hL:Split H1 L H2) (hG:vZ L G) (hF:bA (G++F) Pre) (ps:ι->Prop) (hp: ∀x S w,All (post x) S w->ps x)
  (k: ∀x,ps x->At β n ((d,val x)::Γ) (Hout x++H1) F (wpList P ops Q rest)):At β n Γ H F (wpList P ops Q (o::rest)):=
 fY hw λa w S f s hk=>by
  unfold Oper.wp;rw[bLp hcf ho f hv w,Oper.upon_enter];have s1:=s.perm hH.perm;have s2:=s1.perm (hL.perm.append_left Hin);have hall:All (G++F) (λb=>S b\/kV L b) w:=(hG _ w (λc hc=>s2.ok c (List.mem_append_right _ (List.mem_append_left _ hc))) (λc hc b hb=> .inr ⟨c,hc,hb⟩)).append (All.mono (λ_ h=> .inl h) (λ_ _=>rfl) hk);refine(hs _ w s2.lend (hF.all _ w hall)).mono ?_;rintro e w' ⟨x,S',rfl,s',k'⟩;show wpList P ops Q rest (a.put o.dst (val x)) w';rw[hd];refine k x (hp x _ _ k') _ _ S (f.put l9 _) (s1.leave' s') (All.mono (λ_ h=>h) (λb hb=>s'.kept.block b (s.zone b hb).1 (λ⟨c,hc,h⟩=>(s1.own c (List.mem_append_left _ hc) b h).2.2 hb)) hk)
theorem pC{f:FuncId}{args:List Value}{Pre:List bC}{v:Value}(h: ∀S w,(∀b,S b->b<w.heap.size)->All Pre S w->Calls P f args.toArray w λe w'=>e= .returned v/\Below w.heap.size w w'):
  cE P f args [] Pre (λ_:Unit=>v) (λ_=>[]) (λ_=>[]):=λS w s k=>by
 refine(h S w (λb hb=>(s.zone b hb).1) k).mono ?_;rintro e w' ⟨rfl,hb⟩;exact⟨(),S,rfl,⟨nP.of_below _ hb,λc hc=>by simp at hc,λc hc=>by simp at hc,List.Pairwise.nil,λb hb'=>⟨Nat.lt_of_lt_of_le (s.zone b hb').1 hb.size,.inl hb'⟩⟩,λg hg=>by simp at hg⟩
theorem bN{d:Nat}{k:IntKind}{z z':Int}(hz:z=z')(h:At β n ((d,.int k z')::Γ) H F K):At β n ((d,.int k z)::Γ) H F K:=by rw[hz];exact h
theorem at_val{d:Nat}{v v':Value}(hz:v=v')(h:At β n ((d,v')::Γ) H F K):At β n ((d,v)::Γ) H F K:=by rw[hz];exact h
theorem cD{d:Nat}{t:Bool}(ht:t=true->At β n ((d,.bool true)::Γ) H F K)(hf:t=false->At β n ((d,.bool false)::Γ) H F K):At β n ((d,.bool t)::Γ) H F K:=by
 cases t
 .exact hf rfl
 .exact ht rfl
theorem zE{z:Int}{k:Nat}(h:z=k)(hk:k<9223372036854775808):IntKind.i64.wrap z=k:=by
 subst h;simp only[IntKind.wrap,IntKind.signed,IntKind.bits];simp;omega
theorem mF{z:Int}(h1: -9223372036854775808<=z)(h2:z<9223372036854775808):IntKind.i64.wrap z=z:=by
 simp only[IntKind.wrap,IntKind.signed,IntKind.bits];simp;omega
def Env.parts(Γ:Env):List (Nat×Operand)->Option (List (Nat×Value))
 |[]=>some []
 |(i,x)::r=>match Γ.ev x,Γ.parts r with
  |some v,some vs=>some ((i,v)::vs)
  |_,_=>none
theorem Fits.parts{a:Act}(h:Fits n Γ a): ∀{ps:List (Nat×Operand)} {vs:List (Nat×Value)},Γ.parts ps=some vs->ps.map (λp=>(p.1,a.eval p.2))=vs
 |[],vs,hx=>by simp[Env.parts]at hx;simp[hx]
 |(i,x)::r,vs,hx=>by
  unfold Env.parts at hx
  cases hv:Γ.ev x with
  |none=>simp[hv]at hx
  |some v=>
   cases hr:Γ.parts r with
   |none=>simp[hv,hr]at hx
   |some us=>
    simp[hv,hr]at hx;subst hx;simp[h.ev hv,h.parts hr]
theorem cK{o:Oper}{t:TypeId}{ps:Array (Nat×Operand)}{vs:List (Nat×Value)}{cs:Array Value}(ho:o.op= .build t ps)(hv:Γ.parts ps.toList=some vs)(hb:P.built t vs=some cs):Sti P β n Γ H F o (.agg cs):=λa w S f s k=>by
 have hm:=f.parts hv;have:(ps.map λ(i,x)=>(i,a.eval x)).toList=vs:=by rw[Array.toList_map];exact hm
 unfold execOp;simp only[ho];rw[Sem.run_bind,run_build w t _ cs (by rw[this];exact hb)];rfl
theorem bX{ops:Array Oper}{rest:List Oper}{o:Oper}{d:Nat}{t:TypeId}{z:Value}{cs:List Value}(hw:want ops Γ o=some true)(ho:o.op= .alloc t)(hd:o.dst=some d)(hn:Nat.blt d n=true)
  (hz:(P.info? t).bind (·.zero)=some z) (hc:z.cells=cs.toArray) (k: ∀b,At β n ((d,.pointer (some ⟨b,0,none⟩))::Γ) (.obj b (.cells cs.toArray t)::H) F (wpList P ops Q rest)):At β n Γ H F (wpList P ops Q (o::rest)):=
 fY hw λa w S f s hk=>by
  have hr:(execOp a.eval o).run P w= .ok (.value (.pointer (some ⟨w.heap.size,0,none⟩))) (w.alloc (.cells cs.toArray t)):=by
   cases hi:P.info? t with
   |none=>simp[hi]at hz
   |some i=>
    simp[hi]at hz;have hzv:(zeroValue t).run P w= .ok z w:=by simp[zeroValue,typeInfo,hi,hz]
    unfold execOp;simp only[ho,Instr.alloc,Sem.run_bind,hzv,Result.andThen_ok,newVar,newRow,hc];rfl
  unfold Oper.wp;rw[hr,Oper.upon_value,hd];exact k _ _ _ S (f.put l9 _) (s.alloc _) (All.alloc s hk _)
theorem i7{ops:Array Oper}{rest:List Oper}{o:Oper}{d:Nat}{t:TypeId}{z:Value}{cs:List Value}(hz:(P.info? t).bind (·.zero)=some z)(k: ∀b,At β n ((d,.pointer (some ⟨b,0,none⟩))::Γ) (.obj b (.cells cs.toArray t)::H) F (wpList P ops Q rest))(hw:want ops Γ o=some true:=by exact rfl)(ho:o.op= .alloc t:=by exact rfl)(hd:o.dst=some d:=by exact rfl)(hn:Nat.blt d n=true:=by exact rfl)(hc:z.cells=cs.toArray:=by exact rfl):At β n Γ H F (wpList P ops Q (o::rest)):=bX hw ho hd hn hz hc k
theorem gB{b:Nat}{t:TypeId}{xs:List α}{H':List bD}{cs:List Value}(hH:bW H (.obj b (.cells cs.toArray t)) H')(hcs:cs=E.all xs):dL β H F E (some ⟨b,0,none⟩) xs:=λw S s _ i x hi=>by
 have h:w.heap[b]?=some (.cells cs.toArray t):=s.ok _ hH.mem;refine⟨⟨b,0,rfl⟩,λj u hj=>?_⟩;show w.cell? ⟨b,0+i*E.size+j,none⟩=some u;unfold World.cell?;rw[h,hcs];have:=E.all_get hi hj
 simpa using this
theorem pK(hT:dY P T){o:Oper}{t e b off m k:Nat}{x i:Operand}{kk:IntKind}{z:Int}{sz:Nat}{ei:TI}(ho:o.op= .indexAddr t x i)(hx:Γ.ev x=some (.pointer (some ⟨b,off,none⟩)))(hi:Γ.ev i=some (.int kk z))
  (ht:T.get t=some ⟨.array m e,sz⟩) (he:T.get e=some ei) (hz:z=(k:Nat)) (hk:k<m):Sti P β n Γ H F o (.pointer (some ⟨b,off+k*ei.size,none⟩)):=λa w S f s _=>by
 subst hz;have ha:(⟨b,off,none⟩:Addr).add (k*ei.size)=⟨b,off+k*ei.size,none⟩:=Addr.add_mid _ _ _
 have h0:(0:Int)<=(k:Int)/\(k:Int)<(m:Int):=⟨k7,k7⟩
 unfold execOp;simp only[ho,f.ev hx,f.ev hi,Instr.indexAt,Instr.sureAddr,asIntOf,Sem.run_bind,Sem.run_pure,Result.andThen_ok,hT.array ht,h0,and_self,if_true,hT.size he,Int.toNat_natCast,ha]
end
theorem bA.sub{F:List bC}: ∀{G:List bC},(∀g∈G,g∈F)->bA F G
 |[],_=>trivial
 |g::_,h=>⟨Has.of (h g (List.mem_cons_self ..)),bA.sub λx hx=>h x (List.mem_cons_of_mem _ hx)⟩
theorem bA.self{F:List bC}:bA F F:=bA.sub λ_ h=>h
theorem bGl{b:Bool}(h:(!b)=true):b=false:=by cases b<;>simp_all
theorem bGp{b:Bool}(h:(!b)=false):b=true:=by cases b<;>simp_all
section
variable {P : Program} {β : dC} {n : Nat} {Γ : Env} {H : List bD} {F : List bC} {Q : Exit -> Act -> World -> Prop} {K : Act -> World -> Prop} {T : Tab} {α : Type} {E : Flat α}
theorem bPs{c:Code}(k:Nat)(h:At β n Γ H F (Code.rounds P c Q k)):At β n Γ H F ((Code.loop c).wp P Q):=λa w S f s hF=>wp_loop_rounds k (h a w S f s hF)
theorem at_round{c:Code}{k:Nat}(h:At β n Γ H F (c.wp P (Exit.then (Code.rounds P c Q k) Q))):At β n Γ H F (Code.rounds P c Q (k+1)):=λa w S f s hF=>by
 rw[rounds_succ];exact h a w S f s hF
theorem nF{ops:Array Oper}{rest:List Oper}{o:Oper}{d:Nat}{t e:TypeId}{x:Operand}{v:Value}{ie:TypeInfo}{z:Value}{cs:List Value}(hw:want ops Γ o=some true)(ho:o.op= .buildSlice t 1 #[(0,x)])(hd:o.dst=some d)(hn:Nat.blt d n=true)
  (hx:Γ.ev x=some v) (hu:P.underlying t=some (.slice e)) (hie:P.info? e=some ie) (hz:ie.zero=some z) (hs:ie.size<=16777216) (hp:0<ie.size) (hf:Instr.fill (λi=>some (i*ie.size,ie.size)) ((Array.range (1*ie.size)).map (z.cells[· %z.cells.size]!)) [(0,v)]=some cs.toArray)
  (k: ∀b,At β n ((d,.slice (some ⟨b,0,none⟩) 1 1)::Γ) (.obj b (.cells cs.toArray e)::H) F (wpList P ops Q rest)):At β n Γ H F (wpList P ops Q (o::rest)):=
 at_build (m:=1) (parts:= #[(0,x)]) (e:=e) (cs:=cs) hw ho hd hn (λa w f=>by
  have:=run_buildSlice (P:=P) w t e 1 #[(0,a.eval x)] cs.toArray ie z hu hie hz k7 k7 (by rw[f.ev hx];exact hf)
  simpa using this) k
end
section
variable {P : Program} {β : dC} {n : Nat} {Γ : Env} {H : List bD} {F : List bC} {Q : Exit -> Act -> World -> Prop} {K : Act -> World -> Prop} {T : Tab} {ops : Array Oper} {rest : List Oper} {o : Oper} {d : Nat} {v : Value}
theorem sp(hT:dY P T)(k:At β n ((d,v)::Γ) H F (wpList P ops Q rest))(hw:want ops Γ o=some true:=by exact rfl)(hd:o.dst=some d:=by exact rfl)(hn:Nat.blt d n=true:=by exact rfl)(h:nV T Γ o.op=some v:=by exact rfl):
  At β n Γ H F (wpList P ops Q (o::rest)):=iG hw hd hn (fM hT h) k
theorem ss(h:Sti P β n Γ H F o v)(k:At β n ((d,v)::Γ) H F (wpList P ops Q rest))(hw:want ops Γ o=some true:=by exact rfl)(hd:o.dst=some d:=by exact rfl)(hn:Nat.blt d n=true:=by exact rfl):
  At β n Γ H F (wpList P ops Q (o::rest)):=iG hw hd hn h k
theorem sk(k:At β n ((d,undef)::Γ) H F (wpList P ops Q rest))(hw:want ops Γ o=some false:=by exact rfl)(hd:o.dst=some d:=by exact rfl)(hn:Nat.blt d n=true:=by exact rfl):
  At β n Γ H F (wpList P ops Q (o::rest)):=bJn hw hd hn k
theorem sp2(hT:dY P T){o2:Oper}{d2:Nat}{v2:Value}(k:At β n ((d2,v2)::(d,v)::Γ) H F (wpList P ops Q rest))(w0:want ops (Γ) o=some true:=by exact rfl)(e0:o.dst=some d:=by exact rfl)(l0:Nat.blt d n=true:=by exact rfl)(p0:nV T (Γ) o.op=some v:=by exact rfl)(w1:want ops ((d,v)::Γ) o2=some true:=by exact rfl)(e1:o2.dst=some d2:=by exact rfl)(l1:Nat.blt d2 n=true:=by exact rfl)(p1:nV T ((d,v)::Γ) o2.op=some v2:=by exact rfl):
  At β n Γ H F (wpList P ops Q (o::o2::rest)):=sp hT (sp hT (k) w1 e1 l1 p1) w0 e0 l0 p0
theorem sp3(hT:dY P T){o2 o3:Oper}{d2 d3:Nat}{v2 v3:Value}(k:At β n ((d3,v3)::(d2,v2)::(d,v)::Γ) H F (wpList P ops Q rest))(w0:want ops (Γ) o=some true:=by exact rfl)(e0:o.dst=some d:=by exact rfl)(l0:Nat.blt d n=true:=by exact rfl)(p0:nV T (Γ) o.op=some v:=by exact rfl)(w1:want ops ((d,v)::Γ) o2=some true:=by exact rfl)(e1:o2.dst=some d2:=by exact rfl)(l1:Nat.blt d2 n=true:=by exact rfl)(p1:nV T ((d,v)::Γ) o2.op=some v2:=by exact rfl)(w2:want ops ((d2,v2)::(d,v)::Γ) o3=some true:=by exact rfl)(e2:o3.dst=some d3:=by exact rfl)(l2:Nat.blt d3 n=true:=by exact rfl)(p2:nV T ((d2,v2)::(d,v)::Γ) o3.op=some v3:=by exact rfl):
  At β n Γ H F (wpList P ops Q (o::o2::o3::rest)):=sp hT (sp hT (sp hT (k) w2 e2 l2 p2) w1 e1 l1 p1) w0 e0 l0 p0
theorem sp4(hT:dY P T){o2 o3 o4:Oper}{d2 d3 d4:Nat}{v2 v3 v4:Value}(k:At β n ((d4,v4)::(d3,v3)::(d2,v2)::(d,v)::Γ) H F (wpList P ops Q rest))(w0:want ops (Γ) o=some true:=by exact rfl)(e0:o.dst=some d:=by exact rfl)(l0:Nat.blt d n=true:=by exact rfl)(p0:nV T (Γ) o.op=some v:=by exact rfl)(w1:want ops ((d,v)::Γ) o2=some true:=by exact rfl)(e1:o2.dst=some d2:=by exact rfl)(l1:Nat.blt d2 n=true:=by exact rfl)(p1:nV T ((d,v)::Γ) o2.op=some v2:=by exact rfl)(w2:want ops ((d2,v2)::(d,v)::Γ) o3=some true:=by exact rfl)(e2:o3.dst=some d3:=by exact rfl)(l2:Nat.blt d3 n=true:=by exact rfl)(p2:nV T ((d2,v2)::(d,v)::Γ) o3.op=some v3:=by exact rfl)(w3:want ops ((d3,v3)::(d2,v2)::(d,v)::Γ) o4=some true:=by exact rfl)(e3:o4.dst=some d4:=by exact rfl)(l3:Nat.blt d4 n=true:=by exact rfl)(p3:nV T ((d3,v3)::(d2,v2)::(d,v)::Γ) o4.op=some v4:=by exact rfl):
  At β n Γ H F (wpList P ops Q (o::o2::o3::o4::rest)):=sp hT (sp hT (sp hT (sp hT (k) w3 e3 l3 p3) w2 e2 l2 p2) w1 e1 l1 p1) w0 e0 l0 p0
theorem kT1{c0 c1:bD}{l:List bD}:bW (c0::c1::l) c1 (c0::l):=bW.tail (bW.head)
theorem kT2{c0 c1 c2:bD}{l:List bD}:bW (c0::c1::c2::l) c2 (c0::c1::l):=bW.tail (bW.tail (bW.head))
theorem kT3{c0 c1 c2 c3:bD}{l:List bD}:bW (c0::c1::c2::c3::l) c3 (c0::c1::c2::l):=bW.tail (bW.tail (bW.tail (bW.head)))
theorem kT4{c0 c1 c2 c3 c4:bD}{l:List bD}:bW (c0::c1::c2::c3::c4::l) c4 (c0::c1::c2::c3::l):=bW.tail (bW.tail (bW.tail (bW.tail (bW.head))))
theorem kT5{c0 c1 c2 c3 c4 c5:bD}{l:List bD}:bW (c0::c1::c2::c3::c4::c5::l) c5 (c0::c1::c2::c3::c4::l):=bW.tail (bW.tail (bW.tail (bW.tail (bW.tail (bW.head)))))
theorem kT6{c0 c1 c2 c3 c4 c5 c6:bD}{l:List bD}:bW (c0::c1::c2::c3::c4::c5::c6::l) c6 (c0::c1::c2::c3::c4::c5::l):=bW.tail (bW.tail (bW.tail (bW.tail (bW.tail (bW.tail (bW.head))))))
theorem kT7{c0 c1 c2 c3 c4 c5 c6 c7:bD}{l:List bD}:bW (c0::c1::c2::c3::c4::c5::c6::c7::l) c7 (c0::c1::c2::c3::c4::c5::c6::l):=bW.tail (bW.tail (bW.tail (bW.tail (bW.tail (bW.tail (bW.tail (bW.head)))))))
theorem Sel.c0{c0:bD}{l R:List bD}(k:Sel (l) R):Sel (c0::l) (c0::R):= .cons .head k
theorem Split.c0{c0:bD}{l R X:List bD}(k:Split (l) R X):Split (c0::l) (c0::R) X:= .cons .head k
theorem Sel.c1{c0 c1:bD}{l R:List bD}(k:Sel (c0::l) R):Sel (c0::c1::l) (c1::R):= .cons kT1 k
theorem Split.c1{c0 c1:bD}{l R X:List bD}(k:Split (c0::l) R X):Split (c0::c1::l) (c1::R) X:= .cons kT1 k
theorem Sel.c2{c0 c1 c2:bD}{l R:List bD}(k:Sel (c0::c1::l) R):Sel (c0::c1::c2::l) (c2::R):= .cons kT2 k
theorem Split.c2{c0 c1 c2:bD}{l R X:List bD}(k:Split (c0::c1::l) R X):Split (c0::c1::c2::l) (c2::R) X:= .cons kT2 k
theorem Sel.c3{c0 c1 c2 c3:bD}{l R:List bD}(k:Sel (c0::c1::c2::l) R):Sel (c0::c1::c2::c3::l) (c3::R):= .cons kT3 k
theorem Split.c3{c0 c1 c2 c3:bD}{l R X:List bD}(k:Split (c0::c1::c2::l) R X):Split (c0::c1::c2::c3::l) (c3::R) X:= .cons kT3 k
theorem Sel.c4{c0 c1 c2 c3 c4:bD}{l R:List bD}(k:Sel (c0::c1::c2::c3::l) R):Sel (c0::c1::c2::c3::c4::l) (c4::R):= .cons kT4 k
theorem Split.c4{c0 c1 c2 c3 c4:bD}{l R X:List bD}(k:Split (c0::c1::c2::c3::l) R X):Split (c0::c1::c2::c3::c4::l) (c4::R) X:= .cons kT4 k
theorem Sel.c5{c0 c1 c2 c3 c4 c5:bD}{l R:List bD}(k:Sel (c0::c1::c2::c3::c4::l) R):Sel (c0::c1::c2::c3::c4::c5::l) (c5::R):= .cons kT5 k
theorem Split.c5{c0 c1 c2 c3 c4 c5:bD}{l R X:List bD}(k:Split (c0::c1::c2::c3::c4::l) R X):Split (c0::c1::c2::c3::c4::c5::l) (c5::R) X:= .cons kT5 k
theorem Sel.c6{c0 c1 c2 c3 c4 c5 c6:bD}{l R:List bD}(k:Sel (c0::c1::c2::c3::c4::c5::l) R):Sel (c0::c1::c2::c3::c4::c5::c6::l) (c6::R):= .cons kT6 k
theorem Split.c6{c0 c1 c2 c3 c4 c5 c6:bD}{l R X:List bD}(k:Split (c0::c1::c2::c3::c4::c5::l) R X):Split (c0::c1::c2::c3::c4::c5::c6::l) (c6::R) X:= .cons kT6 k
theorem Sel.c7{c0 c1 c2 c3 c4 c5 c6 c7:bD}{l R:List bD}(k:Sel (c0::c1::c2::c3::c4::c5::c6::l) R):Sel (c0::c1::c2::c3::c4::c5::c6::c7::l) (c7::R):= .cons kT7 k
theorem Split.c7{c0 c1 c2 c3 c4 c5 c6 c7:bD}{l R X:List bD}(k:Split (c0::c1::c2::c3::c4::c5::c6::l) R X):Split (c0::c1::c2::c3::c4::c5::c6::c7::l) (c7::R) X:= .cons kT7 k
theorem kT8{c0 c1 c2 c3 c4 c5 c6 c7 c8:bD}{l:List bD}:bW (c0::c1::c2::c3::c4::c5::c6::c7::c8::l) c8 (c0::c1::c2::c3::c4::c5::c6::c7::l):=bW.tail (bW.tail (bW.tail (bW.tail (bW.tail (bW.tail (bW.tail (bW.tail (bW.head))))))))
theorem kT9{c0 c1 c2 c3 c4 c5 c6 c7 c8 c9:bD}{l:List bD}:bW (c0::c1::c2::c3::c4::c5::c6::c7::c8::c9::l) c9 (c0::c1::c2::c3::c4::c5::c6::c7::c8::l):=bW.tail (bW.tail (bW.tail (bW.tail (bW.tail (bW.tail (bW.tail (bW.tail (bW.tail (bW.head)))))))))
theorem bDp{c0 c1 c2 c3 c4 c5 c6 c7 c8 c9 c10:bD}{l:List bD}:bW (c0::c1::c2::c3::c4::c5::c6::c7::c8::c9::c10::l) c10 (c0::c1::c2::c3::c4::c5::c6::c7::c8::c9::l):=bW.tail (bW.tail (bW.tail (bW.tail (bW.tail (bW.tail (bW.tail (bW.tail (bW.tail (bW.tail (bW.head))))))))))
theorem bDf{c0 c1 c2 c3 c4 c5 c6 c7 c8 c9 c10 c11:bD}{l:List bD}:bW (c0::c1::c2::c3::c4::c5::c6::c7::c8::c9::c10::c11::l) c11 (c0::c1::c2::c3::c4::c5::c6::c7::c8::c9::c10::l):=bW.tail (bW.tail (bW.tail (bW.tail (bW.tail (bW.tail (bW.tail (bW.tail (bW.tail (bW.tail (bW.tail (bW.head)))))))))))
theorem bDm{c0 c1 c2 c3 c4 c5 c6 c7 c8 c9 c10 c11 c12:bD}{l:List bD}:bW (c0::c1::c2::c3::c4::c5::c6::c7::c8::c9::c10::c11::c12::l) c12 (c0::c1::c2::c3::c4::c5::c6::c7::c8::c9::c10::c11::l):=bW.tail (bW.tail (bW.tail (bW.tail (bW.tail (bW.tail (bW.tail (bW.tail (bW.tail (bW.tail (bW.tail (bW.tail (bW.head))))))))))))
theorem bDd{c0 c1 c2 c3 c4 c5 c6 c7 c8 c9 c10 c11 c12 c13:bD}{l:List bD}:bW (c0::c1::c2::c3::c4::c5::c6::c7::c8::c9::c10::c11::c12::c13::l) c13 (c0::c1::c2::c3::c4::c5::c6::c7::c8::c9::c10::c11::c12::l):=bW.tail (bW.tail (bW.tail (bW.tail (bW.tail (bW.tail (bW.tail (bW.tail (bW.tail (bW.tail (bW.tail (bW.tail (bW.tail (bW.head)))))))))))))
theorem mT0{α:Type}{a0:α}{l:List α}:a0∈a0::l:= .head _
theorem mT1{α:Type}{a0 a1:α}{l:List α}:a1∈a0::a1::l:= .tail _ (.head _)
theorem mT2{α:Type}{a0 a1 a2:α}{l:List α}:a2∈a0::a1::a2::l:= .tail _ (.tail _ (.head _))
theorem mT3{α:Type}{a0 a1 a2 a3:α}{l:List α}:a3∈a0::a1::a2::a3::l:= .tail _ (.tail _ (.tail _ (.head _)))
theorem mT4{α:Type}{a0 a1 a2 a3 a4:α}{l:List α}:a4∈a0::a1::a2::a3::a4::l:= .tail _ (.tail _ (.tail _ (.tail _ (.head _))))
theorem mT5{α:Type}{a0 a1 a2 a3 a4 a5:α}{l:List α}:a5∈a0::a1::a2::a3::a4::a5::l:= .tail _ (.tail _ (.tail _ (.tail _ (.tail _ (.head _)))))
theorem mT6{α:Type}{a0 a1 a2 a3 a4 a5 a6:α}{l:List α}:a6∈a0::a1::a2::a3::a4::a5::a6::l:= .tail _ (.tail _ (.tail _ (.tail _ (.tail _ (.tail _ (.head _))))))
theorem mT7{α:Type}{a0 a1 a2 a3 a4 a5 a6 a7:α}{l:List α}:a7∈a0::a1::a2::a3::a4::a5::a6::a7::l:= .tail _ (.tail _ (.tail _ (.tail _ (.tail _ (.tail _ (.tail _ (.head _)))))))
theorem mT8{α:Type}{a0 a1 a2 a3 a4 a5 a6 a7 a8:α}{l:List α}:a8∈a0::a1::a2::a3::a4::a5::a6::a7::a8::l:= .tail _ (.tail _ (.tail _ (.tail _ (.tail _ (.tail _ (.tail _ (.tail _ (.head _))))))))
theorem mT9{α:Type}{a0 a1 a2 a3 a4 a5 a6 a7 a8 a9:α}{l:List α}:a9∈a0::a1::a2::a3::a4::a5::a6::a7::a8::a9::l:= .tail _ (.tail _ (.tail _ (.tail _ (.tail _ (.tail _ (.tail _ (.tail _ (.tail _ (.head _)))))))))
theorem mT10{α:Type}{a0 a1 a2 a3 a4 a5 a6 a7 a8 a9 a10:α}{l:List α}:a10∈a0::a1::a2::a3::a4::a5::a6::a7::a8::a9::a10::l:= .tail _ (.tail _ (.tail _ (.tail _ (.tail _ (.tail _ (.tail _ (.tail _ (.tail _ (.tail _ (.head _))))))))))
theorem mT11{α:Type}{a0 a1 a2 a3 a4 a5 a6 a7 a8 a9 a10 a11:α}{l:List α}:a11∈a0::a1::a2::a3::a4::a5::a6::a7::a8::a9::a10::a11::l:= .tail _ (.tail _ (.tail _ (.tail _ (.tail _ (.tail _ (.tail _ (.tail _ (.tail _ (.tail _ (.tail _ (.head _)))))))))))
theorem mT13{α:Type}{a0 a1 a2 a3 a4 a5 a6 a7 a8 a9 a10 a11 a12 a13:α}{l:List α}:a13∈a0::a1::a2::a3::a4::a5::a6::a7::a8::a9::a10::a11::a12::a13::l:= .tail _ (.tail _ (.tail _ (.tail _ (.tail _ (.tail _ (.tail _ (.tail _ (.tail _ (.tail _ (.tail _ (.tail _ (.tail _ (.head _)))))))))))))
theorem mT14{α:Type}{a0 a1 a2 a3 a4 a5 a6 a7 a8 a9 a10 a11 a12 a13 a14:α}{l:List α}:a14∈a0::a1::a2::a3::a4::a5::a6::a7::a8::a9::a10::a11::a12::a13::a14::l:= .tail _ (.tail _ (.tail _ (.tail _ (.tail _ (.tail _ (.tail _ (.tail _ (.tail _ (.tail _ (.tail _ (.tail _ (.tail _ (.tail _ (.head _))))))))))))))
theorem d7{a0:bC}{l:List bC}:Has (a0::l) a0:=Has.of mT0
theorem d8{a0 a1:bC}{l:List bC}:Has (a0::a1::l) a1:=Has.of mT1
theorem d9{a0 a1 a2:bC}{l:List bC}:Has (a0::a1::a2::l) a2:=Has.of mT2
theorem e6{a0 a1 a2 a3:bC}{l:List bC}:Has (a0::a1::a2::a3::l) a3:=Has.of mT3
theorem e7{a0 a1 a2 a3 a4:bC}{l:List bC}:Has (a0::a1::a2::a3::a4::l) a4:=Has.of mT4
theorem sr{id:Nat}{l:List Oper}{y:Code}(h:At β n Γ H F (wpList P l.toArray (Exit.then (y.wp P Q) Q) l)):At β n Γ H F ((Code.seq (Code.region id l.toArray false) y).wp P Q):=fT (lV h)
theorem nn(h:At β n Γ H F K):At β n Γ H F (wpList P ops (Exit.then K Q) []):=iY (lM h)
end
section
variable {P : Program} {β : dC} {n : Nat} {Γ : Env} {H : List bD} {F : List bC} {Q : Exit -> Act -> World -> Prop} {K : Act -> World -> Prop} {T : Tab} {α : Type} {E : Flat α}
theorem Env.Sub.append{Γ:Env}: ∀{Δ Δ':Env},Γ.Sub Δ->Γ.Sub Δ'->Γ.Sub (Δ++Δ')
 |[],_,_,h=>h
 |_::_,_,h,k=>⟨h.1,Env.Sub.append h.2 k⟩
theorem bA.append{F:List bC}: ∀{G G':List bC},bA F G->bA F G'->bA F (G++G')
 |[],_,_,h=>h
 |_::_,_,h,k=>⟨h.1,bA.append h.2 k⟩
theorem bA.drop(k:Nat){F:List bC}:bA F (F.drop k):=bA.sub λ_ h=>List.mem_of_mem_drop h
theorem Sel.self: ∀{H:List bD},Sel H H
 |[]=> .nil
 |_::_=> .cons .head Sel.self
theorem Split.sel{H R H2:List bD}(h:Split H R H2):Sel H (R++H2):=by
 induction h with
 |nil=>exact Sel.self
 |cons h _ ih=>exact .cons h ih
theorem bU{ι:Type}{c:Code}(Δ:Env)(hΔ:Γ.Sub Δ)(G:ι->Env)(HH:ι->List bD){Hr:List bD}(FF:ι->List bC)(μ:ι->Nat)(x0:ι)(hG:Γ.Sub (G x0))(hH:Split H (HH x0) Hr)(hF:bA F (FF x0))
  (round: ∀x,At β n (G x++Δ) (HH x++Hr) (FF x++F) (c.wp P (Exit.then (Back β n (λx=>G x++Δ) (λx=>HH x++Hr) (λx=>FF x++F) μ (μ x)) Q))):At β n Γ H F ((Code.loop c).wp P Q):=
 at_loop (λx=>G x++Δ) (λx=>HH x++Hr) (λx=>FF x++F) μ x0 (hG.append hΔ) hH.sel (hF.append bA.self) round
theorem oC{ι:Type}{G:ι->Env}{Δ:Env}{HH:ι->List bD}{Hr:List bD}{FF:ι->List bC}{F0:List bC}{μ:ι->Nat}{m:Nat}(x:ι)(hμ:μ x<m)(hG:Γ.Sub (G x))(hΔ:Γ.Sub Δ)(hH:Sel H (HH x++Hr))(hF:bA F (FF x))(hF0:bA F F0):
  At β n Γ H F (Back β n (λx=>G x++Δ) (λx=>HH x++Hr) (λx=>FF x++F0) μ m):=
 at_back (G:=λx=>G x++Δ) (HH:=λx=>HH x++Hr) (FF:=λx=>FF x++F0) x hμ (hG.append hΔ) hH (hF.append hF0)
theorem yG{ops:Array Oper}{rest:List Oper}{o:Oper}{d m:Nat}{t e:TypeId}{x y:Operand}{kx ky:IntKind}{i:TypeInfo}{z:Value}{xs:List α}(hw:want ops Γ o=some true)(ho:o.op= .makeSlice t x y)(hd:o.dst=some d)(hn:Nat.blt d n=true)
  (hx:Γ.ev x=some (.int kx (m:Nat))) (hy:Γ.ev y=some (.int ky (m:Nat))) (hu:P.underlying t=some (.slice e)) (hi:P.info? e=some i) (hz:i.zero=some z) (hsize:i.size=E.size) (hb:i.bytes*m<=281474976710656) (hm:m<=maxLen)
  (hxs:(madeCells z.cells (m*E.size)).toList=E.all xs) (hl:xs.length=m) (k: ∀b,At β n ((d,.slice (some ⟨b,0,none⟩) m m)::Γ) (E.row (.slice (some ⟨b,0,none⟩) m m) e xs::H) F (wpList P ops Q rest)):At β n Γ H F (wpList P ops Q (o::rest)):=
 fY hw λa w S f s hk=>by
  subst hl;have hm':(xs.length:Int)<=9223372036854775807:=by simp[maxLen]at hm;omega
  have hb':(i.bytes:Int)*(xs.length:Int)<=281474976710656:=by
   have h:((i.bytes*xs.length:Nat):Int)<=281474976710656:=k7
   rwa[Int.natCast_mul]at h
  have hr:=run_make (P:=P) w t e i z hu hi hz kx ky xs.length xs.length k7 (Int.le_refl _) hb' hm';simp only[Int.toNat_natCast]at hr
  have hr':(execOp a.eval o).run P w= .ok (.value (.slice (some ⟨w.heap.size,0,none⟩) xs.length xs.length)) (w.alloc (.cells (madeCells z.cells (xs.length*i.size)) e)):=by
   unfold execOp;simp only[ho,f.ev hx,f.ev hy];rw[Sem.run_bind,hr];rfl
  unfold Oper.wp;rw[hr',Oper.upon_value,hd];have hown:=World.ownsRow_lit w (base:=0) (e:=e) (size:=i.size) (madeCells z.cells (xs.length*i.size)) xs.length (Nat.zero_le _) hm (size_madeCells _ _);have s2:=s.alloc (.cells (madeCells z.cells (xs.length*i.size)) e);refine k w.heap.size _ _ S (f.put l9 _) ⟨s2.kept,λc hc=>?_,λc hc b hb=>?_,?_,s2.zone⟩ (All.alloc s hk _)
  .rcases List.mem_cons.1 hc with rfl|hc
   .show World.ownsRow _ _ _ _ _ _ _;rw[<-hxs,<-hsize];exact hown
   .exact s2.ok c (List.mem_cons_of_mem _ hc)
  .rcases List.mem_cons.1 hc with rfl|hc
   .exact s2.own (.obj w.heap.size (.cells (madeCells z.cells (xs.length*i.size)) e)) (List.mem_cons_self ..) b hb
   .exact s2.own c (List.mem_cons_of_mem _ hc) b hb
  .have hp:=List.pairwise_cons.1 s2.sep;exact List.pairwise_cons.2 ⟨λd hd b hb=>hp.1 d hd b hb,hp.2⟩
end
def cF:Flat Int where
 size:=1
 cells:=λz=>[.int .i64 z]
 len:=λ_=>rfl
 one:=λx u hu=>by simp at hu;subst hu;rfl
 pos:=m7
end Go.Proofs.YtnfiadlonjediaaGreatDoor
