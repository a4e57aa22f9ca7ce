/- Texts of one proof, one behind the other: Kit, Eng, Rule, Pure, Mem, Heap, Row, Mix, Typ, Lend, More, Two. -/
import Derived.WalkKit
import Derived.Lib.Bytealg
import Derived.WalkSpells
import Derived.WalkLawsBesides
import Derived.Handy
import Derived.Deep.QuietTactic
import Derived.Deep.Light
import Derived.BigQuiet
import Derived.Deep.Draws
import Derived.Lib.Hide
import Derived.Deep.RegionHeld3
import Derived.Deep.DeepFit
import Derived.Deep.DeepMust
import Derived.Laws.OwnMore
import Derived.Maps.AppendAt
import Derived.Laws.CopyRow
import Derived.LoopN
import Derived.StillTail
import Derived.Laws.Tables
import Derived.Great.BuildSlice
import Derived.Laws.MakeOwn
namespace Go.Proofs.YtnfiadlonjediaaGreatDoor
open Go.RowKit
open World renaming cell?->j7,setRow->j8
open _root_.Array renaming getElem?_eq_none->j9,ext'->k7,getElem?_modify->k8,replicate->A8
open Code renaming region->B1,cond->B2,loop->B3,rounds->B4
open _root_.Nat renaming beq->B5,lt_of_lt_of_le->B6,eq_of_beq_eq_true->B7,le_refl->B8,le_trans->B9,blt->C0,lt_irrefl->C1,add_assoc->C2,add_zero->C3,not_lt->C4,add_mul->C5,one_mul->C6,zero_add->C7,mul_le_mul_right->C8
open _root_.List renaming mem_cons->C9,mem_append->D0,mem_cons_of_mem->D1,pairwise_cons->D2,mem_append_left->D3,pairwise_append->D4,mem_cons_self->D5,all_eq_true->D6,getElem?_eq_getElem->D7,mem_append_right->D8,getElem?_eq_some_iff->D9,length_append->E0,length_cons->E1
open Region renaming wanted->E2,ready->E3,binds->E4,noSelect->E5
open Sem renaming run_bind->E6,run_pure->E7
open Result renaming andThen_ok->E8
open Op renaming equalIn->E9
open Instr renaming sureAddr->F1,storeAt->F2,indexAt->F3
open Oper renaming wp->F4,upon_value->F5,upon_skip->F6,upon_enter->F7,upon->F8
open Addr renaming add_mid->F9
open _root_.Bool renaming false_eq_true->G0,and_eq_true->G1
open _root_.Int renaming toNat_natCast->G2
open IntKind renaming wrap->G3,signed->G4,bits->G5
theorem e8:True:=trivial
theorem f4{α:Type _}{l:List α}{i:Nat}{a:α}(h:l[i]?=some a):a∈l:=List.mem_of_getElem? h
theorem k9{p:Prop}(h:p:=by omega):p:=h
theorem l4{p:Prop}(h:p:=by kernel_rfl):p:=h
theorem l5{p:Prop}(h:p:=by decide):p:=h
theorem l7{p:Prop}(h:p:=by first|omega|(simp only[List.length_set];omega)):p:=h
theorem l8{p:Prop}(h:p:=by decide+kernel):p:=h
theorem l9{p:Prop}(h:p:=by first|exact .inl (by show x23.buf<0;omega)|exact .inr (.inl (by show((bufsL c.bufs.list).length:Int)<=x23.buf;rw[cD];omega))|exact .inr (.inr (.inl ⟨_,cN ‹_›,by show 0<=lW.input _;omega⟩))|exact .inr (.inr (.inr (show nB c.vars made (gV.c _)=false by assumption)))):p:=h
theorem m7{p:Prop}(h:p:=by first|exact .inl (show mN (polsL (lW.sides _).list) c.vars=false by assumption)|exact .inr (.inl (by show x4.input< -1;omega))|exact .inr (.inr (.inl (by show 64<=x4.input;omega)))|exact .inr (.inr (.inr ⟨by show 0<=x4.input;omega,by subst_vars;assumption⟩))):p:=h
theorem m8{p:Prop}(h:p:=by first|rfl|(simp only[List.length_set])):p:=h
theorem m9{p:Prop}(h:p:=by simpa[Nat.blt_eq]using hn):p:=h
theorem n3{p:Prop}(h:p:=by dsimp only;omega):p:=h
theorem n4{p:Prop}(h:p:=by simp):p:=h
theorem n5{p:Prop}(h:p:=by first|exact bEc hinv14.2 (cN hu) (by show ¬u.input<0;omega) (oT hx) ‹_›|exact bFl hinv14.2 (cN hu) (by show ¬u.input<0;omega) (oT hx) hz (by show ¬(_/\_/\((x.data.list.length:Nat):Int)<=_);omega)):p:=h
theorem n7{p:Prop}(h:p:=by simp only[List.length_set];omega):p:=h
theorem n8{p:Prop}(h:p:=by first|exact bU.head|exact kT1|exact kT2|exact kT3|exact kT4|exact kT5|exact kT6|exact kT7|exact kT8|exact kT9|exact bHz|exact bIm|exact bHw|exact bHy):p:=h
theorem n9{p:Prop}(h:p:=by simp;omega):p:=h
theorem o5{p:Prop}(h:p:=by rw[show c.c.steps.length=c.steps.list.length from fC _];omega):p:=h
theorem o6{p:Prop}(h:p:=by show ¬u.input<0;omega):p:=h
theorem o7{p:Prop}(h:p:=by rw[List.length_append,List.length_singleton,show((l.length+1:Nat):Int)-1=(l.length:Nat) by omega];exact bBq rfl (by omega)):p:=h
theorem o8{p:Prop}(h:p:=by rw[bW];omega):p:=h
theorem o9{p:Prop}(h:p:=by show((bufsL c.bufs.list).length:Int)<=x23.buf;rw[cD];omega):p:=h
theorem p6{p:Prop}(h:p:=by show((hasN i.op).1==[])=_;exact beq_eq_false_iff_ne.2 h0):p:=h
theorem p7{p:Prop}(h:p:=by simpa using hlt):p:=h
theorem p8{p:Prop}(h:p:=by simp only[List.length_singleton];omega):p:=h
theorem p9{p:Prop}(h:p:=by show ¬(_/\_/\((x.data.list.length:Nat):Int)<=_);omega):p:=h
theorem q7{p:Prop}(h:p:=by first|rfl|simp_all):p:=h
theorem q8{p:Prop}(h:p:=by rw[show c.c.bufs.length=c.bufs.list.length from cD _];omega):p:=h
theorem q9{p:Prop}(h:p:=by show _=_;rw[HS.out,if_neg (by omega),show j+1+1-1=j+1 from rfl,HM.out];simp[ho]):p:=h
theorem s7{p:Prop}(h:p:=by rw[h]at hr;cases hr):p:=h
theorem s8{p:Prop}(h:p:=by simp[hx]):p:=h
theorem t6{p:Prop}(h:p:=by simp only[MkV.st,List.length_singleton];omega):p:=h
theorem t7{p:Prop}(h:p:=by rw[show((m+1:Nat):Int)-1=(m:Nat) by omega];exact bBq rfl (by omega)):p:=h
theorem t8{p:Prop}(h:p:=by rw[hB.1]at h0;cases h0):p:=h
theorem v6{p:Prop}(h:p:=by simp[maxLen];omega):p:=h
theorem v7{p:Prop}(h:p:=by rw[hTw,decide_eq_false (show ¬x4.at_.list.length=0 by omega)];simp):p:=h
theorem v8{p:Prop}(h:p:=by first|exact .inl (by show 0<=lW.input _;omega)|exact .inr ‹_›):p:=h
theorem w6{p:Prop}(h:p:=by intro h;rcases h with h|h;exact absurd h (by simp);exact hq h):p:=h
theorem w7{p:Prop}(h:p:=by rw[hel];exact hu):p:=h
theorem w8{p:Prop}(h:p:=by simp[h]):p:=h
theorem w9{p:Prop}(h:p:=by rw[HS.out,decide_eq_false (by omega),Bool.false_and]):p:=h
theorem z7{p:Prop}(h:p:=by show qQ c.vars dims=true;exact hd):p:=h
theorem z8{p:Prop}(h:p:=by show x4.input< -1;omega):p:=h
theorem aa0{p:Prop}(h:p:=by show 64<=x4.input;omega):p:=h
theorem aa1{p:Prop}(h:p:=by first|(subst_vars;assumption)|(exfalso;omega)):p:=h
theorem aa2{p:Prop}(h:p:=by rw[hb];omega):p:=h
theorem aa3{p:Prop}(h:p:=by first|exact .inl (by omega)|exact .inr ‹_›):p:=h
theorem aa4{p:Prop}(h:p:=by simp only[MkV.ly,List.length_singleton];omega):p:=h
theorem aa5{p:Prop}(h:p:=by show x23.buf<0;omega):p:=h
theorem aa6{p:Prop}(h:p:=by first|omega|(rw[List.length_take];omega)):p:=h
theorem aa7{p:Prop}(h:p:=by simpa[Nat.beq_eq]using hn0):p:=h
theorem aa8{p:Prop}(h:p:=by rw[hl];rfl):p:=h
theorem aa9{p:Prop}(h:p:=by rw[hdp]):p:=h
theorem ab0{p:Prop}(h:p:=by simpa using h):p:=h
theorem ab1{p:Prop}(h:p:=by rw[uO];have:=fH h4;omega):p:=h
theorem ab2{p:Prop}(h:p:=by simpa using hc20):p:=h
theorem ab3{p:Prop}(h:p:=by rw[h1]at h0;cases h0):p:=h
theorem ab4{p:Prop}(h:p:=by simp[dM];omega):p:=h
theorem ab5{p:Prop}(h:p:=by rw[bMs,hg];rfl):p:=h
theorem ab6{p:Prop}(h:p:=by unfold uX;omega):p:=h
theorem bAs{k:IntKind}{a b:Int}(h:a=b):Ending.returned (.int k a)= .returned (.int k b):=by rw[h]
theorem lC{a b:Bool}(h:a=b):Ending.returned (.bool a)= .returned (.bool b):=by rw[h]
theorem bKj{B:Nat}{a w:World}(h:Below B a w)(n:Nat):Below B a (w.drewN n):=⟨h.os,h.tape,h.output,h.size,h.block⟩
structure fM (W:World) where
 w:World
 h:Below W.heap.size W w
instance (W : World) : Nonempty (fM W) := ⟨⟨W, Below.refl _ _⟩⟩
theorem fM.of{W w:World}(h:Below W.heap.size W w): ∃x:fM W,w=x.w:=⟨⟨w,h⟩,rfl⟩
theorem fM.cell{W:World}{b o:Nat}{v:Value}(h:W.cell? ⟨b,o,none⟩=some v): ∀x:fM W,x.w.cell? ⟨b,o,none⟩=some v:=λx=>by
 have hb:b<W.heap.size:=by
  rcases Nat.lt_or_ge b W.heap.size with hlt|a
  .exact hlt
  .simp[j7,j9 a]at h
 exact(x.h.cell (p:=⟨b,o,none⟩) hb).trans h
theorem fM.calls{P:Program}{f:FuncId}{args:Array Value}{v:Value}{W0:World}(h: ∀W,Below W0.heap.size W0 W->Calls P f args W λe w'=>e= .returned v/\Below W.heap.size W w'):
  ∀x:fM W0,Calls P f args x.w λe w'=>e= .returned v/\ ∃y:fM W0,w'=y.w:=
 λx=>(h x.w x.h).mono λ_ _ ⟨a,hb⟩=>⟨a,fM.of (x.h.trans (hb.mono x.h.size))⟩
theorem lD{P:Program}{id:Nat}{Q:Exit->Act->World->Prop}{a:Act}{w:World}{l:List Oper}(hm:P.follows .mixedOrders=true)(hB:Region.lexB .any l.toArray=true)
  (h:wpQuiet P l.toArray (λw'=> ∃x:fM w,w'=x.w) (λa'=> ∀w',(∃x:fM w,w'=x.w)->Q .normal a' w') l a):(B1 id l.toArray true).wp P Q a w:=
 wp_region_quiet (C:=λw'=> ∃x:fM w,w'=x.w) hm hB (fM.of (Below.refl _ _).drew) ab0
abbrev Env:=List (Nat×Value)
def Env.get:Env->Nat->Option Value
 |[],_=>none
 |(i,v)::r,j=>cond (B5 i j) (some v) (Env.get r j)
def Env.ev(Γ:Env):Operand->Option Value
 |.tmp t=>Γ.get t
 |.const v=>some v
 |.global g=>some (.pointer (some ⟨g,0,none⟩))
 |.func f=>some (.func (.func f) #[] #[])
def Env.evs(Γ:Env):List Operand->Option (List Value)
 |[]=>some []
 |x::r=>match Γ.ev x with
  |some v=>match Γ.evs r with
   |some vs=>some (v::vs)
   |none=>none
  |none=>none
structure Fits (n:Nat) (Γ:Env) (a:Act):Prop where
 defers:a.defers=[]
 size:n<=a.tmps.size
 get: ∀i v,Γ.get i=some v->a.tmps[i]?=some v
section
variable {n : Nat} {Γ : Env} {a : Act}
theorem Fits.ev(h:Fits n Γ a){x:Operand}{v:Value}(hx:Γ.ev x=some v):a.eval x=v:=by
 cases x with
 |tmp t=>have:=h.get t v hx;simp[Act.eval,Array.getD_eq_getD_getElem?,this]
 |const u=>simp[Env.ev]at hx;exact hx
 |global g=>simp[Env.ev]at hx;exact hx
 |func f=>simp[Env.ev]at hx;exact hx
theorem Fits.evs(h:Fits n Γ a): ∀{xs:List Operand} {vs:List Value},Γ.evs xs=some vs->xs.map a.eval=vs
 |[],vs,hx=>by simp[Env.evs]at hx;simp[hx]
 |x::r,vs,hx=>by
  unfold Env.evs at hx
  cases b:Γ.ev x with
  |none=>simp[b]at hx
  |some v=>
   cases hr:Γ.evs r with
   |none=>simp[b,hr]at hx
   |some us=>
    simp[b,hr]at hx;subst hx;simp[h.ev b,h.evs hr]
theorem Fits.put(h:Fits n Γ a){d:Nat}(hd:d<n)(v:Value):Fits n ((d,v)::Γ) (a.put (some d) v):=by
 refine⟨h.defers,by simpa[Act.put]using h.size,λi u hu=>?_⟩;have hlt:d<a.tmps.size:=B6 hd h.size;unfold Env.get at hu
 by_cases e:d=i
 .subst e;simp at hu;subst hu;simp[Act.put,hlt]
 .have:B5 d i=false:=by
   cases hb:B5 d i with
   |false=>rfl
   |true=>exact absurd (B7 hb) e
  simp[this]at hu;simp[Act.put,e,h.get i u hu]
theorem Fits.put_none(h:Fits n Γ a)(v:Value):Fits n Γ (a.put none v):=h
def Env.Sub(Γ:Env):Env->Prop
 |[]=>True
 |(i,v)::r=>Γ.get i=some v/\Env.Sub Γ r
theorem Env.Sub.get{Γ:Env}: ∀{Δ:Env},Γ.Sub Δ-> ∀i v,Δ.get i=some v->Γ.get i=some v
 |[],_,i,v,h=>by simp[Env.get]at h
 |(j,u)::r,hs,i,v,h=>by
  unfold Env.get at h
  cases hb:B5 j i with
  |true=>
   have:=B7 hb;subst this;simp at h;rw[<-h];exact hs.1
  |false=>
   simp[hb]at h;exact Env.Sub.get hs.2 i v h
theorem Fits.sub(h:Fits n Γ a){Δ:Env}(hs:Γ.Sub Δ):Fits n Δ a:=⟨h.defers,h.size,λi v b=>h.get i v (hs.get i v b)⟩
end
abbrev jX:=Nat->Prop
def Agree (S:jX)(w w':World):Prop:= ∀b,S b->w'.heap[b]?=w.heap[b]?
structure bE where
 p:jX->World->Prop
 mono: ∀{S S':jX} {w w':World},(∀b,S b->S' b)->Agree S w w'->p S w->p S' w'
def All (F:List bE)(S:jX)(w:World):Prop:= ∀f∈F,f.p S w
theorem All.mono{F:List bE}{S S':jX}{w w':World}(hs: ∀b,S b->S' b)(ha:Agree S w w')(h:All F S w):All F S' w':=λf a=>f.mono hs ha (h f a)
theorem All.cons{f:bE}{F:List bE}{S:jX}{w:World}(h:f.p S w)(k:All F S w):All (f::F) S w:=λg hg=>by
 rcases C9.1 hg with rfl|hg
 .exact h
 .exact k g hg
theorem All.append{F G:List bE}{S:jX}{w:World}(h:All F S w)(k:All G S w):All (F++G) S w:=λg hg=>by
 rcases D0.1 hg with hg|hg
 .exact h g hg
 .exact k g hg
def bE.pure(c:Prop):bE:=⟨λ_ _=>c,λ_ _ h=>h⟩
def Has (F:List bE)(g:bE):Prop:= ∀S w,All F S w->g.p S w
theorem Has.of{F:List bE}{g:bE}(h:g∈F):Has F g:=λ_ _ k=>k g h
theorem Has.pure{F:List bE}{c:Prop}(h:c):Has F (bE.pure c):=λ_ _ _=>h
theorem e9{F:List bE}{c:Prop}(h:c):Has F (bE.pure c):=Has.pure h
def bA (F:List bE):List bE->Prop
 |[]=>True
 |g::G=>Has F g/\bA F G
theorem bA.all{F:List bE}: ∀{G:List bE},bA F G-> ∀S w,All F S w->All G S w
 |[],_,_,_,_=>λg hg=>by simp at hg
 |g::G,h,S,w,k=>All.cons (h.1 S w k) (bA.all h.2 S w k)
inductive bC where
 |obj (b:Nat) (o:Obj)
 |row (v:Value) (t:TypeId) (size n:Nat) (cs:List Value)
 |gen (b:Option Nat) (p:Option Obj->Prop)
def bC.blk:bC->Option Nat
 |.obj b _=>some b
 |.row v _ _ _ _=>v.ownBlock
 |.gen b _=>b
def bC.ok (w:World):bC->Prop
 |.obj b o=>w.heap[b]?=some o
 |.row v t size n cs=>w.ownsRow 0 t size v n cs
 |.gen b p=>p (b.bind λi=>w.heap[i]?)
structure oM (M:jX) (w0 w:World):Prop where
 os:w.os=w0.os
 tape:w.tape=w0.tape
 output:w.output=w0.output
 size:w0.heap.size<=w.heap.size
 block: ∀b,b<w0.heap.size-> ¬M b->w.heap[b]?=w0.heap[b]?
theorem oM.refl(M:jX)(w:World):oM M w w:=⟨rfl,rfl,rfl,B8 _,λ_ _ _=>rfl⟩
theorem oM.trans{M M':jX}{a b c:World}(h:oM M a b)(k:oM M' b c)(hm: ∀i,M' i->M i\/a.heap.size<=i):oM M a c:=
 ⟨k.os.trans h.os,k.tape.trans h.tape,k.output.trans h.output,B9 h.size k.size,λi e hn=>(k.block i (B6 e h.size) (λd=>by rcases hm i d with f|f;exact hn f;omega)).trans (h.block i e hn)⟩
theorem oM.below{w0 w:World}(h:oM (λ_=>False) w0 w):Below w0.heap.size w0 w:=⟨h.os,h.tape,h.output,h.size,λk a=>h.block k a (λe=>e)⟩
theorem oM.of_below{w0 w:World}(M:jX)(h:Below w0.heap.size w0 w):oM M w0 w:=⟨h.os,h.tape,h.output,h.size,λk a _=>h.block k a⟩
structure dE where
 w:World
 M:jX
 S:jX
structure St (β:dE) (H:List bC) (S:jX) (w:World):Prop where
 kept:oM β.M β.w w
 ok: ∀c∈H,c.ok w
 own: ∀c∈H,∀b,c.blk=some b->b<w.heap.size/\(β.M b\/β.w.heap.size<=b)/\ ¬S b
 sep:H.Pairwise λc d=> ∀b,c.blk=some b->d.blk≠some b
 zone: ∀b,S b->b<w.heap.size/\(β.S b\/β.M b\/β.w.heap.size<=b)
def At (β:dE)(n:Nat)(Γ:Env)(H:List bC)(F:List bE)(K:Act->World->Prop):Prop:=
 ∀a w S,Fits n Γ a->St β H S w->All F S w->K a w
theorem bC.ok_of{w w':World}{c:bC}(h:c.ok w)(hs: ∀b,c.blk=some b->w'.heap[b]?=w.heap[b]?):c.ok w':=by
 cases c with
 |obj b o=>exact(hs b rfl).trans h
 |row v t size n cs=>
  refine⟨h.1,?_⟩
  rcases h.2 with h|⟨g,d,a,e,h1,j,f⟩
  .exact .inl h
  .subst e;exact .inr ⟨g,d,a,rfl,h1,(hs g rfl).trans j,f⟩
 |gen b p=>
  cases b with
  |none=>exact h
  |some i=>
   show p (w'.heap[i]?);rw[hs i rfl];exact h
theorem St.grow{β:dE}{H:List bC}{S:jX}{w w':World}{M':jX}(h:St β H S w)(k:oM M' w w')(hM: ∀b,M' b->(β.M b\/β.w.heap.size<=b))(hH: ∀c∈H,∀b,c.blk=some b-> ¬M' b):St β H S w' where
 kept:=h.kept.trans k hM
 ok:=λc a=>bC.ok_of (h.ok c a) λb hb=>k.block b (h.own c a b hb).1 (hH c a b hb)
 own:=λc a b hb=>⟨B6 (h.own c a b hb).1 k.size,(h.own c a b hb).2⟩
 sep:=h.sep
 zone:=λb hb=>⟨B6 (h.zone b hb).1 k.size,(h.zone b hb).2⟩
section
variable {P : Program} {β : dE} {n : Nat} {Γ : Env} {H : List bC} {F : List bE} {Q : Exit -> Act -> World -> Prop} {K : Act -> World -> Prop}
theorem At.mono{K':Act->World->Prop}(h:At β n Γ H F K)(hk: ∀a w,K a w->K' a w):At β n Γ H F K':=λa w S f s k=>hk a w (h a w S f s k)
theorem fS{x y:Code}(h:At β n Γ H F (x.wp P (Exit.then (y.wp P Q) Q))):At β n Γ H F ((Code.seq x y).wp P Q):=λa w S f s k=>wp_seq (h a w S f s k)
theorem yA{id:Nat}{c:Code}(h:At β n Γ H F (c.wp P (Exit.inBlock id Q))):At β n Γ H F ((Code.block id c).wp P Q):=λa w S f s k=>wp_block (h a w S f s k)
theorem uE(h:At β n Γ H F (Q .normal)):At β n Γ H F (Code.skip.wp P Q):=λa w S f s k=>wp_skip (h a w S f s k)
theorem at_exit{id:Nat}(h:At β n Γ H F (Q (.exit id))):At β n Γ H F ((Code.exit id).wp P Q):=λa w S f s k=>wp_exit (h a w S f s k)
theorem wR(h:At β n Γ H F (Q .ret)):At β n Γ H F (Code.ret.wp P Q):=λa w S f s k=>wp_ret (h a w S f s k)
theorem mO{id:Nat}{l:List Oper}(h:At β n Γ H F (wpList P l.toArray Q l)):At β n Γ H F ((B1 id l.toArray false).wp P Q):=λa w S f s k=>wp_region_lit (h a w S f s k)
theorem jO{ops:Array Oper}(h:At β n Γ H F (Q .normal)):At β n Γ H F (wpList P ops Q []):=h
theorem mG(h:At β n Γ H F K):At β n Γ H F (Exit.then K Q .normal):=h
theorem bPz{i:Nat}(h:At β n Γ H F (Q (.exit i))):At β n Γ H F (Exit.then K Q (.exit i)):=h
theorem wS(h:At β n Γ H F (Q .ret)):At β n Γ H F (Exit.then K Q .ret):=h
theorem n_block{i:Nat}(h:At β n Γ H F (Q .normal)):At β n Γ H F (Exit.inBlock i Q .normal):=h
theorem bEk{i:Nat}(h:At β n Γ H F (Q .ret)):At β n Γ H F (Exit.inBlock i Q .ret):=h
theorem x_block{i:Nat}(h:At β n Γ H F (Q .normal)):At β n Γ H F (Exit.inBlock i Q (.exit i)):=λa w S f s k=>by
 simp only[Exit.inBlock,if_true];exact h a w S f s k
theorem x_pass{i j:Nat}(hne:B5 j i=false)(h:At β n Γ H F (Q (.exit j))):At β n Γ H F (Exit.inBlock i Q (.exit j)):=λa w S f s k=>by
 have:j≠i:=λe=>by rw[e,Nat.beq_refl]at hne;cases hne
 simp only[Exit.inBlock,if_neg this];exact h a w S f s k
theorem cR{c:Operand}{x y:Code}{t:Bool}(hc:Γ.ev c=some (.bool t))(ht:t=true->At β n Γ H F (x.wp P Q))(hf:t=false->At β n Γ H F (y.wp P Q)):At β n Γ H F ((B2 c x y).wp P Q):=
 λa w S f s k=>wp_cond_split (f.ev hc) (λe=>ht e a w S f s k) (λe=>hf e a w S f s k)
theorem mT{c:Operand}{x y:Code}{t:Bool}(hc:Γ.ev c=some (.bool t))(ht:t=true)(h:At β n Γ H F (x.wp P Q)):At β n Γ H F ((B2 c x y).wp P Q):=
 cR hc (λ_=>h) (λe=>by rw[ht]at e;cases e)
theorem at_false{c:Operand}{x y:Code}{t:Bool}(hc:Γ.ev c=some (.bool t))(ht:t=false)(h:At β n Γ H F (y.wp P Q)):At β n Γ H F ((B2 c x y).wp P Q):=
 cR hc (λe=>by rw[ht]at e;cases e) (λ_=>h)
theorem bM{c:Prop}(hc:Has F (bE.pure c))(h:c->At β n Γ H F K):At β n Γ H F K:=λa w S f s k=>h (hc S w k) a w S f s k
theorem bP(g:bE)(hg:Has F g)(h:At β n Γ H (g::F) K):At β n Γ H F K:=λa w S f s k=>h a w S f s (All.cons (hg S w k) k)
inductive bU:List bC->bC->List bC->Prop
 |head {c:bC} {H:List bC}:bU (c::H) c H
 |tail {c d:bC} {H H':List bC} (h:bU H c H'):bU (d::H) c (d::H')
theorem bU.perm{H H':List bC}{c:bC}(h:bU H c H'):H.Perm (c::H'):=by
 induction h with
 |head=>exact List.Perm.refl _
 |tail _ ih=>exact(ih.cons _).trans (List.Perm.swap _ _ _)
inductive Sel:List bC->List bC->Prop
 |nil {H:List bC}:Sel H []
 |cons {H H' R:List bC} {c:bC} (h:bU H c H') (k:Sel H' R):Sel H (c::R)
theorem St.perm{H H':List bC}{S:jX}{w:World}(h:St β H S w)(p:H.Perm H'):St β H' S w where
 kept:=h.kept
 ok:=λc a=>h.ok c (p.mem_iff.2 a)
 own:=λc a=>h.own c (p.mem_iff.2 a)
 sep:=h.sep.perm p (λd b hb a=>d b a hb)
 zone:=h.zone
theorem St.tail{H:List bC}{c:bC}{S:jX}{w:World}(h:St β (c::H) S w):St β H S w where
 kept:=h.kept
 ok:=λd hd=>h.ok d (D1 _ hd)
 own:=λd hd=>h.own d (D1 _ hd)
 sep:=(D2.1 h.sep).2
 zone:=h.zone
theorem Sel.sub{H R:List bC}(h:Sel H R): ∃H',H.Perm (R++H'):=by
 induction h with
 |nil=>exact⟨_,List.Perm.refl _⟩
 |cons h _ ih=>
  obtain⟨H',p⟩:=ih;exact⟨H',h.perm.trans (p.cons _)⟩
theorem St.sel{H R:List bC}{S:jX}{w:World}(h:St β H S w)(hs:Sel H R):St β R S w:=by
 obtain⟨b,p⟩:=hs.sub;have h:=h.perm p;exact⟨h.kept,λc a=>h.ok c (D3 _ a),λc a=>h.own c (D3 _ a),(D4.1 h.sep).1,h.zone⟩
theorem pV{R:List bC}(hs:Sel H R)(h:At β n Γ R F K):At β n Γ H F K:=λa w S f s k=>h a w S f (s.sel hs) k
def Back {ι:Type}(β:dE)(n:Nat)(G:ι->Env)(HH:ι->List bC)(FF:ι->List bE)(μ:ι->Nat)(m:Nat)(a:Act)(w:World):Prop:=
 ∃x S,μ x<m/\Fits n (G x) a/\St β (HH x) S w/\All (FF x) S w
theorem at_loop{ι:Type}{c:Code}(G:ι->Env)(HH:ι->List bC)(FF:ι->List bE)(μ:ι->Nat)(x0:ι)(hG:Γ.Sub (G x0))(hH:Sel H (HH x0))(hF:bA F (FF x0))
  (round: ∀x,At β n (G x) (HH x) (FF x) (c.wp P (Exit.then (Back β n G HH FF μ (μ x)) Q))):At β n Γ H F ((B3 c).wp P Q):=by
 have key: ∀m x,μ x<=m-> ∀a w S,Fits n (G x) a->St β (HH x) S w->All (FF x) S w->B4 P c Q (m+1) a w:=by
  intro m
  induction m with
  |zero=>
   intro x hx a w S f s k;rw[rounds_succ];refine Code.wp_mono (λe g d q=>?_) (round x a w S f s k)
   cases e with
   |normal=>obtain⟨b,h,hlt,_⟩:=q;omega
   |_=>exact q
  |succ m ih=>
   intro x hx a w S f s k;rw[rounds_succ];refine Code.wp_mono (λe g d q=>?_) (round x a w S f s k)
   cases e with
   |normal=>obtain⟨b,h,hlt,l,i,j⟩:=q;exact ih b k9 g d h l i j
   |_=>exact q
 intro a w S f s k;exact wp_loop_rounds (μ x0+1) (key (μ x0) x0 (B8 _) a w S (f.sub hG) (s.sel hH) (hF.all S w k))
theorem at_back{ι:Type}{G:ι->Env}{HH:ι->List bC}{FF:ι->List bE}{μ:ι->Nat}{m:Nat}(x:ι)(hμ:μ x<m)(hG:Γ.Sub (G x))(hH:Sel H (HH x))(hF:bA F (FF x)):
  At β n Γ H F (Back β n G HH FF μ m):=λ_ w S f s k=>⟨x,S,hμ,f.sub hG,s.sel hH,hF.all S w k⟩
def want (ops:Array Oper)(Γ:Env)(o:Oper):Option Bool:=
 match o.guard with
 |none=>some true
 |some (j,b)=>match (ops[j]?).bind (·.dst)with
  |some d=>match Γ.get d with
   |some (.bool c)=>some (c==b)
   |some (.tuple _)=>some false
   |_=>none
  |none=>none
theorem Fits.want{ops:Array Oper}{o:Oper}{t:Bool}{a:Act}(h:Fits n Γ a)(hw:want ops Γ o=some t):E2 o (yielded ops a.tmps)=t:=by
 unfold Proofs.YtnfiadlonjediaaGreatDoor.want at hw;unfold E2;split at hw
 .rename_i hg;simp at hw;simp[hg,hw]
 .rename_i j b hg;rw[hg];simp only;split at hw
  .rename_i d hd;split at hw
   .rename_i c e;have:=h.get d _ e;simp at hw;simp[yielded,hd,this,<-hw]
   .rename_i c e;have:=h.get d _ e;simp at hw;simp[yielded,hd,this,<-hw]
   .cases hw
  .cases hw
def StF (β:dE)(H:List bC)(F:List bE)(w:World):Prop:= ∃S,St β H S w/\All F S w
def Det (P:Program)(β:dE)(n:Nat)(Γ:Env)(H:List bC)(F:List bE)(o:Oper)(v:Value):Prop:=
 ∀a,Fits n Γ a-> ∀w,StF β H F w->o.quietAt P a (StF β H F) w v
theorem det_of{o:Oper}{v:Value}(h: ∀a w S,Fits n Γ a->St β H S w->All F S w->(execOp a.eval o).run P w= .ok (.value v) w):Det P β n Γ H F o v:=λa f w ⟨S,s,k⟩=>by
 unfold Oper.quietAt;rw[h a w S f s k];exact⟨rfl,rfl⟩
theorem at_det{ops:Array Oper}{rest:List Oper}{o:Oper}{d:Nat}{v:Value}(hw:want ops Γ o=some true)(hd:o.dst=some d)(hn:C0 d n=true)(h:Det P β n Γ H F o v)
  (k:At β n ((d,v)::Γ) H F (wpList P ops Q rest)):At β n Γ H F (wpList P ops Q (o::rest)):=by
 intro a w S f s j;unfold wpList;rw[f.want hw,if_pos rfl];refine .inl (Oper.wp_of_quiet (C:=StF β H F) (K:=λe=>e=a.put o.dst v) ⟨S,s,j⟩ ?_ ⟨v,λc b=>h a f c b,rfl⟩);rintro e c ⟨l,g,i⟩ rfl;rw[hd];exact k _ _ l (f.put m9 v) g i
theorem bOh{ops:Array Oper}{rest:List Oper}{o:Oper}{d:Nat}(hw:want ops Γ o=some false)(hd:o.dst=some d)(hn:C0 d n=true)
  (k:At β n ((d,undef)::Γ) H F (wpList P ops Q rest)):At β n Γ H F (wpList P ops Q (o::rest)):=by
 intro a w S f s b;unfold wpList;rw[f.want hw,if_neg n4,hd];exact k _ _ S (f.put m9 undef) s b
theorem StF.drew{w:World}(h:StF β H F w):StF β H F {w with drawn:=w.drawn+1}:=by
 obtain⟨S,s,k⟩:=h;exact⟨S,⟨⟨s.kept.os,s.kept.tape,s.kept.output,s.kept.size,s.kept.block⟩,λc a=>bC.ok_of (s.ok c a) (λ_ _=>rfl),s.own,s.sep,s.zone⟩,All.mono (w:=w) (S:=S) (λ_ h=>h) (λ_ _=>rfl) k⟩
theorem bQ{d:Nat}{t t':Bool}(ht:t=t')(k:At β n ((d,.bool t')::Γ) H F K):At β n ((d,.bool t)::Γ) H F K:=by rw[ht];exact k
end
inductive TD where
 |int (k:IntKind)
 |slice (e:Nat)
 |string
 |bool
 |array (n e:Nat)
 |struct (fs:List (Nat×Nat))
 |map (k e:Nat)
 |other
def TD.of:TypeDesc->TD
 |.int k=> .int k
 |.slice e=> .slice e
 |.string=> .string
 |.bool=> .bool
 |.array n e=> .array n e
 |.struct fs=> .struct (fs.toList.map λf=>(f.type,f.offset))
 |.map k e=> .map k e
 |_=> .other
structure TI where
 desc:TD
 size:Nat
abbrev Tab:=List (Nat×TI)
def Tab.get:Tab->Nat->Option TI
 |[],_=>none
 |(i,v)::r,j=>cond (B5 i j) (some v) (Tab.get r j)
def dU (P:Program)(T:Tab):Prop:= ∀t i,T.get t=some i->(P.underlying t).map TD.of=some i.desc/\(P.info? t).map (·.size)=some i.size
def tA (P:Program):Tab->Prop
 |[]=>True
 |(t,i)::r=>((P.underlying t).map TD.of=some i.desc/\(P.info? t).map (·.size)=some i.size)/\tA P r
theorem tA.ok{P:Program}: ∀{T:Tab},tA P T->dU P T
 |[],_,t,i,h=>by simp[Tab.get]at h
 |(j,u)::r,hs,t,i,h=>by
  unfold Tab.get at h
  cases hb:B5 j t with
  |true=>
   have:=B7 hb;subst this;simp at h;subst h;exact hs.1
  |false=>
   simp[hb]at h;exact tA.ok hs.2 t i h
def aggD:TD->Bool
 |.struct _=>true
 |.array _ _=>true
 |_=>false
section
variable {P : Program} {T : Tab} (hT : dU P T) {t : Nat}
include hT
theorem dU.any{i:TI}(h:T.get t=some i): ∃d,P.underlying t=some d/\TD.of d=i.desc:=by
 have:=(hT t i h).1
 cases hu:P.underlying t with
 |none=>simp[hu]at this
 |some d=>simp[hu]at this;exact⟨d,rfl,this⟩
theorem dU.size{i:TI}(h:T.get t=some i)(w:World):(sizeOf t).run P w= .ok i.size w:=by
 have:=(hT t i h).2
 cases a:P.info? t with
 |none=>simp[a]at this
 |some x=>simp[a]at this;simp[sizeOf,typeInfo,a,this]
theorem dU.agg{i:TI}(h:T.get t=some i)(w:World):(isAgg t).run P w= .ok (aggD i.desc) w:=by
 obtain⟨d,hu,hd⟩:=hT.any h;unfold isAgg;rw[E6,run_underlying hu,<-hd];cases d<;>simp[aggD,TD.of]
theorem dU.slice{e s:Nat}(h:T.get t=some ⟨.slice e,s⟩)(w:World):(underlying t).run P w= .ok (.slice e) w:=by
 obtain⟨d,hu,hd⟩:=hT.any h;cases d<;>simp[TD.of]at hd
 subst hd;exact run_underlying hu w
theorem dU.int{k:IntKind}{s:Nat}(h:T.get t=some ⟨.int k,s⟩)(w:World):(underlying t).run P w= .ok (.int k) w:=by
 obtain⟨d,hu,hd⟩:=hT.any h;cases d<;>simp[TD.of]at hd
 subst hd;exact run_underlying hu w
theorem dU.string{s:Nat}(h:T.get t=some ⟨.string,s⟩)(w:World):(underlying t).run P w= .ok .string w:=by
 obtain⟨d,hu,hd⟩:=hT.any h;cases d<;>simp[TD.of]at hd
 exact run_underlying hu w
theorem dU.array{n e s:Nat}(h:T.get t=some ⟨.array n e,s⟩)(w:World):(underlying t).run P w= .ok (.array n e) w:=by
 obtain⟨d,hu,hd⟩:=hT.any h;cases d<;>simp[TD.of]at hd
 obtain⟨rfl,rfl⟩:=hd;exact run_underlying hu w
theorem dU.struct{fs:List (Nat×Nat)}{s:Nat}(h:T.get t=some ⟨.struct fs,s⟩): ∃gs:Array Field,(∀w,(underlying t).run P w= .ok (.struct gs) w)/\gs.toList.map (λf=>(f.type,f.offset))=fs:=by
 obtain⟨d,hu,hd⟩:=hT.any h;cases d<;>simp[TD.of]at hd
 rename_i gs;exact⟨gs,λw=>run_underlying hu w,by simpa using hd⟩
end
theorem field_at{gs:Array Field}{fs:List (Nat×Nat)}(h:gs.toList.map (λf=>(f.type,f.offset))=fs){i ty off:Nat}(hf:fs[i]?=some (ty,off)): ∃g,gs[i]?=some g/\g.type=ty/\g.offset=off:=by
 subst h;rw[List.getElem?_map]at hf
 cases hg:gs.toList[i]? with
 |none=>simp[hg]at hf
 |some g=>
  simp[hg]at hf;exact⟨g,by simpa using hg,hf.1,hf.2⟩
def sameKind:IntKind->IntKind->Bool
 |.i8,.i8|.i16,.i16|.i32,.i32|.i64,.i64|.u8,.u8|.u16,.u16|.u32,.u32|.u64,.u64=>true
 |_,_=>false
theorem kJ{k k':IntKind}(h:sameKind k k'=true):k=k':=by cases k<;>cases k'<;>simp[sameKind]at h<;>rfl
def arith:BinOp->IntKind->Int->Int->Option Value
 |.add,k,a,b=>some (.int k (k.wrap (a+b)))
 |.sub,k,a,b=>some (.int k (k.wrap (a-b)))
 |.mul,k,a,b=>some (.int k (k.wrap (a*b)))
 |.or,k,a,b=>some (.int k (k.wrap ((BitVec.ofInt k.bits a ||| BitVec.ofInt k.bits b).toNat:Nat)))
 |.and,k,a,b=>some (.int k (k.wrap ((BitVec.ofInt k.bits a&&&BitVec.ofInt k.bits b).toNat:Nat)))
 |.eql,_,a,b=>some (.bool (a==b))
 |.neq,_,a,b=>some (.bool (a !=b))
 |.lss,_,a,b=>some (.bool (decide (a<b)))
 |.leq,_,a,b=>some (.bool (decide (a<=b)))
 |.gtr,_,a,b=>some (.bool (decide (b<a)))
 |.geq,_,a,b=>some (.bool (decide (b<=a)))
 |_,_,_,_=>none
def strBin:BinOp->ByteArray->ByteArray->Option Value
 |.eql,a,b=>some (.bool (a.data.toList==b.data.toList))
 |.neq,a,b=>some (.bool (!(a.data.toList==b.data.toList)))
 |_,_,_=>none
def pureBin(op:BinOp):Value->Value->Option Value
 |.int k a,.int k' b=>cond (sameKind k k') (arith op k a b) none
 |.string a,.string b=>strBin op a b
 |_,_=>none
theorem pureBin_run{P:Program}{op:BinOp}{xt:TypeId}{x y:Operand}{a b v:Value}(h:pureBin op a b=some v)(w:World):
  ((do eqGuard op xt x y a b;binOp op xt a b:Sem Value)).run P w= .ok v w:=by
 unfold pureBin at h;split at h
 .rename_i k a d b
  cases c:sameKind k d with
  |false=>simp[c]at h
  |true=>
   have:=kJ c;subst this;simp[c]at h;cases op<;>simp[arith]at h<;>subst h<;>simp[eqGuard,binOp,Op.intArith,Op.intCmp,Op.intBits]<;>rfl
 .rename_i a b;cases op<;>simp[strBin]at h<;>subst h<;>simp[eqGuard,binOp,Op.stringOp,ByteArray.toList_eq]
 .cases h
def addOff(o:Nat):Nat->Nat
 |0=>o
 |k+1=>o+(k+1)
theorem addr_add(b o k:Nat):(⟨b,o,none⟩:Addr).add k=⟨b,addOff o k,none⟩:=by
 cases k<;>simp[Addr.add,addOff]
def cut:List Value->Nat->Nat->Option (List Value)
 |_,0,0=>some []
 |c::r,0,n+1=>match cut r 0 n with
  |some l=>some (c::l)
  |none=>none
 |[],0,_+1=>none
 |_::r,o+1,n=>cut r o n
 |[],_+1,_=>none
theorem zD: ∀{cs:List Value} {o n:Nat} {l:List Value},cut cs o n=some l->l=(cs.drop o).take n/\l.length=n/\ ∀j u,l[j]?=some u->cs[o+j]?=some u
 |cs,0,0,l,h=>by simp[cut]at h;subst h;simp
 |c::r,0,n+1,l,h=>by
  unfold cut at h
  cases b:cut r 0 n with
  |none=>simp[b]at h
  |some l'=>
   simp[b]at h;subst h;obtain⟨h1,e,d⟩:=zD b;refine⟨by simp[h1],by simp[e],λj u a=>?_⟩
   cases j with
   |zero=>simpa using a
   |succ j=>have:=d j u (by simpa using a);simpa using this
 |[],0,_+1,l,h=>by simp[cut]at h
 |c::r,o+1,n,l,h=>by
  unfold cut at h;obtain⟨h1,e,d⟩:=zD h;refine⟨by simp[h1],e,λj u a=>?_⟩;have:=d j u a;rw[show o+1+j=(o+j)+1 from by omega]
  simpa using this
 |[],_+1,_,l,h=>by simp[cut]at h
def rP:List Value->Nat->List Value->Option (List Value)
 |cs,0,[]=>some cs
 |_::r,0,v::vs=>match rP r 0 vs with
  |some l=>some (v::l)
  |none=>none
 |[],0,_::_=>none
 |c::r,o+1,vs=>match rP r o vs with
  |some l=>some (c::l)
  |none=>none
 |[],_+1,_=>none
theorem qD: ∀{cs:List Value} {o:Nat} {vs l:List Value},rP cs o vs=some l->o+vs.length<=cs.length/\l=cs.take o++vs++cs.drop (o+vs.length)
 |cs,0,[],l,h=>by simp[rP]at h;subst h;simp
 |c::r,0,v::vs,l,h=>by
  unfold rP at h
  cases a:rP r 0 vs with
  |none=>simp[a]at h
  |some l'=>
   simp[a]at h;subst h;obtain⟨h1,b⟩:=qD a;simp at h1 b;refine⟨by simp;omega,by simp[b]⟩
 |[],0,_::_,l,h=>by simp[rP]at h
 |c::r,o+1,vs,l,h=>by
  unfold rP at h
  cases a:rP r o vs with
  |none=>simp[a]at h
  |some l'=>
   simp[a]at h;subst h;obtain⟨h1,b⟩:=qD a;refine⟨by simp;omega,?_⟩;rw[show o+1+vs.length=(o+vs.length)+1 from by omega];simp[b]
 |[],_+1,_,l,h=>by simp[rP]at h
def binV (T:Tab)(op:BinOp)(t:Nat):Value->Value->Option Value
 |.bool a,.bool b=>match T.get t,op with
  |some ⟨.bool,_⟩,.eql=>some (.bool (a==b))
  |some ⟨.bool,_⟩,.neq=>some (.bool (a !=b))
  |_,_=>none
 |u,v=>pureBin op u v
def oV (T:Tab)(Γ:Env):Op->Option Value
 |.move x=>Γ.ev x
 |.assign x=>Γ.ev x
 |.pick c a b=>match Γ.ev c with
  |some (.bool true)=>Γ.ev a
  |some (.bool false)=>Γ.ev b
  |_=>none
 |.binOp op xt x y _=>match Γ.ev x with
  |some u=>match Γ.ev y with
   |some v=>binV T op xt u v
   |none=>none
  |none=>none
 |.unOp op _ x=>match op,Γ.ev x with
  |.not,some (.bool b)=>some (.bool (!b))
  |.neg,some (.int k a)=>some (.int k (k.wrap (0-a)))
  |_,_=>none
 |.convert s d x=>match T.get s,T.get d,Γ.ev x with
  |some _,some ⟨.int k,_⟩,some (.int _ a)=>some (.int k (k.wrap a))
  |_,_,_=>none
 |.extract x i=>match Γ.ev x with
  |some (.tuple vs)=>vs.toList[i]?
  |_=>none
 |.fieldAddr s x f=>match T.get s,Γ.ev x with
  |some ⟨.struct fs,_⟩,some (.pointer (some ⟨b,o,none⟩))=>match fs[f]? with
   |some (ft,fo)=>match T.get ft with
    |some ⟨_,_+1⟩=>some (.pointer (some ⟨b,addOff o fo,none⟩))
    |_=>none
   |none=>none
  |_,_=>none
 |.field s x f=>match T.get s,Γ.ev x with
  |some ⟨.struct fs,_⟩,some (.agg cs)=>match fs[f]? with
   |some (ft,fo)=>match T.get ft with
    |some i=>cond (aggD i.desc) (match cut cs.toList fo i.size with
     |some l=>some (.agg l.toArray)
     |none=>none) cs.toList[fo]?
    |none=>none
   |none=>none
  |_,_=>none
 |.nilCheck x=>match Γ.ev x with
  |some (.pointer (some a))=>some (.pointer (some a))
  |_=>none
 |.makeFunc fn first cap=>match Γ.evs first.toList with
  |some a=>match Γ.evs cap.toList with
   |some b=>some (.func fn a.toArray b.toArray)
   |none=>none
  |none=>none
 |.call ⟨.builtin .len,args,ts⟩=>match args.toList,ts.toList with
  |[x],[t]=>match T.get t,Γ.ev x with
   |some ⟨.slice _,_⟩,some (.slice _ k _)=>some (.int .i64 k)
   |some ⟨.string,_⟩,some (.string s)=>some (.int .i64 s.size)
   |some ⟨.array k _,_⟩,some _=>some (.int .i64 k)
   |_,_=>none
  |_,_=>none
 |.call ⟨.builtin .max,args,_⟩=>match args.toList with
  |[x,y]=>match Γ.ev x,Γ.ev y with
   |some (.int k a),some (.int _ b)=>some (.int k (if b>a then b else a))
   |_,_=>none
  |_=>none
 |.call ⟨.builtin .min,args,_⟩=>match args.toList with
  |[x,y]=>match Γ.ev x,Γ.ev y with
   |some (.int k a),some (.int _ b)=>some (.int k (if b<a then b else a))
   |_,_=>none
  |_=>none
 |_=>none
section
variable {P : Program} {β : dE} {n : Nat} {Γ : Env} {H : List bC} {F : List bE} {Q : Exit -> Act -> World -> Prop} {K : Act -> World -> Prop} {T : Tab}
theorem run_part_agg(hT:dU P T){t:Nat}{i:TI}(ht:T.get t=some i)(ha:aggD i.desc=true)(cs:Array Value)(off:Nat){l:List Value}(h:cut cs.toList off i.size=some l)(w:World):(part t cs off).run P w= .ok (.agg l.toArray) w:=by
 unfold part;rw[E6,hT.agg ht,E8,ha];simp only[if_true,E6,hT.size ht,E8,E7];obtain⟨h1,_,_⟩:=zD h;rw[h1]
 congr 2
 apply k7;simp[Array.toList_extract,List.extract_eq_take_drop]
theorem run_part_one(hT:dU P T){t:Nat}{i:TI}(ht:T.get t=some i)(ha:aggD i.desc=false)(cs:Array Value)(off:Nat){v:Value}(h:cs.toList[off]?=some v)(w:World):(part t cs off).run P w= .ok v w:=by
 unfold part;rw[E6,hT.agg ht,E8,ha];have:cs[off]?=some v:=by simpa using h
 simp[this]
theorem binV_run(hT:dU P T){op:BinOp}{xt:TypeId}{x y:Operand}{a b v:Value}(h:binV T op xt a b=some v)(w:World):
  ((do eqGuard op xt x y a b;binOp op xt a b:Sem Value)).run P w= .ok v w:=by
 unfold binV at h;split at h
 .rename_i a b;split at h
  .rename_i sz c;simp at h;subst h;obtain⟨d,hu,hd⟩:=hT.any c;cases d<;>simp[TD.of]at hd
   have e: ∀d,(E9 (d+1) xt (.bool a) (.bool b)).run P w= .ok (a==b) w:=λd=>by simp[E9,run_underlying hu]
   have hb:(binOp .eql xt (.bool a) (.bool b)).run P w= .ok (.bool (a==b)) w:=by
    simp only[binOp];rw[E6,show Op.equal xt (.bool a) (.bool b)=E9 10000 xt (.bool a) (.bool b)from rfl,e 9999];rfl
   have hg:(eqGuard .eql xt x y (.bool a) (.bool b)).run P w= .ok () w:=rfl;rw[E6,hg,E8,hb]
  .rename_i sz c;simp at h;subst h;obtain⟨d,hu,hd⟩:=hT.any c;cases d<;>simp[TD.of]at hd
   have e: ∀d,(E9 (d+1) xt (.bool a) (.bool b)).run P w= .ok (a==b) w:=λd=>by simp[E9,run_underlying hu]
   have hb:(binOp .neq xt (.bool a) (.bool b)).run P w= .ok (.bool (a !=b)) w:=by
    simp only[binOp];rw[E6,show Op.equal xt (.bool a) (.bool b)=E9 10000 xt (.bool a) (.bool b)from rfl,e 9999];rfl
   have hg:(eqGuard .neq xt x y (.bool a) (.bool b)).run P w= .ok () w:=rfl;rw[E6,hg,E8,hb]
  .cases h
 .exact pureBin_run h w
theorem bPt(hT:dU P T){o:Oper}{v:Value}{a:Act}(f:Fits n Γ a)(h:oV T Γ o.op=some v)(w:World):(execOp a.eval o).run P w= .ok (.value v) w:=by
 unfold execOp;unfold oV at h;split at h
 .rename_i x ho;simp[ho,f.ev h]
 .rename_i x ho;simp[ho,f.ev h]
 .rename_i c x y ho;split at h
  .rename_i M;simp[ho,f.ev M,f.ev h,asBool]
  .rename_i M;simp[ho,f.ev M,f.ev h,asBool]
  .cases h
 .rename_i op R x y yt ho;split at h
  .rename_i u hu;split at h
   .rename_i v' X;have:=binV_run hT (x:=x) (y:=y) h w;simp only[ho,f.ev hu,f.ev X];rw[E6,this];rfl
   .cases h
  .cases h
 .rename_i op R x ho;split at h
  .rename_i b hb;simp at h;subst h;simp[ho,f.ev hb,Op.unary]
  .rename_i k b hb;simp at h;subst h;simp[ho,f.ev hb,Op.unary,Op.intArith]
  .cases h
 .rename_i s d x ho;split at h
  .rename_i is k sz O b D hd hx;simp at h;subst h;obtain⟨ds,L,_⟩:=hT.any D;simp only[ho,f.ev hx,convert,E6,run_underlying L,hT.int hd,E8,Conv.intToInt,E7]
  .cases h
 .rename_i x i ho;split at h
  .rename_i U hx;have:U[i]?=some v:=by simpa using h
   simp[ho,f.ev hx,Instr.extract,this]
  .cases h
 .rename_i s x fi ho;split at h
  .rename_i fs sz b W D hx;obtain⟨Z,r,q⟩:=hT.struct D;split at h
   .rename_i ft fo B;obtain⟨g,hg,rfl,rfl⟩:=field_at q B;split at h
    .rename_i de k z;simp at h;subst h;simp only[ho,f.ev hx,Instr.fieldAt,E6,r,E8,hg,F1,E7,fieldPlace,hT.size z,addr_add];rfl
    .cases h
   .cases h
  .cases h
 .rename_i s x fi ho;split at h
  .rename_i fs sz Q D hx;obtain⟨Z,r,q⟩:=hT.struct D;split at h
   .rename_i ft fo B;obtain⟨g,hg,rfl,rfl⟩:=field_at q B;split at h
    .rename_i V z
     cases m:aggD V.desc with
     |true=>
      simp only[m,cond_true]at h;split at h
      .rename_i l hl;simp at h;subst h;have K:=run_part_agg hT z m Q g.offset hl w;simp only[ho,f.ev hx,Instr.field,E6,r,E8,hg,asAgg,E7,K]
      .cases h
     |false=>
      simp only[m,cond_false]at h;have K:=run_part_one hT z m Q g.offset h w;simp only[ho,f.ev hx,Instr.field,E6,r,E8,hg,asAgg,E7,K]
    .cases h
   .cases h
  .cases h
 .rename_i x ho;split at h
  .rename_i ad hx;simp at h;subst h;simp[ho,f.ev hx]
  .cases h
 .rename_i fn first N ho
  split at h
  .rename_i a1 h1;split at h
   .rename_i b1 Y;simp at h;subst h;have e1:first.map a.eval=a1.toArray:=by apply k7;simpa using f.evs h1
    have e2:N.map a.eval=b1.toArray:=by apply k7;simpa using f.evs Y
    simp only[ho,e1,e2,Instr.makeFunc];rfl
   .cases h
  .cases h
 .rename_i j G ho;split at h
  .rename_i x t p J;have E:j= #[x]:=by apply k7;simpa using p
   have hb:G= #[t]:=by apply k7;simpa using J
   subst E hb;split at h
   .rename_i e sz A k c C hx;simp at h;subst h;simp[ho,resolve,invoke,builtin,Builtin.len_,f.ev hx,hT.slice C,goInt]
   .rename_i sz s C hx;simp at h;subst h;simp[ho,resolve,invoke,builtin,Builtin.len_,f.ev hx,hT.string C,goInt]
   .rename_i k e sz u C hx;simp at h;subst h;simp[ho,resolve,invoke,builtin,Builtin.len_,hT.array C,goInt]
   .cases h
  .cases h
 .rename_i j G ho;split at h
  .rename_i x y p;have E:j= #[x,y]:=by apply k7;simpa using p
   subst E;split at h
   .rename_i k a' O b hx I;simp at h;subst h;simp[ho,resolve,invoke,builtin,Builtin.max_,Builtin.max2,f.ev hx,f.ev I]
   .cases h
  .cases h
 .rename_i j G ho;split at h
  .rename_i x y p;have E:j= #[x,y]:=by apply k7;simpa using p
   subst E;split at h
   .rename_i k a' O b hx I;simp at h;subst h;simp[ho,resolve,invoke,builtin,Builtin.min_,Builtin.min2,f.ev hx,f.ev I]
   .cases h
  .cases h
 .cases h
end
section
variable {P : Program} {β : dE} {n : Nat} {Γ : Env} {H : List bC} {F : List bE} {Q : Exit -> Act -> World -> Prop} {K : Act -> World -> Prop} {T : Tab}
theorem St.agree{S:jX}{w w':World}{M':jX}(s:St β H S w)(k:oM M' w w')(hS: ∀b,S b-> ¬M' b):Agree S w w':=λb hb=>k.block b (s.zone b hb).1 (hS b hb)
theorem bMv(w:World)(o:Obj):oM (λ_=>False) w (w.alloc o):=
 ⟨rfl,rfl,rfl,n4,λb hb _=>Below.heap_alloc _ _ _ hb⟩
theorem St.alloc{S:jX}{w:World}(s:St β H S w)(o:Obj):St β (.obj w.heap.size o::H) S (w.alloc o):=by
 have e:=s.grow (bMv w o) (λ_ h=>h.elim) (λ_ _ _ _ h=>h);refine⟨e.kept,λc a=>?_,λc a b hb=>?_,D2.2 ⟨λd hd b hb f=>?_,e.sep⟩,e.zone⟩
 .rcases C9.1 a with rfl|a
  .exact heap_alloc_new _ _
  .exact e.ok c a
 .rcases C9.1 a with rfl|a
  .injection hb with hb
   subst hb;exact⟨n4,.inr s.kept.size,λh=>absurd (s.zone _ h).1 (C1 _)⟩
  .exact e.own c a b hb
 .injection hb with hb
  subst hb;exact absurd (s.own d hd _ f).1 (C1 _)
theorem All.alloc{S:jX}{w:World}(s:St β H S w)(k:All F S w)(o:Obj):All F S (w.alloc o):=All.mono (λ_ h=>h) (s.agree (bMv w o) (λ_ _ h=>h)) k
theorem fV{ops:Array Oper}{rest:List Oper}{o:Oper}(hw:want ops Γ o=some true)(h: ∀a w S,Fits n Γ a->St β H S w->All F S w->o.wp P a w (wpList P ops Q rest) Q):At β n Γ H F (wpList P ops Q (o::rest)):=λa w S f s k=>by
 unfold wpList;rw[f.want hw,if_pos rfl];exact .inl (h a w S f s k)
theorem fF{ops:Array Oper}{rest:List Oper}{o:Oper}{d:Nat}{t:TypeId}{x:Operand}{v:Value}{cs:List Value}(hw:want ops Γ o=some true)(ho:o.op= .box t x)(hd:o.dst=some d)(hn:C0 d n=true)
  (hx:Γ.ev x=some v) (hc:v.cells=cs.toArray) (k: ∀b,At β n ((d,.pointer (some ⟨b,0,none⟩))::Γ) (.obj b (.cells cs.toArray t)::H) F (wpList P ops Q rest)):At β n Γ H F (wpList P ops Q (o::rest)):=
 fV hw λa w S f s c=>by
  have hr:(execOp a.eval o).run P w= .ok (.value (.pointer (some ⟨w.heap.size,0,none⟩))) (w.alloc (.cells cs.toArray t)):=by
   unfold execOp;simp only[ho,f.ev hx,Instr.box,newVar,newRow,hc];rfl
  unfold F4;rw[hr,F5,hd];exact k _ _ _ S (f.put m9 _) (s.alloc _) (All.alloc s c _)
theorem i6{ops:Array Oper}{rest:List Oper}{o:Oper}{d:Nat}{t:TypeId}{x:Operand}{v:Value}{cs:List Value}(k: ∀b,At β n ((d,.pointer (some ⟨b,0,none⟩))::Γ) (.obj b (.cells cs.toArray t)::H) F (wpList P ops Q rest))(hw:want ops Γ o=some true:=by exact rfl)(ho:o.op= .box t x:=by exact rfl)(hd:o.dst=some d:=by exact rfl)(hn:Nat.blt d n=true:=by exact rfl)(hx:Γ.ev x=some v:=by exact rfl)(hc:v.cells=cs.toArray:=by exact rfl):At β n Γ H F (wpList P ops Q (o::rest)):=fF hw ho hd hn hx hc k
def oU (β:dE)(H:List bC)(F:List bE)(b q:Nat)(cs:List Value):Prop:= ∀w S,St β H S w->All F S w-> ∀j u,cs[j]?=some u->w.cell? ⟨b,q+j,none⟩=some u
theorem bU.mem{H H':List bC}{c:bC}(h:bU H c H'):c∈H:=h.perm.mem_iff.2 (D5 ..)
theorem bO{b off:Nat}{cs:List Value}{t:TypeId}{fz:Nat×Nat}{H':List bC}(hH:bU H (.obj b (.cells cs.toArray t fz)) H'):oU β H F b off (cs.drop off):=λw S s _ j u a=>by
 have h:w.heap[b]?=some (.cells cs.toArray t fz):=s.ok _ hH.mem;unfold j7;rw[h]
 simpa using a
theorem bFp{b:Nat}{cs:List Value}{t:TypeId}{fz:Nat×Nat}{H':List bC}(hH:bU H (.obj b (.cells cs.toArray t fz)) H'):oU β H F b 0 (cs.drop 0):=bO hH
def bE.cells(b o:Nat)(cs:List Value):bE where
 p S w:=S b/\ ∀j u,cs[j]?=some u->w.cell? ⟨b,o+j,none⟩=some u
 mono:=λhs ha h=>⟨hs _ h.1,λj u hj=>by
  have:=h.2 j u hj;unfold j7 at*;rw[ha b h.1]
  exact this⟩
theorem oU.drop{b q:Nat}{cs:List Value}(h:oU β H F b q cs)(j:Nat):oU β H F b (q+j) (cs.drop j):=λw S s k i u a=>by
 have:=h w S s k (j+i) u (by simpa using a)
 rwa[<-C2]at this
theorem bKo{w:World}{g:Nat}{cs:Array Value}:oM (λb=>b=g) w (w.setRow g cs):=by
 refine⟨rfl,rfl,rfl,by simp[j8],λb hb a=>?_⟩;simp[j8,k8,Ne.symm a]
theorem setRow_at{w:World}{g:Nat}{cur cs:Array Value}{t:TypeId}{fz:Nat×Nat}(h:w.heap[g]?=some (.cells cur t fz)):(w.setRow g cs).heap[g]?=some (.cells cs t fz):=by
 simp[j8,k8,h]
theorem St.swap{c c':bC}{S:jX}{w w':World}{g:Nat}(s:St β (c::H) S w)(k:oM (λb=>b=g) w w')(hc:c.blk=some g)(hc':c'.blk=some g)(ok:c'.ok w'):St β (c'::H) S w':=by
 have hg:=s.own c (D5 ..) g hc;have a:=D2.1 s.sep;have f:St β H S w':=s.tail.grow k (λb hb=>by subst hb;exact hg.2.1) (λd hd b hb e=>by subst e;exact a.1 d hd _ hc hb);refine⟨f.kept,λd hd=>?_,λd hd b hb=>?_,D2.2 ⟨λd hd b hb=>?_,f.sep⟩,f.zone⟩
 .rcases C9.1 hd with rfl|hd
  .exact ok
  .exact f.ok d hd
 .rcases C9.1 hd with rfl|hd
  .rw[hc']at hb;injection hb with hb
   subst hb;exact⟨B6 hg.1 k.size,hg.2⟩
  .exact f.own d hd b hb
 .rw[hc']at hb;injection hb with hb
  subst hb;exact a.1 d hd _ hc
theorem rC{ops:Array Oper}{rest:List Oper}{o:Oper}(hT:dU P T){t t' b off:Nat}{p x:Operand}{v:Value}{vs cs cs':List Value}{i:TI}{H':List bC}(hw:want ops Γ o=some true)(ho:o.op= .store t p x)(hd:o.dst=none)
  (hp:Γ.ev p=some (.pointer (some ⟨b,off,none⟩))) (hx:Γ.ev x=some v) (hH:bU H (.obj b (.cells cs.toArray t')) H') (ht:T.get t=some i) (hc:v.cells=vs.toArray) (hs:B5 vs.length i.size=true)
  (h1:vs.all (·.oneCell')=true) (hput:rP cs off vs=some cs') (k:At β n Γ (.obj b (.cells cs'.toArray t')::H') F (wpList P ops Q rest)):At β n Γ H F (wpList P ops Q (o::rest)):=
 fV hw λa w S f s l=>by
  have hb:w.heap[b]?=some (.cells cs.toArray t' (0,0)):=s.ok _ hH.mem;obtain⟨hl,e⟩:=qD hput;have d:=run_storeCells_at (P:=P) b off t' vs 0 cs.toArray w hb (by simpa using hl) (λu hu=>by simpa using (D6.1 h1) u hu);simp only[C3]at d;rw[<-e]at d;have g:v.cells.size=i.size:=by rw[hc];simpa using B7 hs
  have hr:(execOp a.eval o).run P w= .ok .skip (w.setRow b cs'.toArray):=by
   unfold execOp;simp only[ho,f.ev hp,f.ev hx,F2,F1,storeVar,E6,E7,E8,hT.size ht,g];simp[hc,d]
  unfold F4;rw[hr,F6,hd];have j:=s.perm hH.perm;exact k _ _ S (f.put_none _) (j.swap bKo rfl rfl (setRow_at hb)) (All.mono (λ_ h=>h) (s.agree bKo (λc hc e=>by subst e;exact(j.own _ (D5 ..) _ rfl).2.2 hc)) l)
structure Enc (α:Type) where
 size:Nat
 rep:List Value->α->bE
def Enc.flat{α:Type}(size:Nat)(cells:α->List Value):Enc α:=⟨size,λcs x=>bE.pure (cs=cells x)⟩
def bE.sl {α:Type}(E:Enc α)(v:Value)(xs:List α):bE where
 p S w:= ∃A cap,v= .slice A xs.length cap/\ ∀k x,xs[k]?=some x-> ∃b o cs,A=some ⟨b,o,none⟩/\S b/\(∀j u,cs[j]?=some u->w.cell? ⟨b,o+k*E.size+j,none⟩=some u)/\(E.rep cs x).p S w
 mono:=λhs ha ⟨A,cap,e,h⟩=>⟨A,cap,e,λk x hk=>by
  obtain⟨b,o,cs,e1,e2,e3,e4⟩:=h k x hk;refine⟨b,o,cs,e1,hs _ e2,λj u hj=>?_,(E.rep cs x).mono hs ha e4⟩;have:=e3 j u hj;unfold j7 at*;rw[ha b e2]
  exact this⟩
theorem Has.slice{α:Type}{E:Enc α}{v:Value}{xs:List α}(h:Has F (bE.sl E v xs)):Has F (bE.pure (∃A cap,v= .slice A xs.length cap)):=λS w k=>by
 obtain⟨A,cap,e,_⟩:=h S w k;exact⟨A,cap,e⟩
theorem Has.addr{α:Type}{E:Enc α}{A:Option Addr}{l c:Nat}{xs:List α}(h:Has F (bE.sl E (.slice A l c) xs)){k:Nat}(hk:k<xs.length):Has F (bE.pure (∃b o,A=some ⟨b,o,none⟩)):=λS w a=>by
 obtain⟨i,f,e,h⟩:=h S w a;obtain⟨b,o,g,d,_⟩:=h k _ (D7 hk);injection e with e
 exact⟨b,o,e.trans d⟩
theorem Has.elem{α:Type}{sz:Nat}{cells:α->List Value}{b o l c:Nat}{xs:List α}(h:Has F (bE.sl (Enc.flat sz cells) (.slice (some ⟨b,o,none⟩) l c) xs)){k:Nat}{x:α}(hk:xs[k]?=some x):Has F (bE.cells b (o+k*sz) (cells x)):=λS w d=>by
 obtain⟨q,m,e,h⟩:=h S w d;obtain⟨p,n,j,i,g,f,a⟩:=h k x hk;injection e with e
 rw[i]at e;injection e with e
 injection e with e e'
 subst e e';have a:j=cells x:=a;subst a;exact⟨g,f⟩
def kZ (H:List bC):jX:=λb=> ∃c∈H,c.blk=some b
def bZ {ι:Type}(P:Program)(f:FuncId)(args:List Value)(Hin:List bC)(Pre:List bE)(val:ι->Value)(Hout:ι->List bC)(post:ι->List bE):Prop:=
 ∀S w,St ⟨w,kZ Hin,S⟩ Hin S w->All Pre S w->Calls P f args.toArray w λe w'=> ∃x S',e= .returned (val x)/\St ⟨w,kZ Hin,S⟩ (Hout x) S' w'/\All (post x) S' w'
inductive Split:List bC->List bC->List bC->Prop
 |nil {H:List bC}:Split H [] H
 |cons {H H' R H2:List bC} {c:bC} (h:bU H c H') (k:Split H' R H2):Split H (c::R) H2
theorem Split.perm{H R H2:List bC}(h:Split H R H2):H.Perm (R++H2):=by
 induction h with
 |nil=>exact List.Perm.refl _
 |cons h _ ih=>exact h.perm.trans (ih.cons _)
theorem St.enter{Hin H2:List bC}{S:jX}{w:World}(s:St β (Hin++H2) S w):St ⟨w,kZ Hin,S⟩ Hin S w where
 kept:=oM.refl _ _
 ok:=λc a=>s.ok c (D3 _ a)
 own:=λc a b hb=>⟨(s.own c (D3 _ a) b hb).1,.inl ⟨c,a,hb⟩,(s.own c (D3 _ a) b hb).2.2⟩
 sep:=(D4.1 s.sep).1
 zone:=λb hb=>⟨(s.zone b hb).1,.inl hb⟩
theorem St.leave{Hin Hout H2:List bC}{S S':jX}{w w':World}(s:St β (Hin++H2) S w)(s':St ⟨w,kZ Hin,S⟩ Hout S' w'):St β (Hout++H2) (λb=>S b\/S' b) w':=by
 have sp:=D4.1 s.sep;have f: ∀b,kZ Hin b->b<w.heap.size/\(β.M b\/β.w.heap.size<=b)/\ ¬S b:=λb ⟨c,a,hb⟩=>s.own c (D3 _ a) b hb
 have j: ∀c∈H2,∀b,c.blk=some b->b<w.heap.size/\(β.M b\/β.w.heap.size<=b)/\ ¬S b/\ ¬kZ Hin b:=λc a b hb=>by
  obtain⟨h1,j,p⟩:=s.own c (D8 _ a) b hb;exact⟨h1,j,p,λ⟨d,hd,g⟩=>sp.2.2 d hd c a b g hb⟩
 refine⟨s.kept.trans s'.kept (λi o=>(f i o).2.1),λc a=>?_,λc a b hb=>?_,D4.2 ⟨s'.sep,sp.2.1,λc a d hd b hb g=>?_⟩,λb hb=>?_⟩
 .rcases D0.1 a with a|a
  .exact s'.ok c a
  .exact bC.ok_of (s.ok c (D8 _ a)) λb hb=>s'.kept.block b (j c a b hb).1 (j c a b hb).2.2.2
 .rcases D0.1 a with a|a
  .obtain⟨k,e,m⟩:=s'.own c a b hb;refine⟨k,?_,λh=>?_⟩
   .rcases e with e|e
    .exact(f b e).2.1
    .exact .inr (B9 s.kept.size e)
   .rcases h with h|h
    .rcases e with e|e
     .exact(f b e).2.2 h
     .exact absurd (s.zone b h).1 (C4.2 e)
    .exact m h
  .obtain⟨k,e,m,n⟩:=j c a b hb;refine⟨B6 k s'.kept.size,e,λh=>?_⟩
   rcases h with h|h
   .exact m h
   .rcases (s'.zone b h).2 with l|l|l
    .exact m l
    .exact n l
    .exact absurd k (C4.2 l)
 .obtain⟨k,_,_,n⟩:=j d hd b g
  rcases (s'.own c a b hb).2.1 with e|e
  .exact n e
  .exact absurd k (C4.2 e)
 .rcases hb with hb|hb
  .exact⟨B6 (s.zone b hb).1 s'.kept.size,(s.zone b hb).2⟩
  .refine⟨(s'.zone b hb).1,?_⟩
   rcases (s'.zone b hb).2 with h|h|h
   .exact(s.zone b h).2
   .exact .inr (f b h).2.1
   .exact .inr (.inr (B9 s.kept.size h))
theorem All.leave{Hin Hout H2:List bC}{S S':jX}{w w':World}(s:St β (Hin++H2) S w)(s':St ⟨w,kZ Hin,S⟩ Hout S' w')(k:All F S w):All F (λb=>S b\/S' b) w':=
 All.mono (λ_ h=> .inl h) (λb hb=>s'.kept.block b (s.zone b hb).1 (λ⟨c,hc,h⟩=>(s.own c (D3 _ hc) b h).2.2 hb)) k
theorem bNk{o:Oper}{f:FuncId}{ars:Array Operand}{ts:Array TypeId}{vs:List Value}{a:Act}(hcf: ∀(args:Array Value) (w:World),(callFunc f args).run P w= .ok (.enter f args) w)(ho:o.op= .call ⟨.value (.func f),ars,ts⟩)(fi:Fits n Γ a)
  (hv:Γ.evs ars.toList=some vs) (w:World):(execOp a.eval o).run P w= .ok (.enter f vs.toArray) w:=by
 have b:ars.map a.eval=vs.toArray:=by
  apply k7
  simpa using fi.evs hv
 unfold execOp;simp only[ho,resolve,Act.eval,Deferred.ofValue,E6,E7,E8,invoke];simp[b,hcf]
theorem at_call{ι:Type}{ops:Array Oper}{rest:List Oper}{o:Oper}{d:Nat}{f:FuncId}{ars:Array Operand}{ts:Array TypeId}{vs:List Value}{Hin H2:List bC}{Pre:List bE}{val:ι->Value}{Hout:ι->List bC}{post:ι->List bE}
  (hcf: ∀(args:Array Value) (w:World),(callFunc f args).run P w= .ok (.enter f args) w) (hs:bZ P f vs Hin Pre val Hout post) (hw:want ops Γ o=some true) (ho:o.op= .call ⟨.value (.func f),ars,ts⟩) (hd:o.dst=some d) (hn:C0 d n=true)
  (hv:Γ.evs ars.toList=some vs) (hH:Split H Hin H2) (hF:bA F Pre) (k: ∀x,At β n ((d,val x)::Γ) (Hout x++H2) (post x++F) (wpList P ops Q rest)):At β n Γ H F (wpList P ops Q (o::rest)):=
 fV hw λa w S f s g=>by
  unfold F4;rw[bNk hcf ho f hv w,F7];have b:=s.perm hH.perm;refine(hs S w b.enter (hF.all S w g)).mono ?_;rintro e i ⟨x,l,rfl,c,j⟩;show wpList P ops Q rest (a.put o.dst (val x)) i;rw[hd];exact k x _ _ _ (f.put m9 _) (b.leave c) ((All.mono (λ_ h=> .inr h) (λ_ _=>rfl) j).append (All.leave b c g))
def bBm:Nat->List Value->Env
 |_,[]=>[]
 |i,v::r=>(i,v)::bBm (i+1) r
theorem sI: ∀(i:Nat) (l:List Value) (j:Nat) (v:Value),(bBm i l).get j=some v->i<=j/\l[j-i]?=some v
 |i,[],j,v,h=>by simp[bBm,Env.get]at h
 |i,u::r,j,v,h=>by
  unfold bBm Env.get at h
  cases hb:B5 i j with
  |true=>
   have:=B7 hb;subst this;simp at h;simp[h]
  |false=>
   simp[hb]at h;obtain⟨h1,a⟩:=sI (i+1) r j v h;refine⟨k9,?_⟩;rw[show j-i=(j-(i+1))+1 from by omega]
   simpa using a
def bRo {ι:Type}(β:dE)(val:ι->Value)(Hout:ι->List bC)(post:ι->List bE)(e:Ending)(w':World):Prop:= ∃x S',e= .returned (val x)/\St β (Hout x) S' w'/\All (post x) S' w'
theorem bL{ι:Type}{f:FuncId}{fn:Func}{c:Code}{args:List Value}{Hin:List bC}{Pre:List bE}{val:ι->Value}{Hout:ι->List bC}{post:ι->List bE}(hf:P.funcs[f]?=some fn)(hb:fn.body=some c)(hn:fn.ntmps=n)
  (hl:Nat.ble args.length n=true) (h: ∀β,β.M=kZ Hin->At β n (bBm 0 args) Hin Pre (c.wp P (bodyPost P fn (bRo β val Hout post)))):bZ P f args Hin Pre val Hout post:=λS w s k=>by
 refine calls_of_wp hf hb (h ⟨w,kZ Hin,S⟩ rfl _ w S ⟨rfl,?_,λi v b=>?_⟩ s k)
 .have:=Nat.le_of_ble_eq_true hl;simp;omega
 .obtain⟨_,a⟩:=sI 0 args i v b;simp only[Nat.sub_zero]at a;have hlt:i<args.length:=(D9.1 a).1;simp only[Array.getElem?_append];rw[if_pos p7]
  simpa using a
theorem i7{ι:Type}{f:FuncId}{fn:Func}{c:Code}{args:List Value}{Hin:List bC}{Pre:List bE}{val:ι->Value}{Hout:ι->List bC}{post:ι->List bE}(hf:P.funcs[f]?=some fn)(hn:fn.ntmps=n)(h: ∀β,β.M=kZ Hin->At β n (bBm 0 args) Hin Pre (c.wp P (bodyPost P fn (bRo β val Hout post))))(hb:fn.body=some c:=by exact rfl)(hl:Nat.ble args.length n=true:=by exact rfl):bZ P f args Hin Pre val Hout post:=bL hf hb hn hl h
end
section
variable {P : Program} {β : dE} {n : Nat} {Γ : Env} {H : List bC} {F : List bE} {Q : Exit -> Act -> World -> Prop} {K : Act -> World -> Prop} {T : Tab}
theorem at_row{v:Value}{t:TypeId}{sz m:Nat}{cs:List Value}{H':List bC}(hH:bU H (.row v t sz m cs) H')(h:cs.length=m*sz->(∃A cap,v= .slice A m cap/\(0<m-> ∃g,A=some ⟨g,0,none⟩))->At β n Γ H F K):At β n Γ H F K:=λa w S f s k=>by
 have ho:w.ownsRow 0 t sz v m cs:=s.ok _ hH.mem;refine h ho.1 ?_ a w S f s k
 rcases ho.2 with ⟨e,b⟩|⟨g,cap,c,e,_⟩
 .exact⟨none,0,by rw[e,b],λh=>by omega⟩
 .exact⟨_,cap,e,λ_=>⟨g,rfl⟩⟩
theorem oU.part{b q o:Nat}{cs ds:List Value}(h:oU β H F b q cs)(hd: ∀j u,ds[j]?=some u->cs[o+j]?=some u):oU β H F b (q+o) ds:=λw S s k j u a=>by
 have:=h w S s k (o+j) u (hd j u a)
 rwa[<-C2]at this
theorem at_nilrow{t:TypeId}{sz:Nat}(h:At β n Γ (.row (.slice none 0 0) t sz 0 []::H) F K):At β n Γ H F K:=λa w S f s k=>by
 refine h a w S f ⟨s.kept,λc e=>?_,λc e b hb=>?_,D2.2 ⟨λd _ b hb=>?_,s.sep⟩,s.zone⟩ k
 .rcases C9.1 e with rfl|e
  .exact World.ownsRow_nil _ _ _ _
  .exact s.ok c e
 .rcases C9.1 e with rfl|e
  .simp[bC.blk,Value.ownBlock]at hb
  .exact s.own c e b hb
 .simp[bC.blk,Value.ownBlock]at hb
theorem jY(g:Nat): ∀(vs:List Value) (o:Nat) (w:World),oM (λb=>b=g) w (w.setCells g o vs)
 |[],_,w=>oM.refl _ _
 |v::r,o,w=>by
  have h1:oM (λb=>b=g) w (w.setCell ⟨g,o,none⟩ v):=by
   refine⟨rfl,rfl,rfl,n4,λb hb a=>?_⟩;simp[World.setCell,k8,Ne.symm a]
  exact h1.trans (jY g r (o+1) _) (λi c=> .inl c)
def kS:List Value->Nat->List Value->List Value
 |xs,_,[]=>xs
 |xs,j,v::r=>kS (xs.set j v) (j+1) r
theorem tH{base:Nat}{e:TypeId}{size g m cap:Nat}: ∀(vs:List Value) (j:Nat) (w:World) (xs:List Value),w.ownsRow base e size (.slice (some ⟨g,0,none⟩) m cap) m xs->
  (w.setCells g j vs).ownsRow base e size (.slice (some ⟨g,0,none⟩) m cap) m (kS xs j vs)
 |[],_,_,_,h=>h
 |v::r,j,_,_,h=>tH r (j+1) _ _ (World.ownsRow.stored h j v).1
theorem at_store_row{ops:Array Oper}{rest:List Oper}{o:Oper}(hT:dU P T){t t' g off m cap sz:Nat}{p x:Operand}{v:Value}{vs cs cs':List Value}{i:TI}{H':List bC}(hw:want ops Γ o=some true)(ho:o.op= .store t p x)(hd:o.dst=none)
  (hp:Γ.ev p=some (.pointer (some ⟨g,off,none⟩))) (hx:Γ.ev x=some v) (hH:bU H (.row (.slice (some ⟨g,0,none⟩) m cap) t' sz m cs) H') (ht:T.get t=some i) (hc:v.cells=vs.toArray) (hs:B5 vs.length i.size=true)
  (h1:vs.all (·.oneCell')=true) (hoff:off+vs.length<=m*sz) (hput:kS cs off vs=cs') (k:At β n Γ (.row (.slice (some ⟨g,0,none⟩) m cap) t' sz m cs'::H') F (wpList P ops Q rest)):At β n Γ H F (wpList P ops Q (o::rest)):=
 fV hw λa w S f s z=>by
  have b:w.ownsRow 0 t' sz (.slice (some ⟨g,0,none⟩) m cap) m cs:=s.ok _ hH.mem
  have d:w.there g off vs.length:=λj q=>by
   refine⟨?_,World.ownsRow.frozenAt b _⟩;rw[World.ownsRow.cellAt b _ k9,D7 (by rw[b.1];omega)];rfl
  have l:=run_storeCells_cells (P:=P) g off vs 0 w (λj q=>by simpa using (d j q).1) (λj q=>by simpa using (d j q).2) (λu hu=>by simpa using (D6.1 h1) u hu);rw[C3]at l;have r:v.cells.size=i.size:=by rw[hc];simpa using B7 hs
  have hr:(execOp a.eval o).run P w= .ok .skip (w.setCells g off vs):=by
   unfold execOp;simp only[ho,f.ev hp,f.ev hx,F2,F1,storeVar,E6,E7,E8,hT.size ht,r];simp[hc,l]
  unfold F4;rw[hr,F6,hd];have y:=s.perm hH.perm;refine k _ _ S (f.put_none _) (y.swap (jY g vs off w) rfl rfl ?_) (All.mono (λ_ h=>h) (s.agree (jY g vs off w) (λc hc e=>by subst e;exact(y.own _ (D5 ..) _ rfl).2.2 hc)) z);rw[<-hput];exact tH vs off w cs b
theorem sQ{w w':World}{row:Option Nat}(h:w.grownBy w' row):oM (λb=>some b=row) w w':=⟨h.os,h.tape,h.output,h.size,λb hb a=>h.block b hb a⟩
theorem St.swap_row{v v':Value}{t:TypeId}{sz m m':Nat}{cs cs':List Value}{S:jX}{w w':World}(s:St β (.row v t sz m cs::H) S w)(k:oM (λb=>some b=v.ownBlock) w w')(hv:v'.ownBlock=v.ownBlock\/v'.ownBlock=some w.heap.size)(ok:w'.ownsRow 0 t sz v' m' cs'):
  St β (.row v' t sz m' cs'::H) S w':=by
 have a:=D2.1 s.sep;have c:=s.own _ (D5 ..);have f:St β H S w':=s.tail.grow k (λb hb=>(c b hb.symm).2.1) (λd hd b hb e=>a.1 d hd b e.symm hb)
 have g: ∀b,v'.ownBlock=some b->b<w'.heap.size/\(β.M b\/β.w.heap.size<=b)/\ ¬S b:=λb hb=>by
  refine⟨(World.ownsRow.lt ok b hb).2,?_⟩
  rcases hv with hv|hv
  .exact(c b (hv.symm.trans hb)).2
  .rw[hv]at hb;injection hb with hb
   subst hb;exact⟨.inr s.kept.size,λh=>absurd (s.zone _ h).1 (C1 _)⟩
 refine⟨f.kept,λd hd=>?_,λd hd b hb=>?_,D2.2 ⟨λd hd b hb i=>?_,f.sep⟩,f.zone⟩
 .rcases C9.1 hd with rfl|hd
  .exact ok
  .exact f.ok d hd
 .rcases C9.1 hd with rfl|hd
  .exact g b hb
  .exact f.own d hd b hb
 .rcases hv with hv|hv
  .exact a.1 d hd b (hv.symm.trans hb) i
  .have hb:v'.ownBlock=some b:=hb;rw[hv]at hb;injection hb with hb
   subst hb;exact absurd (s.own d (D1 _ hd) _ i).1 (C1 _)
theorem at_append{ops:Array Oper}{rest:List Oper}{o:Oper}{d:Nat}{x y:Operand}{t e:TypeId}{i:TypeInfo}{z:Value}{sz by_ m q c b off:Nat}{v:Value}{cs news:List Value}{H':List bC}(hg:o.guard=none)
  (ho:o.op= .call {callee:= .builtin .append,args:= #[x,y],argTypes:= #[t,t]}) (hd:o.dst=some d) (hn:C0 d n=true) (hu:P.underlying t=some (.slice e)) (hi:P.info? e=some i) (hz:i.zero=some z) (hsize:i.size=sz) (hby:i.bytes=by_) (hzs:z.cells.size=sz) (hsz:0<sz)
  (hx:Γ.ev x=some v) (hH:bU H (.row v e sz m cs) H') (hy:Γ.ev y=some (.slice (some ⟨b,off,none⟩) q c)) (hl:news.length=q*sz) (hk:oU β H F b off news) (h1: ∀u∈news,u.oneCell'=true) (h63:m+q<=maxLen) (hbytes:(m+q)*by_<=140737488355328)
  (k: ∀v',At β n ((d,v')::Γ) (.row v' e sz (m+q) (cs++news)::H') F (wpList P ops Q rest)):At β n Γ H F (wpList P ops Q (o::rest)):=λa w S f s B=>by
 have p:w.ownsRow 0 e sz v m cs:=s.ok _ hH.mem;refine wpList_append_own_at w hg x y t ho 0 e i z sz by_ hu hi hz hsize hby hzs hsz v m cs (f.ev hx) p ⟨b,off,none⟩ q c news (f.ev hy) hl (λj u C=>by rw[F9];exact hk w S s B j u C) h1 h63 hbytes (Nat.zero_le _) ?_;intro v' D l g _ r;have A:=s.perm hH.perm;rw[hd];exact k v' _ _ S (f.put m9 _) (A.swap_row (sQ g) r l) (All.mono (λ_ h=>h) (s.agree (sQ g) (λb hb e=>(A.own _ (D5 ..) b e.symm).2.2 hb)) B)
theorem at_build{ops:Array Oper}{rest:List Oper}{o:Oper}{d m:Nat}{t e:TypeId}{parts:Array (Nat×Operand)}{cs:List Value}(hw:want ops Γ o=some true)(ho:o.op= .buildSlice t m parts)(hd:o.dst=some d)(hn:C0 d n=true)
  (hr: ∀a w,Fits n Γ a->(Instr.buildSlice t m (parts.map λ(i,x)=>(i,a.eval x))).run P w= .ok (.slice (some ⟨w.heap.size,0,none⟩) m m) (w.alloc (.cells cs.toArray e)))
  (k: ∀b,At β n ((d,.slice (some ⟨b,0,none⟩) m m)::Γ) (.obj b (.cells cs.toArray e)::H) F (wpList P ops Q rest)):At β n Γ H F (wpList P ops Q (o::rest)):=
 fV hw λa w S f s g=>by
  have c:(execOp a.eval o).run P w= .ok (.value (.slice (some ⟨w.heap.size,0,none⟩) m m)) (w.alloc (.cells cs.toArray e)):=by
   unfold execOp;simp only[ho];rw[E6,hr a w f];rfl
  unfold F4;rw[c,F5,hd];exact k _ _ _ S (f.put m9 _) (s.alloc _) (All.alloc s g _)
end
section
variable {P : Program} {ops : Array Oper} {md : Region.Mode} {C : World -> Prop} {Q : Exit -> Act -> World -> Prop}
def Nm (K:Act->World->Prop):Exit->Act->World->Prop:=λe a w=>e= .normal/\K a w
theorem Nm.out{K:Act->World->Prop}(h:LetsOut (Nm K)):False:=by
 obtain⟨_,_,h,_⟩:=h;cases h
def fOp (P:Program)(ops:Array Oper)(i:Nat)(K:Act->World->Prop)(a:Act)(w:World):Prop:= ∀o,ops[i]?=some o->wpList P ops (Nm K) [o] a w
theorem wpNm{o:Oper}{K:Act->World->Prop}{a:Act}{w:World}(h:wpList P ops (Nm K) [o] a w):if E2 o (yielded ops a.tmps)then o.wp P a w K (Nm K)else K (a.put o.dst undef) w:=by
 unfold wpList at h;split
 .rename_i b;simp only[b,if_true]at h
  rcases h with h|⟨_,h⟩
  .exact Oper.wp_mono (λa w h=>h.2) h
  .exact(Nm.out h).elim
 .rename_i b;simp only[b]at h;exact h.2
theorem kQ{o:Oper}{K:Act->World->Prop}{a:Act}{w:World}(h:if E2 o (yielded ops a.tmps)then o.wp P a w K (Nm K)else K (a.put o.dst undef) w):wpList P ops (Nm K) [o] a w:=by
 unfold wpList;split
 .rename_i b;simp only[b,if_true]at h;exact .inl (Oper.wp_mono (λa w h=>⟨rfl,h⟩) h)
 .rename_i b;simp only[b]at h;exact⟨rfl,h⟩
theorem pJ{o:Oper}{a a':Act}{w:World}{K K':Act->World->Prop}{Q':Exit->Act->World->Prop}(he:execOp a'.eval o=execOp a.eval o)(hK: ∀u w',K (a.put o.dst u) w'->K' (a'.put o.dst u) w')
  (hD: ∀d w',K ({a with defers:=d::a.defers}.put o.dst undef) w'->K' ({a' with defers:=d::a'.defers}.put o.dst undef) w') (h:o.wp P a w K (Nm K)):o.wp P a' w K' Q':=by
 unfold F4 at*;rw[he];generalize (execOp a.eval o).run P w=r at*
 cases r with
 |ok n w'=>
  cases n<;>simp only[F8]at h⊢
  case value u=>exact hK _ _ h
  case skip=>exact hK _ _ h
  case defer d=>exact hD _ _ h
  case enter f args=>
   refine h.mono λe b he=>?_
   cases e with
   |returned v=>exact hK _ _ he
   |panicked c=>exact absurd he.1 n4
   |outgrown=>exact(Nm.out he).elim
  case row row args=>exact h.mono λ_ _ he=>hK _ _ he
 |halt x w'=>
  cases x<;>simp only[F8]at h
  exact absurd h.1 n4
def bBu (P:Program)(md:Region.Mode)(ops:Array Oper)(C:World->Prop)(Q:Exit->Act->World->Prop):Nat->Array Bool->Act->World->Prop
 |0,listed,a,w=>C w/\E3 md ops listed=[]/\Q .normal a w
 |fuel+1,listed,a,w=>C w/\(E3 md ops listed=[]->Q .normal a w)/\ ∀i∈E3 md ops listed,fOp P ops i (bBu P md ops C Q fuel (listed.setIfInBounds i true)) a w
theorem qC: ∀(fuel:Nat) (listed:Array Bool) (a:Act) (w:World),bBu P md ops C Q fuel listed a w->wpAny P md ops Q fuel listed a w
 |0,_,_,_,h=>h.2
 |fuel+1,listed,a,w,h=>by
  refine⟨h.2.1,λi f=>?_⟩;have j:=h.2.2 i f;unfold wpOp;split
  .rename_i ho;obtain⟨_,k,b,_⟩:=mem_ready.1 f;rw[ho]at b;cases b
  .rename_i o ho;have h1:=wpNm (j o ho);split
   .rename_i c;simp only[c,if_true]at h1;exact .inl (pJ rfl (λu g e=>qC fuel _ _ _ e) (λd g e=>qC fuel _ _ _ e) h1)
   .rename_i c;simp only[c]at h1;exact qC fuel _ _ _ h1
def Fl (P:Program)(ops:Array Oper)(C:World->Prop)(o:Oper)(v:Value)(a:Act):Prop:=
 (E2 o (yielded ops a.tmps)=true/\ ∀w,C w->(execOp a.eval o).run P w= .ok (.value v) w)\/(E2 o (yielded ops a.tmps)=false/\v=undef)
theorem Fl.of_same{o:Oper}{v:Value}{a a':Act}(hy:Fl P ops C o v a)(he:execOp a'.eval o=execOp a.eval o)
  (hw:E2 o (yielded ops a'.tmps)=E2 o (yielded ops a.tmps)):Fl P ops C o v a':=by
 unfold Fl at*;rw[he,hw];exact hy
theorem Fl.fOp{i:Nat}{o:Oper}{v:Value}{a:Act}{w:World}(hi:ops[i]?=some o)(hy:Fl P ops C o v a)(hC:C w){K:Act->World->Prop}(h:K (a.put o.dst v) w):fOp P ops i K a w:=λd c=>by
 have:d=o:=Option.some.inj (c.symm.trans hi);subst this;apply kQ
 rcases hy with ⟨b,e⟩|⟨b,rfl⟩
 .simp only[b,if_true,F4,e w hC,F8];exact h
 .simp only[b,G0,if_false];exact h
theorem fOp_put{j:Nat}{oi oj:Oper}{v:Value}(hj:ops[j]?=some oj)(hap:oi.apart ops oj=true)
  (hsi: ∀cs b,oi.op≠ .select cs b) (hsj: ∀cs b,oj.op≠ .select cs b) {K:Act->World->Prop} {a:Act} {w:World}
  (hy:Fl P ops C oi v a) (h:fOp P ops j K (a.put oi.dst v) w):fOp P ops j (λa' w'=>Fl P ops C oi v a'/\K (a'.put oi.dst v) w') a w:=λo ho=>by
 have:o=oj:=Option.some.inj (ho.symm.trans hj);subst this;obtain⟨h1,e,g⟩:=Oper.apart_spec hap
 have keep: ∀(a:Act),Fl P ops C oi v a-> ∀u,Fl P ops C oi v (a.put o.dst u):=λa hy u=>
  hy.of_same (execOp_put oi hsi a o.dst u g) (wanted_put oi a o.dst u g)
 have h:=wpNm (h o ho);rw[wanted_put o a oi.dst v h1]at h;apply kQ;split
 .rename_i c;simp only[c,if_true]at h;refine pJ (execOp_put o hsj a oi.dst v h1).symm (λu w' f=>⟨keep a hy u,by rw[<-Act.put_comm a v u e];exact f⟩) (λd w' f=>?_) h;refine⟨keep {a with defers:=d::a.defers} hy undef,?_⟩;rw[<-Act.put_comm {a with defers:=d::a.defers} v undef e]
  have:({a.put oi.dst v with defers:=d::(a.put oi.dst v).defers}:Act)=({a with defers:=d::a.defers}:Act).put oi.dst v:=by
   cases oi.dst<;>rfl
  rw[<-this];exact f
 .rename_i c;simp only[c]at h;exact⟨keep a hy _,by rw[<-Act.put_comm a v undef e];exact h⟩
theorem fQ{i:Nat}{K K':Act->World->Prop}{a:Act}{w:World}(hk: ∀a w,K a w->K' a w)(h:fOp P ops i K a w):fOp P ops i K' a w:=λo ho=>by
 have h:=wpNm (h o ho);apply kQ;split
 .rename_i b;simp only[b,if_true]at h;exact pJ rfl (λu e c=>hk _ _ c) (λd e c=>hk _ _ c) h
 .rename_i b;simp only[b]at h;exact hk _ _ h
theorem xH{i:Nat}{oi:Oper}{v:Value}(hi:ops[i]?=some oi)(hsel: ∀(j:Nat) (o:Oper) cs b,ops[j]?=some o->o.op≠ .select cs b):
  ∀(fuel:Nat) (listed:Array Bool) (a:Act) (w:World),
   (∀j oj,ops[j]?=some oj->j≠i->listed.getD j true=false->(∀e∈oj.after,E4 md e=true->e.on≠i)->oi.apart ops oj=true)->
   i∈E3 md ops listed->Fl P ops C oi v a->
   bBu P md ops C Q fuel (listed.setIfInBounds i true) (a.put oi.dst v) w->bBu P md ops C Q (fuel+1) listed a w:=by
 intro fuel
 induction fuel with
 |zero=>
  intro listed a w _ hr r H;refine⟨H.1,λh=>s7,λj s=>?_⟩
  by_cases c:j=i
  .subst c;exact r.fOp hi H.1 H
  .have:=ready_mono s c;rw[H.2.1]at this;cases this
 |succ fuel ih=>
  intro listed a w d hr r H;refine⟨H.1,λh=>s7,λj s=>?_⟩
  by_cases c:j=i
  .subst c;exact r.fOp hi H.1 H
  .have h1:=H.2.2 j (ready_mono s c);obtain⟨g,oj,l,q⟩:=mem_ready.1 s
   have n: ∀e∈oj.after,E4 md e=true->e.on≠i:=λe D hb x=>by
    have h1:=q e D hb;have h0:=(mem_ready.1 hr).1;rw[x]at h1
    rcases Nat.lt_or_ge i listed.size with y|y
    .simp[y]at h0 h1;rw[h0]at h1;cases h1
    .simp[j9 y]at h1
   have E:=fOp_put l (d j oj l c g n) (λcs b=>hsel i oi cs b hi) (λcs b=>hsel j oj cs b l) r h1;have f: ∀k ok,ops[k]?=some ok->k≠i->(listed.setIfInBounds j true).getD k true=false->
     (∀e∈ok.after,E4 md e=true->e.on≠i)->oi.apart ops ok=true:=λk ok B u m t=>by
    refine d k ok B u ?_ t
    by_cases p:j=k
    .subst p;exact g
    .rw[getD_set_ne true p]at m;exact m
   refine fQ (λG A z=>ih (listed.setIfInBounds j true) G A f (ready_mono hr (Ne.symm c)) z.1 ?_) E;rw[Array.setIfInBounds_comm _ _ c];exact z.2
def oQ (P:Program)(ops:Array Oper)(C:World->Prop)(Q:Exit->Act->World->Prop):List (Bool×Nat)->Act->World->Prop
 |[],a,w=>Q .normal a w
 |(true,k)::r,a,w=> ∃o v,ops[k]?=some o/\Fl P ops C o v a/\oQ P ops C Q r (a.put o.dst v) w
 |(false,k)::r,a,w=>fOp P ops k (λa w=>C w/\oQ P ops C Q r a w) a w
def mixB (md:Region.Mode)(ops:Array Oper):List (Bool×Nat)->Array Bool->Bool
 |[],listed=>(E3 md ops listed).isEmpty
 |(true,k)::r,listed=>(E3 md ops listed).contains k&&Region.free md ops listed k&&mixB md ops r (listed.setIfInBounds k true)
 |(false,k)::r,listed=>(E3 md ops listed==[k])&&mixB md ops r (listed.setIfInBounds k true)
theorem bDn(hs:E5 ops=true): ∀(l:List (Bool×Nat)) (listed:Array Bool) (a:Act) (w:World),mixB md ops l listed=true->C w->oQ P ops C Q l a w->bBu P md ops C Q l.length listed a w
 |[],listed,a,w,hB,hC,h=>⟨hC,by simpa[mixB]using hB,h⟩
 |(true,k)::r,listed,a,w,hB,hC,h=>by
  simp only[mixB,G1]at hB;obtain⟨o,v,ho,d,e⟩:=h;exact xH ho (Region.noSelect_spec hs) r.length listed a w (Region.free_spec ho hB.1.2) (by simpa using hB.1.1) d (bDn hs r _ _ _ hB.2 hC e)
 |(false,k)::r,listed,a,w,hB,hC,h=>by
  simp only[mixB,G1,beq_iff_eq]at hB;refine⟨hC,λh0=>t8,λi b=>?_⟩;rw[hB.1]at b;have:i=k:=by simpa using b
  subst this;exact fQ (λg f c=>bDn hs r _ _ _ hB.2 c.1 c.2) h
def mixOk (l:List (Bool×Nat))(ops:Array Oper):Bool:=E5 ops&&B5 l.length ops.size&&mixB .any ops l (A8 ops.size false)
end
section
variable {P : Program} {β : dE} {n : Nat} {Γ : Env} {H : List bC} {F : List bE} {Q : Exit -> Act -> World -> Prop} {K : Act -> World -> Prop} {Hk : List bC} {F0 : List bE} {ops : Array Oper}
theorem StF.sel(hH:Sel H Hk)(hF:bA F F0){w:World}(h:StF β H F w):StF β Hk F0 w:=by
 obtain⟨S,s,k⟩:=h;exact⟨S,s.sel hH,hF.all S w k⟩
theorem dC{id:Nat}{l:List Oper}(Hk:List bC)(F0:List bE)(od:List (Bool×Nat))(hm:P.follows .mixedOrders=true)(hB:mixOk od l.toArray=true)(hH:Sel H Hk)(hF:bA F F0)
  (h:At β n Γ H F (oQ P l.toArray (StF β Hk F0) Q od)):At β n Γ H F ((B1 id l.toArray true).wp P Q):=λa w S f s k=>by
 simp only[mixOk,G1]at hB;have e:=StF.drew ⟨S,s,k⟩;obtain⟨d,b,c⟩:=e;refine wp_region_any hm (qC (C:=StF β Hk F0) _ _ _ _ ?_);have:=bDn (P:=P) (md:= .any) (C:=StF β Hk F0) (Q:=Q) hB.1.1 od (A8 l.toArray.size false) a _ hB.2 (StF.sel hH hF ⟨d,b,c⟩) (h a _ d f b c)
 rwa[B7 hB.1.2]at this
def Sti (P:Program)(β:dE)(n:Nat)(Γ:Env)(H:List bC)(F:List bE)(o:Oper)(v:Value):Prop:= ∀a w S,Fits n Γ a->St β H S w->All F S w->(execOp a.eval o).run P w= .ok (.value v) w
theorem Sti.det{o:Oper}{v:Value}(h:Sti P β n Γ H F o v):Det P β n Γ H F o v:=det_of h
theorem iH{rest:List Oper}{o:Oper}{d:Nat}{v:Value}(hw:want ops Γ o=some true)(hd:o.dst=some d)(hn:C0 d n=true)(h:Sti P β n Γ H F o v)
  (k:At β n ((d,v)::Γ) H F (wpList P ops Q rest)):At β n Γ H F (wpList P ops Q (o::rest)):=at_det hw hd hn h.det k
theorem atm_nil{C:World->Prop}(h:At β n Γ H F (Q .normal)):At β n Γ H F (oQ P ops C Q []):=h
theorem bEq{r:List (Bool×Nat)}{o:Oper}{k d:Nat}{v:Value}(hk:ops[k]?=some o)(hw:want ops Γ o=some true)(hd:o.dst=some d)(hn:C0 d n=true)(h:Sti P β n Γ Hk F0 o v)
  (K:At β n ((d,v)::Γ) H F (oQ P ops (StF β Hk F0) Q r)):At β n Γ H F (oQ P ops (StF β Hk F0) Q ((true,k)::r)):=λa w S f s g=>by
 refine⟨o,v,hk,.inl ⟨f.want hw,λb ⟨i,c,e⟩=>h a b i f c e⟩,?_⟩;rw[hd];exact K _ _ S (f.put m9 v) s g
theorem stM{r:List (Bool×Nat)}{o:Oper}{k d:Nat}{v:Value}(hk:ops[k]?=some o)(h:Sti P β n Γ Hk F0 o v)(K:At β n ((d,v)::Γ) H F (oQ P ops (StF β Hk F0) Q r))(hw:want ops Γ o=some true:=by exact rfl)(hd:o.dst=some d:=by exact rfl)(hn:Nat.blt d n=true:=by exact rfl):At β n Γ H F (oQ P ops (StF β Hk F0) Q ((true,k)::r)):=bEq hk hw hd hn h K
theorem puM{r:List (Bool×Nat)}{o:Oper}{k d:Nat}{v:Value}{T:Tab}(hT:dU P T)(K:At β n ((d,v)::Γ) H F (oQ P ops (StF β Hk F0) Q r))(hk:ops[k]?=some o:=by exact rfl)(hw:want ops Γ o=some true:=by exact rfl)(hd:o.dst=some d:=by exact rfl)(hn:Nat.blt d n=true:=by exact rfl)(h:oV T Γ o.op=some v:=by exact rfl):At β n Γ H F (oQ P ops (StF β Hk F0) Q ((true,k)::r)):=bEq hk hw hd hn (λ_ w _ f _ _=>bPt hT f h w) K
theorem atm_skipped{r:List (Bool×Nat)}{o:Oper}{k d:Nat}{C:World->Prop}(hk:ops[k]?=some o)(hw:want ops Γ o=some false)(hd:o.dst=some d)(hn:C0 d n=true)
  (K:At β n ((d,undef)::Γ) H F (oQ P ops C Q r)):At β n Γ H F (oQ P ops C Q ((true,k)::r)):=λa w S f s b=>by
 refine⟨o,undef,hk,.inr ⟨f.want hw,rfl⟩,?_⟩;rw[hd];exact K _ _ S (f.put m9 undef) s b
theorem atm_op{r:List (Bool×Nat)}{o:Oper}{k:Nat}{C:World->Prop}(hk:ops[k]?=some o)(h:At β n Γ H F (wpList P ops (Nm λa w=>C w/\oQ P ops C Q r a w) [o])):At β n Γ H F (oQ P ops C Q ((false,k)::r)):=λa w S f s d c b=>by
 have:c=o:=Option.some.inj (b.symm.trans hk);subst this;exact h a w S f s d
theorem bCd{r:List (Bool×Nat)}(hH:Sel H Hk)(hF:bA F F0)(h:At β n Γ H F (oQ P ops (StF β Hk F0) Q r)):At β n Γ H F (wpList P ops (Nm λa w=>StF β Hk F0 w/\oQ P ops (StF β Hk F0) Q r a w) []):=λa w S f s k=>
 ⟨rfl,StF.sel hH hF ⟨S,s,k⟩,h a w S f s k⟩
end
structure Flat (α:Type) where
 size:Nat
 cells:α->List Value
 len: ∀x,(cells x).length=size
 one: ∀x,∀u∈cells x,u.oneCell'=true
 pos:0<size
section
variable {α : Type} (E : Flat α)
def Flat.all(xs:List α):List Value:=xs.flatMap E.cells
theorem Flat.all_length(xs:List α):(E.all xs).length=xs.length*E.size:=by
 induction xs with
 |nil=>simp[Flat.all]
 |cons x r ih=>
  have:E.all (x::r)=E.cells x++E.all r:=rfl;rw[this,E0,ih,E.len,E1,C5,C6,Nat.add_comm]
theorem Flat.all_append(xs ys:List α):E.all (xs++ys)=E.all xs++E.all ys:=by simp[Flat.all]
theorem Flat.all_one{xs:List α}: ∀u∈E.all xs,u.oneCell'=true:=λu hu=>by
 obtain⟨x,_,h⟩:=List.mem_flatMap.1 hu;exact E.one x u h
theorem Flat.all_get{xs:List α}{k:Nat}{x:α}(h:xs[k]?=some x){j:Nat}{u:Value}(hj:(E.cells x)[j]?=some u):(E.all xs)[k*E.size+j]?=some u:=by
 induction xs generalizing k with
 |nil=>simp at h
 |cons y r ih=>
  have e:E.all (y::r)=E.cells y++E.all r:=rfl
  cases k with
  |zero=>
   simp at h;subst h;have hlt:=(D9.1 hj).1;rw[e,Nat.zero_mul,C7,List.getElem?_append_left hlt];exact hj
  |succ k=>
   rw[e,List.getElem?_append_right (by rw[E.len,C5,C6];omega),E.len];rw[show(k+1)*E.size+j-E.size=k*E.size+j from by rw[C5,C6];omega];exact ih ab0
theorem bCn: ∀(vs xs:List Value) (j:Nat),j+vs.length<=xs.length->kS xs j vs=xs.take j++vs++xs.drop (j+vs.length)
 |[],xs,j,_=>by simp[kS]
 |v::r,xs,j,h=>by
  simp only[E1]at h;rw[kS,bCn r (xs.set j v) (j+1) n9]
  have h1:(xs.set j v).take (j+1)=xs.take j++[v]:=by
   rw[List.take_add_one,List.getElem?_set_self k9,List.take_set_of_le (B8 _)];rfl
  have a:(xs.set j v).drop (j+1+r.length)=xs.drop (j+(r.length+1)):=by
   rw[List.drop_set_of_lt k9]
   congr 1
   omega
  rw[h1,a];simp
theorem Flat.all_set{xs:List α}{k fo:Nat}{x x':α}{vs:List Value}(h:xs[k]?=some x)(hp:rP (E.cells x) fo vs=some (E.cells x')):kS (E.all xs) (k*E.size+fo) vs=E.all (xs.set k x'):=by
 obtain⟨h1,i⟩:=qD hp;rw[E.len]at h1;have e:k<xs.length:=(D9.1 h).1
 have b:xs=xs.take k++x::xs.drop (k+1):=by
  have:x=xs[k]:=(D9.1 h).2.symm;rw[this];simp
 have a:xs.set k x'=xs.take k++x'::xs.drop (k+1):=by rw[List.set_eq_take_append_cons_drop,if_pos e]
 have c:(xs.take k).length=k:=by simp;omega
 have j:E.all xs=E.all (xs.take k)++(E.cells x++E.all (xs.drop (k+1))):=(congrArg E.all b).trans (E.all_append _ _);have d:(E.all (xs.take k)).length=k*E.size:=by rw[E.all_length,c]
 rw[bCn _ _ _ (by rw[E.all_length];have:(k+1)*E.size<=xs.length*E.size:=C8 _ e;rw[C5,C6]at this;omega)];rw[a,E.all_append];show _=E.all (xs.take k)++(E.cells x'++E.all (xs.drop (k+1)));rw[i,j];generalize E.all (xs.take k)=A at*;generalize E.all (xs.drop (k+1))=B at*
 have g:(A++(E.cells x++B)).take (k*E.size+fo)=A++(E.cells x).take fo:=by
  rw[<-d,List.take_append,List.take_of_length_le k9,show A.length+fo-A.length=fo from by omega,List.take_append_of_le_length (by rw[E.len];omega)]
 have f:(A++(E.cells x++B)).drop (k*E.size+fo+vs.length)=(E.cells x).drop (fo+vs.length)++B:=by
  rw[<-d,C2,List.drop_append,List.drop_of_length_le k9,show A.length+(fo+vs.length)-A.length=fo+vs.length from by omega,List.drop_append_of_le_length (by rw[E.len];omega)];simp
 rw[g,f];simp
end
def bRn:Option Addr->Nat
 |some a=>a.block
 |none=>0
def bRj:Option Addr->Nat
 |some a=>a.off
 |none=>0
section
variable {P : Program} {β : dE} {n : Nat} {Γ : Env} {H : List bC} {F : List bE} {Q : Exit -> Act -> World -> Prop} {K : Act -> World -> Prop} {T : Tab} {α : Type} {E : Flat α}
def Flat.row(E:Flat α)(v:Value)(t:TypeId)(xs:List α):bC:= .row v t E.size xs.length (E.all xs)
def Flat.sl(E:Flat α)(v:Value)(xs:List α):bE:=bE.sl (Enc.flat E.size E.cells) v xs
def dO (β:dE)(H:List bC)(F:List bE)(E:Flat α)(A:Option Addr)(xs:List α):Prop:= ∀w S,St β H S w->All F S w-> ∀k x,xs[k]?=some x->(∃b o,A=some ⟨b,o,none⟩)/\
 ∀j u,(E.cells x)[j]?=some u->w.cell? ⟨bRn A,bRj A+k*E.size+j,none⟩=some u
theorem bV{A:Option Addr}{l c:Nat}{xs:List α}(h:Has F (E.sl (.slice A l c) xs)):dO β H F E A xs:=λw S _ k i x d=>by
 obtain⟨p,m,e,h⟩:=h S w k;obtain⟨b,o,j,g,n,f,a⟩:=h i x d;injection e with e
 subst e;subst g;have a:j=E.cells x:=a;subst a;exact⟨⟨b,o,rfl⟩,f⟩
theorem cH{A:Option Addr}{t:TypeId}{m cap:Nat}{xs:List α}{H':List bC}(hH:bU H (E.row (.slice A m cap) t xs) H'):dO β H F E A xs:=λw S s _ i x c=>by
 have ho:w.ownsRow 0 t E.size (.slice A m cap) xs.length (E.all xs):=s.ok _ hH.mem;have hlt:i<xs.length:=(D9.1 c).1
 rcases ho.2 with ⟨e,h⟩|⟨g,d,f,e,_⟩
 .omega
 .injection e with e1 e2 e3
  subst e1 e2;refine⟨⟨g,0,rfl⟩,λj u b=>?_⟩;have a:=(D9.1 b).1;rw[E.len]at a;show w.cell? ⟨g,0+i*E.size+j,none⟩=some u;rw[C7,World.ownsRow.cellAt ho _ (by have:(i+1)*E.size<=xs.length*E.size:=C8 _ hlt;rw[C5,C6]at this;omega)];exact E.all_get c b
theorem fJ(hT:dU P T){o:Oper}{v:Value}(h:oV T Γ o.op=some v):Sti P β n Γ H F o v:=λ_ w _ f _ _=>bPt hT f h w
theorem bJ(hT:dU P T){o:Oper}{t e l c k:Nat}{x i:Operand}{kk:IntKind}{z:Int}{sz:Nat}{de:TD}{A:Option Addr}{xs:List α}(hr:dO β H F E A xs)(ho:o.op= .indexAddr t x i)(hx:Γ.ev x=some (.slice A l c))(hi:Γ.ev i=some (.int kk z))
  (ht:T.get t=some ⟨.slice e,sz⟩) (he:T.get e=some ⟨de,E.size⟩) (hl:l=xs.length) (hz:z=(k:Nat)) (hk:k<xs.length):Sti P β n Γ H F o (.pointer (some ⟨bRn A,bRj A+k*E.size,none⟩)):=λa w S f s h=>by
 obtain⟨⟨b,d,rfl⟩,_⟩:=hr w S s h k _ (D7 hk);subst hz;subst hl;have g:(⟨b,d,none⟩:Addr).add (k*E.size)=⟨b,d+k*E.size,none⟩:=F9 _ _ _
 have h0:(0:Int)<=(k:Int)/\(k:Int)<(xs.length:Int):=⟨k9,k9⟩
 unfold execOp;simp only[ho,f.ev hx,f.ev hi,F3,asIntOf,E6,E7,E8,hT.slice ht w,h0,and_self,if_true,hT.size he,G2,g];rfl
theorem f5(hT:dU P T){o:Oper}{t e l c k:Nat}{x i:Operand}{kk:IntKind}{z:Int}{sz:Nat}{de:TD}{A:Option Addr}{xs:List α}(hr:dO β H F E A xs)(hl:l=xs.length)(hk:k<xs.length)(ho:o.op= .indexAddr t x i:=by exact rfl)(hx:Γ.ev x=some (.slice A l c):=by exact rfl)(hi:Γ.ev i=some (.int kk z):=by exact rfl)(ht:T.get t=some ⟨.slice e,sz⟩:=by exact rfl)(he:T.get e=some ⟨de,E.size⟩:=by exact rfl)(hz:z=(k:Nat):=by exact rfl):Sti P β n Γ H F o (.pointer (some ⟨bRn A,bRj A+k*E.size,none⟩)):=bJ hT hr ho hx hi ht he hl hz hk
theorem dO.knows{A:Option Addr}{xs:List α}(hr:dO β H F E A xs){k:Nat}{x:α}(hk:xs[k]?=some x)(fo:Nat):oU β H F (bRn A) (bRj A+k*E.size+fo) ((E.cells x).drop fo):=λw S s b j u a=>by
 have:=(hr w S s b k x hk).2 (fo+j) u (by simpa using a)
 rwa[<-C2]at this
theorem bK(hT:dU P T){o:Oper}{t b q:Nat}{p:Operand}{cs:List Value}{i:TI}{v:Value}(hk:oU β H F b q cs)(ho:o.op= .load t p)(hp:Γ.ev p=some (.pointer (some ⟨b,q,none⟩)))(ht:T.get t=some i)(ha:aggD i.desc=false)
  (hv:cs[0]?=some v):Sti P β n Γ H F o v:=λa w S f s k=>by
 have c:=hk w S s k 0 v hv;rw[C3]at c;unfold execOp;simp only[ho,f.ev hp,Instr.loadAt,F1,loadVar,E6,E7,E8,hT.agg ht,ha,G0,if_false,run_load,c]
theorem f8(hT:dU P T){o:Oper}{t b q:Nat}{p:Operand}{cs:List Value}{i:TI}{v:Value}(hk:oU β H F b q cs)(ho:o.op= .load t p:=by exact rfl)(hp:Γ.ev p=some (.pointer (some ⟨b,q,none⟩)):=by exact rfl)(ht:T.get t=some i:=by exact rfl)(ha:aggD i.desc=false:=by exact rfl)(hv:cs[0]?=some v:=by exact rfl):Sti P β n Γ H F o v:=bK hT hk ho hp ht ha hv
theorem sH(hT:dU P T){o:Oper}{t b q:Nat}{p:Operand}{cs l:List Value}{i:TI}(hk:oU β H F b q cs)(ho:o.op= .load t p)(hp:Γ.ev p=some (.pointer (some ⟨b,q,none⟩)))(ht:T.get t=some i)(ha:aggD i.desc=true)
  (hv:cut cs 0 i.size=some l):Sti P β n Γ H F o (.agg l.toArray):=λa w S f s k=>by
 obtain⟨h1,e,d⟩:=zD hv;have hl:=run_loadCells_list (P:=P) w ⟨b,q,none⟩ l (λj u c=>by rw[F9];exact hk w S s k j u (by simpa using d j u c));rw[e]at hl;unfold execOp;simp only[ho,f.ev hp,Instr.loadAt,F1,loadVar,E6,E7,E8,hT.agg ht,ha,if_true,hT.size ht,hl]
theorem cG{t:TypeId}(E:Flat α)(h:At β n Γ (E.row (.slice none 0 0) t []::H) F K):At β n Γ H F K:=at_nilrow (t:=t) (sz:=E.size) h
theorem at_rowv{v:Value}{t:TypeId}{xs:List α}{H':List bC}(hH:bU H (E.row v t xs) H')(h: ∀A cap,v= .slice A xs.length cap->At β n Γ H F K):At β n Γ H F K:=at_row hH λ_ ⟨A,cap,e,_⟩=>h A cap e
theorem cQ{ops:Array Oper}{rest:List Oper}{o:Oper}(hT:dU P T){t t' k fo m cap:Nat}{p x:Operand}{v:Value}{vs:List Value}{i:TI}{A:Option Addr}{xs:List α}{y y':α}{H':List bC}(hH:bU H (E.row (.slice A m cap) t' xs) H')(hw:want ops Γ o=some true)(ho:o.op= .store t p x)(hd:o.dst=none)
  (hp:Γ.ev p=some (.pointer (some ⟨bRn A,bRj A+k*E.size+fo,none⟩))) (hx:Γ.ev x=some v) (ht:T.get t=some i) (hc:v.cells=vs.toArray) (hs:B5 vs.length i.size=true)
  (h1:vs.all (·.oneCell')=true) (hk:xs[k]?=some y) (hput:rP (E.cells y) fo vs=some (E.cells y')) (K:At β n Γ (E.row (.slice A m cap) t' (xs.set k y')::H') F (wpList P ops Q rest)):At β n Γ H F (wpList P ops Q (o::rest)):=by
 have hlt:k<xs.length:=(D9.1 hk).1;refine at_row hH λ_ ⟨f,c,e,d⟩=>?_;injection e with e1 e2 e3
 subst e1 e2 e3;obtain⟨g,rfl⟩:=d k9;have hb:=(qD hput).1;rw[E.len]at hb;have a:(k+1)*E.size<=xs.length*E.size:=C8 _ hlt;rw[C5,C6]at a;refine at_store_row hT (off:=k*E.size+fo) hw ho hd (by rw[hp];show _=some (Value.pointer (some ⟨g,_,none⟩));simp[bRn,bRj]) hx (t':=t') (m:=xs.length) (cap:=cap) (sz:=E.size) hH ht hc hs h1 k9 (E.all_set hk hput) ?_;have b:=K;unfold Flat.row at b;rw[List.length_set]at b;exact b
theorem bKx{ops:Array Oper}{rest:List Oper}{o:Oper}{d:Nat}{x y:Operand}{t e:TypeId}{i:TypeInfo}{z:Value}{by_ c q:Nat}{v:Value}{A:Option Addr}{xs ys:List α}{H':List bC}(hH:bU H (E.row v e xs) H')(hr:dO β H F E A ys)(hg:o.guard=none)
  (ho:o.op= .call {callee:= .builtin .append,args:= #[x,y],argTypes:= #[t,t]}) (hd:o.dst=some d) (hn:C0 d n=true) (hu:P.underlying t=some (.slice e)) (hi:P.info? e=some i) (hz:i.zero=some z) (hsize:i.size=E.size) (hby:i.bytes=by_) (hzs:z.cells.size=E.size)
  (hx:Γ.ev x=some v) (hy:Γ.ev y=some (.slice A q c)) (hq:q=ys.length) (hne:0<ys.length) (hbytes:(xs.length+ys.length)*by_<=140737488355328) (hpos:0<by_)
  (k: ∀A' cap',At β n ((d,.slice A' (xs++ys).length cap')::Γ) (E.row (.slice A' (xs++ys).length cap') e (xs++ys)::H') F (wpList P ops Q rest)):At β n Γ H F (wpList P ops Q (o::rest)):=λa w S f s m=>by
 obtain⟨⟨b,D,rfl⟩,_⟩:=hr w S s m 0 _ (D7 hne);subst hq
 have r:xs.length+ys.length<=maxLen:=by
  have:xs.length+ys.length<=(xs.length+ys.length)*by_:=Nat.le_mul_of_pos_right _ hpos;simp[maxLen];omega
 refine at_append hg ho hd hn hu hi hz hsize hby hzs E.pos hx hH hy (news:=E.all ys) (E.all_length ys) (λw S s m j u B=>?_) E.all_one r hbytes (λJ=>?_) a w S f s m
 .have hlt:=(D9.1 B).1;rw[E.all_length]at hlt;have I:j/E.size<ys.length:=Nat.div_lt_of_lt_mul (by rwa[Nat.mul_comm]at hlt);have G:j%E.size<E.size:=Nat.mod_lt _ E.pos;have g:=D7 I;have h:=D7 (l:=E.cells ys[j/E.size]) (i:=j%E.size) (by rw[E.len];exact G);have e:j/E.size*E.size+j%E.size=j:=by rw[Nat.mul_comm];exact Nat.div_add_mod j E.size
  have h1:=(hr w S s m _ _ g).2 _ _ h;have p:=E.all_get g h;rw[e,B]at p;injection p with p
  have C:=h1.trans (congrArg some p.symm);rw[C2,e]at C;exact C
 .have K:=k;refine at_row (H:=_::H') .head λ_ ⟨A',cap',e,_⟩=>?_;subst e;have:=k A' cap';unfold Flat.row at this;rw[E.all_append,E0]at this;exact this
end
section
variable {P : Program} {β : dE} {n : Nat} {Γ : Env} {H : List bC} {F : List bE} {Q : Exit -> Act -> World -> Prop} {K : Act -> World -> Prop} {T : Tab} {α : Type} {E : Flat α}
theorem bH{f:FuncId}{fn:Func}(hf:P.funcs[f]?=some fn)(hn:(fn.name== "runtime.NumGoroutine")=false)(hb:fn.body.isNone=false)(args:Array Value)(w:World):(callFunc f args).run P w= .ok (.enter f args) w:=by
 have a:(program:Sem Program).run P w= .ok P w:=rfl;unfold callFunc;rw[E6,a,E8,hf];simp only[hn,hb,G0,if_false,E7]
theorem j4{f:FuncId}{fn:Func}(hf:P.funcs[f]?=some fn)(args:Array Value)(w:World)(hn:(fn.name== "runtime.NumGoroutine")=false:=by exact rfl)(hb:fn.body.isNone=false:=by exact rfl):(callFunc f args).run P w= .ok (.enter f args) w:=bH hf hn hb args w
theorem bG{β:dE}{n:Nat}{Γ:Env}{H:List bC}{F:List bE}{Q:Exit->Act->World->Prop}{fn:Func}{ι:Type}{ops:Array Oper}{rest:List Oper}{o:Oper}{d:Nat}{f:FuncId}{ars:Array Operand}{ts:Array TypeId}{vs:List Value}{Hin H2:List bC}{Pre:List bE}{val:ι->Value}{Hout:ι->List bC}{post:ι->List bE}(hf:P.funcs[f]?=some fn)(hs:bZ P f vs Hin Pre val Hout post)(ho:o.op= .call ⟨.value (.func f),ars,ts⟩)(hv:Γ.evs ars.toList=some vs)(hH:Split H Hin H2)(hF:bA F Pre)(k: ∀x,At β n ((d,val x)::Γ) (Hout x++H2) (post x++F) (wpList P ops Q rest))(hw:want ops Γ o=some true:=by exact rfl)(hd:o.dst=some d:=by exact rfl)(hn:Nat.blt d n=true:=by exact rfl)(h1:(fn.name== "runtime.NumGoroutine")=false:=by exact rfl)(h2:fn.body.isNone=false:=by exact rfl):At β n Γ H F (wpList P ops Q (o::rest)):=at_call (bH hf h1 h2) hs hw ho hd hn hv hH hF k
theorem f7{β:dE}{n:Nat}{Γ:Env}{H:List bC}{F:List bE}{Q:Exit->Act->World->Prop}{fn:Func}{ι:Type}{ops:Array Oper}{rest:List Oper}{o:Oper}{d:Nat}{f:FuncId}{ars:Array Operand}{ts:Array TypeId}{vs:List Value}{Hin H2:List bC}{Pre:List bE}{val:ι->Value}{Hout:ι->List bC}{post:ι->List bE}(hf:P.funcs[f]?=some fn)(hs:bZ P f vs Hin Pre val Hout post)(hH:Split H Hin H2)(hF:bA F Pre)(k: ∀x,At β n ((d,val x)::Γ) (Hout x++H2) (post x++F) (wpList P ops Q rest))(ho:o.op= .call ⟨.value (.func f),ars,ts⟩:=by exact rfl)(hv:Γ.evs ars.toList=some vs:=by exact rfl)(hw:want ops Γ o=some true:=by exact rfl)(hd:o.dst=some d:=by exact rfl)(hn:Nat.blt d n=true:=by exact rfl)(h1:(fn.name== "runtime.NumGoroutine")=false:=by exact rfl)(h2:fn.body.isNone=false:=by exact rfl):At β n Γ H F (wpList P ops Q (o::rest)):=bG hf hs ho hv hH hF k (hw:=hw) (hd:=hd) (hn:=hn) (h1:=h1) (h2:=h2)
theorem iQ{v:Value}{t:TypeId}{xs:List α}{H':List bC}(hH:bU H (E.row v t xs) H')(h:At β n Γ H' (E.sl v xs::F) K):At β n Γ H F K:=λa w S f s k=>by
 have e:=s.perm hH.perm;have l:w.ownsRow 0 t E.size v xs.length (E.all xs):=e.ok _ (D5 ..);have d:=D2.1 e.sep;have i:=e.own _ (D5 ..);have g:All F (λb=>S b\/v.ownBlock=some b) w:=All.mono (λ_ h=> .inl h) (λ_ _=>rfl) k;refine h a w (λb=>S b\/v.ownBlock=some b) f ⟨e.kept,λc j=>e.ok c (D1 _ j),λc j b hb=>?_,d.2,λb hb=>?_⟩ (All.cons ?_ g)
 .obtain⟨h1,m,o⟩:=e.own c (D1 _ j) b hb;refine⟨h1,m,λh=>?_⟩
  rcases h with h|h
  .exact o h
  .exact d.1 c j b h hb
 .rcases hb with hb|hb
  .exact e.zone b hb
  .obtain⟨h1,m,_⟩:=i b hb;exact⟨h1,.inr m⟩
 .exact row_slice l λb hb=> .inr hb
where
 row_slice {v:Value} {t:TypeId} {xs:List α} {S:jX} {w:World} (hok:w.ownsRow 0 t E.size v xs.length (E.all xs)) (hS: ∀b,v.ownBlock=some b->S b):(E.sl v xs).p S w:=by
  rcases hok.2 with ⟨e,e0⟩|⟨g,cap,cur,e,_⟩
  .have:xs=[]:=List.eq_nil_of_length_eq_zero e0;subst this;exact⟨none,0,e,λk x hk=>by simp at hk⟩
  .subst e;refine⟨_,cap,rfl,λk x hk=>⟨g,0,E.cells x,rfl,hS g rfl,λj u hj=>?_,rfl⟩⟩;have hlt:k<xs.length:=(D9.1 hk).1;have hj':=(D9.1 hj).1;rw[E.len]at hj';show w.cell? ⟨g,0+k*E.size+j,none⟩=some u;rw[C7,World.ownsRow.cellAt hok _ (by have:(k+1)*E.size<=xs.length*E.size:=C8 _ hlt;rw[C5,C6]at this;omega)];exact E.all_get hk hj
def xS (L:List bC)(G:List bE):Prop:= ∀S w,(∀c∈L,c.ok w)->(∀c∈L,∀b,c.blk=some b->S b)->All G S w
theorem sG:xS [] []:=λ_ _ _ _ g hg=>by simp at hg
theorem uU{v:Value}{t:TypeId}{xs:List α}{L:List bC}{G:List bE}(h:xS L G):xS (E.row v t xs::L) (E.sl v xs::G):=λS w a e=>
 All.cons (iQ.row_slice (a _ (D5 ..)) λb hb=>e _ (D5 ..) b hb) (h S w (λc d=>a c (D1 _ d)) λc d=>e c (D1 _ d))
theorem St.lend{Hin L H2:List bC}{S:jX}{w:World}(s:St β (Hin++(L++H2)) S w):St ⟨w,kZ Hin,λb=>S b\/kZ L b⟩ Hin (λb=>S b\/kZ L b) w where
 kept:=oM.refl _ _
 ok:=λc e=>s.ok c (D3 _ e)
 own:=λc e b hb=>⟨(s.own c (D3 _ e) b hb).1,.inl ⟨c,e,hb⟩,λh=>by
  rcases h with h|⟨d,hd,a⟩
  .exact(s.own c (D3 _ e) b hb).2.2 h
  .exact(D4.1 s.sep).2.2 c e d (D3 _ hd) b hb a⟩
 sep:=(D4.1 s.sep).1
 zone:=λb hb=>⟨by
  rcases hb with hb|⟨d,hd,a⟩
  .exact(s.zone b hb).1
  .exact(s.own d (D8 _ (D3 _ hd)) b a).1,.inl hb⟩
theorem St.leave'{Hin Hout H1:List bC}{S S' Z:jX}{w w':World}(s:St β (Hin++H1) S w)(s':St ⟨w,kZ Hin,Z⟩ Hout S' w'):St β (Hout++H1) S w':=by
 have sp:=D4.1 s.sep;have f: ∀b,kZ Hin b->b<w.heap.size/\(β.M b\/β.w.heap.size<=b)/\ ¬S b:=λb ⟨c,a,hb⟩=>s.own c (D3 _ a) b hb
 have j: ∀c∈H1,∀b,c.blk=some b->b<w.heap.size/\(β.M b\/β.w.heap.size<=b)/\ ¬S b/\ ¬kZ Hin b:=λc a b hb=>by
  obtain⟨h1,j,o⟩:=s.own c (D8 _ a) b hb;exact⟨h1,j,o,λ⟨d,hd,g⟩=>sp.2.2 d hd c a b g hb⟩
 refine⟨s.kept.trans s'.kept (λi n=>(f i n).2.1),λc a=>?_,λc a b hb=>?_,D4.2 ⟨s'.sep,sp.2.1,λc a d hd b hb g=>?_⟩,λb hb=>⟨B6 (s.zone b hb).1 s'.kept.size,(s.zone b hb).2⟩⟩
 .rcases D0.1 a with a|a
  .exact s'.ok c a
  .exact bC.ok_of (s.ok c (D8 _ a)) λb hb=>s'.kept.block b (j c a b hb).1 (j c a b hb).2.2.2
 .rcases D0.1 a with a|a
  .obtain⟨k,e,m⟩:=s'.own c a b hb;refine⟨k,?_,λh=>?_⟩
   .rcases e with e|e
    .exact(f b e).2.1
    .exact .inr (B9 s.kept.size e)
   .rcases e with e|e
    .exact(f b e).2.2 h
    .exact absurd (s.zone b h).1 (C4.2 e)
  .obtain⟨k,e,m,l⟩:=j c a b hb;exact⟨B6 k s'.kept.size,e,m⟩
 .obtain⟨k,_,_,l⟩:=j d hd b g
  rcases (s'.own c a b hb).2.1 with e|e
  .exact l e
  .exact absurd k (C4.2 e)
theorem mY{ι:Type}{ops:Array Oper}{rest:List Oper}{o:Oper}{d:Nat}{f:FuncId}{ars:Array Operand}{ts:Array TypeId}{vs:List Value}{Hin H1 L H2:List bC}{G Pre:List bE}{val:ι->Value}{Hout:ι->List bC}{post:ι->List bE}
  (hcf: ∀(args:Array Value) (w:World),(callFunc f args).run P w= .ok (.enter f args) w) (hs:bZ P f vs Hin Pre val Hout post) (hw:want ops Γ o=some true) (ho:o.op= .call ⟨.value (.func f),ars,ts⟩) (hd:o.dst=some d) (hn:C0 d n=true)
  (hv:Γ.evs ars.toList=some vs) (hH:Split H Hin H1) (hL:Split H1 L H2) (hG:xS L G) (hF:bA (G++F) Pre) (ps:ι->Prop) (hp: ∀x S w,All (post x) S w->ps x)
  (k: ∀x,ps x->At β n ((d,val x)::Γ) (Hout x++H1) F (wpList P ops Q rest)):At β n Γ H F (wpList P ops Q (o::rest)):=
 fV hw λa w S f s p=>by
  unfold F4;rw[bNk hcf ho f hv w,F7];have j:=s.perm hH.perm;have l:=j.perm (hL.perm.append_left Hin);have i:All (G++F) (λb=>S b\/kZ L b) w:=(hG _ w (λc g=>l.ok c (D8 _ (D3 _ g))) (λc g b hb=> .inr ⟨c,g,hb⟩)).append (All.mono (λ_ h=> .inl h) (λ_ _=>rfl) p);refine(hs _ w l.lend (hF.all _ w i)).mono ?_;rintro e q ⟨x,t,rfl,m,r⟩;show wpList P ops Q rest (a.put o.dst (val x)) q;rw[hd];refine k x (hp x _ _ r) _ _ S (f.put m9 _) (j.leave' m) (All.mono (λ_ h=>h) (λb hb=>m.kept.block b (s.zone b hb).1 (λ⟨c,g,h⟩=>(j.own c (D3 _ g) b h).2.2 hb)) p)
theorem sJ{f:FuncId}{args:List Value}{Pre:List bE}{v:Value}(h: ∀S w,(∀b,S b->b<w.heap.size)->All Pre S w->Calls P f args.toArray w λe w'=>e= .returned v/\Below w.heap.size w w'):
  bZ P f args [] Pre (λ_:Unit=>v) (λ_=>[]) (λ_=>[]):=λS w s k=>by
 refine(h S w (λb hb=>(s.zone b hb).1) k).mono ?_;rintro e w' ⟨rfl,hb⟩;exact⟨(),S,rfl,⟨oM.of_below _ hb,λc d=>by simp at d,λc d=>by simp at d,List.Pairwise.nil,λb a=>⟨B6 (s.zone b a).1 hb.size,.inl a⟩⟩,λg hg=>by simp at hg⟩
theorem bF{d:Nat}{k:IntKind}{z z':Int}(hz:z=z')(h:At β n ((d,.int k z')::Γ) H F K):At β n ((d,.int k z)::Γ) H F K:=by rw[hz];exact h
theorem at_val{d:Nat}{v v':Value}(hz:v=v')(h:At β n ((d,v')::Γ) H F K):At β n ((d,v)::Γ) H F K:=by rw[hz];exact h
theorem dB{d:Nat}{t:Bool}(ht:t=true->At β n ((d,.bool true)::Γ) H F K)(hf:t=false->At β n ((d,.bool false)::Γ) H F K):At β n ((d,.bool t)::Γ) H F K:=by
 cases t
 .exact hf rfl
 .exact ht rfl
theorem bBq{z:Int}{k:Nat}(h:z=k)(hk:k<9223372036854775808):IntKind.i64.wrap z=k:=by
 subst h;simp only[G3,G4,G5];simp;omega
theorem nN{z:Int}(h1: -9223372036854775808<=z)(h2:z<9223372036854775808):IntKind.i64.wrap z=z:=by
 simp only[G3,G4,G5];simp;omega
def Env.parts(Γ:Env):List (Nat×Operand)->Option (List (Nat×Value))
 |[]=>some []
 |(i,x)::r=>match Γ.ev x,Γ.parts r with
  |some v,some vs=>some ((i,v)::vs)
  |_,_=>none
theorem Fits.parts{a:Act}(h:Fits n Γ a): ∀{ps:List (Nat×Operand)} {vs:List (Nat×Value)},Γ.parts ps=some vs->ps.map (λp=>(p.1,a.eval p.2))=vs
 |[],vs,hx=>by simp[Env.parts]at hx;simp[hx]
 |(i,x)::r,vs,hx=>by
  unfold Env.parts at hx
  cases b:Γ.ev x with
  |none=>simp[b]at hx
  |some v=>
   cases hr:Γ.parts r with
   |none=>simp[b,hr]at hx
   |some us=>
    simp[b,hr]at hx;subst hx;simp[h.ev b,h.parts hr]
theorem cC{o:Oper}{t:TypeId}{ps:Array (Nat×Operand)}{vs:List (Nat×Value)}{cs:Array Value}(ho:o.op= .build t ps)(hv:Γ.parts ps.toList=some vs)(hb:P.built t vs=some cs):Sti P β n Γ H F o (.agg cs):=λa w S f s k=>by
 have b:=f.parts hv;have:(ps.map λ(i,x)=>(i,a.eval x)).toList=vs:=by rw[Array.toList_map];exact b
 unfold execOp;simp only[ho];rw[E6,run_build w t _ cs (by rw[this];exact hb)];rfl
theorem bS{ops:Array Oper}{rest:List Oper}{o:Oper}{d:Nat}{t:TypeId}{z:Value}{cs:List Value}(hw:want ops Γ o=some true)(ho:o.op= .alloc t)(hd:o.dst=some d)(hn:C0 d n=true)
  (hz:(P.info? t).bind (·.zero)=some z) (hc:z.cells=cs.toArray) (k: ∀b,At β n ((d,.pointer (some ⟨b,0,none⟩))::Γ) (.obj b (.cells cs.toArray t)::H) F (wpList P ops Q rest)):At β n Γ H F (wpList P ops Q (o::rest)):=
 fV hw λa w S f s g=>by
  have hr:(execOp a.eval o).run P w= .ok (.value (.pointer (some ⟨w.heap.size,0,none⟩))) (w.alloc (.cells cs.toArray t)):=by
   cases e:P.info? t with
   |none=>simp[e]at hz
   |some i=>
    simp[e]at hz;have c:(zeroValue t).run P w= .ok z w:=by simp[zeroValue,typeInfo,e,hz]
    unfold execOp;simp only[ho,Instr.alloc,E6,c,E8,newVar,newRow,hc];rfl
  unfold F4;rw[hr,F5,hd];exact k _ _ _ S (f.put m9 _) (s.alloc _) (All.alloc s g _)
theorem f9{ops:Array Oper}{rest:List Oper}{o:Oper}{d:Nat}{t:TypeId}{z:Value}{cs:List Value}(hz:(P.info? t).bind (·.zero)=some z)(k: ∀b,At β n ((d,.pointer (some ⟨b,0,none⟩))::Γ) (.obj b (.cells cs.toArray t)::H) F (wpList P ops Q rest))(hw:want ops Γ o=some true:=by exact rfl)(ho:o.op= .alloc t:=by exact rfl)(hd:o.dst=some d:=by exact rfl)(hn:Nat.blt d n=true:=by exact rfl)(hc:z.cells=cs.toArray:=by exact rfl):At β n Γ H F (wpList P ops Q (o::rest)):=bS hw ho hd hn hz hc k
theorem fZ{b:Nat}{t:TypeId}{xs:List α}{H':List bC}{cs:List Value}(hH:bU H (.obj b (.cells cs.toArray t)) H')(hcs:cs=E.all xs):dO β H F E (some ⟨b,0,none⟩) xs:=λw S s _ i x c=>by
 have h:w.heap[b]?=some (.cells cs.toArray t):=s.ok _ hH.mem;refine⟨⟨b,0,rfl⟩,λj u a=>?_⟩;show w.cell? ⟨b,0+i*E.size+j,none⟩=some u;unfold j7;rw[h,hcs];have:=E.all_get c a
 simpa using this
theorem dZ(hT:dU P T){o:Oper}{t e b off m k:Nat}{x i:Operand}{kk:IntKind}{z:Int}{sz:Nat}{ei:TI}(ho:o.op= .indexAddr t x i)(hx:Γ.ev x=some (.pointer (some ⟨b,off,none⟩)))(hi:Γ.ev i=some (.int kk z))
  (ht:T.get t=some ⟨.array m e,sz⟩) (he:T.get e=some ei) (hz:z=(k:Nat)) (hk:k<m):Sti P β n Γ H F o (.pointer (some ⟨b,off+k*ei.size,none⟩)):=λa w S f s _=>by
 subst hz;have c:(⟨b,off,none⟩:Addr).add (k*ei.size)=⟨b,off+k*ei.size,none⟩:=F9 _ _ _
 have h0:(0:Int)<=(k:Int)/\(k:Int)<(m:Int):=⟨k9,k9⟩
 unfold execOp;simp only[ho,f.ev hx,f.ev hi,F3,F1,asIntOf,E6,E7,E8,hT.array ht,h0,and_self,if_true,hT.size he,G2,c]
end
theorem bA.sub{F:List bE}: ∀{G:List bE},(∀g∈G,g∈F)->bA F G
 |[],_=>trivial
 |g::_,h=>⟨Has.of (h g (D5 ..)),bA.sub λx hx=>h x (D1 _ hx)⟩
theorem bA.self{F:List bE}:bA F F:=bA.sub λ_ h=>h
theorem bKs{b:Bool}(h:(!b)=true):b=false:=by cases b<;>simp_all
theorem bJh{b:Bool}(h:(!b)=false):b=true:=by cases b<;>simp_all
section
variable {P : Program} {β : dE} {n : Nat} {Γ : Env} {H : List bC} {F : List bE} {Q : Exit -> Act -> World -> Prop} {K : Act -> World -> Prop} {T : Tab} {α : Type} {E : Flat α}
theorem bUz{c:Code}(k:Nat)(h:At β n Γ H F (B4 P c Q k)):At β n Γ H F ((B3 c).wp P Q):=λa w S f s b=>wp_loop_rounds k (h a w S f s b)
theorem at_round{c:Code}{k:Nat}(h:At β n Γ H F (c.wp P (Exit.then (B4 P c Q k) Q))):At β n Γ H F (B4 P c Q (k+1)):=λa w S f s b=>by
 rw[rounds_succ];exact h a w S f s b
theorem pR{ops:Array Oper}{rest:List Oper}{o:Oper}{d:Nat}{t e:TypeId}{x:Operand}{v:Value}{ie:TypeInfo}{z:Value}{cs:List Value}(hw:want ops Γ o=some true)(ho:o.op= .buildSlice t 1 #[(0,x)])(hd:o.dst=some d)(hn:C0 d n=true)
  (hx:Γ.ev x=some v) (hu:P.underlying t=some (.slice e)) (hie:P.info? e=some ie) (hz:ie.zero=some z) (hs:ie.size<=16777216) (hp:0<ie.size) (hf:Instr.fill (λi=>some (i*ie.size,ie.size)) ((Array.range (1*ie.size)).map (z.cells[· %z.cells.size]!)) [(0,v)]=some cs.toArray)
  (k: ∀b,At β n ((d,.slice (some ⟨b,0,none⟩) 1 1)::Γ) (.obj b (.cells cs.toArray e)::H) F (wpList P ops Q rest)):At β n Γ H F (wpList P ops Q (o::rest)):=
 at_build (m:=1) (parts:= #[(0,x)]) (e:=e) (cs:=cs) hw ho hd hn (λa w f=>by
  have:=run_buildSlice (P:=P) w t e 1 #[(0,a.eval x)] cs.toArray ie z hu hie hz k9 k9 (by rw[f.ev hx];exact hf)
  simpa using this) k
end
section
variable {P : Program} {β : dE} {n : Nat} {Γ : Env} {H : List bC} {F : List bE} {Q : Exit -> Act -> World -> Prop} {K : Act -> World -> Prop} {T : Tab} {ops : Array Oper} {rest : List Oper} {o : Oper} {d : Nat} {v : Value}
theorem sp(hT:dU P T)(k:At β n ((d,v)::Γ) H F (wpList P ops Q rest))(hw:want ops Γ o=some true:=by exact rfl)(hd:o.dst=some d:=by exact rfl)(hn:Nat.blt d n=true:=by exact rfl)(h:oV T Γ o.op=some v:=by exact rfl):
  At β n Γ H F (wpList P ops Q (o::rest)):=iH hw hd hn (fJ hT h) k
theorem ss(h:Sti P β n Γ H F o v)(k:At β n ((d,v)::Γ) H F (wpList P ops Q rest))(hw:want ops Γ o=some true:=by exact rfl)(hd:o.dst=some d:=by exact rfl)(hn:Nat.blt d n=true:=by exact rfl):
  At β n Γ H F (wpList P ops Q (o::rest)):=iH hw hd hn h k
theorem sk(k:At β n ((d,undef)::Γ) H F (wpList P ops Q rest))(hw:want ops Γ o=some false:=by exact rfl)(hd:o.dst=some d:=by exact rfl)(hn:Nat.blt d n=true:=by exact rfl):
  At β n Γ H F (wpList P ops Q (o::rest)):=bOh hw hd hn k
theorem sp2(hT:dU P T){o2:Oper}{d2:Nat}{v2:Value}(k:At β n ((d2,v2)::(d,v)::Γ) H F (wpList P ops Q rest))(w0:want ops (Γ) o=some true:=by exact rfl)(e0:o.dst=some d:=by exact rfl)(l0:Nat.blt d n=true:=by exact rfl)(p0:oV T (Γ) o.op=some v:=by exact rfl)(w1:want ops ((d,v)::Γ) o2=some true:=by exact rfl)(e1:o2.dst=some d2:=by exact rfl)(l1:Nat.blt d2 n=true:=by exact rfl)(p1:oV T ((d,v)::Γ) o2.op=some v2:=by exact rfl):
  At β n Γ H F (wpList P ops Q (o::o2::rest)):=sp hT (sp hT (k) w1 e1 l1 p1) w0 e0 l0 p0
theorem sp3(hT:dU P T){o2 o3:Oper}{d2 d3:Nat}{v2 v3:Value}(k:At β n ((d3,v3)::(d2,v2)::(d,v)::Γ) H F (wpList P ops Q rest))(w0:want ops (Γ) o=some true:=by exact rfl)(e0:o.dst=some d:=by exact rfl)(l0:Nat.blt d n=true:=by exact rfl)(p0:oV T (Γ) o.op=some v:=by exact rfl)(w1:want ops ((d,v)::Γ) o2=some true:=by exact rfl)(e1:o2.dst=some d2:=by exact rfl)(l1:Nat.blt d2 n=true:=by exact rfl)(p1:oV T ((d,v)::Γ) o2.op=some v2:=by exact rfl)(w2:want ops ((d2,v2)::(d,v)::Γ) o3=some true:=by exact rfl)(e2:o3.dst=some d3:=by exact rfl)(l2:Nat.blt d3 n=true:=by exact rfl)(p2:oV T ((d2,v2)::(d,v)::Γ) o3.op=some v3:=by exact rfl):
  At β n Γ H F (wpList P ops Q (o::o2::o3::rest)):=sp hT (sp hT (sp hT (k) w2 e2 l2 p2) w1 e1 l1 p1) w0 e0 l0 p0
theorem sp4(hT:dU P T){o2 o3 o4:Oper}{d2 d3 d4:Nat}{v2 v3 v4:Value}(k:At β n ((d4,v4)::(d3,v3)::(d2,v2)::(d,v)::Γ) H F (wpList P ops Q rest))(w0:want ops (Γ) o=some true:=by exact rfl)(e0:o.dst=some d:=by exact rfl)(l0:Nat.blt d n=true:=by exact rfl)(p0:oV T (Γ) o.op=some v:=by exact rfl)(w1:want ops ((d,v)::Γ) o2=some true:=by exact rfl)(e1:o2.dst=some d2:=by exact rfl)(l1:Nat.blt d2 n=true:=by exact rfl)(p1:oV T ((d,v)::Γ) o2.op=some v2:=by exact rfl)(w2:want ops ((d2,v2)::(d,v)::Γ) o3=some true:=by exact rfl)(e2:o3.dst=some d3:=by exact rfl)(l2:Nat.blt d3 n=true:=by exact rfl)(p2:oV T ((d2,v2)::(d,v)::Γ) o3.op=some v3:=by exact rfl)(w3:want ops ((d3,v3)::(d2,v2)::(d,v)::Γ) o4=some true:=by exact rfl)(e3:o4.dst=some d4:=by exact rfl)(l3:Nat.blt d4 n=true:=by exact rfl)(p3:oV T ((d3,v3)::(d2,v2)::(d,v)::Γ) o4.op=some v4:=by exact rfl):
  At β n Γ H F (wpList P ops Q (o::o2::o3::o4::rest)):=sp hT (sp hT (sp hT (sp hT (k) w3 e3 l3 p3) w2 e2 l2 p2) w1 e1 l1 p1) w0 e0 l0 p0
theorem kT1{c0 c1:bC}{l:List bC}:bU (c0::c1::l) c1 (c0::l):=bU.tail (bU.head)
theorem kT2{c0 c1 c2:bC}{l:List bC}:bU (c0::c1::c2::l) c2 (c0::c1::l):=bU.tail (bU.tail (bU.head))
theorem kT3{c0 c1 c2 c3:bC}{l:List bC}:bU (c0::c1::c2::c3::l) c3 (c0::c1::c2::l):=bU.tail (bU.tail (bU.tail (bU.head)))
theorem kT4{c0 c1 c2 c3 c4:bC}{l:List bC}:bU (c0::c1::c2::c3::c4::l) c4 (c0::c1::c2::c3::l):=bU.tail (bU.tail (bU.tail (bU.tail (bU.head))))
theorem kT5{c0 c1 c2 c3 c4 c5:bC}{l:List bC}:bU (c0::c1::c2::c3::c4::c5::l) c5 (c0::c1::c2::c3::c4::l):=bU.tail (bU.tail (bU.tail (bU.tail (bU.tail (bU.head)))))
theorem kT6{c0 c1 c2 c3 c4 c5 c6:bC}{l:List bC}:bU (c0::c1::c2::c3::c4::c5::c6::l) c6 (c0::c1::c2::c3::c4::c5::l):=bU.tail (bU.tail (bU.tail (bU.tail (bU.tail (bU.tail (bU.head))))))
theorem kT7{c0 c1 c2 c3 c4 c5 c6 c7:bC}{l:List bC}:bU (c0::c1::c2::c3::c4::c5::c6::c7::l) c7 (c0::c1::c2::c3::c4::c5::c6::l):=bU.tail (bU.tail (bU.tail (bU.tail (bU.tail (bU.tail (bU.tail (bU.head)))))))
theorem Sel.c0{c0:bC}{l R:List bC}(k:Sel (l) R):Sel (c0::l) (c0::R):= .cons .head k
theorem Split.c0{c0:bC}{l R X:List bC}(k:Split (l) R X):Split (c0::l) (c0::R) X:= .cons .head k
theorem Sel.c1{c0 c1:bC}{l R:List bC}(k:Sel (c0::l) R):Sel (c0::c1::l) (c1::R):= .cons kT1 k
theorem Split.c1{c0 c1:bC}{l R X:List bC}(k:Split (c0::l) R X):Split (c0::c1::l) (c1::R) X:= .cons kT1 k
theorem Sel.c2{c0 c1 c2:bC}{l R:List bC}(k:Sel (c0::c1::l) R):Sel (c0::c1::c2::l) (c2::R):= .cons kT2 k
theorem Split.c2{c0 c1 c2:bC}{l R X:List bC}(k:Split (c0::c1::l) R X):Split (c0::c1::c2::l) (c2::R) X:= .cons kT2 k
theorem Sel.c3{c0 c1 c2 c3:bC}{l R:List bC}(k:Sel (c0::c1::c2::l) R):Sel (c0::c1::c2::c3::l) (c3::R):= .cons kT3 k
theorem Split.c3{c0 c1 c2 c3:bC}{l R X:List bC}(k:Split (c0::c1::c2::l) R X):Split (c0::c1::c2::c3::l) (c3::R) X:= .cons kT3 k
theorem Sel.c4{c0 c1 c2 c3 c4:bC}{l R:List bC}(k:Sel (c0::c1::c2::c3::l) R):Sel (c0::c1::c2::c3::c4::l) (c4::R):= .cons kT4 k
theorem Split.c4{c0 c1 c2 c3 c4:bC}{l R X:List bC}(k:Split (c0::c1::c2::c3::l) R X):Split (c0::c1::c2::c3::c4::l) (c4::R) X:= .cons kT4 k
theorem Sel.c5{c0 c1 c2 c3 c4 c5:bC}{l R:List bC}(k:Sel (c0::c1::c2::c3::c4::l) R):Sel (c0::c1::c2::c3::c4::c5::l) (c5::R):= .cons kT5 k
theorem Split.c5{c0 c1 c2 c3 c4 c5:bC}{l R X:List bC}(k:Split (c0::c1::c2::c3::c4::l) R X):Split (c0::c1::c2::c3::c4::c5::l) (c5::R) X:= .cons kT5 k
theorem Sel.c6{c0 c1 c2 c3 c4 c5 c6:bC}{l R:List bC}(k:Sel (c0::c1::c2::c3::c4::c5::l) R):Sel (c0::c1::c2::c3::c4::c5::c6::l) (c6::R):= .cons kT6 k
theorem Split.c6{c0 c1 c2 c3 c4 c5 c6:bC}{l R X:List bC}(k:Split (c0::c1::c2::c3::c4::c5::l) R X):Split (c0::c1::c2::c3::c4::c5::c6::l) (c6::R) X:= .cons kT6 k
theorem Sel.c7{c0 c1 c2 c3 c4 c5 c6 c7:bC}{l R:List bC}(k:Sel (c0::c1::c2::c3::c4::c5::c6::l) R):Sel (c0::c1::c2::c3::c4::c5::c6::c7::l) (c7::R):= .cons kT7 k
theorem Split.c7{c0 c1 c2 c3 c4 c5 c6 c7:bC}{l R X:List bC}(k:Split (c0::c1::c2::c3::c4::c5::c6::l) R X):Split (c0::c1::c2::c3::c4::c5::c6::c7::l) (c7::R) X:= .cons kT7 k
theorem kT8{c0 c1 c2 c3 c4 c5 c6 c7 c8:bC}{l:List bC}:bU (c0::c1::c2::c3::c4::c5::c6::c7::c8::l) c8 (c0::c1::c2::c3::c4::c5::c6::c7::l):=bU.tail (bU.tail (bU.tail (bU.tail (bU.tail (bU.tail (bU.tail (bU.tail (bU.head))))))))
theorem kT9{c0 c1 c2 c3 c4 c5 c6 c7 c8 c9:bC}{l:List bC}:bU (c0::c1::c2::c3::c4::c5::c6::c7::c8::c9::l) c9 (c0::c1::c2::c3::c4::c5::c6::c7::c8::l):=bU.tail (bU.tail (bU.tail (bU.tail (bU.tail (bU.tail (bU.tail (bU.tail (bU.tail (bU.head)))))))))
theorem bHz{c0 c1 c2 c3 c4 c5 c6 c7 c8 c9 c10:bC}{l:List bC}:bU (c0::c1::c2::c3::c4::c5::c6::c7::c8::c9::c10::l) c10 (c0::c1::c2::c3::c4::c5::c6::c7::c8::c9::l):=bU.tail (bU.tail (bU.tail (bU.tail (bU.tail (bU.tail (bU.tail (bU.tail (bU.tail (bU.tail (bU.head))))))))))
theorem bIm{c0 c1 c2 c3 c4 c5 c6 c7 c8 c9 c10 c11:bC}{l:List bC}:bU (c0::c1::c2::c3::c4::c5::c6::c7::c8::c9::c10::c11::l) c11 (c0::c1::c2::c3::c4::c5::c6::c7::c8::c9::c10::l):=bU.tail (bU.tail (bU.tail (bU.tail (bU.tail (bU.tail (bU.tail (bU.tail (bU.tail (bU.tail (bU.tail (bU.head)))))))))))
theorem bHw{c0 c1 c2 c3 c4 c5 c6 c7 c8 c9 c10 c11 c12:bC}{l:List bC}:bU (c0::c1::c2::c3::c4::c5::c6::c7::c8::c9::c10::c11::c12::l) c12 (c0::c1::c2::c3::c4::c5::c6::c7::c8::c9::c10::c11::l):=bU.tail (bU.tail (bU.tail (bU.tail (bU.tail (bU.tail (bU.tail (bU.tail (bU.tail (bU.tail (bU.tail (bU.tail (bU.head))))))))))))
theorem bHy{c0 c1 c2 c3 c4 c5 c6 c7 c8 c9 c10 c11 c12 c13:bC}{l:List bC}:bU (c0::c1::c2::c3::c4::c5::c6::c7::c8::c9::c10::c11::c12::c13::l) c13 (c0::c1::c2::c3::c4::c5::c6::c7::c8::c9::c10::c11::c12::l):=bU.tail (bU.tail (bU.tail (bU.tail (bU.tail (bU.tail (bU.tail (bU.tail (bU.tail (bU.tail (bU.tail (bU.tail (bU.tail (bU.head)))))))))))))
theorem mT0{α:Type}{a0:α}{l:List α}:a0∈a0::l:= .head _
theorem mT1{α:Type}{a0 a1:α}{l:List α}:a1∈a0::a1::l:= .tail _ (.head _)
theorem mT2{α:Type}{a0 a1 a2:α}{l:List α}:a2∈a0::a1::a2::l:= .tail _ (.tail _ (.head _))
theorem mT3{α:Type}{a0 a1 a2 a3:α}{l:List α}:a3∈a0::a1::a2::a3::l:= .tail _ (.tail _ (.tail _ (.head _)))
theorem mT4{α:Type}{a0 a1 a2 a3 a4:α}{l:List α}:a4∈a0::a1::a2::a3::a4::l:= .tail _ (.tail _ (.tail _ (.tail _ (.head _))))
theorem mT5{α:Type}{a0 a1 a2 a3 a4 a5:α}{l:List α}:a5∈a0::a1::a2::a3::a4::a5::l:= .tail _ (.tail _ (.tail _ (.tail _ (.tail _ (.head _)))))
theorem mT6{α:Type}{a0 a1 a2 a3 a4 a5 a6:α}{l:List α}:a6∈a0::a1::a2::a3::a4::a5::a6::l:= .tail _ (.tail _ (.tail _ (.tail _ (.tail _ (.tail _ (.head _))))))
theorem mT7{α:Type}{a0 a1 a2 a3 a4 a5 a6 a7:α}{l:List α}:a7∈a0::a1::a2::a3::a4::a5::a6::a7::l:= .tail _ (.tail _ (.tail _ (.tail _ (.tail _ (.tail _ (.tail _ (.head _)))))))
theorem mT8{α:Type}{a0 a1 a2 a3 a4 a5 a6 a7 a8:α}{l:List α}:a8∈a0::a1::a2::a3::a4::a5::a6::a7::a8::l:= .tail _ (.tail _ (.tail _ (.tail _ (.tail _ (.tail _ (.tail _ (.tail _ (.head _))))))))
theorem mT9{α:Type}{a0 a1 a2 a3 a4 a5 a6 a7 a8 a9:α}{l:List α}:a9∈a0::a1::a2::a3::a4::a5::a6::a7::a8::a9::l:= .tail _ (.tail _ (.tail _ (.tail _ (.tail _ (.tail _ (.tail _ (.tail _ (.tail _ (.head _)))))))))
theorem mT10{α:Type}{a0 a1 a2 a3 a4 a5 a6 a7 a8 a9 a10:α}{l:List α}:a10∈a0::a1::a2::a3::a4::a5::a6::a7::a8::a9::a10::l:= .tail _ (.tail _ (.tail _ (.tail _ (.tail _ (.tail _ (.tail _ (.tail _ (.tail _ (.tail _ (.head _))))))))))
theorem mT11{α:Type}{a0 a1 a2 a3 a4 a5 a6 a7 a8 a9 a10 a11:α}{l:List α}:a11∈a0::a1::a2::a3::a4::a5::a6::a7::a8::a9::a10::a11::l:= .tail _ (.tail _ (.tail _ (.tail _ (.tail _ (.tail _ (.tail _ (.tail _ (.tail _ (.tail _ (.tail _ (.head _)))))))))))
theorem mT13{α:Type}{a0 a1 a2 a3 a4 a5 a6 a7 a8 a9 a10 a11 a12 a13:α}{l:List α}:a13∈a0::a1::a2::a3::a4::a5::a6::a7::a8::a9::a10::a11::a12::a13::l:= .tail _ (.tail _ (.tail _ (.tail _ (.tail _ (.tail _ (.tail _ (.tail _ (.tail _ (.tail _ (.tail _ (.tail _ (.tail _ (.head _)))))))))))))
theorem mT14{α:Type}{a0 a1 a2 a3 a4 a5 a6 a7 a8 a9 a10 a11 a12 a13 a14:α}{l:List α}:a14∈a0::a1::a2::a3::a4::a5::a6::a7::a8::a9::a10::a11::a12::a13::a14::l:= .tail _ (.tail _ (.tail _ (.tail _ (.tail _ (.tail _ (.tail _ (.tail _ (.tail _ (.tail _ (.tail _ (.tail _ (.tail _ (.tail _ (.head _))))))))))))))
theorem d7{a0:bE}{l:List bE}:Has (a0::l) a0:=Has.of mT0
theorem d8{a0 a1:bE}{l:List bE}:Has (a0::a1::l) a1:=Has.of mT1
theorem d9{a0 a1 a2:bE}{l:List bE}:Has (a0::a1::a2::l) a2:=Has.of mT2
theorem e6{a0 a1 a2 a3:bE}{l:List bE}:Has (a0::a1::a2::a3::l) a3:=Has.of mT3
theorem e7{a0 a1 a2 a3 a4:bE}{l:List bE}:Has (a0::a1::a2::a3::a4::l) a4:=Has.of mT4
theorem sr{id:Nat}{l:List Oper}{y:Code}(h:At β n Γ H F (wpList P l.toArray (Exit.then (y.wp P Q) Q) l)):At β n Γ H F ((Code.seq (B1 id l.toArray false) y).wp P Q):=fS (mO h)
theorem nn(h:At β n Γ H F K):At β n Γ H F (wpList P ops (Exit.then K Q) []):=jO (mG h)
end
section
variable {P : Program} {β : dE} {n : Nat} {Γ : Env} {H : List bC} {F : List bE} {Q : Exit -> Act -> World -> Prop} {K : Act -> World -> Prop} {T : Tab} {α : Type} {E : Flat α}
theorem Env.Sub.append{Γ:Env}: ∀{Δ Δ':Env},Γ.Sub Δ->Γ.Sub Δ'->Γ.Sub (Δ++Δ')
 |[],_,_,h=>h
 |_::_,_,h,k=>⟨h.1,Env.Sub.append h.2 k⟩
theorem bA.append{F:List bE}: ∀{G G':List bE},bA F G->bA F G'->bA F (G++G')
 |[],_,_,h=>h
 |_::_,_,h,k=>⟨h.1,bA.append h.2 k⟩
theorem bA.drop(k:Nat){F:List bE}:bA F (F.drop k):=bA.sub λ_ h=>List.mem_of_mem_drop h
theorem Sel.self: ∀{H:List bC},Sel H H
 |[]=> .nil
 |_::_=> .cons .head Sel.self
theorem Split.sel{H R H2:List bC}(h:Split H R H2):Sel H (R++H2):=by
 induction h with
 |nil=>exact Sel.self
 |cons h _ ih=>exact .cons h ih
theorem bY{ι:Type}{c:Code}(Δ:Env)(hΔ:Γ.Sub Δ)(G:ι->Env)(HH:ι->List bC){Hr:List bC}(FF:ι->List bE)(μ:ι->Nat)(x0:ι)(hG:Γ.Sub (G x0))(hH:Split H (HH x0) Hr)(hF:bA F (FF x0))
  (round: ∀x,At β n (G x++Δ) (HH x++Hr) (FF x++F) (c.wp P (Exit.then (Back β n (λx=>G x++Δ) (λx=>HH x++Hr) (λx=>FF x++F) μ (μ x)) Q))):At β n Γ H F ((B3 c).wp P Q):=
 at_loop (λx=>G x++Δ) (λx=>HH x++Hr) (λx=>FF x++F) μ x0 (hG.append hΔ) hH.sel (hF.append bA.self) round
theorem iC{ι:Type}{G:ι->Env}{Δ:Env}{HH:ι->List bC}{Hr:List bC}{FF:ι->List bE}{F0:List bE}{μ:ι->Nat}{m:Nat}(x:ι)(hμ:μ x<m)(hG:Γ.Sub (G x))(hΔ:Γ.Sub Δ)(hH:Sel H (HH x++Hr))(hF:bA F (FF x))(hF0:bA F F0):
  At β n Γ H F (Back β n (λx=>G x++Δ) (λx=>HH x++Hr) (λx=>FF x++F0) μ m):=
 at_back (G:=λx=>G x++Δ) (HH:=λx=>HH x++Hr) (FF:=λx=>FF x++F0) x hμ (hG.append hΔ) hH (hF.append hF0)
theorem bAr{ops:Array Oper}{rest:List Oper}{o:Oper}{d m:Nat}{t e:TypeId}{x y:Operand}{kx ky:IntKind}{i:TypeInfo}{z:Value}{xs:List α}(hw:want ops Γ o=some true)(ho:o.op= .makeSlice t x y)(hd:o.dst=some d)(hn:C0 d n=true)
  (hx:Γ.ev x=some (.int kx (m:Nat))) (hy:Γ.ev y=some (.int ky (m:Nat))) (hu:P.underlying t=some (.slice e)) (hi:P.info? e=some i) (hz:i.zero=some z) (hsize:i.size=E.size) (hb:i.bytes*m<=281474976710656) (hm:m<=maxLen)
  (hxs:(madeCells z.cells (m*E.size)).toList=E.all xs) (hl:xs.length=m) (k: ∀b,At β n ((d,.slice (some ⟨b,0,none⟩) m m)::Γ) (E.row (.slice (some ⟨b,0,none⟩) m m) e xs::H) F (wpList P ops Q rest)):At β n Γ H F (wpList P ops Q (o::rest)):=
 fV hw λa w S f s v=>by
  subst hl;have q:(xs.length:Int)<=9223372036854775807:=by simp[maxLen]at hm;omega
  have r:(i.bytes:Int)*(xs.length:Int)<=281474976710656:=by
   have h:((i.bytes*xs.length:Nat):Int)<=281474976710656:=k9
   rwa[Int.natCast_mul]at h
  have hr:=run_make (P:=P) w t e i z hu hi hz kx ky xs.length xs.length k9 (Int.le_refl _) r q;simp only[G2]at hr
  have p:(execOp a.eval o).run P w= .ok (.value (.slice (some ⟨w.heap.size,0,none⟩) xs.length xs.length)) (w.alloc (.cells (madeCells z.cells (xs.length*i.size)) e)):=by
   unfold execOp;simp only[ho,f.ev hx,f.ev hy];rw[E6,hr];rfl
  unfold F4;rw[p,F5,hd];have l:=World.ownsRow_lit w (base:=0) (e:=e) (size:=i.size) (madeCells z.cells (xs.length*i.size)) xs.length (Nat.zero_le _) hm (size_madeCells _ _);have j:=s.alloc (.cells (madeCells z.cells (xs.length*i.size)) e);refine k w.heap.size _ _ S (f.put m9 _) ⟨j.kept,λc g=>?_,λc g b hb=>?_,?_,j.zone⟩ (All.alloc s v _)
  .rcases C9.1 g with rfl|g
   .show World.ownsRow _ _ _ _ _ _ _;rw[<-hxs,<-hsize];exact l
   .exact j.ok c (D1 _ g)
  .rcases C9.1 g with rfl|g
   .exact j.own (.obj w.heap.size (.cells (madeCells z.cells (xs.length*i.size)) e)) (D5 ..) b hb
   .exact j.own c (D1 _ g) b hb
  .have u:=D2.1 j.sep;exact D2.2 ⟨λd hd b hb=>u.1 d hd b hb,u.2⟩
end
def cK:Flat Int where
 size:=1
 cells:=λz=>[.int .i64 z]
 len:=λ_=>rfl
 one:=λx u hu=>by simp at hu;subst hu;rfl
 pos:=l5
end Go.Proofs.YtnfiadlonjediaaGreatDoor
