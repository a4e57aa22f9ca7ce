/- A part of one proof. -/
import Derived.Test.YtioekpienlhcgaaGreatDoorM2
import Derived.WideKeyEntry
import Derived.Deep.DeepWitnessRowRef
import Derived.Lib.LaidU8
import Derived.Lib.LaidIn
set_option maxRecDepth 100000
namespace Go.Proofs.YtioekpienlhcgaaGreatDoor
open _root_.List renaming pairwise_cons->E5,mem_cons_self->E8,mem_cons_of_mem->E4,length_pos_iff->N6,map_cons->N7,sum_cons->N8,length_cons->F5,length_drop->N9,length_take_le->O0,takeWhile_cons->O1,getElem?_eq_getElem->F1,drop_eq_getElem_cons->K2,drop_of_length_le->K3,eq_nil_of_length_eq_zero->F7,length_append->F4,length_nil->O2,map_append->L2,mem_of_mem_drop->O3,length_map->O4,getElem?_eq_some_iff->F3,getElem?_map->K1,mem_cons->E2,map_toArray->O5,map_nil->O6,take_of_length_le->F6,set_cons_zero->O7,singleton_append->K4,reverse_cons->L1,length_reverse->O8
open _root_.Bool renaming and_eq_true->J3,false_eq_true->J2
open _root_.Option renaming map_some->J8,isSome_iff_exists->O9
open _root_.Nat renaming le_trans->B1,le_refl->B0,blt->B2,cast->L6
open Instr renaming findNow->P1,findKey->P2,checkKey->P3,keyThatStays->P4,sameBits->P5,mapUpdate->P6
open Sem renaming run_bind->G9,run_pure->H3
open Result renaming andThen_ok->H6
open MapKept renaming run_getObj_map->P7,run_setObj_map->P8
open Oper renaming wp->I7,upon_value->I8
open Lib renaming byteCells->P9,run_append_own_string->Q3,fields->Q4
open Value renaming string->Q5,tuple->M1
open World renaming cell?->D0,settled->Q6
section
open Go.RowKit Go.Proofs.Tryz
structure oI where
 name:Bs
 n:Int
 deriving Inhabited,DecidableEq
structure hU where
 name:Bs
 at_:Int
 B:List oI
 deriving Inhabited,DecidableEq
structure nF where
 name:Bs
 at_:Int
 K:List fF
 deriving Inhabited,DecidableEq
structure iL where
 C:List hU
 G:List nF
 deriving Inhabited,DecidableEq
def verbWords:List Bs:=[[43],[45],[42],[37],[124],[109,105,110],[109,97,120],[61],[126],[60],[60,61],[62,61],[62],[97,110,100],[111,114],[112,111,119],[114,104,111],[116,97,107,101],[100,114,111,112],[99,97,116],[105,111,116,97],[115,104,97,112,101],[114,97,118,101,108],[114,101,118],[116,117,114,110]]
def bLq (two:Bool)(f:Int):List Bs->Bs->Bs
 |[],acc=>acc
 |s::r,acc=>bLq two f r (if gF s two !=0&&gF s two==f then s else acc)
def dR (two:Bool)(f:Int):Bs:=bLq two f verbWords []
structure gE where
 words:List Bs
 J:Nat
 D:Nat
 plain:Bool
 deriving Inhabited,DecidableEq
def operandS(it:fF):Option gE:=
 if it.H=2 then (if it.fn=0/\it.nums=[]/\dQ it.name=true then some ⟨[it.name],0,1,true⟩else none)
 else if it.fn≠0\/it.name≠[]\/it.nums=[]\/256<it.nums.length then none
 else some ⟨it.nums.map fC,0,it.nums.length,true⟩
def bCh (how:Int):Bs:=if how=5 then [47]else if how=6 then [92]else if how=7 then [46]else []
def verbS (it:fF):Bs×Nat:=
 if it.H=3 then (dR false it.fn,1)
 else if dR true it.fn=[]\/it.H=4 then (dR true it.fn,1)
 else if 17<it.fn then ([],0)
 else (dR true it.fn++bCh it.H,2)
def brkEnd:List Bs->List Bs
 |[]=>[]
 |[w]=>[w++[41]]
 |w::r=>w::brkEnd r
def brk:List Bs->List Bs
 |[]=>[]
 |w::r=>brkEnd (([40]++w)::r)
def leftS (p:gE):gE:=if p.plain then p else ⟨brk p.words,p.J+1,p.D+2,p.plain⟩
def vU (how:Int):Bool:=how==4 || how==7
def rX (it:fF)(st:List gE):Option (List gE):=
 if vU it.H then match st with
  |p::q::r=>some (⟨(leftS q).words++(verbS it).1::p.words,max p.J (leftS q).J,p.D+(verbS it).2+(leftS q).D,false⟩::r)
  |_=>none
 else match st with
  |p::r=>some (⟨(verbS it).1::p.words,p.J,p.D+(verbS it).2,false⟩::r)
  |[]=>none
def jV (st:List gE)(it:fF):Option (List gE):=
 if it.H=1\/it.H=2 then (operandS it).map (· ::st)
 else if it.H<3\/7<it.H\/it.nums≠[]\/it.name≠[]\/(verbS it).1=[]then none
 else rX it st
def gO:List fF->List gE->Option (List gE)
 |[],st=>some st
 |it::r,st=>match jV st it with
  |none=>none
  |some st'=>gO r st'
def joinSp:List Bs->Bs
 |[]=>[]
 |[w]=>w
 |w::r=>w++32::joinSp r
def gX (l:List fF)(most:Nat):Option Bs:=
 if most<l.length then none else match gO l []with
  |some [p]=>if most<p.D\/32<p.J then none else some (joinSp p.words)
  |_=>none
def mD:List oI->Bs->Option Bs
 |[],t=>some t
 |d::r,t=>if d.name=[]then mD r (t++([32]++fC d.n))else if d.n=0/\dQ d.name=true then mD r (t++([32]++d.name))else none
def inputS(x:hU):Option Bs:=if dQ x.name=false\/4<x.B.length then none else mD x.B x.name
def oM:List hU->Bs->Bs×Bool
 |[],o=>(o,true)
 |x::r,o=>match inputS x with
  |none=>(o,false)
  |some t=>oM r (o++(([105,110,32]++t)++[10]))
def gS:List nF->Bs->Bs×Bool
 |[],o=>(o,true)
 |[l],o=>match gX l.K 255 with
  |none=>(o,false)
  |some t=>if l.name≠[]then (o,false)else (o++(([111,117,116,32]++t)++[10]),true)
 |l::r,o=>match gX l.K 254 with
  |none=>(o,false)
  |some t=>if dQ l.name=false then (o,false)else gS r (o++(((l.name++[58,32])++t)++[10]))
def dU (p:iL):Bs×Bool:=
 if p.G=[]\/64<p.C.length+p.G.length then ([],false)else match oM p.C []with
  |(o,false)=>(o,false)
  |(o,true)=>gS p.G o
def lF (two:Bool)(f:Int):List Bs->Bs
 |[]=>[]
 |s::r=>if gF s two !=0&&gF s two==f then s else lF two f r
structure Part where
 s:Bs
 plain:Bool
 D:Nat
 J:Nat
 deriving Inhabited,DecidableEq
def numsR:List Int->Bs->Bs
 |[],s=>s
 |n::r,s=>numsR r ((s++[32])++fC n)
def numsR0:List Int->Bs
 |[]=>[]
 |n::r=>numsR r (fC n)
def oD:Part:=⟨[],false,0,0⟩
def operandR(x:fF):Part:=
 if x.fn≠0 then oD
 else if x.H=2 then (if x.nums≠[]\/dQ x.name=false then oD else ⟨x.name,true,1,0⟩)
 else if x.name≠[]\/256<x.nums.length then oD
 else ⟨numsR0 x.nums,true,x.nums.length,0⟩
def brkR (p:Part):Part:=if p.plain then p else ⟨([40]++p.s)++[41],false,p.D+2,p.J+1⟩
def pT (f:Int):Bool:=decide (1<=f/\f<=17/\f≠16)
def verbR (x:fF):Bs×Nat:=
 let w:=lF (x.H !=3) x.fn verbWords
 if w=[]\/x.H≠3/\x.H≠4/\pT x.fn=false then ([],1)else (w++bCh x.H,if 5<=x.H then 2 else 1)
def stepR (l:List Part)(x:fF):Option (List Part):=
 if x.H=1\/x.H=2 then (if 0<(operandR x).D then some (operandR x::l)else none)
 else if x.H<3\/7<x.H\/x.nums≠[]\/x.name≠[]then none
 else if (verbR x).1=[]then none
 else if vU x.H then match l with
  |p::q::r=>some (⟨(((brkR q).s++[32])++(verbR x).1++[32])++p.s,false,(brkR q).D+(verbR x).2+p.D,max (brkR q).J p.J⟩::r)
  |_=>none
 else match l with
  |p::r=>some (⟨((verbR x).1++[32])++p.s,false,(verbR x).2+p.D,p.J⟩::r)
  |[]=>none
def sV:List fF->List Part->Option (List Part)
 |[],st=>some st
 |it::r,st=>match stepR st it with
  |none=>none
  |some st'=>sV r st'
def bJj (l:List fF)(ahead:Nat):Option Bs:=
 if 256<l.length then none else match sV l []with
  |some [p]=>if 256<p.D+ahead\/32<p.J then none else some p.s
  |_=>none
def hitB (two:Bool)(f:Int)(s:Bs):Bool:=gF s two !=0&&gF s two==f
theorem bTw(two:Bool)(f:Int): ∀l:List Bs,l.Pairwise (λs t=>gF s two=0\/gF s two≠gF t two)-> ∀acc,bLq two f l acc=if l.any (hitB two f)then lF two f l else acc
 |[],_,acc=>rfl
 |s::r,h,acc=>by
  obtain⟨h1,h2⟩:=E5.1 h;rw[bLq,lF,bTw two f r h2]
  by_cases hs:(gF s two !=0&&gF s two==f)=true
  .have hn:r.any (hitB two f)=false:=by
    rw[List.any_eq_false];intro t ht a;simp only[hitB,J3,bne_iff_ne,beq_iff_eq]at a hs
    rcases h1 t ht with h|h
    .exact hs.1 h
    .exact h (hs.2.trans a.2.symm)
   simp[hs,hn,hitB]
  .simp only[Bool.not_eq_true]at hs;simp[hs,hitB]
theorem bRr(two:Bool)(f:Int): ∀l:List Bs,l.any (hitB two f)=false->lF two f l=[]
 |[],_=>rfl
 |s::r,h=>by rw[List.any_cons,Bool.or_eq_false_iff]at h;rw[lF];have:(gF s two !=0&&gF s two==f)=false:=h.1;rw[this,bRr two f r h.2];rfl
theorem qY(two:Bool)(f:Int):lF two f verbWords=dR two f:=by
 unfold dR;rw[bTw two f verbWords (by cases two<;>decide)];cases h:verbWords.any (hitB two f)
 .rw[bRr two f _ h];rfl
 .rfl
theorem bXu(two:Bool)(f:Int): ∀l:List Bs,lF two f l≠[]->lF two f l∈l/\hitB two f (lF two f l)=true
 |[],h=>absurd rfl h
 |s::r,h=>by
  rw[lF]at h⊢
  by_cases hs:(gF s two !=0&&gF s two==f)=true
  .rw[if_pos hs];exact⟨E8 ..,hs⟩
  .rw[if_neg hs]at h⊢;obtain⟨h1,h2⟩:=bXu two f r h;exact⟨E4 _ h1,h2⟩
theorem bXp{two:Bool}{f:Int}(h:dR two f≠[]):dR two f∈verbWords/\gF (dR two f) two=f/\f≠0:=by rw[<-qY]at h⊢;obtain⟨h1,h2⟩:=bXu two f _ h;simp only[hitB,J3,bne_iff_ne,beq_iff_eq]at h2;exact⟨h1,h2.2,λe=>h2.1 (h2.2.trans e)⟩
theorem two_takes{f:Int}(h:dR true f≠[]):pT f=decide (f<=17):=by
 obtain⟨h1,h2,a⟩:=bXp h;have key: ∀s∈verbWords,gF s true≠0->pT (gF s true)=decide (gF s true<=17):=m6
 rw[<-h2]at a⊢;have:=key _ h1 (by rw[h2]at a⊢;exact a);rw[h2]at this⊢;exact this
theorem mJ(w:Bs){r:List Bs}(h:r≠[]):joinSp (w::r)=w++32::joinSp r:=by
 cases r with
 |nil=>exact absurd rfl h
 |cons x r=>rfl
theorem xU: ∀(a b:List Bs),a≠[]->b≠[]->joinSp (a++b)=joinSp a++32::joinSp b
 |[],_,h,_=>absurd rfl h
 |[w],b,_,h=>mJ w h
 |w::x::a,b,_,h=>by have:=xU (x::a) b m9 h;rw[List.cons_append,mJ w m9,this,mJ w m9];simp
theorem bYx{l:List Bs}(h:l≠[]):brkEnd l≠[]:=by
 match l,h with
 |[w],_=>simp[brkEnd]
 |w::x::r,_=>simp[brkEnd]
theorem bOb: ∀l:List Bs,l≠[]->joinSp (brkEnd l)=joinSp l++[41]
 |[],h=>absurd rfl h
 |[w],_=>rfl
 |w::x::r,_=>by show joinSp (w::brkEnd (x::r))=_;rw[mJ w (bYx m9),bOb (x::r) m9,mJ w m9];simp
theorem join_brk{l:List Bs}(h:l≠[]):joinSp (brk l)=([40]++joinSp l)++[41]:=by
 cases l with
 |nil=>exact absurd rfl h
 |cons w r=>
  show joinSp (brkEnd _)=_;rw[bOb _ m9]
  cases r with
  |nil=>simp[joinSp]
  |cons x r=>simp[joinSp]
theorem brk_ne{l:List Bs}(h:l≠[]):brk l≠[]:=by
 cases l with
 |nil=>exact absurd rfl h
 |cons w r=>exact bYx m9
theorem bQm: ∀(l:List Int) (s:Bs),numsR l s=match l with
  |[]=>s
  |_=>s++32::joinSp (l.map fC)
 |[],s=>rfl
 |n::r,s=>by
  rw[numsR,bQm r]
  cases r with
  |nil=>simp[joinSp]
  |cons m r=>simp[joinSp]
theorem bBt(l:List Int):numsR0 l=joinSp (l.map fC):=by
 cases l with
 |nil=>rfl
 |cons n r=>
  rw[numsR0,bQm]
  cases r with
  |nil=>rfl
  |cons m r=>rfl
structure Like (p:Part) (q:gE):Prop where
 s:p.s=joinSp q.words
 plain:p.plain=q.plain
 D:p.D=q.D
 J:p.J=q.J
 ne:q.words≠[]
theorem Like.brk{p:Part}{q:gE}(h:Like p q):Like (brkR p) (leftS q):=by
 unfold brkR leftS;rw[h.plain];cases hq:q.plain
 .simp only[J2,if_false];exact⟨by rw[h.s,join_brk h.ne],m9,by simp[h.D],by simp[h.J],brk_ne h.ne⟩
 .simp only[if_true];exact h
theorem operand_like(x:fF)(hx:x.H=1\/x.H=2):match operandS x with
  |none=> ¬0<(operandR x).D
  |some q=>0<(operandR x).D/\Like (operandR x) q:=by
 unfold operandS operandR
 rcases hx with hx|hx
 .have h2:x.H≠2:=l7
  simp only[h2,if_false]
  by_cases hf:x.fn=0
  .by_cases hn:x.name=[]
   .by_cases h0:x.nums=[]
    .simp[hf,hn,h0]
    .by_cases a:256<x.nums.length
     .simp[hf,hn,h0,a,oD]
     .have hl:0<x.nums.length:=N6.2 h0;simp only[hf,hn,h0,a,ne_eq,not_true_eq_false,or_self,if_false];exact⟨hl,bBt _,rfl,rfl,rfl,by simpa using h0⟩
   .simp[hf,hn,oD]
  .simp[hf,oD]
 .simp only[hx,if_true]
  by_cases hf:x.fn=0
  .by_cases h0:x.nums=[]
   .cases hn:dQ x.name
    .simp[hf,h0,oD]
    .simp only[hf,h0,ne_eq,not_true_eq_false,and_self,or_self,Bool.true_eq_false,if_true,if_false];exact⟨m6,rfl,rfl,rfl,rfl,m9⟩
   .simp[hf,h0,oD]
  .simp[hf,oD]
theorem verb_like{x:fF}(h3:3<=x.H)(h7:x.H<=7):(verbS x).1=(verbR x).1/\((verbS x).1≠[]->(verbS x).2=(verbR x).2):=by
 unfold verbS verbR;rw[qY]
 by_cases b:x.H=3
 .have d:(x.H !=3)=false:=by simp[b]
  simp only[b,if_true,ne_eq,not_true_eq_false,false_and,or_false];rw[show((3:Int) !=3)=false from rfl]
  by_cases ht:dR false x.fn=[]
  .simp[ht]
  .simp[ht,bCh]
 .have d:(x.H !=3)=true:=by simp[b]
  simp only[d,b,if_false,ne_eq,not_false_eq_true,true_and]
  by_cases ht:dR true x.fn=[]
  .simp[ht]
  .rw[two_takes ht]
   by_cases c:x.H=4
   .simp[ht,c,bCh]
   .have e:5<=x.H:=l7
    by_cases a:17<x.fn
    .have: ¬x.fn<=17:=l7
     simp[ht,c,a,this]
    .have:x.fn<=17:=l7
     simp[ht,c,a,this,e]
inductive wO:List Part->List gE->Prop
 |nil:wO [] []
 |cons {p q a b}:Like p q->wO a b->wO (p::a) (q::b)
theorem wO.len{a:List Part}{b:List gE}(h:wO a b):a.length=b.length:=by induction h<;>simp_all
def OptLike:Option (List Part)->Option (List gE)->Prop
 |none,none=>True
 |some a,some b=>wO a b
 |_,_=>False
theorem step_like{a:List Part}{b:List gE}(h:wO a b)(x:fF):OptLike (stepR a x) (jV b x):=by
 unfold stepR jV
 by_cases ho:x.H=1\/x.H=2
 .have:=operand_like x ho;simp only[ho,if_true]
  cases hs:operandS x with
  |none=>rw[hs]at this;simp only[Option.map_none];rw[if_neg this];trivial
  |some q=>rw[hs]at this;simp only[J8];rw[if_pos this.1];exact .cons this.2 h
 .simp only[ho,if_false]
  by_cases c:x.H<3\/7<x.H\/x.nums≠[]\/x.name≠[]
  .rw[if_pos c,if_pos (by rcases c with h|h|h|h<;>simp[h])];trivial
  .rw[if_neg c];have j:=c;simp only[not_or]at j;obtain⟨f,k⟩:=verb_like (x:=x) l7 l7
   by_cases d:(verbS x).1=[]
   .rw[if_pos (show(verbR x).1=[] by rw[<-f];exact d),if_pos (.inr (.inr (.inr (.inr d))))];trivial
   .have i: ¬(verbR x).1=[]:=by rw[<-f];exact d
    have e: ¬(x.H<3\/7<x.H\/x.nums≠[]\/x.name≠[]\/(verbS x).1=[]):=by
     rintro(h|h|h|h|h)
     .exact c (.inl h)
     .exact c (.inr (.inl h))
     .exact c (.inr (.inr (.inl h)))
     .exact c (.inr (.inr (.inr h)))
     .exact d h
    rw[if_neg e,if_neg i];unfold rX;cases ht:vU x.H
    .simp only[J2,if_false]
     cases h with
     |nil=>trivial
     |cons hp hr=>
      refine .cons ⟨?_,rfl,?_,hp.J,m9⟩ hr
      .simp only;rw[mJ _ hp.ne,hp.s,f];simp
      .simp only;rw[hp.D,k d];omega
    .simp only[if_true]
     cases h with
     |nil=>trivial
     |cons hp hr=>
      cases hr with
      |nil=>trivial
      |cons hq hr=>
       have g:=hq.brk;refine .cons ⟨?_,rfl,?_,?_,m9⟩ hr
       .simp only;rw[xU _ _ g.ne m9,mJ _ hp.ne,hp.s,g.s,f];simp
       .simp only;rw[hp.D,g.D,k d];omega
       .simp only;rw[hp.J,g.J,Nat.max_comm]
theorem bSy: ∀(l:List fF) {a:List Part} {b:List gE},wO a b->OptLike (sV l a) (gO l b)
 |[],_,_,h=>h
 |x::r,a,b,h=>by
  have:=step_like h x;rw[sV,gO];cases h1:stepR a x<;>cases h2:jV b x<;>rw[h1,h2]at this
  .trivial
  .exact this.elim
  .exact this.elim
  .exact bSy r this
theorem step_tokens{st st':List gE}{x:fF}(h:jV st x=some st'):(st.map (·.D)).sum+1<=(st'.map (·.D)).sum:=by
 unfold jV at h;split at h
 .unfold operandS at h;split at h
  .split at h
   .simp at h;subst h;simp;omega
   .simp at h
  .split at h
   .simp at h
   .rename_i hn;simp at h;subst h;have:0<x.nums.length:=N6.2 λe=>hn al9;simp;omega
 .split at h
  .cases h
  .have a:1<=(verbS x).2\/(verbS x).1=[]:=by
    unfold verbS;split
    .exact .inl m9
    .split
     .exact .inl m9
     .split
      .exact .inr rfl
      .exact .inl m9
   rename_i hn;have a:1<=(verbS x).2:=a.resolve_right λe=>hn al9;unfold rX at h;split at h
   .split at h
    .rename_i p q r;simp at h;subst h;have:q.D<=(leftS q).D:=by unfold leftS;split<;>simp
     simp only[N7,N8];omega
    .cases h
   .split at h
    .simp at h;subst h;simp;omega
    .cases h
theorem zV: ∀{l:List fF} {st st':List gE},gO l st=some st'->(st.map (·.D)).sum+l.length<=(st'.map (·.D)).sum
 |[],st,st',h=>by simp[gO]at h;subst h;simp
 |x::r,st,st',h=>by
  rw[gO]at h
  cases h1:jV st x with
  |none=>rw[h1]at h;cases h
  |some s1=>
   rw[h1]at h;have:=zV h;have:=step_tokens h1;simp only[F5];omega
theorem expr_like(l:List fF)(k:Nat)(hk:k<=256):bJj l k=gX l (256-k):=by
 unfold bJj gX;have h:=bSy l .nil
 by_cases h0:256-k<l.length
 .rw[if_pos h0];split
  .rfl
  .cases d:sV l []with
   |none=>rfl
   |some a=>
    cases c:gO l []with
    |none=>rw[d,c]at h;exact h.elim
    |some b=>
     rw[d,c]at h;have ht:=zV c
     cases h with
     |nil=>rfl
     |cons hp hr=>
      cases hr with
      |nil=>
       simp only;rw[if_pos];rw[hp.D];simp at ht;omega
      |cons _ _=>rfl
 .rw[if_neg h0,if_neg l7]
  cases d:sV l []with
  |none=>
   cases c:gO l []with
   |none=>rfl
   |some b=>rw[d,c]at h;exact h.elim
  |some a=>
   cases c:gO l []with
   |none=>rw[d,c]at h;exact h.elim
   |some b=>
    rw[d,c]at h
    cases h with
    |nil=>rfl
    |cons hp hr=>
     cases hr with
     |cons _ _=>rfl
     |nil=>
      rename_i q;simp only;rw[hp.D,hp.J,hp.s];have e:(256<q.D+k)↔(256-k<q.D):=l7
      simp only[e]
def kP.sd (x:kP):oI:=⟨x.name,x.n⟩
def InputV.inp(x:InputV):hU:=⟨x.name,x.at_,x.B.A.map kP.sd⟩
def LineV.ln(x:LineV):nF:=⟨x.name,x.at_,x.K.A.map ItemV.it⟩
def ProgV.pr(x:ProgV):iL:=⟨x.C.A.map InputV.inp,x.G.A.map LineV.ln⟩
def oV:List TokV->List oI->List oI×Flt
 |[],acc=>(acc,(0,0))
 |t::r,acc=>
  if t.kind≠2/\(t.kind≠1\/dQ t.word=false)then (acc,(t.at_,41))
  else if acc.length=4 then (acc,(t.at_,45))else oV r (acc++[⟨t.word,t.n⟩])
section
variable (toks : List TokV) (e : Int)
def mX:hU×Flt:=
 if toks.length=1 then (⟨(bL toks 1).word,atP toks 1 e,[]⟩,(atP toks 1 e,42))
 else if (bL toks 1).kind≠1\/dQ (bL toks 1).word=false then (⟨(bL toks 1).word,atP toks 1 e,[]⟩,(atP toks 1 e,41))
 else (⟨(bL toks 1).word,atP toks 1 e,(oV (toks.drop 2) []).1⟩,(oV (toks.drop 2) []).2)
def isW (t:TokV)(w:Bs):Bool:=t.kind==1&&t.word==w
def wP (name:Bs)(k:Nat):nF×Flt:=(⟨name,(bL toks 0).at_,(wF toks e k).1⟩,(wF toks e k).2)
def iV (p:iL)(n:Nat)(over:Bool):iL×Flt:=
 if n=64 then (p,(atP toks 0 e,45))
 else if 256<toks.length then (p,(atP toks 256 e,45))
 else if over=true\/isW (bL toks 0) [105,110]=true/\p.G≠[]then (p,(atP toks 0 e,40))
 else if isW (bL toks 0) [105,110]=true then (⟨p.C++[(mX toks e).1],p.G⟩,(mX toks e).2)
 else if isW (bL toks 0) [111,117,116]=true then (⟨p.C,p.G++[(wP toks e [] 1).1]⟩,(wP toks e [] 1).2)
 else if (bL toks 0).kind≠1\/dQ (bL toks 0).word=false then (p,(atP toks 0 e,40))
 else if (bL toks 1).kind≠3\/(bL toks 1).word≠[58]then (p,(atP toks 1 e,42))
 else (⟨p.C,p.G++[(wP toks e (bL toks 0).word 2).1]⟩,(wP toks e (bL toks 0).word 2).2)
end
def fQ (toks:List TokV):List TokV:=toks.takeWhile λt=>t.kind !=4
def endP (toks:List TokV)(len:Int):Int:=atP toks (fQ toks).length len
def tT (p:iL):Bool:=match p.G.getLast? with
 |none=>false
 |some l=>l.name==[]
def uW (len:Int):Nat->List TokV->iL->Nat->Bool->iL×Flt
 |0,_,_,_,_=>(⟨[],[]⟩,(0,0))
 |f+1,toks,p,n,over=>
  if toks=[]then (if over=true then (p,(0,0))else (⟨[],[]⟩,(len,42)))
  else if fQ toks=[]then uW len f (toks.drop 1) p n over
  else if oG (iV (fQ toks) (endP toks len) p n over).2 then
   uW len f (toks.drop ((fQ toks).length+1)) (iV (fQ toks) (endP toks len) p n over).1 (n+1) (tT (iV (fQ toks) (endP toks len) p n over).1)
  else (⟨[],[]⟩,(iV (fQ toks) (endP toks len) p n over).2)
def jI (text:Bs):iL×Flt:=
 if oG (iD text).2 then uW text.length ((iD text).1.length+1) (iD text).1 ⟨[],[]⟩ 0 false else (⟨[],[]⟩,(iD text).2)
def PInv (r:iL×Flt)(len:Int)(toks:List TokV)(p:iL)(n:Nat)(over:Bool):Prop:= ∃f,toks.length+1<=f/\uW len f toks p n over=r
section
variable {r : iL × Flt} {len : Int} {toks : List TokV} {p : iL} {n : Nat} {over : Bool}
theorem p_end(h:PInv r len toks p n over)(h0:toks=[]):r=if over=true then (p,(0,0))else (⟨[],[]⟩,(len,42)):=by
 obtain⟨f,hf,h⟩:=h
 obtain⟨f,rfl⟩: ∃g,f=g+1:=⟨f-1,l7⟩
 rw[uW,if_pos h0]at h;exact h.symm
theorem p_skip(h:PInv r len toks p n over)(h0:toks≠[])(h1:fQ toks=[]):PInv r len (toks.drop 1) p n over:=by
 obtain⟨f,hf,h⟩:=h;have:0<toks.length:=N6.2 h0
 obtain⟨f,rfl⟩: ∃g,f=g+1:=⟨f-1,l7⟩
 rw[uW,if_neg h0,if_pos h1]at h;exact⟨f,by rw[N9];omega,h⟩
theorem p_line(h:PInv r len toks p n over)(h0:toks≠[])(h1:fQ toks≠[]){q:iL}{f:Flt}(hq:iV (fQ toks) (endP toks len) p n over=(q,f)):
  (oG f=true->PInv r len (toks.drop ((fQ toks).length+1)) q (n+1) (tT q))/\(oG f=false->r=(⟨[],[]⟩,f)):=by
 obtain⟨g,hg,h⟩:=h;have:0<toks.length:=N6.2 h0
 obtain⟨g,rfl⟩: ∃k,g=k+1:=⟨g-1,l7⟩
 rw[uW,if_neg h0,if_neg h1,hq]at h;refine⟨λhi=>?_,λhi=>?_⟩
 .rw[if_pos hi]at h;exact⟨g,by rw[N9];omega,h⟩
 .rw[if_neg ak1]at h;exact h.symm
end
structure bIc (t:TokV):Prop where
 word:t.word.length<=16
 lo: -9223372036854775808<=t.n
 hi:t.n<=9223372036854775807
theorem bVy{neg:Bool}{ds:Bs}{v:Int}(h:pW neg ds=some v): -9223372036854775808<=v/\v<=9223372036854775807:=by
 unfold pW at h;split at h
 .split at h
  .injection h with h
   omega
  .cases h
 .split at h
  .injection h with h
   omega
  .cases h
theorem numTok_ok{b:UInt8}{r:Bs}{t:TokR}(h:jE b r= .ok (some t)):t.2.1=[]/\ -9223372036854775808<=t.2.2.1/\t.2.2.1<=9223372036854775807:=by
 unfold jE at h;dsimp only at h
 by_cases c:(b==95)=true
 .simp only[c,if_true]at h;split at h
  .cases h
  .split at h
   .cases h
   .rename_i a;simp only[Except.ok.injEq,Option.some.injEq]at h;subst h;exact⟨rfl,bVy a⟩
 .simp only[c,J2,if_false]at h;split at h
  .cases h
  .split at h
   .cases h
   .rename_i a;simp only[Except.ok.injEq,Option.some.injEq]at h;subst h;exact⟨rfl,bVy a⟩
theorem cAj{s:Bs}{k v:Int}{wd:Bs}{m:Nat}(h:fD s= .ok (k,wd,v,m)):wd.length<=16/\ -9223372036854775808<=v/\v<=9223372036854775807:=by
 cases s with
 |nil=>cases h
 |cons b r=>
  simp only[fD]at h;split at h
  .cases h;decide
  .split at h
   .split at h
    .cases h
    .cases h;rename_i c
     have:=(O0 (runB kU (b::r)) (b::r))
     exact⟨l7,m6,m6⟩
   .split at h
    .cases h
    .rename_i d ht;simp only[Except.ok.injEq]at h;subst h;obtain⟨h1,h2,a⟩:=numTok_ok ht;simp only at h1 h2 a;exact⟨by rw[h1];decide,h2,a⟩
    .split at h
     .cases h
     .cases h
      have h2:gQ (b::r)<=2:=by
       simp only[gQ];split
       .omega
       .split<;>omega
      have:=(O0 (gQ (b::r)) (b::r))
      exact⟨l7,m6,m6⟩
theorem bIs: ∀(f i:Nat) (s:Bs) (out:List Tok),(∀t∈out,bIc t)-> ∀t∈(lexGo f i s out).1,bIc t
 |0,_,_,out,h=>h
 |_+1,_,[],out,h=>h
 |f+1,i,b::r,out,h=>by
  unfold lexGo;split
  .exact bIs f _ _ _ h
  .split
   .exact bIs f _ _ _ h
   .split
    .exact λt ht=>by simp at ht
    .rename_i ht;refine bIs f _ _ _ λt hm=>?_
     rcases List.mem_append.1 hm with hm|hm
     .exact h t hm
     .rw[List.mem_singleton.1 hm];obtain⟨h1,h2,a⟩:=cAj ht;exact⟨h1,h2,a⟩
theorem lex_ok(s:Bs): ∀t∈(iD s).1,bIc t:=by
 unfold iD;split
 .exact λt ht=>by simp at ht
 .exact bIs _ _ _ _ λt ht=>by simp at ht
theorem peek_ok{toks:List TokV}(h: ∀t∈toks,bIc t)(k:Nat):bIc (bL toks k):=by
 unfold bL;split
 .rename_i ht;exact h _ (j0 ht)
 .exact⟨m6,m6,m6⟩
theorem bEi{toks:List TokV}(h: ∀t∈toks,bIc t)(k:Nat):(bL toks k).word.length<=65536:=B1 (peek_ok h k).word m6
theorem bVd(toks:List TokV):(fQ toks).length<=toks.length:=(List.takeWhile_sublist _).length_le
theorem bJp(toks:List TokV):toks.take (fQ toks).length=fQ toks:=by
 unfold fQ
 induction toks with
 |nil=>rfl
 |cons t r ih=>
  rw[O1];split
  .rw[F5,List.take_succ_cons,ih]
  .rfl
theorem own_more{toks:List TokV}{n:Nat}{x:TokV}(hn:n<=(fQ toks).length)(hx:toks[n]?=some x)(h4:x.kind≠4):n+1<=(fQ toks).length:=by
 unfold fQ at*
 induction toks generalizing n with
 |nil=>simp at hx
 |cons t r ih=>
  rw[O1]at hn⊢;split at hn
  .rename_i ht;rw[if_pos ht]
   cases n with
   |zero=>simp
   |succ n=>
    have:=ih (n:=n) (by simpa using hn) (by simpa using hx);simp;omega
  .rename_i ht;have:n=0:=by simpa using hn
   subst this;simp at hx;subst hx;simp[h4]at ht
theorem own_stop{toks:List TokV}{n:Nat}(hn:n<=(fQ toks).length)(h:toks.length<=n\/ ∃x:TokV,toks[n]?=some x/\x.kind=4):n=(fQ toks).length:=by
 have hl:=bVd toks
 rcases h with h|⟨x,hx,h4⟩
 .omega
 .rcases Nat.lt_or_ge n (fQ toks).length with a|b
  .exfalso
   have hm:(fQ toks)[n]?=some x:=by rw[<-bJp toks,List.getElem?_take,if_pos a];exact hx
   have:=List.all_takeWhile (p:=λt:TokV=>t.kind !=4) (l:=toks);have:=List.all_eq_true.1 this x (j0 hm);simp[h4]at this
  .omega
def nS (x:InputV):Fact:=bJd.sl (.slice x.B.I x.B.A.length x.B.cap) x.B.A
def iW (l:List InputV):Fact:=Fact.each l nS
def bJc (x:LineV):Fact:=(mU.sl (.slice x.K.I x.K.A.length x.K.cap) x.K.A).and (nP x.K.A)
def mA (l:List LineV):Fact:=Fact.each l bJc
theorem bQt{F:List Fact}{l:List InputV}{x:InputV}(h:Has F (iW l))(hx:Has F (nS x)):Has F (iW (l++[x])):=Has.each_snoc h hx
theorem bXq{F:List Fact}{l:List LineV}{x:LineV}(h:Has F (mA l))(hx:Has F (bJc x)):Has F (mA (l++[x])):=Has.each_snoc h hx
section
variable {toks : List TokV} {e : Int} {k : Nat} {acc : List kP}
theorem yH(hk:k<toks.length):toks.drop k=bL toks k::toks.drop (k+1)/\(bL toks k).at_=atP toks k e:=by have h:toks[k]?=some toks[k]:=F1 hk;rw[vX h,bKh h];exact⟨K2 hk,rfl⟩
theorem bZj(hk:k<toks.length)(h2:(bL toks k).kind≠2)(hn:(bL toks k).kind≠1\/dQ (bL toks k).word=false){a:List oI}:oV (toks.drop k) a=(a,(atP toks k e,41)):=by rw[(yH (e:=e) hk).1,oV,if_pos ⟨h2,hn⟩,(yH (e:=e) hk).2]
theorem sides_ok(hn:(bL toks k).kind=2\/(bL toks k).kind=1/\dQ (bL toks k).word=true): ¬((bL toks k).kind≠2/\((bL toks k).kind≠1\/dQ (bL toks k).word=false)):=by
 rintro⟨h1,h2⟩
 rcases hn with hn|⟨a,b⟩
 .exact h1 hn
 .rcases h2 with h2|h2
  .exact h2 a
  .rw[b]at h2;cases h2
theorem bTx(hk:k<toks.length)(hn:(bL toks k).kind=2\/(bL toks k).kind=1/\dQ (bL toks k).word=true){a:List oI}(h4:a.length=4):oV (toks.drop k) a=(a,(atP toks k e,45)):=by rw[(yH (e:=e) hk).1,oV,if_neg (sides_ok hn),if_pos h4,(yH (e:=e) hk).2]
theorem bUu(hk:k<toks.length)(hn:(bL toks k).kind=2\/(bL toks k).kind=1/\dQ (bL toks k).word=true){a:List oI}(h4:a.length≠4):oV (toks.drop k) a=oV (toks.drop (k+1)) (a++[⟨(bL toks k).word,(bL toks k).n⟩]):=by rw[(yH (e:=0) hk).1,oV,if_neg (sides_ok hn),if_neg h4]
theorem sides_end(hk:toks.length<=k){a:List oI}:oV (toks.drop k) a=(a,(0,0)):=by rw[K3 hk];rfl
variable {p : iL} {n : Nat} {over : Bool}
theorem bMj(hn:n=64):iV toks e p n over=(p,(atP toks 0 e,45)):=by rw[iV,if_pos hn]
variable (hn : n ≠ 64)
include hn
theorem bQq(hl:256<toks.length):iV toks e p n over=(p,(atP toks 256 e,45)):=by rw[iV,if_neg hn,if_pos hl]
variable (hl : ¬ 256 < toks.length)
include hl
theorem bAn(h:over=true\/isW (bL toks 0) [105,110]=true/\p.G≠[]):iV toks e p n over=(p,(atP toks 0 e,40)):=by rw[iV,if_neg hn,if_neg hl,if_pos h]
variable (ho : over = false)
include ho
theorem i_in(hi:isW (bL toks 0) [105,110]=true)(h0:p.G=[]):iV toks e p n over=(⟨p.C++[(mX toks e).1],p.G⟩,(mX toks e).2):=by rw[iV,if_neg hn,if_neg hl,if_neg (by rw[ho,h0];simp),if_pos hi]
variable (hi : isW (bL toks 0) [105, 110] = false)
include hi
theorem i_out(hu:isW (bL toks 0) [111,117,116]=true):iV toks e p n over=(⟨p.C,p.G++[(wP toks e [] 1).1]⟩,(wP toks e [] 1).2):=by rw[iV,if_neg hn,if_neg hl,if_neg am6,if_neg ak1,if_pos hu]
variable (hu : isW (bL toks 0) [111, 117, 116] = false)
include hu
theorem i_none(h:(bL toks 0).kind≠1\/dQ (bL toks 0).word=false):iV toks e p n over=(p,(atP toks 0 e,40)):=by rw[iV,if_neg hn,if_neg hl,if_neg am6,if_neg ak1,if_neg (by rw[hu];simp),if_pos h]
variable (h1 : (bL toks 0).kind = 1) (hm : dQ (bL toks 0).word = true)
include h1 hm
theorem i_want(h:(bL toks 1).kind≠3\/(bL toks 1).word≠[58]):iV toks e p n over=(p,(atP toks 1 e,42)):=by rw[iV,if_neg hn,if_neg hl,if_neg am6,if_neg ak1,if_neg (by rw[hu];simp),if_neg (by rw[h1,hm];simp),if_pos h]
theorem i_line(h3:(bL toks 1).kind=3)(hw:(bL toks 1).word=[58]):iV toks e p n over=(⟨p.C,p.G++[(wP toks e (bL toks 0).word 2).1]⟩,(wP toks e (bL toks 0).word 2).2):=by rw[iV,if_neg hn,if_neg hl,if_neg am6,if_neg ak1,if_neg (by rw[hu];simp),if_neg (by rw[h1,hm];simp),if_neg (by rw[h3,hw];simp)]
end
theorem bPd{toks:List TokV}{e:Int}{p:iL}{n:Nat}{over:Bool}(h:oG (iV toks e p n over).2=true):n≠64/\(iV toks e p n over).1.C.length+(iV toks e p n over).1.G.length<=p.C.length+p.G.length+1:=by
 refine⟨λhn=>?_,?_⟩
 .rw[bMj hn]at h;simp[oG,nO]at h
 .unfold iV
  repeat' split
  all_goals (first|(simp;done)|(simp;omega))
theorem isW_ne{t:TokV}{w:Bs}(h:t.kind≠1):isW t w=false:=by simp[isW,h]
theorem isW_is{t:TokV}{w:Bs}(h:t.kind=1)(hw:t.word=w):isW t w=true:=by simp[isW,h,hw]
theorem isW_no{t:TokV}{w:Bs}(hw:t.word≠w):isW t w=false:=by simp[isW,hw]
theorem bDz{i:List hU}{l:List LineV}(h: ¬0<l.length):false=tT ⟨i,l.map LineV.ln⟩:=by have:l=[]:=F7 l7;subst this;rfl
theorem bDt{i:List hU}{l:List LineV}{x:LineV}(h:l[l.length-1]?=some x):(x.name==[])=tT ⟨i,l.map LineV.ln⟩:=by unfold tT;dsimp only;rw[List.getLast?_map,List.getLast?_eq_getElem?,h];rfl
theorem bPg{toks:List TokV}{n:Nat}(hn:n=(fQ toks).length)(h:toks.length<=n):toks.drop n=toks.drop ((fQ toks).length+1):=by rw[K3 h,K3 l7]
theorem bHq{α β:Type}{f:α->β}{l:List α}(h:0<l.length):l.map f≠[]:=λe=>by have:l=[]:=List.map_eq_nil_iff.1 e;subst this;simp at h
theorem map_nil{α β:Type}{f:α->β}{l:List α}(h: ¬0<l.length):l.map f=[]:=by have:l=[]:=F7 l7;subst this;rfl
def progFct(x:ProgV):Fact:=((jP.sl (.slice x.C.I x.C.A.length x.C.cap) x.C.A).and (iW x.C.A)).and ((nM.sl (.slice x.G.I x.G.A.length x.G.cap) x.G.A).and (mA x.G.A))
theorem bEr: ∀(f i:Nat) (s:Bs) (out:List Tok),(lexGo f i s out).1.length<=out.length+s.length
 |0,_,_,out=>by simp[lexGo]
 |_+1,_,[],out=>by simp[lexGo]
 |f+1,i,b::r,out=>by
  unfold lexGo;split
  .have:=bEr f (i+1) r out;simp only[F5];omega
  .split
   .have:=bEr f (i+runB (· !=10) (b::r)) ((b::r).drop (runB (· !=10) (b::r))) out;rw[N9]at this;omega
   .split
    .simp
    .rename_i k a v m ht;have h1:=bEr f (i+m) ((b::r).drop m) (out++[⟨k,i,a,v⟩]);have h2:=vR ht;simp only[F4,N9,F5,O2]at h1 h2⊢;omega
theorem lex_count(s:Bs):(iD s).1.length<=65536:=by
 unfold iD;split
 .simp
 .have:=bEr s.length 0 s [];simp only[O2]at this;omega
theorem bPk{toks:List TokV}(h: ∀t∈toks,bIc t): ∀t∈fQ toks,bIc t:=λt ht=>h t (List.mem_of_mem_take (by rw[bJp];exact ht))
theorem p_start{text:Bs}{r:iL×Flt}(hR:jI text=r)(h:oG (iD text).2=true):PInv r text.length (iD text).1 ⟨[],[]⟩ 0 false:=⟨_,B0 _,by rw[<-hR,jI,if_pos h]⟩
theorem p_lexed{text:Bs}{r:iL×Flt}(hR:jI text=r)(h:oG (iD text).2=false):r=(⟨[],[]⟩,(iD text).2):=by rw[<-hR,jI,if_neg (by rw[h];simp)]
theorem xT{α:Type}{l:List α}(h:0<l.length):l≠[]:=N6.1 h
theorem bPn{α:Type}{l:List α}(h:((l.length:Nat):Int)=0):l=[]:=F7 l7
theorem mN:(prog.info? 50).bind (·.zero)=some (.agg #[.string (bs []),k6 0,.slice none 0 0]):=m0
theorem xG(s0:ByteArray)(z1:Int):prog.built 50 [(1,k6 z1),(0,.string s0)]=some #[.string s0,k6 z1,.slice none 0 0]:=m0
theorem rJ(s0:ByteArray)(z1:Int):prog.built 52 [(0,.string s0),(1,k6 z1)]=some #[.string s0,k6 z1]:=m0
theorem rU(z1:Int):prog.built 58 [(1,k6 z1)]=some #[.string (bs []),k6 z1,.slice none 0 0]:=m0
theorem uK:(prog.info? 58).bind (·.zero)=some (.agg #[.string (bs []),k6 0,.slice none 0 0]):=m0
theorem bUn(bl:Nat)(A:Option Addr)(c:Nat)(toks:List TokV)(k0:Nat)(e:Int)(h0:0<toks.length)(hl:toks.length<=1000)(hw: ∀k,(bL toks k).word.length<=65536):cY prog 85 [.pointer (some ⟨bl,0,none⟩)] [.obj bl (.cells [.slice A toks.length c,k6 (k0:Nat),k6 e].toArray 108)] [nR.sl (.slice A toks.length c) toks,kG] (λ(x:InputV×Nat)=> .tuple #[.agg #[.string (bs x.1.name),k6 x.1.at_,j8 x.1.B],.agg #[k6 (mX toks e).2.1,k6 (mX toks e).2.2]]) (λ(x:InputV×Nat)=>[.obj bl (.cells [.slice A toks.length c,k6 (x.2:Nat),k6 e].toArray 108)]) (λ(x:InputV×Nat)=>[nS x.1,Fact.pure (x.1.inp=(mX toks e).1)]):=by
 have hT:=gJ;generalize b:mX toks e=r;refine j5 func85 ntmps85 ?_;intro β hM;refine g2 ?_;refine j1 mN λu=>?_;refine j1 bGy λs=>?_;refine g13 ?_;refine bD func118 (at_spec bl A c toks (1) e) rfl rfl (.c0 .nil) ⟨d7,i6⟩ λ_=>?_;refine one ?_;refine bD func83 (kF bl A c toks (1) e) rfl rfl (.c0 .nil) ⟨d7,i6⟩ λ_=>?_;refine one ?_;refine ss (j3 (xG _ _)) ?_;refine j1 mN λl=>?_;refine g5 ?_;refine cL _ _ [j9,u0,u5,u9,A00,u6,A02,A01,A03,A04] cN o0 (.c0 (.c0 (.c0 (.c0 .nil)))) bA.self ?_;refine g12 ?_;refine gN (λhc24=>?_) λhc24=>?_
 .refine bP<|cL _ _ [j9,u0,A05,A06,A42] cN o0 (.c0 (.c0 .nil)) bA.self ?_;refine g3 ?_;refine bD func84 (cQ bl A c toks (1) e _) rfl rfl (.c1 .nil) ⟨d7,i6⟩ λ_=>?_;refine g11 ?_;have hr:=b.symm.trans (by rw[mX,if_pos l7]);subst hr;exact rs2 (⟨(bL toks 1).word,atP toks 1 e,⟨none,0,[]⟩⟩,_) ⟨dW,i7 rfl,i6⟩
 refine g6 ?_;refine bD func83 (kF bl A c toks (1) e) rfl rfl (.c1 .nil) ⟨d7,i6⟩ λ_=>?_;refine g3 ?_;refine yQ (λg=>?_) λg=>?_
 .refine g9 ?_;refine cL _ _ [j9,u0,A05,A06,A42] cN o0 (.c0 (.c0 .nil)) bA.self ?_;refine g3 ?_;refine bD func84 (cQ bl A c toks (1) e _) rfl rfl (.c0 .nil) ⟨d7,i6⟩ λ_=>?_;refine g11 ?_;have hr:=b.symm.trans ah6;subst hr;exact rs2 (⟨(bL toks 1).word,atP toks 1 e,⟨none,0,[]⟩⟩,_) ⟨dW,i7 rfl,i6⟩
 refine g2 ?_;refine bD func86 (pP _ (B1 (hw _) m6)) rfl rfl .nil ⟨d8,i6⟩ λ_=>?_;refine g4 ?_;refine iQ (λi=>?_) λi=>?_
 .refine bP<|cL _ _ [j9,u0,A05,A06,A42] cN o0 (.c0 (.c0 .nil)) bA.self ?_;refine g3 ?_;refine bD func84 (cQ bl A c toks (1) e _) rfl rfl (.c0 .nil) ⟨d7,i6⟩ λ_=>?_;refine g11 ?_;have hr:=b.symm.trans ah6;subst hr;exact rs2 (⟨(bL toks 1).word,atP toks 1 e,⟨none,0,[]⟩⟩,_) ⟨dW,i7 rfl,i6⟩
 refine g12 ?_;refine bQ (t:=52) bJd ?_;refine cF (ι:=Nat×List kP×Option Addr×Nat) [(0,_),(2,_),(3,_),(4,_)] ⟨rfl,rfl,rfl,rfl,i6⟩ (λ_=>[]) (λ⟨k,sides,S,c2⟩=>[.obj bl (.cells [.slice A toks.length c,.int .i64 (k:Nat),.int .i64 e].toArray 108),.obj l (.cells [.string (bs (bL toks 1).word),.int .i64 (atP toks 1 e),.slice S sides.length c2].toArray 50),bJd.row (.slice S sides.length c2) 52 sides]) (λ⟨k,sides,S,c2⟩=>[Fact.pure (oV (toks.drop k) (sides.map kP.sd)=oV (toks.drop 2) []/\k<=toks.length/\sides.length<=4)]) (λ⟨k,sides,S,c2⟩=>toks.length-k) (2,[],none,0) i6 (.c1 (.c1 (.c0 .nil))) ⟨i7 (⟨rfl,lA (toks:=toks) (k:=1) l7,m9⟩),i6⟩ ?_;rintro⟨k,sides,S,c2⟩;dsimp only;refine bF d7 λhinv8=>?_;refine g2 ?_;refine cL _ _ [j9,u0,u5,u9,A00,u6,A02,A01,A03,A04] cN o0 (.c0 (.c0 (.c0 (.c0 (.c0 .nil))))) bA.self ?_;refine g12 ?_;refine dP (λhc53=>?_) λhc53=>?_
 .refine g7 ?_;refine bD func83 (kF bl A c toks (k) e) rfl rfl (.c0 .nil) ⟨d8,i6⟩ λ_=>?_;refine j1 bDb λq=>?_;refine g10 ?_;refine yQ (λf=>?_) λf=>?_
  .refine g4 ?_;refine yQ (λd=>?_) λd=>?_
   .refine g10 ?_;refine cL _ _ [j9,u0,A05,A06,A42] cN o0 (.c0 (.c0 (.c0 (.c0 .nil)))) bA.self ?_;refine g3 ?_;refine bD func84 (cQ bl A c toks (k) e _) rfl rfl (.c1 .nil) ⟨d8,i6⟩ λ_=>?_;refine g16 ?_;have hr:=b.symm.trans ad9;subst hr;refine bR kT5 ?_;exact rs2 (⟨(bL toks 1).word,atP toks 1 e,⟨_,_,sides⟩⟩,_) ⟨d7,i7 rfl,i6⟩
   refine g2 ?_;refine bD func86 (pP _ (B1 (hw _) m6)) rfl rfl .nil ⟨d9,i6⟩ λ_=>?_;refine g5 ?_;refine iQ (λh=>?_) λh=>?_
   .refine bP<|cL _ _ [j9,u0,A05,A06,A42] cN o0 (.c0 (.c0 (.c0 (.c0 .nil)))) bA.self ?_;refine g3 ?_;refine bD func84 (cQ bl A c toks (k) e _) rfl rfl (.c1 .nil) ⟨d8,i6⟩ λ_=>?_;refine g16 ?_;have hr:=b.symm.trans ad9;subst hr;refine bR kT5 ?_;exact rs2 (⟨(bL toks 1).word,atP toks 1 e,⟨_,_,sides⟩⟩,_) ⟨d7,i7 rfl,i6⟩
   refine g11 ?_;refine gN (λa=>?_) λa=>?_
   .refine bP<|cL _ _ [j9,u0,A05,A06,A42] cN o0 (.c0 (.c0 (.c0 (.c0 .nil)))) bA.self ?_;refine g3 ?_;refine bD func84 (cQ bl A c toks (k) e _) rfl rfl (.c1 .nil) ⟨d8,i6⟩ λ_=>?_;refine g16 ?_;have hr:=b.symm.trans ac8;subst hr;refine bR kT5 ?_;exact rs2 (⟨(bL toks 1).word,atP toks 1 e,⟨_,_,sides⟩⟩,_) ⟨d7,i7 rfl,i6⟩
   refine g9 ?_;refine ss (j3 (rJ _ _)) ?_;refine bNl (m:=⟨_,_⟩) rfl rfl rfl rfl rfl λp=>?_;refine bNq kT4 (bU .head rfl) rfl rfl rfl rfl rfl rfl rfl aa7 λw c7=>?_;refine g11 ?_;refine inc (k+1) ?_;refine g5 ?_;exact dA (k+1,sides++[⟨(bL toks k).word,(bL toks k).n⟩],_,_) v8 i6 ⟨rfl,rfl,rfl,rfl,i6⟩ (.c0 (.c0 (.c0 (.c2 (.c2 .nil))))) ⟨i7 (⟨by rw[<-hinv8.1,L2];exact(bUu l7 ae0 q9).symm,by dsimp only;omega,by simp;omega⟩),i6⟩ (bA.drop 1)
  refine g24 ?_;refine gN (λa=>?_) λa=>?_
  .refine bP<|cL _ _ [j9,u0,A05,A06,A42] cN o0 (.c0 (.c0 (.c0 (.c0 .nil)))) bA.self ?_;refine g3 ?_;refine bD func84 (cQ bl A c toks (k) e _) rfl rfl (.c1 .nil) ⟨d8,i6⟩ λ_=>?_;refine g16 ?_;have hr:=b.symm.trans ac8;subst hr;refine bR kT5 ?_;exact rs2 (⟨(bL toks 1).word,atP toks 1 e,⟨_,_,sides⟩⟩,_) ⟨d7,i7 rfl,i6⟩
  refine g9 ?_;refine ss (j3 (rJ _ _)) ?_;refine bNl (m:=⟨_,_⟩) rfl rfl rfl rfl rfl λo=>?_;refine bNq kT4 (bU .head rfl) rfl rfl rfl rfl rfl rfl rfl aa7 λv j=>?_;refine g11 ?_;refine inc (k+1) ?_;refine g5 ?_;exact dA (k+1,sides++[⟨(bL toks k).word,(bL toks k).n⟩],_,_) v8 i6 ⟨rfl,rfl,rfl,rfl,i6⟩ (.c0 (.c0 (.c0 (.c2 (.c2 .nil))))) ⟨i7 (⟨by rw[<-hinv8.1,L2];exact(bUu l7 ae0 q9).symm,by dsimp only;omega,by simp;omega⟩),i6⟩ (bA.drop 1)
 refine g8 ?_;refine ss (j3 (bDk)) ?_;refine g5 ?_;have hr:=b.symm.trans (by rw[mX,if_neg l7,if_neg ai1,<-hinv8.1,sides_end l7]);subst hr;refine bR kT4 ?_;exact rs2 (⟨(bL toks 1).word,atP toks 1 e,⟨_,_,sides⟩⟩,_) ⟨d7,i7 rfl,i6⟩
theorem bEg(bl:Nat)(A:Option Addr)(c:Nat)(toks:List TokV)(e:Int)(bp:Nat)(I:Option Addr)(ci:Nat)(ins:List InputV)(J:Option Addr)(cj:Nat)(lns:List LineV)(n:Nat)(over:Bool)(h0:0<toks.length)(hn:n<=64)(hil:ins.length+lns.length<=n)(hw: ∀k,(bL toks k).word.length<=65536):cY prog 50 [.pointer (some ⟨bl,0,none⟩),.pointer (some ⟨bp,0,none⟩),k6 (n:Nat),.bool over] [.obj bl (.cells [.slice A toks.length c,k6 (0:Nat),k6 e].toArray 108),.obj bp (.cells [.slice I ins.length ci,.slice J lns.length cj].toArray 25),jP.row (.slice I ins.length ci) 50 ins,nM.row (.slice J lns.length cj) 58 lns] [nR.sl (.slice A toks.length c) toks,kG,iW ins,mA lns] (λ(_:List InputV×List LineV×(Option Addr×Nat)×(Option Addr×Nat)×Nat)=> .agg #[k6 (iV toks e ⟨ins.map InputV.inp,lns.map LineV.ln⟩ n over).2.1,k6 (iV toks e ⟨ins.map InputV.inp,lns.map LineV.ln⟩ n over).2.2]) (λ(x:List InputV×List LineV×(Option Addr×Nat)×(Option Addr×Nat)×Nat)=>[.obj bl (.cells [.slice A toks.length c,k6 (x.2.2.2.2:Nat),k6 e].toArray 108),.obj bp (.cells [.slice x.2.2.1.1 x.1.length x.2.2.1.2,.slice x.2.2.2.1.1 x.2.1.length x.2.2.2.1.2].toArray 25),jP.row (.slice x.2.2.1.1 x.1.length x.2.2.1.2) 50 x.1,nM.row (.slice x.2.2.2.1.1 x.2.1.length x.2.2.2.1.2) 58 x.2.1]) (λ(x:List InputV×List LineV×(Option Addr×Nat)×(Option Addr×Nat)×Nat)=>[iW x.1,mA x.2.1,Fact.pure ((⟨x.1.map InputV.inp,x.2.1.map LineV.ln⟩:iL)=(iV toks e ⟨ins.map InputV.inp,lns.map LineV.ln⟩ n over).1)]):=by
 have hT:=gJ;generalize i:iV toks e ⟨ins.map InputV.inp,lns.map LineV.ln⟩ n over=r;refine j5 func50 ntmps50 ?_;intro β hM;refine g2 ?_;refine j1 bGy λU=>?_;refine g5 ?_;refine bD func83 (kF bl A c toks (0) e) rfl rfl (.c1 .nil) ⟨d7,i6⟩ λ_=>?_;refine j1 bDb λR=>?_;refine g4 ?_;refine cL _ _ [j9,u0,u5,u9,A00,u6,A02,A01,A03,A04,A08,A07,A09,A24,A61,A70,A78,A76] cN o0 (.c0 (.c0 (.c0 (.c0 (.c0 (.c0 .nil)))))) bA.self ?_;refine g4 ?_;refine sD (λl=>?_) λl=>?_
 .refine g7 ?_;refine bC (t':=true) (by rw[l];rfl) ?_;refine g6 ?_;refine cG (λo=>?_) (λo=>?_)
  .have o:(bL toks (0)).word=([105,110]:Bs):=eq_of_beq o;have hin:=isW_is (t:=bL toks 0) (w:=[105,110]) ‹_› ‹_›;refine one ?_;refine cG (λhg11=>?_) (λhg11=>?_)
   .have hg11:(bL toks (0)).word=([111,117,116]:Bs):=eq_of_beq hg11;have a:=isW_is (t:=bL toks 0) (w:=[111,117,116]) ‹_› ‹_›;refine g11 ?_;refine gN (λg=>?_) λg=>?_
    .refine g3 ?_;refine bD func84 (cQ bl A c toks (0) e _) rfl rfl (.c1 .nil) ⟨d7,i6⟩ λ_=>?_;refine g6 ?_;have hr:=i.symm.trans (bMj l7);subst hr;exact rs1 (ins,lns,(_,_),(_,_),_) ⟨d9,e6,i7 (rfl),i6⟩
    refine g11 ?_;refine dP (λf=>?_) λf=>?_
    .refine g11 ?_;refine bD func84 (cQ bl A c toks (256) e _) rfl rfl (.c0 .nil) ⟨d7,i6⟩ λ_=>?_;refine g6 ?_;have hr:=i.symm.trans (bQq l7 l7);subst hr;exact rs1 (ins,lns,(_,_),(_,_),_) ⟨d9,e6,i7 (rfl),i6⟩
    refine g4 ?_;refine cG (λd=>?_) (λd=>?_)
    .refine g17 ?_;refine bD func84 (cQ bl A c toks (0) e _) rfl rfl (.c1 .nil) ⟨d7,i6⟩ λ_=>?_;refine g6 ?_;have hr:=i.symm.trans (bAn l7 l7 ac2);subst hr;exact rs1 (ins,lns,(_,_),(_,_),_) ⟨d9,e6,i7 (rfl),i6⟩
    refine g13 ?_;refine dP (λp=>?_) λp=>?_
    .refine g3 ?_;refine bD func84 (cQ bl A c toks (0) e _) rfl rfl (.c1 .nil) ⟨d7,i6⟩ λ_=>?_;refine g6 ?_;have hr:=i.symm.trans (bAn l7 l7 ac2);subst hr;exact rs1 (ins,lns,(_,_),(_,_),_) ⟨d9,e6,i7 (rfl),i6⟩
    refine g9 ?_;refine j1 mN λQ=>?_;refine g5 ?_;refine bD func85 (bUn bl A c toks 0 e h0 l7 hw) rfl rfl (.c2 .nil) ⟨d7,d8,i6⟩ λ⟨x4,k5⟩=>?_;refine bF d8 λhx=>?_;dsimp only at hx;refine bB (iW (ins++[x4])) (bQt e7 d7) ?_;refine g8 ?_;refine wJ 10 _ _ [j9,u0,u5,u9,A00,u6,A17,A75,A03,A04] cN o0 (.c0 (.c0 (.c0 (.c0 (.c0 (.c1 .nil)))))) bA.self ?_;refine g7 ?_;refine bJy (m:=x4) rfl rfl rfl rfl rfl λP=>?_;refine g2 ?_;refine bKv kT6 (bU .head rfl) rfl rfl rfl rfl rfl rfl rfl aa7 λV N=>?_;refine g16 ?_;have hr:=i.symm.trans (i_in l7 l7 ‹_› hin (map_nil l7));subst hr;exact rs1 ((ins++[x4]),lns,(_,_),(_,_),_) ⟨d7,e9,i7 (by rw[L2,<-hx];rfl),i6⟩
   have hg11:(bL toks (0)).word≠([111,117,116]:Bs):=λh=>absurd (beq_iff_eq.2 h) ai0;have a:=isW_no (t:=bL toks 0) (w:=[111,117,116]) ‹_›;refine g11 ?_;refine gN (λg=>?_) λg=>?_
   .refine g3 ?_;refine bD func84 (cQ bl A c toks (0) e _) rfl rfl (.c1 .nil) ⟨d7,i6⟩ λ_=>?_;refine g6 ?_;have hr:=i.symm.trans (bMj l7);subst hr;exact rs1 (ins,lns,(_,_),(_,_),_) ⟨d9,e6,i7 (rfl),i6⟩
   refine g11 ?_;refine dP (λf=>?_) λf=>?_
   .refine g11 ?_;refine bD func84 (cQ bl A c toks (256) e _) rfl rfl (.c0 .nil) ⟨d7,i6⟩ λ_=>?_;refine g6 ?_;have hr:=i.symm.trans (bQq l7 l7);subst hr;exact rs1 (ins,lns,(_,_),(_,_),_) ⟨d9,e6,i7 (rfl),i6⟩
   refine g4 ?_;refine cG (λd=>?_) (λd=>?_)
   .refine g17 ?_;refine bD func84 (cQ bl A c toks (0) e _) rfl rfl (.c1 .nil) ⟨d7,i6⟩ λ_=>?_;refine g6 ?_;have hr:=i.symm.trans (bAn l7 l7 ac2);subst hr;exact rs1 (ins,lns,(_,_),(_,_),_) ⟨d9,e6,i7 (rfl),i6⟩
   refine g13 ?_;refine dP (λp=>?_) λp=>?_
   .refine g3 ?_;refine bD func84 (cQ bl A c toks (0) e _) rfl rfl (.c1 .nil) ⟨d7,i6⟩ λ_=>?_;refine g6 ?_;have hr:=i.symm.trans (bAn l7 l7 ac2);subst hr;exact rs1 (ins,lns,(_,_),(_,_),_) ⟨d9,e6,i7 (rfl),i6⟩
   refine g9 ?_;refine j1 mN λO=>?_;refine g5 ?_;refine bD func85 (bUn bl A c toks 0 e h0 l7 hw) rfl rfl (.c2 .nil) ⟨d7,d8,i6⟩ λ⟨x10,k11⟩=>?_;refine bF d8 λhx=>?_;dsimp only at hx;refine bB (iW (ins++[x10])) (bQt e7 d7) ?_;refine g8 ?_;refine wJ 10 _ _ [j9,u0,u5,u9,A00,u6,A17,A75,A03,A04] cN o0 (.c0 (.c0 (.c0 (.c0 (.c0 (.c1 .nil)))))) bA.self ?_;refine g7 ?_;refine bJy (m:=x10) rfl rfl rfl rfl rfl λG=>?_;refine g2 ?_;refine bKv kT6 (bU .head rfl) rfl rfl rfl rfl rfl rfl rfl aa7 λM y=>?_;refine g16 ?_;have hr:=i.symm.trans (i_in l7 l7 ‹_› hin (map_nil l7));subst hr;exact rs1 ((ins++[x10]),lns,(_,_),(_,_),_) ⟨d7,e9,i7 (by rw[L2,<-hx];rfl),i6⟩
  have o:(bL toks (0)).word≠([105,110]:Bs):=λh=>absurd (beq_iff_eq.2 h) (by rw[show((bL toks (0)).word==([105,110]:Bs))=false from o];simp);have hin:=isW_no (t:=bL toks 0) (w:=[105,110]) ‹_›;refine one ?_;refine cG (λhg11=>?_) (λhg11=>?_)
  .have hg11:(bL toks (0)).word=([111,117,116]:Bs):=eq_of_beq hg11;have a:=isW_is (t:=bL toks 0) (w:=[111,117,116]) ‹_› ‹_›;refine g11 ?_;refine gN (λg=>?_) λg=>?_
   .refine g3 ?_;refine bD func84 (cQ bl A c toks (0) e _) rfl rfl (.c1 .nil) ⟨d7,i6⟩ λ_=>?_;refine g6 ?_;have hr:=i.symm.trans (bMj l7);subst hr;exact rs1 (ins,lns,(_,_),(_,_),_) ⟨d9,e6,i7 (rfl),i6⟩
   refine g11 ?_;refine dP (λf=>?_) λf=>?_
   .refine g11 ?_;refine bD func84 (cQ bl A c toks (256) e _) rfl rfl (.c0 .nil) ⟨d7,i6⟩ λ_=>?_;refine g6 ?_;have hr:=i.symm.trans (bQq l7 l7);subst hr;exact rs1 (ins,lns,(_,_),(_,_),_) ⟨d9,e6,i7 (rfl),i6⟩
   refine g4 ?_;refine cG (λd=>?_) (λd=>?_)
   .refine g17 ?_;refine bD func84 (cQ bl A c toks (0) e _) rfl rfl (.c1 .nil) ⟨d7,i6⟩ λ_=>?_;refine g6 ?_;have hr:=i.symm.trans (bAn l7 l7 ac2);subst hr;exact rs1 (ins,lns,(_,_),(_,_),_) ⟨d9,e6,i7 (rfl),i6⟩
   refine g40 ?_;refine g7 ?_;refine ss (j3 (rU _)) ?_;refine j1 uK λE=>?_;refine g24 ?_;refine bD func87 (bYk bl A c toks (1) e l7 l7 hw) rfl rfl (.c0 .nil) ⟨d7,d8,i6⟩ λ⟨C16,e17,its18,k19⟩=>?_;refine bF d9 λj=>?_;dsimp only at j;refine bB (mA (lns++[(⟨[],(bL toks 0).at_,⟨C16,e17,its18⟩⟩:LineV)])) (bXq e9 (Has.and d7 d8)) ?_;refine g9 ?_;refine wJ 10 _ _ [j9,u0,u5,u9,A00,u6,A17,A75,A03,A04] cN o0 (.c0 (.c0 (.c0 (.c0 (.c0 (.c0 .nil)))))) bA.self ?_;refine g7 ?_;refine bOn (m:=(⟨[],(bL toks 0).at_,⟨C16,e17,its18⟩⟩:LineV)) rfl rfl rfl rfl rfl λD=>?_;refine g2 ?_;refine bOd kT7 (bU .head rfl) rfl rfl rfl rfl rfl rfl rfl aa7 λL v=>?_;refine g14 ?_;have hr:=i.symm.trans (i_out l7 l7 ‹_› hin a);subst hr;exact rs1 (ins,(lns++[(⟨[],(bL toks 0).at_,⟨C16,e17,its18⟩⟩:LineV)]),(_,_),(_,_),_) ⟨e9,d7,i7 (by rw[L2,wP,<-j];rfl),i6⟩
  have hg11:(bL toks (0)).word≠([111,117,116]:Bs):=λh=>absurd (beq_iff_eq.2 h) ai0;have a:=isW_no (t:=bL toks 0) (w:=[111,117,116]) ‹_›;refine g11 ?_;refine gN (λg=>?_) λg=>?_
  .refine g3 ?_;refine bD func84 (cQ bl A c toks (0) e _) rfl rfl (.c1 .nil) ⟨d7,i6⟩ λ_=>?_;refine g6 ?_;have hr:=i.symm.trans (bMj l7);subst hr;exact rs1 (ins,lns,(_,_),(_,_),_) ⟨d9,e6,i7 (rfl),i6⟩
  refine g11 ?_;refine dP (λf=>?_) λf=>?_
  .refine g11 ?_;refine bD func84 (cQ bl A c toks (256) e _) rfl rfl (.c0 .nil) ⟨d7,i6⟩ λ_=>?_;refine g6 ?_;have hr:=i.symm.trans (bQq l7 l7);subst hr;exact rs1 (ins,lns,(_,_),(_,_),_) ⟨d9,e6,i7 (rfl),i6⟩
  refine g4 ?_;refine cG (λd=>?_) (λd=>?_)
  .refine g17 ?_;refine bD func84 (cQ bl A c toks (0) e _) rfl rfl (.c1 .nil) ⟨d7,i6⟩ λ_=>?_;refine g6 ?_;have hr:=i.symm.trans (bAn l7 l7 ac2);subst hr;exact rs1 (ins,lns,(_,_),(_,_),_) ⟨d9,e6,i7 (rfl),i6⟩
  refine g29 ?_;refine bC (t':=false) ((congrArg not (show((bL toks (0)).kind==1)=true from (by rw[l];rfl)):(!_)=_)) ?_;refine g3 ?_;refine bD func86 (pP _ (B1 (hw _) m6)) rfl rfl .nil ⟨d8,i6⟩ λ_=>?_;refine g6 ?_;refine iQ (λs=>?_) λs=>?_
  .refine g3 ?_;refine bD func84 (cQ bl A c toks (0) e _) rfl rfl (.c1 .nil) ⟨d7,i6⟩ λ_=>?_;refine g6 ?_;have hr:=i.symm.trans (i_none l7 l7 ‹_› hin a n7);subst hr;exact rs1 (ins,lns,(_,_),(_,_),_) ⟨d9,e6,i7 (rfl),i6⟩
  refine g7 ?_;refine ss (j3 (rU _)) ?_;refine j1 uK λC=>?_;refine g31 ?_;refine bD func83 (kF bl A c toks (1) e) rfl rfl (.c1 .nil) ⟨d7,i6⟩ λ_=>?_;refine j1 bDb λB=>?_;refine g9 ?_;refine yQ (λq=>?_) λq=>?_
  .refine g10 ?_;refine bD func84 (cQ bl A c toks (1) e _) rfl rfl (.c1 .nil) ⟨d7,i6⟩ λ_=>?_;refine g6 ?_;have hr:=i.symm.trans (i_want l7 l7 ‹_› hin a ‹_› ‹_› n7);subst hr;exact rs1 (ins,lns,(_,_),(_,_),_) ⟨d9,e6,i7 (rfl),i6⟩
  refine g6 ?_;refine fX (λb=>?_) λb=>?_
  .have b:(bL toks (1)).word≠([58]:Bs):=λh=>by rw[h]at b;first|(simp at b;done)|exact absurd b m6
   refine g3 ?_;refine bD func84 (cQ bl A c toks (1) e _) rfl rfl (.c1 .nil) ⟨d7,i6⟩ λ_=>?_;refine g6 ?_;have hr:=i.symm.trans (i_want l7 l7 ‹_› hin a ‹_› ‹_› n7);subst hr;exact rs1 (ins,lns,(_,_),(_,_),_) ⟨d9,e6,i7 (rfl),i6⟩
  have b:(bL toks (1)).word=([58]:Bs):=eq_of_beq (mT b);refine g12 ?_;refine bD func87 (bYk bl A c toks (2) e (by have:=lA (toks:=toks) (k:=1) l7;omega) l7 hw) rfl rfl (.c0 .nil) ⟨d7,d8,i6⟩ λ⟨C25,e26,its27,k28⟩=>?_;refine bF d9 λj=>?_;dsimp only at j;refine bB (mA (lns++[(⟨(bL toks 0).word,(bL toks 0).at_,⟨C25,e26,its27⟩⟩:LineV)])) (bXq e9 (Has.and d7 d8)) ?_;refine g9 ?_;refine wJ 10 _ _ [j9,u0,u5,u9,A00,u6,A17,A75,A03,A04] cN o0 (.c0 (.c0 (.c0 (.c0 (.c0 (.c0 (.c0 .nil))))))) bA.self ?_;refine g7 ?_;refine bOn (m:=(⟨(bL toks 0).word,(bL toks 0).at_,⟨C25,e26,its27⟩⟩:LineV)) rfl rfl rfl rfl rfl λz=>?_;refine g2 ?_;refine bOd kT8 (bU .head rfl) rfl rfl rfl rfl rfl rfl rfl aa7 λK u=>?_;refine g14 ?_;have hr:=i.symm.trans (i_line l7 l7 ‹_› hin a ‹_› ‹_› ‹_› ‹_›);subst hr;exact rs1 (ins,(lns++[(⟨(bL toks 0).word,(bL toks 0).at_,⟨C25,e26,its27⟩⟩:LineV)]),(_,_),(_,_),_) ⟨e9,d7,i7 (by rw[L2,wP,<-j];rfl),i6⟩
 refine g7 ?_;refine bC (t':=false) (beq_eq_false_iff_ne.2 l) ?_;refine g12 ?_;have hin:=isW_ne (t:=bL toks 0) (w:=[105,110]) ‹_›;have a:=isW_ne (t:=bL toks 0) (w:=[111,117,116]) ‹_›;refine g6 ?_;refine gN (λg=>?_) λg=>?_
 .refine g3 ?_;refine bD func84 (cQ bl A c toks (0) e _) rfl rfl (.c1 .nil) ⟨d7,i6⟩ λ_=>?_;refine g6 ?_;have hr:=i.symm.trans (bMj l7);subst hr;exact rs1 (ins,lns,(_,_),(_,_),_) ⟨d9,e6,i7 (rfl),i6⟩
 refine g11 ?_;refine dP (λf=>?_) λf=>?_
 .refine g11 ?_;refine bD func84 (cQ bl A c toks (256) e _) rfl rfl (.c0 .nil) ⟨d7,i6⟩ λ_=>?_;refine g6 ?_;have hr:=i.symm.trans (bQq l7 l7);subst hr;exact rs1 (ins,lns,(_,_),(_,_),_) ⟨d9,e6,i7 (rfl),i6⟩
 refine g4 ?_;refine cG (λd=>?_) (λd=>?_)
 .refine g17 ?_;refine bD func84 (cQ bl A c toks (0) e _) rfl rfl (.c1 .nil) ⟨d7,i6⟩ λ_=>?_;refine g6 ?_;have hr:=i.symm.trans (bAn l7 l7 ac2);subst hr;exact rs1 (ins,lns,(_,_),(_,_),_) ⟨d9,e6,i7 (rfl),i6⟩
 refine g29 ?_;refine bC (t':=true) ((congrArg not (show((bL toks (0)).kind==1)=false from (beq_eq_false_iff_ne.2 l)):(!_)=_)) ?_;refine g14 ?_;refine bD func84 (cQ bl A c toks (0) e _) rfl rfl (.c1 .nil) ⟨d7,i6⟩ λ_=>?_;refine g6 ?_;have hr:=i.symm.trans (i_none l7 l7 ‹_› hin a n7);subst hr;exact rs1 (ins,lns,(_,_),(_,_),_) ⟨d9,e6,i7 (rfl),i6⟩
section
variable {F : List Fact} {A : Option Addr} {c k : Nat} {toks : List TokV}
theorem own_fact(h:Has F (nR.sl (.slice A toks.length c) toks)):Has F (nR.sl (.slice A (fQ toks).length c) (fQ toks)):=by
 have:=bBq h (bVd toks)
 rwa[bJp]at this
theorem bDy(h:Has F (nR.sl (.slice A toks.length c) toks))(hc:toks.length<=c)(hk:k<=toks.length):Has F (nR.sl (.slice (iS A k nR.size c) (toks.drop k).length (c-k)) (toks.drop k)):=by
 have:=kC h hc hk
 rwa[<-N9]at this
end
theorem sC:(prog.info? 25).bind (·.zero)=some (.agg #[.slice none 0 0,.slice none 0 0]):=m0
theorem iG:prog.built 25 []=some #[.slice none 0 0,.slice none 0 0]:=m0
theorem xX(z2:Int):prog.built 108 [(2,k6 z2)]=some #[.slice none 0 0,k6 0,k6 z2]:=m0
theorem bSh(text:Bs)(hs:text.length<=140737488355328):cY prog 27 [.string (bs text)] [] [kG] (λ(x:ProgV)=> .tuple #[.agg #[j8 x.C,j8 x.G],.agg #[k6 (jI text).2.1,k6 (jI text).2.2]]) (λ_=>[]) (λ(x:ProgV)=>[progFct x,Fact.pure (x.pr=(jI text).1)]):=by
 have hT:=gJ;generalize P:jI text=r;refine j5 func27 ntmps27 ?_;intro β hM;refine g2 ?_;refine j1 sC λb1=>?_;refine j1 bGy λb2=>?_;refine g5 ?_;refine j2 func49 (bUm text l7) ⟨d7,i6⟩ λ⟨A3,c4⟩=>?_;refine g3 ?_;refine j1 bGy λY=>?_;refine g8 ?_;refine ss (j3 (bDk)) ?_;refine ss (fY ⟨(iD text).2.1,(iD text).2.2⟩ ⟨0,0⟩ rfl rfl rfl) ?_;refine g2 ?_;refine iQ (λs=>?_) λs=>?_
 .refine bP<|cL _ _ [j9,u0,A05,A06] cN o0 (.c0 .nil) bA.self ?_;refine stM rfl (j3 (iG)) ?_;refine g11 ?_;obtain rfl:=p_lexed P s;exact rs2 (⟨⟨none,0,[]⟩,⟨none,0,[]⟩⟩:ProgV) ⟨Has.and (Has.and dW Has.each_nil) (Has.and dW Has.each_nil),i7 rfl,i6⟩
 refine g3 ?_;have W:=p_start P s;refine one ?_;refine j1 sC λX=>?_;refine g10 ?_;have N:=lex_count text;refine bF d8 λE=>bQ (t:=50) jP<|bQ (t:=58) nM<|bB (iW []) (Has.each_nil)<|bB (mA []) (Has.each_nil) ?_;refine cF (ι:=List TokV×Option Addr×Nat×List InputV×List LineV×Option Addr×Nat×Option Addr×Nat×Nat×Bool×Int×Int) [(0,_),(2,_),(3,_),(5,_),(6,_)] ⟨rfl,rfl,rfl,rfl,rfl,i6⟩ (λ⟨toks,A,c,ins,lns,I,ci,J,cj,n,ov,f1,f2⟩=>[(4,.slice A toks.length c),(7,.int .i64 (n:Nat)),(8,.bool ov)]) (λ⟨toks,A,c,ins,lns,I,ci,J,cj,n,ov,f1,f2⟩=>[.obj X (.cells [.slice I ins.length ci,.slice J lns.length cj].toArray 25),jP.row (.slice I ins.length ci) 50 ins,nM.row (.slice J lns.length cj) 58 lns,.obj Y (.cells [.int .i64 f1,.int .i64 f2].toArray 30)]) (λ⟨toks,A,c,ins,lns,I,ci,J,cj,n,ov,f1,f2⟩=>[Fact.pure (PInv r text.length toks ⟨ins.map InputV.inp,lns.map LineV.ln⟩ n ov/\(∀t∈toks,bIc t)/\toks.length<=c/\toks.length<=65536/\n<=64/\ins.length+lns.length<=n),nR.sl (.slice A toks.length c) toks,iW ins,mA lns]) (λ⟨toks,A,c,ins,lns,I,ci,J,cj,n,ov,f1,f2⟩=>toks.length) ((iD text).1,A3,c4,[],[],none,0,none,0,0,false,(iD text).2.1,(iD text).2.2) ⟨rfl,rfl,rfl,i6⟩ (.c2 (.c1 (.c0 (.c0 .nil)))) ⟨i7 (⟨W,lex_ok text,E,N,l7,m9⟩),d9,d8,d7,i6⟩ ?_;rintro⟨toks,A,c,ins,lns,I,ci,J,cj,n,ov,f1,f2⟩;dsimp only;refine bF d7 λa=>?_;refine g8 ?_;refine dP (λL=>?_) λL=>?_
 .refine g7 ?_;refine bJ (z':=((text.length:Nat):Int)) rfl ?_;refine ss (j3 (xX _)) ?_;refine j4 λZ=>?_;refine g10 ?_;refine cF (ι:=Nat) [(0,_),(2,_),(3,_),(4,_),(5,_),(6,_),(7,_),(8,_),(9,_)] ⟨rfl,rfl,rfl,rfl,rfl,rfl,rfl,rfl,rfl,i6⟩ (λj=>[(10,.int .i64 (j:Nat))]) (λ_=>[]) (λj=>[Fact.pure (j<=(fQ toks).length)]) (λj=>toks.length-j) 0 ⟨rfl,i6⟩ .nil ⟨i7 l7,i6⟩ ?_;rintro j;refine bF d7 λl=>?_;refine g8 ?_;refine lR (λD=>?_) λD=>?_
  .refine g2 ?_;obtain⟨x8,v⟩:=gx toks j;refine ss (ixs j) ?_;refine one ?_;refine ss (fG v 0) ?_;refine g4 ?_;refine uD (λK=>?_) λK=>?_
   .refine g6 ?_;refine inc (j+1) ?_;refine g4 ?_;exact bk2 (j+1) ⟨i7 (own_more l ‹_› ‹_›),i6⟩
   refine g6 ?_;have O:=own_stop l ah9;subst O;have M:=bVd toks;refine g4 ?_;refine ss (iY hT (k:=(fQ toks).length) rfl rfl rfl rfl rfl rfl l7) ?_;refine g7 ?_;refine bB (nR.sl (.slice A (fQ toks).length c) (fQ toks)) (own_fact d9) ?_;refine g7 ?_;refine dP (λp=>?_) λp=>?_
   .refine g5 ?_;refine ss (cA hT (k:=(fQ toks).length) (bG e6) rfl rfl rfl rfl rfl rfl rfl l7) ?_;refine one ?_;refine ss (j6 hT (dD.knows (bG e6) (k:=(fQ toks).length) (x:=x8) v 1)) ?_;refine g8 ?_;refine inc ((fQ toks).length+1) ?_;refine g7 ?_;refine ss (dV hT (k:=((fQ toks).length+1)) rfl rfl rfl rfl rfl rfl l7) ?_;refine hZ (v':= .slice (iS A ((fQ toks).length+1) nR.size c) (toks.drop ((fQ toks).length+1)).length (c-((fQ toks).length+1))) ad8 ?_;refine g5 ?_;refine bB (nR.sl (.slice (iS A ((fQ toks).length+1) nR.size c) (toks.drop ((fQ toks).length+1)).length (c-((fQ toks).length+1))) (toks.drop ((fQ toks).length+1))) (bDy e6 a.2.2.1 l7) ?_;refine g9 ?_;refine gN (λd=>?_) λd=>?_
    .have e:=bPn d;have w:PInv r text.length (toks.drop ((fQ toks).length+1)) ⟨ins.map InputV.inp,lns.map LineV.ln⟩ n ov:=by have:=p_skip a.1 (xT l7) e;rw[e];exact this
     refine g4 ?_;exact dA (toks.drop ((fQ toks).length+1),_,_,ins,lns,_,_,_,_,n,_,_,_) ac1 ⟨rfl,rfl,rfl,i6⟩ ⟨rfl,rfl,rfl,rfl,rfl,i6⟩ (.c1 (.c1 (.c1 (.c1 (.c1 (.c1 .nil)))))) ⟨i7 (⟨w,λt ht=>a.2.1 t (O3 ht),by dsimp only;rw[N9];omega,by dsimp only;rw[N9];omega,a.2.2.2.2.1,a.2.2.2.2.2⟩),d7,e8,e9,i6⟩ (bA.drop 7)
    refine g8 ?_;have e:0<(fQ toks).length:=l7
    refine bD func50 (bEg _ A c (fQ toks) _ _ I ci ins J cj lns n ov e a.2.2.2.2.1 a.2.2.2.2.2 (bEi (bPk a.2.1))) rfl rfl (.c0 (.c0 (.c0 (.c0 .nil)))) ⟨d8,f8,e8,e9,i6⟩ λ⟨ins10,lns11,⟨I12,ci13⟩,⟨J14,cj15⟩,k16⟩=>?_;refine bF d9 λhq=>?_;dsimp only at hq;have hE:x8.at_=endP toks text.length:=(bKh v).symm;have hpl:=p_line (q:=⟨ins10.map InputV.inp,lns11.map LineV.ln⟩) (f:=(iV (fQ toks) x8.at_ ⟨ins.map InputV.inp,lns.map LineV.ln⟩ n ov).2) a.1 (xT l7) (xT e) ah7;refine g6 ?_;refine ss (j3 (bDk)) ?_;refine ss (fY ⟨(iV (fQ toks) x8.at_ ⟨ins.map InputV.inp,lns.map LineV.ln⟩ n ov).2.1,(iV (fQ toks) x8.at_ ⟨ins.map InputV.inp,lns.map LineV.ln⟩ n ov).2.2⟩ ⟨0,0⟩ rfl rfl rfl) ?_;refine g2 ?_;refine iQ (λb=>?_) λb=>?_
    .refine bP<|cL _ _ [j9,u0,A05,A06] cN o0 (.c0 (.c0 (.c0 (.c0 (.c0 .nil))))) bA.self ?_;refine stM rfl (j3 (iG)) ?_;refine g15 ?_;obtain rfl:=hpl.2 b;exact rs2 (⟨⟨none,0,[]⟩,⟨none,0,[]⟩⟩:ProgV) ⟨Has.and (Has.and dW Has.each_nil) (Has.and dW Has.each_nil),i7 rfl,i6⟩
    refine g3 ?_;have h:=hpl.1 b;have g:=bPd b;have o:ins10.length+lns11.length<=n+1:=by have:=g.2;rw[<-hq]at this;dsimp only at this;simp only[O4]at this;omega
    refine g3 ?_;refine inc (n+1) ?_;refine g7 ?_;refine bJ (z':=((lns11.length:Nat):Int)) (rfl) ?_;refine g2 ?_;refine lR (λi=>?_) λi=>?_
    .refine g5 ?_;refine bJ (z':=((lns11.length:Nat):Int)) (rfl) ?_;refine one ?_;refine inc (lns11.length-1) ?_;obtain⟨V,C⟩:=gx lns11 (lns11.length-1) (show lns11.length-1<lns11.length from by omega);refine ss (cA hT (k:=(lns11.length-1)) (cI kT4) rfl rfl rfl rfl rfl rfl rfl (show lns11.length-1<lns11.length from by omega)) ?_;refine one ?_;refine ss (fG C 0) ?_;refine g3 ?_;refine bC (t':=tT ⟨ins10.map InputV.inp,lns11.map LineV.ln⟩) (bDt ‹_›) ?_;refine g3 ?_;exact dA (toks.drop ((fQ toks).length+1),_,_,ins10,lns11,_,_,_,_,(n+1),_,_,_) ac1 ⟨rfl,rfl,rfl,i6⟩ ⟨rfl,rfl,rfl,rfl,rfl,i6⟩ (.c2 (.c2 (.c2 (.c0 (.c1 (.c1 .nil)))))) ⟨i7 (⟨h,λt ht=>a.2.1 t (O3 ht),by dsimp only;rw[N9];omega,by dsimp only;rw[N9];omega,by have:=g.1;dsimp only;omega,by dsimp only;omega⟩),e6,d7,d8,i6⟩ (bA.drop 10)
    refine g12 ?_;refine bC (t':=tT ⟨ins10.map InputV.inp,lns11.map LineV.ln⟩) (bDz l7) ?_;refine g3 ?_;exact dA (toks.drop ((fQ toks).length+1),_,_,ins10,lns11,_,_,_,_,(n+1),_,_,_) ac1 ⟨rfl,rfl,rfl,i6⟩ ⟨rfl,rfl,rfl,rfl,rfl,i6⟩ (.c2 (.c2 (.c2 (.c0 (.c1 (.c1 .nil)))))) ⟨i7 (⟨h,λt ht=>a.2.1 t (O3 ht),by dsimp only;rw[N9];omega,by dsimp only;rw[N9];omega,by have:=g.1;dsimp only;omega,by dsimp only;omega⟩),e6,d7,d8,i6⟩ (bA.drop 10)
   refine g6 ?_;refine ss (dV hT (k:=(fQ toks).length) rfl rfl rfl rfl rfl rfl l7) ?_;refine hZ (v':= .slice (iS A (fQ toks).length nR.size c) (toks.drop (fQ toks).length).length (c-(fQ toks).length)) ad8 ?_;refine g5 ?_;refine bB (nR.sl (.slice (iS A (fQ toks).length nR.size c) (toks.drop (fQ toks).length).length (c-(fQ toks).length)) (toks.drop (fQ toks).length)) (bDy e6 a.2.2.1 l7) ?_;refine g9 ?_;refine gN (λd=>?_) λd=>?_
   .have e:=bPn d;exact absurd d l7
   refine g8 ?_;have e:0<(fQ toks).length:=l7
   refine bD func50 (bEg _ A c (fQ toks) _ _ I ci ins J cj lns n ov e a.2.2.2.2.1 a.2.2.2.2.2 (bEi (bPk a.2.1))) rfl rfl (.c0 (.c0 (.c0 (.c0 .nil)))) ⟨d8,f8,e8,e9,i6⟩ λ⟨ins19,lns20,⟨I21,ci22⟩,⟨J23,cj24⟩,k25⟩=>?_;refine bF d9 λhq=>?_;dsimp only at hq;have hE:((text.length:Nat):Int)=endP toks text.length:=(bRo l7).symm;have hpl:=p_line (q:=⟨ins19.map InputV.inp,lns20.map LineV.ln⟩) (f:=(iV (fQ toks) ((text.length:Nat):Int) ⟨ins.map InputV.inp,lns.map LineV.ln⟩ n ov).2) a.1 (xT l7) (xT e) ah7;refine g6 ?_;refine ss (j3 (bDk)) ?_;refine ss (fY ⟨(iV (fQ toks) ((text.length:Nat):Int) ⟨ins.map InputV.inp,lns.map LineV.ln⟩ n ov).2.1,(iV (fQ toks) ((text.length:Nat):Int) ⟨ins.map InputV.inp,lns.map LineV.ln⟩ n ov).2.2⟩ ⟨0,0⟩ rfl rfl rfl) ?_;refine g2 ?_;refine iQ (λb=>?_) λb=>?_
   .refine bP<|cL _ _ [j9,u0,A05,A06] cN o0 (.c0 (.c0 (.c0 (.c0 (.c0 .nil))))) bA.self ?_;refine stM rfl (j3 (iG)) ?_;refine g15 ?_;obtain rfl:=hpl.2 b;exact rs2 (⟨⟨none,0,[]⟩,⟨none,0,[]⟩⟩:ProgV) ⟨Has.and (Has.and dW Has.each_nil) (Has.and dW Has.each_nil),i7 rfl,i6⟩
   refine g3 ?_;have h:=hpl.1 b;have g:=bPd b;have o:ins19.length+lns20.length<=n+1:=by have:=g.2;rw[<-hq]at this;dsimp only at this;simp only[O4]at this;omega
   refine g3 ?_;refine inc (n+1) ?_;refine g7 ?_;refine bJ (z':=((lns20.length:Nat):Int)) (rfl) ?_;refine g2 ?_;refine lR (λi=>?_) λi=>?_
   .refine g5 ?_;refine bJ (z':=((lns20.length:Nat):Int)) (rfl) ?_;refine one ?_;refine inc (lns20.length-1) ?_;obtain⟨U,B⟩:=gx lns20 (lns20.length-1) (show lns20.length-1<lns20.length from by omega);refine ss (cA hT (k:=(lns20.length-1)) (cI kT4) rfl rfl rfl rfl rfl rfl rfl (show lns20.length-1<lns20.length from by omega)) ?_;refine one ?_;refine ss (fG B 0) ?_;refine g3 ?_;refine bC (t':=tT ⟨ins19.map InputV.inp,lns20.map LineV.ln⟩) (bDt ‹_›) ?_;refine g3 ?_;exact dA (toks.drop (fQ toks).length,_,_,ins19,lns20,_,_,_,_,(n+1),_,_,_) ac1 ⟨rfl,rfl,rfl,i6⟩ ⟨rfl,rfl,rfl,rfl,rfl,i6⟩ (.c2 (.c2 (.c2 (.c0 (.c1 (.c1 .nil)))))) ⟨i7 (⟨by dsimp only;rw[bPg (toks:=toks) rfl l7];exact h,λt ht=>a.2.1 t (O3 ht),by dsimp only;rw[N9];omega,by dsimp only;rw[N9];omega,by have:=g.1;dsimp only;omega,by dsimp only;omega⟩),e6,d7,d8,i6⟩ (bA.drop 10)
   refine g12 ?_;refine bC (t':=tT ⟨ins19.map InputV.inp,lns20.map LineV.ln⟩) (bDz l7) ?_;refine g3 ?_;exact dA (toks.drop (fQ toks).length,_,_,ins19,lns20,_,_,_,_,(n+1),_,_,_) ac1 ⟨rfl,rfl,rfl,i6⟩ ⟨rfl,rfl,rfl,rfl,rfl,i6⟩ (.c2 (.c2 (.c2 (.c0 (.c1 (.c1 .nil)))))) ⟨i7 (⟨by dsimp only;rw[bPg (toks:=toks) rfl l7];exact h,λt ht=>a.2.1 t (O3 ht),by dsimp only;rw[N9];omega,by dsimp only;rw[N9];omega,by have:=g.1;dsimp only;omega,by dsimp only;omega⟩),e6,d7,d8,i6⟩ (bA.drop 10)
  refine g16 ?_;have O:=own_stop l ah9;subst O;have M:=bVd toks;refine g4 ?_;refine ss (iY hT (k:=(fQ toks).length) rfl rfl rfl rfl rfl rfl l7) ?_;refine g7 ?_;refine bB (nR.sl (.slice A (fQ toks).length c) (fQ toks)) (own_fact d9) ?_;refine g7 ?_;refine dP (λp=>?_) λp=>?_
  .refine g5 ?_;obtain⟨m,u⟩:=gx toks ((fQ toks).length);refine ss (cA hT (k:=(fQ toks).length) (bG e6) rfl rfl rfl rfl rfl rfl rfl l7) ?_;refine one ?_;refine ss (j6 hT (dD.knows (bG e6) (k:=(fQ toks).length) (x:=m) u 1)) ?_;refine g8 ?_;refine inc ((fQ toks).length+1) ?_;refine g7 ?_;refine ss (dV hT (k:=((fQ toks).length+1)) rfl rfl rfl rfl rfl rfl l7) ?_;refine hZ (v':= .slice (iS A ((fQ toks).length+1) nR.size c) (toks.drop ((fQ toks).length+1)).length (c-((fQ toks).length+1))) ad8 ?_;refine g5 ?_;refine bB (nR.sl (.slice (iS A ((fQ toks).length+1) nR.size c) (toks.drop ((fQ toks).length+1)).length (c-((fQ toks).length+1))) (toks.drop ((fQ toks).length+1))) (bDy e6 a.2.2.1 l7) ?_;refine g9 ?_;refine gN (λd=>?_) λd=>?_
   .have e:=bPn d;have w:PInv r text.length (toks.drop ((fQ toks).length+1)) ⟨ins.map InputV.inp,lns.map LineV.ln⟩ n ov:=by have:=p_skip a.1 (xT l7) e;rw[e];exact this
    refine g4 ?_;exact dA (toks.drop ((fQ toks).length+1),_,_,ins,lns,_,_,_,_,n,_,_,_) ac1 ⟨rfl,rfl,rfl,i6⟩ ⟨rfl,rfl,rfl,rfl,rfl,i6⟩ (.c1 (.c1 (.c1 (.c1 (.c1 (.c1 .nil)))))) ⟨i7 (⟨w,λt ht=>a.2.1 t (O3 ht),by dsimp only;rw[N9];omega,by dsimp only;rw[N9];omega,a.2.2.2.2.1,a.2.2.2.2.2⟩),d7,e8,e9,i6⟩ (bA.drop 7)
   refine g8 ?_;have e:0<(fQ toks).length:=l7
   refine bD func50 (bEg _ A c (fQ toks) _ _ I ci ins J cj lns n ov e a.2.2.2.2.1 a.2.2.2.2.2 (bEi (bPk a.2.1))) rfl rfl (.c0 (.c0 (.c0 (.c0 .nil)))) ⟨d8,f8,e8,e9,i6⟩ λ⟨ins30,lns31,⟨I32,ci33⟩,⟨J34,cj35⟩,k36⟩=>?_;refine bF d9 λhq=>?_;dsimp only at hq;have hE:m.at_=endP toks text.length:=(bKh u).symm;have hpl:=p_line (q:=⟨ins30.map InputV.inp,lns31.map LineV.ln⟩) (f:=(iV (fQ toks) m.at_ ⟨ins.map InputV.inp,lns.map LineV.ln⟩ n ov).2) a.1 (xT l7) (xT e) ah7;refine g6 ?_;refine ss (j3 (bDk)) ?_;refine ss (fY ⟨(iV (fQ toks) m.at_ ⟨ins.map InputV.inp,lns.map LineV.ln⟩ n ov).2.1,(iV (fQ toks) m.at_ ⟨ins.map InputV.inp,lns.map LineV.ln⟩ n ov).2.2⟩ ⟨0,0⟩ rfl rfl rfl) ?_;refine g2 ?_;refine iQ (λb=>?_) λb=>?_
   .refine bP<|cL _ _ [j9,u0,A05,A06] cN o0 (.c0 (.c0 (.c0 (.c0 (.c0 .nil))))) bA.self ?_;refine stM rfl (j3 (iG)) ?_;refine g15 ?_;obtain rfl:=hpl.2 b;exact rs2 (⟨⟨none,0,[]⟩,⟨none,0,[]⟩⟩:ProgV) ⟨Has.and (Has.and dW Has.each_nil) (Has.and dW Has.each_nil),i7 rfl,i6⟩
   refine g3 ?_;have h:=hpl.1 b;have g:=bPd b;have o:ins30.length+lns31.length<=n+1:=by have:=g.2;rw[<-hq]at this;dsimp only at this;simp only[O4]at this;omega
   refine g3 ?_;refine inc (n+1) ?_;refine g7 ?_;refine bJ (z':=((lns31.length:Nat):Int)) (rfl) ?_;refine g2 ?_;refine lR (λi=>?_) λi=>?_
   .refine g5 ?_;refine bJ (z':=((lns31.length:Nat):Int)) (rfl) ?_;refine one ?_;refine inc (lns31.length-1) ?_;obtain⟨R,z⟩:=gx lns31 (lns31.length-1) (show lns31.length-1<lns31.length from by omega);refine ss (cA hT (k:=(lns31.length-1)) (cI kT4) rfl rfl rfl rfl rfl rfl rfl (show lns31.length-1<lns31.length from by omega)) ?_;refine one ?_;refine ss (fG z 0) ?_;refine g3 ?_;refine bC (t':=tT ⟨ins30.map InputV.inp,lns31.map LineV.ln⟩) (bDt ‹_›) ?_;refine g3 ?_;exact dA (toks.drop ((fQ toks).length+1),_,_,ins30,lns31,_,_,_,_,(n+1),_,_,_) ac1 ⟨rfl,rfl,rfl,i6⟩ ⟨rfl,rfl,rfl,rfl,rfl,i6⟩ (.c2 (.c2 (.c2 (.c0 (.c1 (.c1 .nil)))))) ⟨i7 (⟨h,λt ht=>a.2.1 t (O3 ht),by dsimp only;rw[N9];omega,by dsimp only;rw[N9];omega,by have:=g.1;dsimp only;omega,by dsimp only;omega⟩),e6,d7,d8,i6⟩ (bA.drop 10)
   refine g12 ?_;refine bC (t':=tT ⟨ins30.map InputV.inp,lns31.map LineV.ln⟩) (bDz l7) ?_;refine g3 ?_;exact dA (toks.drop ((fQ toks).length+1),_,_,ins30,lns31,_,_,_,_,(n+1),_,_,_) ac1 ⟨rfl,rfl,rfl,i6⟩ ⟨rfl,rfl,rfl,rfl,rfl,i6⟩ (.c2 (.c2 (.c2 (.c0 (.c1 (.c1 .nil)))))) ⟨i7 (⟨h,λt ht=>a.2.1 t (O3 ht),by dsimp only;rw[N9];omega,by dsimp only;rw[N9];omega,by have:=g.1;dsimp only;omega,by dsimp only;omega⟩),e6,d7,d8,i6⟩ (bA.drop 10)
  refine g6 ?_;refine ss (dV hT (k:=(fQ toks).length) rfl rfl rfl rfl rfl rfl l7) ?_;refine hZ (v':= .slice (iS A (fQ toks).length nR.size c) (toks.drop (fQ toks).length).length (c-(fQ toks).length)) ad8 ?_;refine g5 ?_;refine bB (nR.sl (.slice (iS A (fQ toks).length nR.size c) (toks.drop (fQ toks).length).length (c-(fQ toks).length)) (toks.drop (fQ toks).length)) (bDy e6 a.2.2.1 l7) ?_;refine g9 ?_;refine gN (λd=>?_) λd=>?_
  .have e:=bPn d;exact absurd d l7
  refine g8 ?_;have e:0<(fQ toks).length:=l7
  refine bD func50 (bEg _ A c (fQ toks) _ _ I ci ins J cj lns n ov e a.2.2.2.2.1 a.2.2.2.2.2 (bEi (bPk a.2.1))) rfl rfl (.c0 (.c0 (.c0 (.c0 .nil)))) ⟨d8,f8,e8,e9,i6⟩ λ⟨ins39,lns40,⟨I41,ci42⟩,⟨J43,cj44⟩,k45⟩=>?_;refine bF d9 λhq=>?_;dsimp only at hq;have hE:((text.length:Nat):Int)=endP toks text.length:=(bRo l7).symm;have hpl:=p_line (q:=⟨ins39.map InputV.inp,lns40.map LineV.ln⟩) (f:=(iV (fQ toks) ((text.length:Nat):Int) ⟨ins.map InputV.inp,lns.map LineV.ln⟩ n ov).2) a.1 (xT l7) (xT e) ah7;refine g6 ?_;refine ss (j3 (bDk)) ?_;refine ss (fY ⟨(iV (fQ toks) ((text.length:Nat):Int) ⟨ins.map InputV.inp,lns.map LineV.ln⟩ n ov).2.1,(iV (fQ toks) ((text.length:Nat):Int) ⟨ins.map InputV.inp,lns.map LineV.ln⟩ n ov).2.2⟩ ⟨0,0⟩ rfl rfl rfl) ?_;refine g2 ?_;refine iQ (λb=>?_) λb=>?_
  .refine bP<|cL _ _ [j9,u0,A05,A06] cN o0 (.c0 (.c0 (.c0 (.c0 (.c0 .nil))))) bA.self ?_;refine stM rfl (j3 (iG)) ?_;refine g15 ?_;obtain rfl:=hpl.2 b;exact rs2 (⟨⟨none,0,[]⟩,⟨none,0,[]⟩⟩:ProgV) ⟨Has.and (Has.and dW Has.each_nil) (Has.and dW Has.each_nil),i7 rfl,i6⟩
  refine g3 ?_;have h:=hpl.1 b;have g:=bPd b;have o:ins39.length+lns40.length<=n+1:=by have:=g.2;rw[<-hq]at this;dsimp only at this;simp only[O4]at this;omega
  refine g3 ?_;refine inc (n+1) ?_;refine g7 ?_;refine bJ (z':=((lns40.length:Nat):Int)) (rfl) ?_;refine g2 ?_;refine lR (λi=>?_) λi=>?_
  .refine g5 ?_;refine bJ (z':=((lns40.length:Nat):Int)) (rfl) ?_;refine one ?_;refine inc (lns40.length-1) ?_;obtain⟨Q,y⟩:=gx lns40 (lns40.length-1) (show lns40.length-1<lns40.length from by omega);refine ss (cA hT (k:=(lns40.length-1)) (cI kT4) rfl rfl rfl rfl rfl rfl rfl (show lns40.length-1<lns40.length from by omega)) ?_;refine one ?_;refine ss (fG y 0) ?_;refine g3 ?_;refine bC (t':=tT ⟨ins39.map InputV.inp,lns40.map LineV.ln⟩) (bDt ‹_›) ?_;refine g3 ?_;exact dA (toks.drop (fQ toks).length,_,_,ins39,lns40,_,_,_,_,(n+1),_,_,_) ac1 ⟨rfl,rfl,rfl,i6⟩ ⟨rfl,rfl,rfl,rfl,rfl,i6⟩ (.c2 (.c2 (.c2 (.c0 (.c1 (.c1 .nil)))))) ⟨i7 (⟨by dsimp only;rw[bPg (toks:=toks) rfl l7];exact h,λt ht=>a.2.1 t (O3 ht),by dsimp only;rw[N9];omega,by dsimp only;rw[N9];omega,by have:=g.1;dsimp only;omega,by dsimp only;omega⟩),e6,d7,d8,i6⟩ (bA.drop 10)
  refine g12 ?_;refine bC (t':=tT ⟨ins39.map InputV.inp,lns40.map LineV.ln⟩) (bDz l7) ?_;refine g3 ?_;exact dA (toks.drop (fQ toks).length,_,_,ins39,lns40,_,_,_,_,(n+1),_,_,_) ac1 ⟨rfl,rfl,rfl,i6⟩ ⟨rfl,rfl,rfl,rfl,rfl,i6⟩ (.c2 (.c2 (.c2 (.c0 (.c1 (.c1 .nil)))))) ⟨i7 (⟨by dsimp only;rw[bPg (toks:=toks) rfl l7];exact h,λt ht=>a.2.1 t (O3 ht),by dsimp only;rw[N9];omega,by dsimp only;rw[N9];omega,by have:=g.1;dsimp only;omega,by dsimp only;omega⟩),e6,d7,d8,i6⟩ (bA.drop 10)
 refine g12 ?_;refine iQ (λG=>?_) λG=>?_
 .refine g2 ?_;refine ss (j3 (iG)) ?_;refine g2 ?_;refine bJ (z':=((text.length:Nat):Int)) rfl ?_;refine ss (j3 (zF _ _)) ?_;refine g6 ?_;have hr:=by have:=p_end a.1 (F7 l7);rw[if_neg ag3]at this;exact this
  subst hr;exact rs2 (⟨⟨none,0,[]⟩,⟨none,0,[]⟩⟩:ProgV) ⟨Has.and (Has.and dW Has.each_nil) (Has.and dW Has.each_nil),i7 rfl,i6⟩
 refine g5 ?_;refine ss (j3 (bDk)) ?_;refine g5 ?_;have hr:=p_end a.1 (F7 l7);rw[if_pos ‹_›]at hr;subst hr;refine bR kT3<|bR kT3 ?_;exact rs2 (⟨⟨_,_,ins⟩,⟨_,_,lns⟩⟩:ProgV) ⟨Has.and (Has.and d8 e7) (Has.and d7 e8),i7 rfl,i6⟩
open Go.ChangeMaps (setBlock)
abbrev KV:=List (Int×Value)
def kvI (kk:IntKind)(kv:KV):List (Value×Value):=kv.map λp=>(Value.int kk p.1,p.2)
def yI (e:MapEntry):Value×Value:=(e.key,e.val)
def MapO (kk:IntKind)(kv:KV)(o:Option Obj):Prop:= ∃es clock,o=some (.map es clock)/\es.toList.map yI=kvI kk kv
def mapC (r:Nat)(kk:IntKind)(kv:KV):bK:= .gen (some r) (MapO kk kv)
def mapF (r:Nat)(kk:IntKind)(kv:KV):Fact where
 p S w:=S r/\MapO kk kv (w.heap[r]?)
 mono:=λhs ha h=>⟨hs _ h.1,by rw[ha r h.1];exact h.2⟩
def bAu (k:Int):KV->Nat->Option (Nat×Value)
 |[],_=>none
 |p::r,i=>if k==p.1 then some (i,p.2)else bAu k r (i+1)
def bHp (k:Int):KV->Option Value
 |[]=>none
 |p::r=>if k==p.1 then some p.2 else bHp k r
def bGk (k:Int)(v:Value):KV->KV
 |[]=>[(k,v)]
 |p::r=>if k==p.1 then (k,v)::r else p::bGk k v r
theorem find_get(k:Int): ∀(kv:KV) (i:Nat),(bAu k kv i).map (·.2)=bHp k kv
 |[],_=>rfl
 |p::r,i=>by
  unfold bAu bHp;split
  .rfl
  .exact find_get k r (i+1)
theorem bYr{k:Int}{v:Value}: ∀{kv:KV} {i:Nat},bAu k kv i=none->bGk k v kv=kv++[(k,v)]
 |[],_,_=>rfl
 |p::r,i,h=>by
  unfold bAu at h;unfold bGk;split at h
  .cases h
  .rename_i a;rw[if_neg a,bYr h];rfl
theorem bZm{k:Int}{v:Value}{j:Nat}{u:Value}: ∀{kv:KV} {i:Nat},bAu k kv i=some (j,u)-> ∃d,j=i+d/\ ∃p,kv[d]?=some p/\k=p.1/\bGk k v kv=kv.set d (k,v)
 |[],_,h=>by cases h
 |p::r,i,h=>by
  unfold bAu at h;split at h
  .rename_i a;simp only[Option.some.injEq,Prod.mk.injEq]at h;exact⟨0,l7,p,rfl,by simpa using a,by simp[bGk,a]⟩
  .rename_i a;obtain⟨d,h1,q,h2,b,h4⟩:=bZm (v:=v) h;exact⟨d+1,l7,q,h2,b,by rw[bGk,if_neg a,h4];rfl⟩
section
variable {P : Program} {kk : IntKind} {k : Int} {w : World} {t kt et : TypeId}
theorem bNr(kk:IntKind)(k:Int): ∀(es:List MapEntry) (kv:KV) (i:Nat),es.map yI=kvI kk kv->P1 (.int kk) (.int kk k) es i=some (bAu k kv i)
 |[],[],_,_=>rfl
 |[],_::_,_,h=>by simp[kvI]at h
 |_::_,[],_,h=>by simp[kvI]at h
 |e::es,p::kv,i,h=>by
  simp only[N7,List.cons.injEq,kvI,yI,Prod.mk.injEq]at h;obtain⟨⟨h1,h2⟩,b⟩:=h;have a:=bNr kk k es kv (i+1) b;unfold P1;rw[h1];simp only[Instr.sameNow,if_true,bAu];cases c:k==p.1
  .simpa using a
  .simp[h2]
theorem bAd(hk:P.underlying kt=some (.int kk)){es:List MapEntry}{kv:KV}(h:es.map yI=kvI kk kv):(P2 kt (.int kk k) es).run P w= .ok (bAu k kv 0) w:=by unfold P2;simp only[G9,run_underlying hk,H6,bNr kk k es kv 0 h,H3]
theorem yA(hk:P.underlying kt=some (.int kk))(b:Bool):(P3 b 10000 kt (.int kk k)).run P w= .ok () w:=by
 have: ∀n,(P3 b (n+1) kt (.int kk k)).run P w= .ok () w:=λn=>by simp[P3,run_underlying hk]
 exact this 9999
theorem run_staysI:(P4 (.int kk k) (.int kk k)).run P w= .ok (.int kk k) w:=by
 have: ∀n,P5 (n+1) (.int kk k) (.int kk k)=true:=λn=>by simp[P5]
 unfold P4;rw[this 9999];simp
theorem run_lookupI(ht:P.underlying t=some (.map kt et))(hk:P.underlying kt=some (.int kk)){z:Value}(hz:(zeroValue et).run P w= .ok z w){r:Nat}{kv:KV}(h:MapO kk kv (w.heap[r]?)):
  (Instr.lookup t (.map (some r)) (.int kk k) false).run P w= .ok ((bHp k kv).getD z) w:=by
 obtain⟨d,b,c,a⟩:=h;unfold Instr.lookup;simp only[G9,run_underlying ht,H6,P7 c,H3,yA hk,bAd hk a];rw[<-find_get k kv 0]
 cases bAu k kv 0 with
 |none=>simp[hz]
 |some p=>simp
theorem bVg(ht:P.underlying t=some (.map kt et))(hk:P.underlying kt=some (.int kk)){r:Nat}{kv:KV}(v:Value)(h:MapO kk kv (w.heap[r]?)):
  ∃o,(P6 t (.map (some r)) (.int kk k) v).run P w= .ok () (setBlock w r o)/\MapO kk (bGk k v kv) ((setBlock w r o).heap[r]?):=by
 obtain⟨c,a,f,b⟩:=h
 cases hf:bAu k kv 0 with
 |none=>
  refine⟨.map (c.push ⟨.int kk k,v,a⟩) (a+1),?_,⟨_,_,ChangeMaps.heap_setBlock_same f _,?_⟩⟩
  .unfold P6;simp only[G9,run_underlying ht,H6,P7 f,yA hk,bAd hk b,hf];rw[P8 _ f];simp[setBlock]
  .rw[bYr hf];simp[b,kvI,yI]
 |some p=>
  obtain⟨j,u⟩:=p;obtain⟨d,h1,q,h2,x,h4⟩:=bZm (v:=v) hf;obtain rfl:j=d:=l7
  have g:c.size=kv.length:=by
   have:=congrArg List.length b
   simpa[kvI]using this
  have l:j<c.size:=by rw[g];exact(F3.1 h2).1
  obtain⟨e,he⟩: ∃e,c[j]?=some e:=⟨c[j],Array.getElem?_eq_getElem l⟩
  have m:e.key= .int kk k:=by
   have h1:(c.toList.map yI)[j]?=some (yI e):=by simp[he]
   rw[b,kvI,K1,h2]at h1;simp only[J8,Option.some.injEq,yI,Prod.mk.injEq]at h1;rw[<-h1.1,x]
  refine⟨.map (c.modify j λe=>{e with key:= .int kk k,val:=v}) a,?_,⟨_,_,ChangeMaps.heap_setBlock_same f _,?_⟩⟩
  .unfold P6;simp only[G9,run_underlying ht,H6,P7 f,yA hk,bAd hk b,hf,he,J8,Option.getD_some,m,run_staysI];rw[P8 _ f];simp[setBlock]
  .rw[h4];apply List.ext_getElem?;intro i;have hi:(c.toList.map yI)[i]?=(kvI kk kv)[i]?:=by rw[b]
   simp only[kvI,K1,Array.toList_modify,List.getElem?_modify,List.getElem?_set]at hi⊢
   by_cases s:j=i
   .subst s;have:j<kv.length:=l7
    have n:c.toList[j]?=some e:=by simpa using he
    simp[this,n,yI]
   .simp only[s,if_false]at hi⊢
    simpa using hi
end
theorem tN{w:World}{r:Nat}{o:Obj}:pU (λb=>b=r) w (setBlock w r o):=by refine⟨rfl,rfl,rfl,by simp[setBlock],λb c a=>?_⟩;simp[setBlock,Ne.symm a]
section
variable {P : Program} {β : fS} {n : Nat} {Γ : Env} {H : List bK} {F : List Fact} {Q : Exit -> Act -> World -> Prop} {K : Act -> World -> Prop} {T : Tab} {ops : Array Oper} {rest : List Oper} {o : Oper}
theorem bTg{d:Nat}{t:TypeId}(kk:IntKind)(hw:want ops Γ o=some true)(ho:o.op= .makeMap t none)(hd:o.dst=some d)(hn:B2 d n=true)(k: ∀b,At β n ((d,.map (some b))::Γ) (mapC b kk []::H) F (wpList P ops Q rest)):At β n Γ H F (wpList P ops Q (o::rest)):=
 lN hw λa w S f s j=>by
  have hr:(execOp a.eval o).run P w= .ok (.value (.map (some w.heap.size))) (w.alloc (.map #[] 0)):=by unfold execOp;simp only[ho,Instr.makeMap];rfl
  unfold I7;rw[hr,I8,hd];have g:=s.alloc (.map #[] 0);refine k w.heap.size _ _ S (f.put w6 _) ⟨g.kept,λc e=>?_,λc e b h=>?_,?_,g.W⟩ (All.alloc s j _)
  .rcases E2.1 e with rfl|e
   .exact⟨#[],0,heap_alloc_new _ _,rfl⟩
   .exact g.ok c (E4 _ e)
  .rcases E2.1 e with rfl|e
   .exact g.own (.obj w.heap.size (.map #[] 0)) (E8 ..) b h
   .exact g.own c (E4 _ e) b h
  .have i:=E5.1 g.sep;exact E5.2 ⟨λd hd b h=>i.1 d hd b h,i.2⟩
theorem uP{r:Nat}{kk:IntKind}{kv:KV}{H':List bK}(hH:cT H (mapC r kk kv) H'){t kt et:TypeId}{m x y:Operand}{k:Int}{v:Value}(hw:want ops Γ o=some true)(ho:o.op= .mapUpdate t m x y\/o.op= .insert t m x y)(hd:o.dst=none)(ht:P.underlying t=some (.map kt et))(hk:P.underlying kt=some (.int kk))
  (hm:Γ.ev m=some (.map (some r))) (hx:Γ.ev x=some (.int kk k)) (hy:Γ.ev y=some v) (K':At β n Γ (mapC r kk (bGk k v kv)::H') F (wpList P ops Q rest)):At β n Γ H F (wpList P ops Q (o::rest)):=
 lN hw λa w S f s p=>by
  have d:MapO kk kv (w.heap[r]?):=s.ok _ hH.mem;obtain⟨j,b,g⟩:=bVg (k:=k) ht hk v d
  have hr:(execOp a.eval o).run P w= .ok .skip (setBlock w r j):=by
   unfold execOp
   rcases ho with ho|ho
   .simp only[ho,f.ev hm,f.ev hx,f.ev hy,G9,b];rfl
   .simp only[ho,f.ev hm,f.ev hx,f.ev hy,G9,b];rfl
  unfold I7;rw[hr,Oper.upon_skip,hd];have i:=s.perm hH.perm;exact K' _ _ S (f.put_none _) (i.swap tN rfl rfl g) (All.mono (λ_ h=>h) (s.agree tN (λc l e=>by subst e;exact(i.own _ (E8 ..) _ rfl).2.2 l)) p)
def bSp (β:fS)(H:List bK)(F:List Fact)(r:Nat)(kk:IntKind)(kv:KV):Prop:= ∀w S,St β H S w->All F S w->MapO kk kv (w.heap[r]?)
theorem knows_mapC{r:Nat}{kk:IntKind}{kv:KV}{H':List bK}(hH:cT H (mapC r kk kv) H'):bSp β H F r kk kv:=λ_ _ s _=>s.ok _ hH.mem
theorem bQv{r:Nat}{kk:IntKind}{kv:KV}(h:Has F (mapF r kk kv)):bSp β H F r kk kv:=λw S _ k=>(h S w k).2
theorem bGp{r:Nat}{kk:IntKind}{kv:KV}{t kt et:TypeId}{m x:Operand}{k:Int}{z v:Value}(hkm:bSp β H F r kk kv)(ho:o.op= .lookup t m x false)(ht:P.underlying t=some (.map kt et))(hk:P.underlying kt=some (.int kk))(hz: ∀w,(zeroValue et).run P w= .ok z w)
  (hm:Γ.ev m=some (.map (some r))) (hx:Γ.ev x=some (.int kk k)) (hv:(bHp k kv).getD z=v):Sti P β n Γ H F o v:=λa w S f s b=>by have:=run_lookupI (k:=k) ht hk (hz w) (hkm w S s b);unfold execOp;simp only[ho,f.ev hm,f.ev hx];rw[G9,this,hv];rfl
theorem bWh{r:Nat}{kk:IntKind}{kv:KV}{H':List bK}(hH:cT H (mapC r kk kv) H')(h:At β n Γ H' (mapF r kk kv::F) K):At β n Γ H F K:=λa w S f s k=>by
 have d:=s.perm hH.perm;have j:MapO kk kv (w.heap[r]?):=d.ok _ (E8 ..);have b:=E5.1 d.sep;have g:=d.own _ (E8 ..);have e:All F (λx=>S x\/x=r) w:=All.mono (λ_ h=> .inl h) (λ_ _=>rfl) k;refine h a w (λx=>S x\/x=r) f ⟨d.kept,λc i=>d.ok c (E4 _ i),λc i x hx=>?_,b.2,λx hx=>?_⟩ (All.cons ⟨.inr rfl,j⟩ e)
 .obtain⟨h1,h2,l⟩:=d.own c (E4 _ i) x hx;refine⟨h1,h2,λh=>?_⟩
  rcases h with h|h
  .exact l h
  .subst h;exact b.1 c i _ rfl hx
 .rcases hx with hx|hx
  .exact d.W x hx
  .subst hx;obtain⟨h1,h2,_⟩:=g _ rfl;exact⟨h1,.inr h2⟩
def oZ:Flat UInt8 where
 size:=1
 cells:=λb=>[.int .u8 b.toNat]
 len:=λ_=>rfl
 one:=λx u hu=>by simp at hu;subst hu;rfl
 pos:=m6
theorem bLp(l:Bs):oZ.all l=P9 l:=by
 unfold Flat.all P9
 induction l with
 |nil=>rfl
 |cons b r ih=>rw[List.flatMap_cons,ih];rfl
theorem St.swap_row'{v v':Value}{t:TypeId}{sz m m':Nat}{cs cs':List Value}{S:nL}{w w':World}(s:St β (.row v t sz m cs::H) S w)(k:pU (λb=>some b=v.ownBlock) w w')(hv: ∀b,v'.ownBlock=some b->some b=v.ownBlock\/w.heap.size<=b)(ok:w'.ownsRow 0 t sz v' m' cs'):
  St β (.row v' t sz m' cs'::H) S w':=by
 have f:=E5.1 s.sep;have g:=s.own _ (E8 ..);have i:St β H S w':=s.tail.grow k (λb c=>(g b c.symm).2.1) (λd a b c e=>f.1 d a b e.symm c)
 have j: ∀b,v'.ownBlock=some b->b<w'.heap.size/\(β.M b\/β.w.heap.size<=b)/\ ¬S b:=λb c=>by
  refine⟨(World.ownsRow.lt ok b c).2,?_⟩
  rcases hv b c with h|h
  .exact(g b h.symm).2
  .exact⟨.inr (B1 s.kept.size h),λn=>absurd (s.W _ n).1 l7⟩
 refine⟨i.kept,λd a=>?_,λd a b c=>?_,E5.2 ⟨λd a b c l=>?_,i.sep⟩,i.W⟩
 .rcases E2.1 a with rfl|a
  .exact ok
  .exact i.ok d a
 .rcases E2.1 a with rfl|a
  .exact j b c
  .exact i.own d a b c
 .rcases hv b c with h|h
  .exact f.1 d a b h.symm l
  .have:=(s.own d (E4 _ a) _ l).1;omega
theorem bOx{w:World}(t u ty e:TypeId)(i:TypeInfo)(ht:P.underlying t=some (.slice e))(hu:P.underlying u=some .string)(hi:P.info? e=some i)(hz:i.zero=some (k7 0))(hsize:i.size=1)(hby:i.bytes=1)
  (v:Value) (m:Nat) (xs:List Value) (hown:w.ownsRow 0 e 1 v m xs) (s:ByteArray) (h63:m+s.size<=maxLen) (hbytes:m+s.size<=140737488355328):
  ∃v' w',(Builtin.append_ #[t,u] ty #[v,.string s]).run P w= .ok v' w'/\w'.ownsRow 0 e 1 v' (m+s.size) (xs++Lib.strCells s)/\w.grownBy w' v.ownBlock/\(∀b,v'.ownBlock=some b->some b=v.ownBlock\/w.heap.size<=b):=by
 obtain⟨v',w',hr,h2,x,_⟩:=Q3 (P:=P) w 0 t u ty e i ht hu hi hz hsize hby v m xs hown s h63 hbytes (Nat.zero_le _);refine⟨v',w',hr,h2,x,λb h=>?_⟩
 rcases hown.2 with ⟨rfl,rfl⟩|⟨g,c,k,rfl,_,hg,q,r,o,_⟩
 .obtain⟨z,y,a,h4,_,_⟩:=Q3 (P:=P) w w.heap.size t u ty e i ht hu hi hz hsize hby (.slice none 0 0) 0 xs ⟨hown.1,.inl ⟨rfl,rfl⟩⟩ s h63 hbytes (B0 _);rw[hr]at a;injection a with e1 e2
  subst e1 e2;exact .inr (World.ownsRow.lt h4 b h).1
 .by_cases d:m+s.size<=c
  .have p:k.size=c:=by simpa using o
   have a:=Lib.run_append_room_string (P:=P) w t u ty e i ht hu hi hsize g m c k hg s d l7;rw[hr]at a;injection a with e1 e2
   subst e1;exact .inl h.symm
  .have n:xs.length=m:=by simpa using hown.1
   have l:m+s.size<=9223372036854775807:=by simp only[maxLen]at h63;omega
   have f: ∀j u,xs[j]?=some u->w.cell? ((⟨g,0,none⟩:Addr).add j)=some u:=hown.cells (g:=g) rfl;have a:=Lib.run_append_grow_string (P:=P) w t u ty e i (.int .u8 0) ht hu hi hz ⟨g,0,none⟩ m c xs (by rw[hsize];simpa using n) f s l7 l7 (by rw[hby];exact growslice_fits l7 l7);rw[hr]at a;injection a with e1 e2
   subst e1;injection h with h
   subst h;exact .inr (B0 _)
theorem bSc{d:Nat}{x y:Operand}{t u e:TypeId}{i:TypeInfo}{v:Value}{xs ys:Bs}{H':List bK}(hH:cT H (oZ.row v e xs) H')(hw:want ops Γ o=some true)
  (ho:o.op= .call {callee:= .builtin .append,args:= #[x,y],argTypes:= #[t,u]}) (hd:o.dst=some d) (hn:B2 d n=true) (ht:P.underlying t=some (.slice e)) (hu:P.underlying u=some .string) (hi:P.info? e=some i) (hz:i.zero=some (k7 0)) (hsize:i.size=1) (hby:i.bytes=1)
  (hx:Γ.ev x=some v) (hy:Γ.ev y=some (.string (bs ys))) (hl:xs.length+ys.length<=140737488355328)
  (k: ∀A' cap',At β n ((d,.slice A' (xs++ys).length cap')::Γ) (oZ.row (.slice A' (xs++ys).length cap') e (xs++ys)::H') F (wpList P ops Q rest)):At β n Γ H F (wpList P ops Q (o::rest)):=
 lN hw λa w S f s C=>by
  have j:w.ownsRow 0 e 1 v xs.length (oZ.all xs):=s.ok _ hH.mem;obtain⟨q,B,hr,h2,z,h4⟩:=bOx (P:=P) t u o.type e i ht hu hi hz hsize hby v xs.length _ j (bs ys) (by rw[mM];unfold maxLen;omega) (by rw[mM];exact hl)
  have p:(execOp a.eval o).run P w= .ok (.value q) B:=by unfold execOp;simp only[ho,resolve,invoke,builtin,G9,H3,H6,O5,N7,O6,f.ev hx,f.ev hy,hr]
  unfold I7;rw[p,I8,hd];have r:=s.perm hH.perm;have l:oZ.all xs++Lib.strCells (bs ys)=oZ.all (xs++ys):=by rw[bLp,bLp,Lib.strCells_eq,bs_data,Lib.byteCells_append]
  rw[l,mM,<-F4]at h2
  obtain⟨A',cap',m,_⟩: ∃A c,q= .slice A (xs++ys).length c/\True:=by
   rcases h2.2 with ⟨m,E⟩|⟨g,c,G,m,_⟩
   .exact⟨none,0,by rw[m,E],i6⟩
   .exact⟨_,c,m,i6⟩
  subst m;exact k A' cap' _ _ S (f.put w6 _) (r.swap_row' (qU z) h4 h2) (All.mono (λ_ h=>h) (s.agree (qU z) (λb D e=>(r.own _ (E8 ..) b e.symm).2.2 D)) C)
theorem bFq{x:Operand}{ts:Array TypeId}{A:Option Addr}{m c:Nat}(ho:o.op= .call {callee:= .builtin .unsafeSliceData,args:= #[x],argTypes:=ts})(hx:Γ.ev x=some (.slice A m c))(hc:A=none\/c≠0):Sti P β n Γ H F o (.pointer A):=λa w S f s _=>by
 have hr:(Builtin.unsafeSliceData_ ts o.type #[.slice A m c]).run P w= .ok (.pointer A) w:=by
  cases A with
  |none=>exact Lib.run_unsafeSliceData_nil w ts o.type m c
  |some ad=>exact Lib.run_unsafeSliceData_row w ts o.type ad m c (hc.resolve_left m9)
 unfold execOp;simp only[ho,resolve,invoke,builtin,G9,H3,H6,O5,N7,O6,f.ev hx,hr]
theorem bPb{d g m cap:Nat}{x y:Operand}{pt it e:TypeId}{xs:Bs}{H':List bK}(hH:cT H (oZ.row (.slice (some ⟨g,0,none⟩) m cap) e xs) H')(hw:want ops Γ o=some true)(ho:o.op= .call {callee:= .builtin .unsafeString,args:= #[x,y],argTypes:= #[pt,it]})(hd:o.dst=some d)(hn:B2 d n=true)
  (hp:P.underlying pt=some (.pointer e)) (hc:P.cellsOf e=1) (hx:Γ.ev x=some (.pointer (some ⟨g,0,none⟩))) (hy:Γ.ev y=some (k6 m)) (hm:m=xs.length) (h0:xs≠[])
  (k:At β n ((d,.string (bs xs))::Γ) H' F (wpList P ops Q rest)):At β n Γ H F (wpList P ops Q (o::rest)):=
 lN hw λa w S f s J=>by
  subst hm;have r:w.ownsRow 0 e 1 (.slice (some ⟨g,0,none⟩) xs.length cap) xs.length (oZ.all xs):=s.ok _ hH.mem
  obtain⟨i,hg,C,A⟩: ∃i,w.heap[g]?=some (.cells i e (0,0))/\xs.length<=i.size/\xs.length<=maxLen:=by
   rcases r.2 with ⟨q,_⟩|⟨M,I,i,q,_,hg,h1,h2,L,_⟩
   .cases q
   .injection q with q e2 e3
    injection q with q
    injection q with q
    subst q e3;exact⟨i,hg,l7,l7⟩
  have D:w.shape? g=some (e,i.size):=by simp[World.shape?,hg]
  have t: ∀j u,xs[j]?=some u->w.cell? ((⟨g,0,none⟩:Addr).add j)=some (.int .u8 u.toNat):=λj u K=>by have h1:=r.cells (g:=g) rfl j (.int .u8 u.toNat) (by rw[bLp];simp[P9,K]);exact h1
  have hr:=Lib.run_unsafeString_row (P:=P) w pt it o.type e hp hc g i.size D xs h0 C (by simp only[maxLen]at A;omega) t
  have E:(execOp a.eval o).run P w= .ok (.value (.string (bs xs))) (w.freeze ⟨g,0,none⟩ xs.length):=by unfold execOp;simp only[ho,resolve,invoke,builtin,G9,H3,H6,O5,N7,O6,f.ev hx,f.ev hy,hr];rfl
  unfold I7;rw[E,I8,hd];have B:=s.perm hH.perm
  have p:pU (λb=>b=g) w (w.freeze ⟨g,0,none⟩ xs.length):=by
   unfold World.freeze;split
   .exact pU.refl _ _
   .refine⟨rfl,rfl,rfl,m9,λb v G=>?_⟩;simp[Array.getElem?_modify,Ne.symm G]
  have l:=B.own _ (E8 ..) g rfl;have z:=E5.1 B.sep;exact k _ _ S (f.put w6 _) (B.tail.grow p (λb v=>by subst v;exact l.2.1) (λc hc b v e=>by subst e;exact z.1 c hc _ rfl v)) (All.mono (λ_ h=>h) (s.agree p (λb v e=>by subst e;exact l.2.2 v)) J)
theorem sti_noString{x y:Operand}{pt it:TypeId}(ho:o.op= .call {callee:= .builtin .unsafeString,args:= #[x,y],argTypes:= #[pt,it]}){p:Option Addr}(hx:Γ.ev x=some (.pointer p))(hy:Γ.ev y=some (k6 0)):Sti P β n Γ H F o (.string (bs [])):=λa w S f s _=>by have hr:=Lib.run_unsafeString_none (P:=P) w pt it o.type p;unfold execOp;simp only[ho,resolve,invoke,builtin,G9,H3,H6,O5,N7,O6,f.ev hx,f.ev hy,hr];rfl
theorem run_eqPtr{t e:TypeId}(ht:P.underlying t=some (.pointer e))(p:Option Addr)(w:World):(binOp .eql t (.pointer p) (.pointer none)).run P w= .ok (.bool p.isNone) w:=by
 have h: ∀k,(Op.equalIn (k+1) t (.pointer p) (.pointer none)).run P w= .ok p.isNone w:=λk=>by cases p<;>simp[Op.equalIn,run_underlying ht]
 simp only[binOp];rw[G9,show Op.equal t (.pointer p) (.pointer none)=Op.equalIn 10000 t (.pointer p) (.pointer none)from rfl,h 9999];rfl
theorem bNs{t e tt:TypeId}{x:Operand}{p:Option Addr}(ht:P.underlying t=some (.pointer e))(ho:o.op= .binOp .eql t x (.const (.pointer none)) tt)(hx:Γ.ev x=some (.pointer p)):Sti P β n Γ H F o (.bool p.isNone):=λa w S f s _=>by have b:a.eval (.const (.pointer none))= .pointer none:=rfl;have hg:(eqGuard .eql t x (.const (.pointer none)) (.pointer p) (.pointer none)).run P w= .ok () w:=rfl;unfold execOp;simp only[ho,f.ev hx,b];rw[G9,G9,hg,H6,run_eqPtr ht];rfl
theorem sti_ptr_same{t e tt:TypeId}{j:TypeInfo}{x y:Operand}{p:Addr}(ht:P.underlying t=some (.pointer e))(hj:P.info? e=some j)(ho:o.op= .binOp .neq t x y tt)(hx:Γ.ev x=some (.pointer (some p)))(hy:Γ.ev y=some (.pointer (some p))):Sti P β n Γ H F o (.bool false):=λa w S f s _=>by have hg:(eqGuard .neq t x y (.pointer (some p)) (.pointer (some p))).run P w= .ok () w:=rfl;unfold execOp;simp only[ho,f.ev hx,f.ev hy];rw[G9,G9,hg,H6,Lib.run_neq_ptr_same w p ht hj];rfl
theorem shape_of{b:Nat}{cs:List Value}{t:TypeId}{fz:Nat×Nat}{H':List bK}(hH:cT H (.obj b (.cells cs.toArray t fz)) H'){S:nL}{w:World}(s:St β H S w):w.shape? b=some (t,cs.length):=by have h:w.heap[b]?=some (.cells cs.toArray t fz):=s.ok _ hH.mem;simp[World.shape?,h]
theorem sti_toUnsafe{src dst t e:TypeId}{j:TypeInfo}{x:Operand}{b off:Nat}{cs:List Value}{fz:Nat×Nat}{H':List bK}(hH:cT H (.obj b (.cells cs.toArray e fz)) H')(hs:P.underlying src=some (.pointer t))(hd:P.underlying dst=some .unsafePointer)(ht:P.info? t=some j)(hj:j.size≠0)
  (ho:o.op= .convert src dst x) (hx:Γ.ev x=some (.pointer (some ⟨b,off,none⟩))) (hoff:off<cs.length):Sti P β n Γ H F o (.pointer (some ⟨b,off,none⟩)):=λa w S f s _=>by have:=Lib.run_to_unsafe (P:=P) w ⟨b,off,none⟩ hs hd ht hj (shape_of hH s) hoff;unfold execOp;simp only[ho,f.ev hx];rw[G9,this];rfl
theorem bSf{src dst u e:TypeId}{j:TypeInfo}{x:Operand}{b off:Nat}{cs:List Value}{fz:Nat×Nat}{H':List bK}(hH:cT H (.obj b (.cells cs.toArray e fz)) H')(hs:P.underlying src=some .unsafePointer)(hd:P.underlying dst=some (.pointer u))(hu:P.info? u=some j)
  (ho:o.op= .convert src dst x) (hx:Γ.ev x=some (.pointer (some ⟨b,off,none⟩))) (hl:liesAt P P.depth e (cs.length/P.cellsOf e) off u 1=true):Sti P β n Γ H F o (.pointer (some ⟨b,off,none⟩)):=λa w S f s _=>by have:=Lib.run_from_unsafe (P:=P) w ⟨b,off,none⟩ hs hd hu (shape_of hH s) hl;unfold execOp;simp only[ho,f.ev hx];rw[G9,this];rfl
end
end
section
open Go.RowKit Go.ChangeShapes Go.WideShapes Go.Proofs.Tryz
structure PieceV where
 words:(Sl Bs)
 J:Nat
 D:Nat
 plain:Bool
 deriving Inhabited
def bMx:Flat PieceV where
 size:=4
 cells:=λx=>[.slice x.words.I x.words.A.length x.words.cap,.int .i64 (x.J:Nat),.int .i64 (x.D:Nat),.bool x.plain]
 len:=λ_=>rfl
 one:=λx u hu=>by
  simp at hu
  rcases hu with rfl|rfl|rfl|rfl<;>rfl
 pos:=m6
def iP:Flat Part where
 size:=4
 cells:=λx=>[.string (bs x.s),.bool x.plain,.int .i64 (x.D:Nat),.int .i64 (x.J:Nat)]
 len:=λ_=>rfl
 one:=λx u hu=>by
  simp at hu
  rcases hu with rfl|rfl|rfl|rfl<;>rfl
 pos:=m6
def show2T:Tab:=[(3,⟨.int .i64,1⟩),(2,⟨.int .i64,1⟩),(5,⟨.int .u8,1⟩),(9,⟨.string,1⟩),(4,⟨.bool,1⟩),(59,⟨.int .u8,1⟩),(28,⟨.int .i64,1⟩),(60,⟨.slice 2,1⟩),(46,⟨.slice 9,1⟩),(110,⟨.struct [(3,0),(3,1),(9,2),(2,3)],4⟩),(103,⟨.slice 110,1⟩),(30,⟨.struct [(3,0),(28,1)],2⟩),(52,⟨.struct [(9,0),(2,1)],2⟩),(48,⟨.slice 52,1⟩),(50,⟨.struct [(9,0),(3,1),(48,2)],3⟩),(22,⟨.slice 50,1⟩),(62,⟨.struct [(3,0),(3,1),(59,2),(9,3),(60,4)],5⟩),(56,⟨.slice 62,1⟩),(58,⟨.struct [(9,0),(3,1),(56,2)],3⟩),(23,⟨.slice 58,1⟩),(25,⟨.struct [(22,0),(23,1)],2⟩),(108,⟨.struct [(103,0),(3,1),(3,2)],3⟩),(186,⟨.struct [(46,0),(3,1),(3,2),(4,3)],4⟩),(184,⟨.slice 186,1⟩),(164,⟨.struct [(9,0),(4,1),(3,2),(3,3)],4⟩),(160,⟨.slice 164,1⟩),(106,⟨.other,1⟩),(172,⟨.slice 1,1⟩),(1,⟨.other,1⟩),(116,⟨.other,1⟩),(102,⟨.slice 5,1⟩),(114,⟨.map 59 9,1⟩),(215,⟨.map 3 9,1⟩),(118,⟨.struct [(116,0),(102,1)],2⟩),(120,⟨.struct [(114,0),(114,1),(118,2)],4⟩)]
theorem kY:gA prog show2T:=zB.ok
 ⟨⟨by rw[underlying3];rfl,m0⟩,
  ⟨by rw[underlying2];rfl,m0⟩,
  ⟨by rw[underlying5];rfl,m0⟩,
  ⟨by rw[underlying9];rfl,m0⟩,
  ⟨by rw[underlying4];rfl,m0⟩,
  ⟨by rw[underlying59];rfl,m0⟩,
  ⟨by rw[underlying28];rfl,m0⟩,
  ⟨by rw[underlying60];rfl,m0⟩,
  ⟨by rw[underlying46];rfl,m0⟩,
  ⟨by rw[underlying110];rfl,m0⟩,
  ⟨by rw[underlying103];rfl,m0⟩,
  ⟨by rw[underlying30];rfl,m0⟩,
  ⟨by rw[underlying52];rfl,m0⟩,
  ⟨by rw[underlying48];rfl,m0⟩,
  ⟨by rw[underlying50];rfl,m0⟩,
  ⟨by rw[underlying22];rfl,m0⟩,
  ⟨by rw[underlying62];rfl,m0⟩,
  ⟨by rw[underlying56];rfl,m0⟩,
  ⟨by rw[underlying58];rfl,m0⟩,
  ⟨by rw[underlying23];rfl,m0⟩,
  ⟨by rw[underlying25];rfl,m0⟩,
  ⟨by rw[underlying108];rfl,m0⟩,
  ⟨by rw[underlying186];rfl,m0⟩,
  ⟨by rw[underlying184];rfl,m0⟩,
  ⟨by rw[underlying164];rfl,m0⟩,
  ⟨by rw[underlying160];rfl,m0⟩,
  ⟨by rw[underlying106];rfl,m0⟩,
  ⟨by rw[underlying172];rfl,m0⟩,
  ⟨by rw[underlying1];rfl,m0⟩,
  ⟨by rw[underlying116];rfl,m0⟩,
  ⟨by rw[underlying102];rfl,m0⟩,
  ⟨by rw[underlying114];rfl,m0⟩,
  ⟨by rw[underlying215];rfl,m0⟩,
  ⟨by rw[underlying118];rfl,m0⟩,
  ⟨by rw[underlying120];rfl,m0⟩,i6⟩
theorem bYl: ∃i:TypeInfo,prog.info? 186=some i/\i.zero=some (.agg #[.slice none 0 0,k6 0,k6 0,.bool false])/\i.size=4/\i.bytes=48:=by
 have h:(prog.info? 186).map (λi=>(i.zero,i.size,i.bytes))=some (some (.agg #[.slice none 0 0,.int .i64 0,.int .i64 0,.bool false]),4,48):=m0
 cases hi:prog.info? 186 with
 |none=>simp[hi]at h
 |some i=>simp[hi]at h;exact⟨i,rfl,h.1,h.2.1,h.2.2⟩
theorem jN{β:fS}{n:Nat}{Γ:Env}{H:List bK}{F:List Fact}{Q:Exit->Act->World->Prop}{ops:Array Oper}{rest:List Oper}{o:Oper}{d:Nat}{x:Operand}{m:PieceV}(hw:want ops Γ o=some true)(ho:o.op= .buildSlice 184 1 #[(0,x)])(hd:o.dst=some d)(hn:B2 d n=true)
  (hx:Γ.ev x=some (.agg #[j8 m.words,k6 (m.J:Nat),k6 (m.D:Nat),.bool m.plain])) (k: ∀b,At β n ((d,.slice (some ⟨b,0,none⟩) 1 1)::Γ) (.obj b (.cells (bMx.all [m]).toArray 186)::H) F (wpList prog ops Q rest)):At β n Γ H F (wpList prog ops Q (o::rest)):=by
 obtain⟨i,hi,a,hs,_⟩:=bYl;refine kD hw ho hd hn hx underlying184 hi a l7 l7 ?_ k;rw[hs]
 kernel_rfl
theorem jJ{β:fS}{n:Nat}{Γ:Env}{H:List bK}{F:List Fact}{Q:Exit->Act->World->Prop}{ops:Array Oper}{rest:List Oper}{o:Oper}{d:Nat}{x y:Operand}{c q:Nat}{v:Value}{A:Option Addr}{xs ys:List PieceV}{H':List bK}(hH:cT H (bMx.row v 186 xs) H')(hr:dD β H F bMx A ys)(hg:o.guard=none)
  (ho:o.op= .call {callee:= .builtin .append,args:= #[x,y],argTypes:= #[184,184]}) (hd:o.dst=some d) (hn:B2 d n=true)
  (hx:Γ.ev x=some v) (hy:Γ.ev y=some (.slice A q c)) (hq:q=ys.length) (hl:xs.length+ys.length<=2932031007402)
  (k: ∀A' cap',At β n ((d,.slice A' (xs++ys).length cap')::Γ) (bMx.row (.slice A' (xs++ys).length cap') 186 (xs++ys)::H') F (wpList prog ops Q rest)):At β n Γ H F (wpList prog ops Q (o::rest)):=by obtain⟨i,hi,a,hs,b⟩:=bYl;exact gY hH hr hg ho hd hn underlying184 hi a hs b rfl hx hy hq l7 m6 k
theorem bSd: ∃i:TypeInfo,prog.info? 164=some i/\i.zero=some (.agg #[.string (bs []),.bool false,k6 0,k6 0])/\i.size=4/\i.bytes=40:=by
 have h:(prog.info? 164).map (λi=>(i.zero,i.size,i.bytes))=some (some (.agg #[.string (bs []),.bool false,.int .i64 0,.int .i64 0]),4,40):=m0
 cases hi:prog.info? 164 with
 |none=>simp[hi]at h
 |some i=>simp[hi]at h;exact⟨i,rfl,h.1,h.2.1,h.2.2⟩
theorem hJ{β:fS}{n:Nat}{Γ:Env}{H:List bK}{F:List Fact}{Q:Exit->Act->World->Prop}{ops:Array Oper}{rest:List Oper}{o:Oper}{d:Nat}{x:Operand}{m:Part}(hw:want ops Γ o=some true)(ho:o.op= .buildSlice 160 1 #[(0,x)])(hd:o.dst=some d)(hn:B2 d n=true)
  (hx:Γ.ev x=some (.agg #[.string (bs m.s),.bool m.plain,k6 (m.D:Nat),k6 (m.J:Nat)])) (k: ∀b,At β n ((d,.slice (some ⟨b,0,none⟩) 1 1)::Γ) (.obj b (.cells (iP.all [m]).toArray 164)::H) F (wpList prog ops Q rest)):At β n Γ H F (wpList prog ops Q (o::rest)):=by
 obtain⟨i,hi,a,hs,_⟩:=bSd;refine kD hw ho hd hn hx underlying160 hi a l7 l7 ?_ k;rw[hs]
 kernel_rfl
theorem kR{β:fS}{n:Nat}{Γ:Env}{H:List bK}{F:List Fact}{Q:Exit->Act->World->Prop}{ops:Array Oper}{rest:List Oper}{o:Oper}{d:Nat}(hw:want ops Γ o=some true)(ho:o.op= .buildSlice 160 0 #[])(hd:o.dst=some d)(hn:B2 d n=true)
  (k: ∀b,At β n ((d,.slice (some ⟨b,0,none⟩) 0 0)::Γ) (iP.row (.slice (some ⟨b,0,none⟩) 0 0) 164 []::H) F (wpList prog ops Q rest)):At β n Γ H F (wpList prog ops Q (o::rest)):=by obtain⟨i,hi,_⟩:=bSd;exact bEd iP hw ho hd hn underlying160 hi k
theorem dN{β:fS}{n:Nat}{Γ:Env}{H:List bK}{F:List Fact}{Q:Exit->Act->World->Prop}{ops:Array Oper}{rest:List Oper}{o:Oper}{d:Nat}{x y:Operand}{c q:Nat}{v:Value}{A:Option Addr}{xs ys:List Part}{H':List bK}(hH:cT H (iP.row v 164 xs) H')(hr:dD β H F iP A ys)(hg:o.guard=none)
  (ho:o.op= .call {callee:= .builtin .append,args:= #[x,y],argTypes:= #[160,160]}) (hd:o.dst=some d) (hn:B2 d n=true)
  (hx:Γ.ev x=some v) (hy:Γ.ev y=some (.slice A q c)) (hq:q=ys.length) (hl:xs.length+ys.length<=3518437208883)
  (k: ∀A' cap',At β n ((d,.slice A' (xs++ys).length cap')::Γ) (iP.row (.slice A' (xs++ys).length cap') 164 (xs++ys)::H') F (wpList prog ops Q rest)):At β n Γ H F (wpList prog ops Q (o::rest)):=by obtain⟨i,hi,a,hs,b⟩:=bSd;exact gY hH hr hg ho hd hn underlying160 hi a hs b rfl hx hy hq l7 m6 k
end
section
open Go.RowKit Go.Proofs.Tryz
theorem Sel.skip{H R:List bK}{c:bK}(h:Sel H R):Sel (c::H) R:=by
 induction h generalizing c with
 |nil=>exact .nil
 |cons h _ ih=>exact .cons (.tail h) ih
def PieceV.pc(x:PieceV):gE:=⟨x.words.A,x.J,x.D,x.plain⟩
def bWs (u:Bool)(b:Nat):Value:=if u then .pointer (some ⟨b,2,none⟩)else .pointer none
section
variable {P : Program} {β : fS} {n : Nat} {Γ : Env} {H : List bK} {F : List Fact} {Q : Exit -> Act -> World -> Prop} {K : Act -> World -> Prop} {ops : Array Oper} {rest : List Oper} {o : Oper} {d : Nat} {α : Type} {E : Flat α}
theorem sti_noescape{x:Operand}{ts:Array TypeId}{v:Value}(ho:o.op= .call ⟨.value (.func 177),#[x],ts⟩)(hx:Γ.ev x=some v):Sti prog β n Γ H F o v:=λa w S f s _=>by
 have hr:(callFunc 177 #[v]).run prog w= .ok (.value v) w:=by rw[run_callFunc_extern func177 m0 m0 m0 (e:=Extern.AbiNoEscape.same) m0];rw[Lib.run_noEscape];rfl
 unfold execOp;simp only[ho,resolve,Act.eval,Deferred.ofValue,G9,H3,H6,invoke];simp[f.ev hx,hr]
theorem u8Info: ∃i:TypeInfo,prog.info? 5=some i/\i.zero=some (k7 0)/\i.size=1/\i.bytes=1:=by
 have h:(prog.info? 5).map (λi=>(i.zero,i.size,i.bytes))=some (some (.int .u8 0),1,1):=m0
 cases hi:prog.info? 5 with
 |none=>simp[hi]at h
 |some i=>simp[hi]at h;exact⟨i,rfl,h.1,h.2.1,h.2.2⟩
theorem bNn{x y:Operand}{v:Value}{xs ys:Bs}{H':List bK}(hH:cT H (oZ.row v 5 xs) H')(hw:want ops Γ o=some true)
  (ho:o.op= .call {callee:= .builtin .append,args:= #[x,y],argTypes:= #[102,9]}) (hd:o.dst=some d) (hn:B2 d n=true) (hx:Γ.ev x=some v) (hy:Γ.ev y=some (.string (bs ys))) (hl:xs.length+ys.length<=140737488355328)
  (k: ∀A' cap',At β n ((d,.slice A' (xs++ys).length cap')::Γ) (oZ.row (.slice A' (xs++ys).length cap') 5 (xs++ys)::H') F (wpList prog ops Q rest)):At β n Γ H F (wpList prog ops Q (o::rest)):=by obtain⟨i,hi,a,hs,b⟩:=u8Info;exact bSc hH hw ho hd hn underlying102 underlying9 hi a hs b hx hy hl k
theorem dO{b:Nat}{t:TypeId}{xs:List α}{H':List bK}(hH:cT H (.obj b (.cells (E.all xs).toArray t)) H')(hm:xs.length<=maxLen)(h:At β n Γ (E.row (.slice (some ⟨b,0,none⟩) xs.length xs.length) t xs::H') F K):At β n Γ H F K:=λa w S f s k=>by
 have e:=s.perm hH.perm;have j:w.heap[b]?=some (.cells (E.all xs).toArray t):=e.ok _ (E8 ..);refine h a w S f ⟨e.kept,λc g=>?_,λc g m i=>?_,?_,e.W⟩ k
 .rcases E2.1 g with rfl|g
  .refine⟨by rw[E.all_length],.inr ⟨b,_,_,rfl,Nat.zero_le _,j,B0 _,hm,by simp[E.all_length],?_⟩⟩;rw[F6 (by simp[E.all_length])]
  .exact e.ok c (E4 _ g)
 .rcases E2.1 g with rfl|g
  .exact e.own (.obj b (.cells (E.all xs).toArray t)) (E8 ..) m i
  .exact e.own c (E4 _ g) m i
 .have l:=E5.1 e.sep;exact E5.2 ⟨λd o b i=>l.1 d o b i,l.2⟩
end
theorem bInfo: ∃j:TypeInfo,prog.info? 118=some j/\j.size≠0:=by
 have h:(prog.info? 118).map (·.size)=some 2:=m0
 cases hi:prog.info? 118 with
 |none=>simp[hi]at h
 |some i=>simp[hi]at h;exact⟨i,rfl,l7⟩
theorem bLies:liesAt prog prog.depth 120 (4/prog.cellsOf 120) 2 118 1=true:=m0
theorem bPtr:prog.underlying 116=some (.pointer 118):=m0
theorem uPtr:prog.underlying 246=some .unsafePointer:=m0
theorem u8Ptr:prog.underlying 153=some (.pointer 5):=m0
def putM (t:Bool):List Bs->KV->KV
 |[],kv=>kv
 |s::r,kv=>putM t r (if gF s t !=0 then bGk (gF s t) (.string (bs s)) kv else kv)
def uH (t:Bool):KV:=putM t verbWords []
theorem bKg(k k':Int)(v:Value): ∀kv:KV,bHp k (bGk k' v kv)=if k==k' then some v else bHp k kv
 |[]=>by simp[bGk,bHp]
 |p::r=>by
  unfold bGk;split
  .rename_i h;have e:k'=p.1:=by simpa using h
   simp only[bHp];rw[e];split<;>rfl
  .rename_i h;simp only[bHp];rw[bKg k k' v r]
   by_cases e:k=p.1
   .subst e
    have:(p.1==k')=false:=by rw[beq_eq_false_iff_ne];intro e;exact h al9
    simp[this]
   .simp[e]
theorem put_last(t:Bool)(f:Int): ∀(l:List Bs) (kv:KV) (acc:Bs),(bHp f kv).getD (.string (bs []))= .string (bs acc)->(bHp f (putM t l kv)).getD (.string (bs []))= .string (bs (bLq t f l acc))
 |[],_,_,h=>h
 |s::r,kv,acc,h=>by
  rw[putM,bLq];refine put_last t f r _ _ ?_
  by_cases a:(gF s t !=0)=true
  .rw[if_pos a,bKg]
   by_cases hf:gF s t=f
   .have:(gF s t !=0&&gF s t==f)=true:=by simp[hf]at a⊢;exact a
    rw[if_pos (by simp[hf]),if_pos this];rfl
   .have:(gF s t !=0&&gF s t==f)=false:=by simp[hf]
    rw[if_neg (by simp;exact λe=>hf e.symm),this];exact h
  .have:(gF s t !=0&&gF s t==f)=false:=by simp[a]
   rw[if_neg a,this];exact h
theorem cAf(t:Bool)(f:Int):(bHp f (uH t)).getD (.string (bs []))= .string (bs (dR t f)):=put_last t f verbWords [] [] rfl
theorem zeroStr(w:World):(zeroValue 9).run prog w= .ok (.string (bs [])) w:=m0
theorem mapFn:prog.underlying 114=some (.map 59 9):=m0
theorem mapInt:prog.underlying 215=some (.map 3 9):=m0
theorem marks_get(k:Int):(bHp k (bGk 7 (.string (bs [46])) (bGk 6 (.string (bs [92])) (bGk 5 (.string (bs [47])) [])))).getD (.string (bs []))= .string (bs (bCh k)):=by
 rw[bKg,bKg,bKg];unfold bCh
 by_cases c:k=5
 .subst c;rfl
 .by_cases b:k=6
  .subst b;rfl
  .by_cases a:k=7
   .subst a;rfl
   .simp[c,b,a,bHp]
theorem fields_words:Q4 [43,32,45,32,42,32,37,32,124,32,109,105,110,32,109,97,120,32,61,32,126,32,60,32,60,61,32,62,61,32,62,32,97,110,100,32,111,114,32,112,111,119,32,114,104,111,32,116,97,107,101,32,100,114,111,112,32,99,97,116,32,105,111,116,97,32,115,104,97,112,101,32,114,97,118,101,108,32,114,101,118,32,116,117,114,110]=verbWords:=by decide+kernel
theorem fields_spec(s:Bs)(hs:s.length<4294967281)(ha: ∀b∈s,b.toNat<128):cY prog 88 [.string (bs s)] [] [kG] (λx:Nat=> .slice (some ⟨x,0,none⟩) (Q4 s).length (Q4 s).length) (λ_=>[]) (λx=>[lZ.sl (.slice (some ⟨x,0,none⟩) (Q4 s).length (Q4 s).length) (Q4 s)]):=λS w o k=>by
 obtain⟨_,h0,_⟩:=k _ (.head _);refine(Tryz.strings_Fields (bs s) w (by rw[mM];exact hs) (λj b f=>ha b (j0 f)) h0).mono ?_;rintro e q ⟨rfl,rfl⟩;have f:Below w.heap.size w (w.alloc (.cells ((Q4 (bs s).data.toList).map λl=>Q5 ⟨l.toArray⟩).toArray 9)):=(Below.refl _ _).alloc (B0 _) _;refine⟨w.heap.size,λb=>S b\/b=w.heap.size,rfl,⟨pU.of_below _ f,λc m=>by simp at m,λc m=>by simp at m,List.Pairwise.nil,λb n=>?_⟩,All.cons ?_ (λg hg=>by simp at hg)⟩
 .rcases n with h|h
  .exact⟨Nat.lt_of_lt_of_le (o.W b h).1 f.size,.inl h⟩
  .subst h;exact⟨m9,.inr (.inr (B0 _))⟩
 .refine⟨_,_,rfl,λi x hi=>⟨w.heap.size,0,_,rfl,.inr rfl,λj u p=>?_,rfl⟩⟩;have d:(w.alloc (.cells ((Q4 (bs s).data.toList).map λl=>Q5 ⟨l.toArray⟩).toArray 9)).heap[w.heap.size]?=some (.cells ((Q4 (bs s).data.toList).map λl=>Q5 ⟨l.toArray⟩).toArray 9):=heap_alloc_new _ _;show D0 _ ⟨w.heap.size,0+i*1+j,none⟩=_;have a:[Q5 (bs x)][j]?=some u:=p
  have h0:j=0:=by
   cases j with
   |zero=>rfl
   |succ j=>simp at a
  subst h0;unfold D0;rw[d];have hx:(Q4 (bs s).data.toList)[i]?=some x:=hi;simp at a;subst a;simp[bs];exact hx
theorem fields_verbs:cY prog 88 [.string (bs [43,32,45,32,42,32,37,32,124,32,109,105,110,32,109,97,120,32,61,32,126,32,60,32,60,61,32,62,61,32,62,32,97,110,100,32,111,114,32,112,111,119,32,114,104,111,32,116,97,107,101,32,100,114,111,112,32,99,97,116,32,105,111,116,97,32,115,104,97,112,101,32,114,97,118,101,108,32,114,101,118,32,116,117,114,110])] [] [kG] (λx:Nat=> .slice (some ⟨x,0,none⟩) verbWords.length verbWords.length) (λ_=>[]) (λx=>[lZ.sl (.slice (some ⟨x,0,none⟩) verbWords.length verbWords.length) verbWords]):=by have:=fields_spec (s:=[43,32,45,32,42,32,37,32,124,32,109,105,110,32,109,97,120,32,61,32,126,32,60,32,60,61,32,62,61,32,62,32,97,110,100,32,111,114,32,112,111,119,32,114,104,111,32,116,97,107,101,32,100,114,111,112,32,99,97,116,32,105,111,116,97,32,115,104,97,112,101,32,114,97,118,101,108,32,114,101,118,32,116,117,114,110]) m6 m6;rw[fields_words]at this;exact this
theorem hO{α:Type}{l:List α}{i:Nat}{x:α}(h:l[i]?=some x):l.drop i=x::l.drop (i+1):=by obtain⟨hl,rfl⟩:=F3.1 h;exact K2 hl
theorem pN(t:Bool)(f:Int):(dR t f).length<=5:=by
 by_cases h:dR t f=[]
 .rw[h];decide
 .have:=(bXp h).1;have key: ∀s∈verbWords,s.length<=5:=m6
  exact key _ this
theorem bMk(k:Int):(bCh k).length<=1:=by
 unfold bCh
 repeat' split
 all_goals simp
section
variable {it : ItemV}
theorem bTl(h:it.H=3):verbS it.it=(dR false it.fn,1):=by unfold verbS;rw[if_pos (show it.it.H=3 from h)];rfl
theorem bUd(h:it.H≠3)(h2:dR true it.fn=[]\/it.H=4):verbS it.it=(dR true it.fn,1):=by unfold verbS;rw[if_neg (show ¬it.it.H=3 from h),if_pos (show dR true it.it.fn=[]\/it.it.H=4 from h2)];rfl
theorem bRw(h:it.H≠3)(h1:dR true it.fn≠[])(h2:it.H≠4)(h3:17<it.fn):verbS it.it=([],0):=by unfold verbS;rw[if_neg (show ¬it.it.H=3 from h),if_neg (show ¬(dR true it.it.fn=[]\/it.it.H=4)from λh=>h.elim h1 h2),if_pos (show 17<it.it.fn from h3)]
theorem bTd(h:it.H≠3)(h1:dR true it.fn≠[])(h2:it.H≠4)(h3:it.fn<=17):verbS it.it=(dR true it.fn++bCh it.H,2):=by unfold verbS;rw[if_neg (show ¬it.it.H=3 from h),if_neg (show ¬(dR true it.it.fn=[]\/it.it.H=4)from λh=>h.elim h1 h2),if_neg (show ¬17<it.it.fn from by show ¬17<it.fn;omega)];rfl
end
theorem xC{it:ItemV}(h:it.H=2):operandS it.it=if it.fn=0/\it.nums.A=[]/\dQ it.name=true then some ⟨[it.name],0,1,true⟩else none:=by unfold operandS;rw[if_pos (show it.it.H=2 from h)];rfl
theorem wZ{it:ItemV}(h:it.H≠2)(hb:it.fn≠0\/it.name≠[]\/it.nums.A=[]\/256<it.nums.A.length):operandS it.it=none:=by unfold operandS;rw[if_neg (show ¬it.it.H=2 from h),if_pos (show it.it.fn≠0\/it.it.name≠[]\/it.it.nums=[]\/256<it.it.nums.length from hb)]
theorem operand_nums{it:ItemV}(h:it.H≠2)(h0:it.fn=0)(h1:it.name=[])(h2:((it.nums.A.length:Nat):Int)≠0)(h3:((it.nums.A.length:Nat):Int)<=256):operandS it.it=some ⟨it.nums.A.map fC,0,it.nums.A.length,true⟩:=by
 unfold operandS;rw[if_neg (show ¬it.it.H=2 from h),if_neg (show ¬(it.it.fn≠0\/it.it.name≠[]\/it.it.nums=[]\/256<it.it.nums.length)from ?_)]
 .rfl
 .rintro(h|h|h|h)
  .exact h h0
  .exact h h1
  .have:it.nums.A=[]:=h;rw[this]at h2;exact h2 rfl
  .have:256<it.nums.A.length:=h;omega
theorem bWk{α β:Type}{f:α->β}{l:List α}{i:Nat}{x:α}(h:l[i]?=some x):(l.take i).map f++[f x]=(l.take (i+1)).map f:=by rw[List.take_add_one,h];simp
section
variable {it : ItemV}
theorem vB(h:it.H=2)(h0:it.fn=0)(h1:((it.nums.A.length:Nat):Int)=0):dQ it.name=(operandS it.it).isSome:=by have:it.nums.A=[]:=F7 l7;rw[xC h,h0,this];cases dQ it.name<;>simp
theorem sW(h:it.H=2)(h0:it.fn≠0):false=(operandS it.it).isSome:=by rw[xC h,if_neg (λhh=>h0 hh.1)];rfl
theorem tA(h:it.H=2)(h1:((it.nums.A.length:Nat):Int)≠0):false=(operandS it.it).isSome:=by rw[xC h,if_neg (λhh=>h1 (by rw[hh.2.1];rfl))];rfl
end
theorem pM{it:ItemV}{p:gE}(h:it.H=2)(hp:operandS it.it=some p):(⟨[it.name],0,1,true⟩:gE)=p:=by
 rw[xC h]at hp;split at hp
 .exact Option.some.inj hp
 .cases hp
theorem pC:(prog.info? 186).bind (·.zero)=some (.agg #[.slice none 0 0,k6 0,k6 0,.bool false]):=m0
theorem fT(a0:Option Addr)(l0 c0:Nat)(z1:Int)(z2:Int)(b3:Bool):prog.built 186 [(0,.slice a0 l0 c0),(1,k6 z1),(2,k6 z2),(3,.bool b3)]=some #[.slice a0 l0 c0,k6 z1,k6 z2,.bool b3]:=m0
theorem jL:prog.built 186 []=some #[.slice none 0 0,k6 0,k6 0,.bool false]:=m0
theorem tC(z2:Int)(b3:Bool):prog.built 186 [(2,k6 z2),(3,.bool b3)]=some #[.slice none 0 0,k6 0,k6 z2,.bool b3]:=m0
theorem bOw(b r1 r2:Nat)(G:Option Addr)(m c:Nat):cY prog 153 [.pointer (some ⟨b,2,none⟩)] [.obj b (.cells [.map (some r1),.map (some r2),.pointer none,.slice G m c].toArray 120)] [] (λ(_:Unit)=> .tuple #[]) (λ(_:Unit)=>[.obj b (.cells [.map (some r1),.map (some r2),.pointer (some ⟨b,2,none⟩),.slice G m c].toArray 120)]) (λ_=>[]):=by have hT:=kY;refine j5 func153 ntmps153 ?_;intro β hM;refine g6 ?_;refine ss (bNs bPtr rfl rfl) ?_;refine g6 ?_;obtain⟨j,d,a⟩:=bInfo;refine ss (sti_toUnsafe .head bPtr uPtr d a rfl rfl (by show 2<4;decide)) ?_;refine ss (sti_noescape rfl rfl) ?_;refine ss (bSf .head uPtr bPtr d rfl rfl bLies) ?_;refine g4 ?_;exact bAm () rfl (.c0 .nil) i6 (rfl)
theorem bOv(b r1 r2:Nat)(G:Option Addr)(m c:Nat):cY prog 153 [.pointer (some ⟨b,2,none⟩)] [.obj b (.cells [.map (some r1),.map (some r2),.pointer (some ⟨b,2,none⟩),.slice G m c].toArray 120)] [] (λ(_:Unit)=> .tuple #[]) (λ(_:Unit)=>[.obj b (.cells [.map (some r1),.map (some r2),.pointer (some ⟨b,2,none⟩),.slice G m c].toArray 120)]) (λ_=>[]):=by have hT:=kY;refine j5 func153 ntmps153 ?_;intro β hM;refine g6 ?_;refine ss (bNs bPtr rfl rfl) ?_;refine g10 ?_;obtain⟨j,a,_⟩:=bInfo;refine ss (sti_ptr_same bPtr a rfl rfl rfl) ?_;refine g4 ?_;exact bAm () rfl (.c0 .nil) i6 (rfl)
theorem bMw(b r1 r2:Nat)(u:Bool)(G:Option Addr)(c:Nat)(out s:Bs)(hl:out.length+s.length<=140737488355328):cY prog 129 [.pointer (some ⟨b,2,none⟩),.string (bs s)] [.obj b (.cells [.map (some r1),.map (some r2),bWs u b,.slice G out.length c].toArray 120),oZ.row (.slice G out.length c) 5 out] [] (λ(_:Option Addr×Nat)=> .tuple #[k6 (s.length:Nat),.nilIface]) (λ(x:Option Addr×Nat)=>[.obj b (.cells [.map (some r1),.map (some r2),.pointer (some ⟨b,2,none⟩),.slice x.1 (out++s).length x.2].toArray 120),oZ.row (.slice x.1 (out++s).length x.2) 5 (out++s)]) (λ_=>[]):=by
 have hT:=kY;refine j5 func129 ntmps129 ?_;intro β hM;refine g7 ?_;cases u
 .skip
  refine g2 ?_;refine bD func153 (bOw b r1 r2 G _ c) rfl rfl (.c0 .nil) i6 λ_=>?_;refine g10 ?_;refine bNn kT1 rfl rfl rfl rfl rfl rfl l7 λd c2=>?_;refine g9 ?_;refine bJ (z':=((s.length:Nat):Int)) rfl ?_;refine g5 ?_;exact rs2 (d,c2) trivial
 skip
 refine g2 ?_;refine bD func153 (bOv b r1 r2 G _ c) rfl rfl (.c0 .nil) i6 λ_=>?_;refine g10 ?_;refine bNn kT1 rfl rfl rfl rfl rfl rfl l7 λa c4=>?_;refine g9 ?_;refine bJ (z':=((s.length:Nat):Int)) rfl ?_;refine g5 ?_;exact rs2 (a,c4) trivial
theorem bGj(b r1 r2:Nat)(u:Bool)(G:Option Addr)(c:Nat)(out hd tx:Bs)(hl:out.length+hd.length+tx.length+1<=140737488355328):cY prog 91 [.pointer (some ⟨b,0,none⟩),.string (bs hd),.string (bs tx)] [.obj b (.cells [.map (some r1),.map (some r2),bWs u b,.slice G out.length c].toArray 120),oZ.row (.slice G out.length c) 5 out] [] (λ(_:Option Addr×Nat)=> .tuple #[]) (λ(x:Option Addr×Nat)=>[.obj b (.cells [.map (some r1),.map (some r2),bWs true b,.slice x.1 (out++((hd++tx)++[10])).length x.2].toArray 120),oZ.row (.slice x.1 (out++((hd++tx)++[10])).length x.2) 5 (out++((hd++tx)++[10]))]) (λ_=>[]):=by have hT:=kY;refine j5 func91 ntmps91 ?_;intro β hM;refine g6 ?_;refine ss (dJ rfl rfl rfl p7) ?_;refine ss (dJ rfl rfl rfl p7) ?_;refine bD func129 (bMw b r1 r2 u G c out ((hd++tx)++([10]:Bs)) q9) rfl rfl (.c0 (.c0 .nil)) i6 λ⟨A1,c2⟩=>?_;refine sZ ?_;exact bAm (A1,c2) rfl (.c0 (.c0 .nil)) i6 (rfl)
theorem bRy(t:Bool):cY prog 51 [.bool t] [] [kG] (λ(x:Nat)=> .map (some x)) (λ_=>[]) (λ(x:Nat)=>[mapF x .u8 (uH t)]):=by
 have hT:=kY;have f:verbWords.length=25:=rfl;refine j5 func51 ntmps51 ?_;intro β hM;refine g7 ?_;refine bTg .u8 rfl rfl rfl rfl λe=>?_;refine g6 ?_;refine j2 func88 fields_verbs ⟨d7,i6⟩ λg=>?_;refine g5 ?_;refine cF (ι:=Nat×KV) [(0,_),(3,_),(9,_),(10,_)] ⟨rfl,rfl,rfl,rfl,i6⟩ (λ⟨i,kv⟩=>[(11,.int .i64 (i:Nat))]) (λ⟨i,kv⟩=>[mapC e .u8 kv]) (λ⟨i,kv⟩=>[Fact.pure (i<=25/\putM t (verbWords.drop i) kv=uH t)]) (λ⟨i,kv⟩=>25-i) (0,[]) ⟨rfl,i6⟩ (.c0 .nil) ⟨i7 (⟨l7,rfl⟩),i6⟩ ?_;rintro⟨i,kv⟩;dsimp only;refine bF d7 λa=>?_;refine g6 ?_;refine dP (λd=>?_) λd=>?_
 .refine g6 ?_;obtain⟨x3,b⟩:=gx verbWords i ae8;refine ss (cA hT (k:=i) (bG d8) rfl rfl rfl rfl rfl rfl rfl ae8) ?_;refine ss (fG b 0) ?_;refine g7 ?_;refine j2 func89 (bLm x3 t) i6 λ_=>?_;refine g12 ?_;refine fX (λc=>?_) λc=>?_
  .refine g4 ?_;refine uP .head rfl (.inl rfl) rfl mapFn underlying59 rfl rfl rfl ?_;refine g5 ?_;refine inc (i+1) ?_;refine g3 ?_;exact bk2 (i+1,_) ⟨i7 (⟨by dsimp only;omega,by have h:=a.2;rw[hO b,putM,if_pos ‹_›]at h;exact h⟩),i6⟩
  refine g5 ?_;refine inc (i+1) ?_;refine g3 ?_;exact bk2 (i+1,_) ⟨i7 (⟨by dsimp only;omega,by have h:=a.2;rw[hO b,putM,if_neg ag3]at h;exact h⟩),i6⟩
 refine g12 ?_;have hm:kv=uH t:=by have h:=a.2;rw[show i=25 by omega]at h;exact h
 subst hm;refine bWh .head ?_;exact rs1 e ⟨d7,i6⟩
theorem bGt(b r1 r2:Nat)(p:Value)(G:Option Addr)(m c:Nat)(it:ItemV):cY prog 131 [.pointer (some ⟨b,0,none⟩),.agg #[k6 it.H,k6 it.at_,k7 it.fn,.string (bs it.name),j8 it.nums]] [.obj b (.cells [.map (some r1),.map (some r2),p,.slice G m c].toArray 120)] [mapF r1 .u8 (uH false),mapF r2 .u8 (uH true)] (λ(_:Unit)=> .tuple #[.string (bs (verbS it.it).1),k6 ((verbS it.it).2:Nat)]) (λ(_:Unit)=>[.obj b (.cells [.map (some r1),.map (some r2),p,.slice G m c].toArray 120)]) (λ_=>[]):=by
 have hT:=kY;refine j5 func131 ntmps131 ?_;intro β hM;refine g2 ?_;refine j4 λe=>?_;refine g12 ?_;refine gN (λd=>?_) λd=>?_
 .refine bP<|cL _ _ [j9,u0,u5,u9,A00,u6,A02,A01,A03] cN o0 (.c0 (.c0 .nil)) bA.self ?_;refine g6 ?_;refine stM rfl (bGp (bQv d7) rfl mapFn underlying59 zeroStr rfl rfl (cAf _ _)) ?_;refine g6 ?_;exact rs2 () i6 (he:=s9)
 refine g3 ?_;refine cL _ _ [j9,u0,u5,u9,A00,u6,A02,A01] cN o0 (.c0 (.c0 .nil)) bA.self ?_;refine g6 ?_;refine stM rfl (bGp (bQv d8) rfl mapFn underlying59 zeroStr rfl rfl (cAf _ _)) ?_;refine g9 ?_;refine cG (λa=>?_) (λa=>?_)
 .have a:(dR true it.fn)=([]:Bs):=eq_of_beq a;refine g16 ?_;exact rs2 () i6 (he:=s9)
 have a:(dR true it.fn)≠([]:Bs):=λh=>absurd (beq_iff_eq.2 h) (by rw[show((dR true it.fn)==([]:Bs))=false from a];simp);refine g6 ?_;refine gN (λhc30=>?_) λhc30=>?_
 .refine g9 ?_;exact rs2 () i6 (he:=s9)
 refine g10 ?_;refine dP (λhc34=>?_) λhc34=>?_
 .refine g8 ?_;exact rs2 () i6 (he:=s9)
 refine g5 ?_;refine bTg .i64 rfl rfl rfl rfl λr2=>?_;refine uP .head rfl (.inr rfl) rfl mapInt underlying3 rfl rfl rfl ?_;refine uP .head rfl (.inr rfl) rfl mapInt underlying3 rfl rfl rfl ?_;refine uP .head rfl (.inr rfl) rfl mapInt underlying3 rfl rfl rfl ?_;refine g3 ?_;refine ss (bGp (knows_mapC .head) rfl mapInt underlying3 zeroStr rfl rfl (marks_get _)) ?_;refine ss (dJ rfl rfl rfl (by have:=pN true it.fn;have:=bMk it.H;omega)) ?_;refine g5 ?_;exact rs2 () i6 (he:=s9)
theorem bJr(it:ItemV)(hn:it.name.length<=140737488355328)(hz: ∀z∈it.nums.A,-9223372036854775808<=z/\z<=9223372036854775807):cY prog 130 [.agg #[k6 it.H,k6 it.at_,k7 it.fn,.string (bs it.name),j8 it.nums]] [] [bOy it,kG] (λ(x:PieceV)=> .tuple #[.agg #[j8 x.words,k6 (x.J:Nat),k6 (x.D:Nat),.bool x.plain],.bool (operandS it.it).isSome]) (λ(x:PieceV)=>[lZ.row (j8 x.words) 9 x.words.A]) (λ(x:PieceV)=>[Fact.pure (∀p,operandS it.it=some p->x.pc=p)]):=by
 have hT:=kY;refine j5 func130 ntmps130 ?_;intro β hM;refine g2 ?_;refine j4 λI=>?_;refine j1 pC λG=>?_;refine g11 ?_;refine gN (λn=>?_) λn=>?_
 .refine bP<|kZ _ _ (.fl 0 (.fl 1 (.fl 4 (.fl 5 (.fl 6 (.fl 7 (.fl 8 (.fl 9 (.fl 10 (.fl 11 (.fl 12 (.fl 13 (.fl 14 (.fl 15 (.two 2 16 (.fl 3 (.op 16 (.fl 17 (.op 18 (.fl 19 .nil))))) (.fl 17 (.op 2 (.fl 3 (.op 18 (.fl 19 .nil)))))))))))))))))))) cN o0 (.c1 .nil) bA.self ?_;refine g6 ?_;refine sD (λj=>?_) λj=>?_
  .refine g6 ?_;refine sD (λhg23=>?_) λhg23=>?_
   .refine g2 ?_;refine gT (o:=_) (o':=_) rfl rfl ?_ ?_
    .refine lH (m:=it.name) rfl rfl rfl rfl rfl λB=>?_;refine one ?_;refine sqT rfl (j3 (fT _ _ _ _ _ _)) ?_;refine one ?_;refine bD func86 (pP _ hn) rfl rfl .nil ⟨d8,i6⟩ λ_=>?_;refine g10 ?_;refine dO (E:=lZ) kT1 aa1 ?_;exact rs2 (⟨⟨some ⟨B,0,none⟩,_,[it.name]⟩,0,1,true⟩:PieceV) ⟨i7 (λp a=>pM ‹_› a),i6⟩ (he:=congrArg (λb:Bool=>M1 #[_,.bool b]) ac3)
    refine bD func86 (pP _ hn) rfl rfl .nil ⟨d8,i6⟩ λ_=>?_;refine g3 ?_;refine lH (m:=it.name) rfl rfl rfl rfl rfl λA=>?_;refine one ?_;refine sqT rfl (j3 (fT _ _ _ _ _ _)) ?_;refine g8 ?_;refine dO (E:=lZ) kT1 aa1 ?_;exact rs2 (⟨⟨some ⟨A,0,none⟩,_,[it.name]⟩,0,1,true⟩:PieceV) ⟨i7 (λp a=>pM ‹_› a),i6⟩ (he:=congrArg (λb:Bool=>M1 #[_,.bool b]) ac3)
   refine g2 ?_;refine gT (o:=_) (o':=_) rfl rfl ?_ ?_
   .refine lH (m:=it.name) rfl rfl rfl rfl rfl λy=>?_;refine one ?_;refine sqT rfl (j3 (fT _ _ _ _ _ _)) ?_;refine g12 ?_;refine dO (E:=lZ) kT1 aa1 ?_;exact rs2 (⟨⟨some ⟨y,0,none⟩,_,[it.name]⟩,0,1,true⟩:PieceV) ⟨i7 (λp a=>pM ‹_› a),i6⟩ (he:=congrArg (λb:Bool=>M1 #[_,.bool b]) ac3)
   refine g4 ?_;refine lH (m:=it.name) rfl rfl rfl rfl rfl λw=>?_;refine one ?_;refine sqT rfl (j3 (fT _ _ _ _ _ _)) ?_;refine g8 ?_;refine dO (E:=lZ) kT1 aa1 ?_;exact rs2 (⟨⟨some ⟨w,0,none⟩,_,[it.name]⟩,0,1,true⟩:PieceV) ⟨i7 (λp a=>pM ‹_› a),i6⟩ (he:=congrArg (λb:Bool=>M1 #[_,.bool b]) ac3)
  refine g8 ?_;refine gT (o:=_) (o':=_) rfl rfl ?_ ?_
  .refine lH (m:=it.name) rfl rfl rfl rfl rfl λv=>?_;refine one ?_;refine sqT rfl (j3 (fT _ _ _ _ _ _)) ?_;refine g12 ?_;refine dO (E:=lZ) kT1 aa1 ?_;exact rs2 (⟨⟨some ⟨v,0,none⟩,_,[it.name]⟩,0,1,true⟩:PieceV) ⟨i7 (λp a=>pM ‹_› a),i6⟩ (he:=congrArg (λb:Bool=>M1 #[_,.bool b]) ac3)
  refine g4 ?_;refine lH (m:=it.name) rfl rfl rfl rfl rfl λu=>?_;refine one ?_;refine sqT rfl (j3 (fT _ _ _ _ _ _)) ?_;refine g8 ?_;refine dO (E:=lZ) kT1 aa1 ?_;exact rs2 (⟨⟨some ⟨u,0,none⟩,_,[it.name]⟩,0,1,true⟩:PieceV) ⟨i7 (λp a=>pM ‹_› a),i6⟩ (he:=congrArg (λb:Bool=>M1 #[_,.bool b]) ac3)
 refine g9 ?_;refine yQ (λg=>?_) λg=>?_
 .refine g21 ?_;refine ss (j3 (jL)) ?_;refine g6 ?_;refine bQ (t:=9) lZ ?_;have ho:=wZ (it:=it) ‹_› ab1;exact rs2 (⟨⟨none,0,[]⟩,0,0,false⟩:PieceV) ⟨i7 (λp a=>by rw[ho]at a;cases a),i6⟩ (he:=by rw[ho];rfl)
 refine g5 ?_;refine cG (λc=>?_) (λc=>?_)
 .have c:it.name≠([]:Bs):=λh=>by rw[h]at c;first|(simp at c;done)|exact absurd c m6
  refine g16 ?_;refine ss (j3 (jL)) ?_;refine g6 ?_;refine bQ (t:=9) lZ ?_;have ho:=wZ (it:=it) ‹_› ab1;exact rs2 (⟨⟨none,0,[]⟩,0,0,false⟩:PieceV) ⟨i7 (λp a=>by rw[ho]at a;cases a),i6⟩ (he:=by rw[ho];rfl)
 have c:it.name=([]:Bs):=eq_of_beq (mT c);refine g6 ?_;refine sD (λf=>?_) λf=>?_
 .refine g10 ?_;refine ss (j3 (jL)) ?_;refine g6 ?_;refine bQ (t:=9) lZ ?_;have ho:=wZ (it:=it) ‹_› ab1;exact rs2 (⟨⟨none,0,[]⟩,0,0,false⟩:PieceV) ⟨i7 (λp a=>by rw[ho]at a;cases a),i6⟩ (he:=by rw[ho];rfl)
 refine g7 ?_;refine dP (λl=>?_) λl=>?_
 .refine g2 ?_;refine ss (j3 (jL)) ?_;refine g6 ?_;refine bQ (t:=9) lZ ?_;have ho:=wZ (it:=it) ‹_› ab1;exact rs2 (⟨⟨none,0,[]⟩,0,0,false⟩:PieceV) ⟨i7 (λp a=>by rw[ho]at a;cases a),i6⟩ (he:=by rw[ho];rfl)
 refine g7 ?_;refine ss (j3 (tC _ _)) ?_;refine j1 pC λs=>?_;refine g13 ?_;refine bQ (t:=9) lZ ?_;refine cF (ι:=Nat×List Bs×Option Addr×Nat) [(2,_),(4,_),(54,_),(55,_)] ⟨rfl,rfl,rfl,rfl,i6⟩ (λ⟨i,ws,W,cw⟩=>[(56,.int .i64 (i:Nat))]) (λ⟨i,ws,W,cw⟩=>[.obj s (.cells [.slice W ws.length cw,.int .i64 0,.int .i64 (it.nums.A.length:Nat),.bool true].toArray 186),lZ.row (.slice W ws.length cw) 9 ws]) (λ⟨i,ws,W,cw⟩=>[Fact.pure (i<=it.nums.A.length/\ws=(it.nums.A.take i).map fC/\ws.length=i)]) (λ⟨i,ws,W,cw⟩=>it.nums.A.length-i) (0,[],none,0) ⟨rfl,i6⟩ (.c1 (.c0 .nil)) ⟨i7 (⟨l7,rfl,rfl⟩),i6⟩ ?_;rintro⟨i,ws,W,cw⟩;dsimp only;refine bF d7 λe=>?_;refine g6 ?_;refine dP (λk=>?_) λk=>?_
 .refine g6 ?_;obtain⟨x10,d⟩:=gx it.nums.A i;refine ss (ixs i) ?_;refine ss (fG d 0) ?_;refine g3 ?_;refine wJ 7 _ _ [j9,u0,u5,A06,A42,(false,5),A02] cN o0 (.c0 (.c1 (.c1 .nil))) bA.self ?_;refine g4 ?_;have hr:=hz x10 (j0 d);refine bD func90 (bIb _ hr.1 hr.2) rfl rfl .nil ⟨d9,i6⟩ λ_=>?_;refine g2 ?_;refine lH (m:=(fC x10)) rfl rfl rfl rfl rfl λC=>?_;refine g2 ?_;refine mR kT2 (bU .head rfl) rfl rfl rfl rfl rfl rfl rfl aa7 λD r=>?_;refine g9 ?_;refine inc (i+1) ?_;refine g3 ?_;exact dA (i+1,ws++[fC x10],_,_) v8 ⟨rfl,i6⟩ ⟨rfl,rfl,rfl,rfl,i6⟩ (.c0 (.c0 (.c1 (.c1 .nil)))) ⟨i7 (⟨by dsimp only;omega,by rw[e.2.1];exact bWk d,by simp;omega⟩),i6⟩ (bA.drop 1)
 refine g13 ?_;have ho:=operand_nums (it:=it) ‹_› ‹_› ‹_› ‹_› ‹_›;have q:ws=it.nums.A.map fC:=by rw[e.2.1,F6 l7]
 exact rs2 (⟨⟨_,_,ws⟩,0,it.nums.A.length,true⟩:PieceV) ⟨i7 (λp a=>by rw[ho]at a;cases a;rw[q];rfl),i6⟩ (he:=by rw[ho];rfl)
def bQw (p:PieceV):bK:=lZ.row (.slice p.words.I p.words.A.length p.words.cap) 9 p.words.A
def bOk (st:List PieceV):List bK:=st.map bQw
theorem maxN(a b:Nat):(if (b:Int)>(a:Int)then (b:Int)else (a:Int))=((max a b:Nat):Int):=by split<;>omega
def wsz (l:List Bs):Nat:=(l.map λw=>w.length+1).sum
theorem bQr(a b:List Bs):wsz (a++b)=wsz a+wsz b:=by simp[wsz]
theorem lS(w:Bs)(r:List Bs):wsz (w::r)=w.length+1+wsz r:=by simp[wsz]
theorem bPp{l:List Bs}{w:Bs}{i:Nat}(h:l[i]?=some w):w.length+1<=wsz l:=by
 induction l generalizing i with
 |nil=>simp at h
 |cons x r ih=>
  rw[lS]
  cases i with
  |zero=>simp at h;subst h;omega
  |succ i=>have:=ih (i:=i) ad3;omega
theorem wsz_set{l:List Bs}{w v:Bs}{i:Nat}(h:l[i]?=some w):wsz (l.set i v)+w.length=wsz l+v.length:=by
 induction l generalizing i with
 |nil=>simp at h
 |cons x r ih=>
  cases i with
  |zero=>simp at h;subst h;simp only[O7,lS];omega
  |succ i=>have:=ih (i:=i) ad3;simp only[List.set_cons_succ,lS];omega
theorem bIg: ∀l:List Bs,(joinSp l).length<=wsz l
 |[]=>by simp[joinSp]
 |[w]=>by simp[joinSp,wsz]
 |w::x::r=>by have:=bIg (x::r);rw[mJ w m9,lS];simp;omega
def OkP (p:PieceV):Prop:=p.words.A≠[]/\wsz p.words.A<=40*p.D
theorem brk_set{l:List Bs}{w0 x:Bs}(h0:l[0]?=some w0)(hx:(l.set 0 ([40]++w0))[l.length-1]?=some x):(l.set 0 ([40]++w0)).set (l.length-1) (x++[41])=brk l:=by
 cases l with
 |nil=>simp at h0
 |cons w r=>
  simp at h0;subst h0
  have key: ∀(a:Bs) (r:List Bs) (x:Bs),(a::r)[r.length]?=some x->(a::r).set r.length (x++[41])=brkEnd (a::r):=by
   intro a r
   induction r generalizing a with
   |nil=>intro x h;simp at h;subst h;rfl
   |cons b r ih=>
    intro x h;have:=ih b x ad3;show a::((b::r).set r.length (x++[41]))=a::brkEnd (b::r);rw[this]
  simp only[O7,F5,Nat.add_sub_cancel]at hx⊢;exact key _ _ _ hx
structure xS (l:List fF) (st:List PieceV) (i:Nat):Prop where
 steps:gO (l.drop i) (st.map PieceV.pc)=gO l []
 le:i<=l.length
 sum:(st.map (·.D)).sum<=300*i
 J: ∀p∈st,p.J<=i
 ok: ∀p∈st,OkP p
theorem xS.start(l:List fF):xS l [] 0:=⟨rfl,l7,m9,λp a=>by simp at a,λp a=>by simp at a⟩
section
variable {l : List fF} {st st' : List PieceV} {i : Nat} {x : fF} {r : Option Bs} {most : Nat}
theorem x_long{l:List fF}(h:most<l.length):gX l most=none:=by rw[gX,if_pos h]
theorem xS.next(h:xS l st i)(hx:l[i]?=some x){c:List gE}(hs:jV (st.map PieceV.pc) x=some c):gO (l.drop (i+1)) c=gO l []:=by have:=h.steps;rw[hO hx,gO,hs]at this;exact this
theorem xS.fail(h:xS l st i)(hx:l[i]?=some x)(hs:jV (st.map PieceV.pc) x=none):gX l most=none:=by have:=h.steps;rw[hO hx,gO,hs]at this;unfold gX;rw[<-this];split<;>rfl
theorem xS.done(h:xS l st i)(hi:l.length<=i)(hm: ¬most<l.length):gX l most=match st.map PieceV.pc with
  |[p]=>if most<p.D\/32<p.J then none else some (joinSp p.words)
  |_=>none:=by
 have:=h.steps;rw[K3 hi,gO]at this;unfold gX;rw[if_neg hm,<-this];split<;>rename_i h1
 .injection h1 with h1
  rw[h1]
 .split
  .rename_i p a;exact absurd (congrArg some a) (h1 p)
  .rfl
end
theorem nC{s:Bs}(h:dQ s=true):s.length<=16:=by
 unfold dQ xJ at h;simp only[J3]at h;obtain⟨_,_,_,_,h⟩:=h
 cases hl:(iD s).1 with
 |nil=>rw[hl]at h;cases h
 |cons t r=>
  cases r with
  |nil=>
   rw[hl]at h;simp only[J3,beq_iff_eq]at h;rw[<-h.2];exact(lex_ok s t (by rw[hl];simp)).word
  |cons _ _=>rw[hl]at h;cases h
theorem cAn{l:List Int}(hz: ∀z∈l,-9223372036854775808<=z/\z<=9223372036854775807):wsz (l.map fC)<=22*l.length:=by
 induction l with
 |nil=>simp[wsz]
 |cons z r ih=>
  have h1:=hz z m9;have:=mI h1.1 h1.2;have:=ih λy hy=>hz y ae1;rw[N7,lS];simp only[F5];omega
theorem bFw{x:fF}{q:gE}(hz: ∀z∈x.nums,-9223372036854775808<=z/\z<=9223372036854775807)(h:operandS x=some q):q.words≠[]/\wsz q.words<=40*q.D/\q.D<=256/\q.J=0:=by
 unfold operandS at h;split at h
 .split at h
  .rename_i hn;injection h with h
   subst h;have:=nC hn.2.2;refine⟨m9,?_,m9,rfl⟩;simp[wsz];omega
  .cases h
 .split at h
  .cases h
  .rename_i hn;injection h with h
   subst h;have h0:x.nums≠[]:=λe=>hn (.inr (.inr (.inl e)));have h1: ¬256<x.nums.length:=λe=>hn (.inr (.inr (.inr e)));have:=cAn hz;refine⟨by simpa using h0,?_,by simp;omega,rfl⟩;simp only;omega
section
variable {l : List fF} {st : List PieceV} {i : Nat} {x : fF} {p : PieceV}
theorem zD(ho:x.H=1\/x.H=2){c:List gE}:jV c x=(operandS x).map (· ::c):=by rw[jV,if_pos ho]
theorem xS.operand(h:xS l st i)(hx:l[i]?=some x)(ho:x.H=1\/x.H=2)(hz: ∀z∈x.nums,-9223372036854775808<=z/\z<=9223372036854775807)(hq:operandS x=some p.pc):xS l (p::st) (i+1):=by
 obtain⟨h1,h2,a,h4⟩:=bFw hz hq;have hl:=(F3.1 hx).1;refine⟨h.next hx (by rw[zD ho,hq];rfl),hl,?_,λy hy=>?_,λy hy=>?_⟩
 .have:=h.sum;have a:p.D<=256:=a;simp only[N7,N8];omega
 .rcases E2.1 hy with rfl|hy
  .have h4:y.J=0:=h4;omega
  .have:=h.J y hy;omega
 .rcases E2.1 hy with rfl|hy
  .exact⟨h1,h2⟩
  .exact h.ok y hy
theorem kJ{c:List gE}(ho: ¬(x.H=1\/x.H=2))(hb:x.H<3\/7<x.H\/x.nums≠[]\/x.name≠[]\/(verbS x).1=[]):jV c x=none:=by rw[jV,if_neg ho,if_pos hb]
theorem jQ{c:List gE}(ho: ¬(x.H=1\/x.H=2))(hs:c.length<if vU x.H then 2 else 1):jV c x=none:=by
 rw[jV,if_neg ho];split
 .rfl
 .unfold rX;split
  .rename_i ht;rw[ht]at hs
   match c,hs with
   |[],_=>rfl
   |[_],_=>rfl
   |_::_::_,hs=>simp at hs;omega
  .rename_i ht;rw[if_neg ht]at hs
   match c,hs with
   |[],_=>rfl
   |_::_,hs=>simp at hs
theorem mO{c:List gE}(h3:3<=x.H)(h7:x.H<=7)(hn:x.nums=[])(hm:x.name=[])(hv:(verbS x).1≠[]):jV c x=rX x c:=by
 rw[jV,if_neg l7,if_neg];rintro(h|h|h|h|h)
 .omega
 .omega
 .exact h hn
 .exact h hm
 .exact hv h
theorem bKq(x:fF):(verbS x).1.length<=6/\(verbS x).2<=2/\((verbS x).1≠[]->1<=(verbS x).2):=by
 have h1:=pN false x.fn;have h2:=pN true x.fn;have a:=bMk x.H;unfold verbS;split
 .exact⟨by simp;omega,m9,λ_=>by simp⟩
 .split
  .exact⟨by simp;omega,m9,λ_=>by simp⟩
  .split
   .exact⟨m9,m9,λh=>absurd rfl h⟩
   .exact⟨by simp;omega,m9,λ_=>by simp⟩
theorem xS.one(h:xS l (p::st) i)(hx:l[i]?=some x)(hs:jV ((p::st).map PieceV.pc) x=rX x ((p::st).map PieceV.pc))(ht:vU x.H=false)(hv:(verbS x).1≠[]){A:Option Addr}{c:Nat}:
  xS l (⟨⟨A,c,[(verbS x).1]++p.words.A⟩,p.J,p.D+(verbS x).2,false⟩::st) (i+1):=by
 have hl:=(F3.1 hx).1;obtain⟨h1,h2,a⟩:=bKq x;refine⟨h.next hx (by rw[hs];unfold rX;rw[ht];rfl),hl,?_,λy hy=>?_,λy hy=>?_⟩
 .have:=h.sum;simp only[N7,N8]at this⊢;omega
 .rcases E2.1 hy with rfl|hy
  .have:=h.J p m9;dsimp only;omega
  .have:=h.J y ae1;omega
 .rcases E2.1 hy with rfl|hy
  .have:=(h.ok p m9).2;have a:=a hv;refine⟨m9,?_⟩;simp only[K4,lS];omega
  .exact h.ok y ae1
theorem left_ok{q:PieceV}(h:OkP q):(leftS q.pc).words≠[]/\wsz (leftS q.pc).words<=40*(leftS q.pc).D/\(leftS q.pc).D<=q.D+2/\(leftS q.pc).J<=q.J+1:=by
 obtain⟨h1,h2⟩:=h;unfold leftS;split
 .exact⟨h1,h2,by show q.D<=_;omega,by show q.J<=_;omega⟩
 .refine⟨brk_ne h1,?_,B0 _,B0 _⟩
  have key: ∀l:List Bs,l≠[]->wsz (brkEnd l)=wsz l+1:=by
   intro l
   induction l with
   |nil=>intro h;exact absurd rfl h
   |cons w r ih=>
    intro _
    cases r with
    |nil=>simp[brkEnd,wsz]
    |cons x r=>
     show wsz (w::brkEnd (x::r))=_;rw[lS,ih m9];simp only[lS];omega
  have a:wsz (brk q.words.A)=wsz q.words.A+2:=by
   cases hq:q.words.A with
   |nil=>exact absurd hq h1
   |cons w r=>
    show wsz (brkEnd _)=_;rw[key _ m9,lS,lS];simp;omega
  show wsz (brk q.words.A)<=40*(q.D+2);omega
theorem xS.two{q:PieceV}(h:xS l (p::q::st) i)(hx:l[i]?=some x)(hs:jV ((p::q::st).map PieceV.pc) x=rX x ((p::q::st).map PieceV.pc))(ht:vU x.H=true)(hv:(verbS x).1≠[]){A:Option Addr}{c:Nat}{ws:List Bs}{n t:Nat}
  (hw:ws=(leftS q.pc).words) (hn:n=(leftS q.pc).J) (hk:t=(leftS q.pc).D):
  xS l (⟨⟨A,c,ws++([(verbS x).1]++p.words.A)⟩,max p.J n,p.D+(verbS x).2+t,false⟩::st) (i+1):=by
 subst hw hn hk;have hl:=(F3.1 hx).1;obtain⟨h1,h2,a⟩:=bKq x;obtain⟨f,e,d,b⟩:=left_ok (h.ok q m9);refine⟨h.next hx (by rw[hs];unfold rX;rw[ht];rfl),hl,?_,λy hy=>?_,λy hy=>?_⟩
 .have:=h.sum;simp only[N7,N8]at this⊢;omega
 .rcases E2.1 hy with rfl|hy
  .have:=h.J p m9;have:=h.J q m9;dsimp only;omega
  .have:=h.J y ae1;omega
 .rcases E2.1 hy with rfl|hy
  .have:=(h.ok p m9).2;have a:=a hv;refine⟨m9,?_⟩;simp only[K4,bQr,lS];omega
  .exact h.ok y ae1
end
theorem rev_one{x:PieceV}{r:List PieceV}:(x::r).reverse[(r.length+1)-1]?=some x:=by simp
theorem bPf{x y:PieceV}{r:List PieceV}:(x::y::r).reverse[(r.length+2)-1]?=some x/\(x::y::r).reverse[(r.length+2)-2]?=some y:=by
 constructor
 .simp
 .simp
theorem rev_cut1{x:PieceV}{r:List PieceV}:(x::r).reverse.take ((r.length+1)-1)=r.reverse:=by simp
theorem tV{x y:PieceV}{r:List PieceV}:(x::y::r).reverse.take ((r.length+2)-2)=r.reverse:=by simp
theorem one_of{l:List PieceV}(h:l.length=1): ∃p,l=[p]:=by
 match l,h with
 |[p],_=>exact⟨p,rfl⟩
theorem cons_of{l:List PieceV}(h:1<=l.length): ∃p r,l=p::r:=by
 match l,h with
 |p::r,_=>exact⟨p,r,rfl⟩
theorem cons2_of{l:List PieceV}(h:2<=l.length): ∃p q r,l=p::q::r:=by
 match l,h with
 |p::q::r,_=>exact⟨p,q,r,rfl⟩
theorem join_eq: ∀l:List Bs,Lib.join l [32]=joinSp l
 |[]=>rfl
 |[w]=>by simp[Lib.join,joinSp]
 |w::x::r=>by rw[mJ w m9,<-join_eq (x::r)];simp[Lib.join]
theorem join_spec(A:Option Addr)(c:Nat)(l:List Bs)(hc:l.length<=c)(hl:(joinSp l).length<=140737488355328)(hn:l.length<=140737488355328):
  cY prog 132 [.slice A l.length c,.string (bs [32])] [] [lZ.sl (.slice A l.length c) l] (λ_:Unit=> .string (bs (joinSp l))) (λ_=>[]) (λ_=>[]):=
 jW λS w p k=>by
  obtain⟨B,u,e,h⟩:=k _ (.head _);injection e with a e2 e3
  subst a e3
  cases l with
  |nil=>
   refine(Tryz.strings_Join_none A c (bs [32]) w).mono ?_;rintro e s ⟨rfl,rfl⟩;exact⟨rfl,Below.refl _ _⟩
  |cons x r=>
   obtain⟨b,o,m,a,n,_,_⟩:=h 0 x rfl;subst a;have f:((x::r).map bs).length=(x::r).length:=O4 _
   have i:((x::r).map bs).map (·.data.toList)=x::r:=by rw[List.map_map];exact List.map_id _
   have g:=Tryz.strings_Join b o c ((x::r).map bs) (bs [32]) w (λj y hy=>?_) (p b n) (by rw[f];exact hn) (by rw[f];exact hc) (by rw[i,bs_data,join_eq];exact hl)
   .rw[f,i,bs_data,join_eq]at g;exact g
   .rw[K1]at hy
    cases d:(x::r)[j]? with
    |none=>rw[d]at hy;cases hy
    |some z=>
     rw[d]at hy;simp at hy;subst hy;obtain⟨v,t,m,a,_,q,h4⟩:=h j z d;injection a with a
     injection a with a e2
     subst a e2;have h4:m=lZ.cells z:=h4;subst h4;have:=q 0 (.string (bs z)) rfl
     have e:o+j*(Enc.flat lZ.size lZ.cells).size+0=o+j:=by show o+j*1+0=o+j;omega
     rwa[e]at this
theorem vE(l:List Bs):l.length<=wsz l:=by
 induction l with
 |nil=>simp
 |cons w r ih=>rw[lS,F5];omega
theorem gC{x:ItemV}(h:(0:Int)<((x.nums.A.length:Nat):Int)):x.it.nums≠[]:=λe=>by have:x.nums.A=[]:=e;rw[this]at h;simp at h
theorem iB{x:ItemV}(h: ¬(0:Int)<((x.nums.A.length:Nat):Int)):x.it.nums=[]:=F7 (show x.nums.A.length=0 by omega)
theorem twoT{k:Int}(h:k=4\/k=7):vU k=true:=by
 rcases h with rfl|rfl<;>rfl
theorem twoN{k:Int}(h:k≠4)(h':k≠7):vU k=false:=by simp[vU,h,h']
theorem not_one{st:List PieceV}{most:Nat}(h:st.length≠1):(match st.map PieceV.pc with
  |[p]=>if most<p.D\/32<p.J then none else some (joinSp p.words)
  |_=>none)=none:=by
 match st,h with
 |[],_=>rfl
 |[_],h=>exact absurd rfl h
 |_::_::_,_=>rfl
theorem nT{α:Type}{o:Option α}(h:o.isSome=false):o=none:=by
 cases o with
 |none=>rfl
 |some x=>cases h
theorem xS.len{l:List fF}{st:List PieceV}{i:Nat}(h:xS l st i):st.length<=300*i:=by
 refine B1 ?_ h.sum;have ho:=h.ok;clear h
 induction st with
 |nil=>simp
 |cons p r ih=>
  have:=ih λy hy=>ho y ae1;obtain⟨h1,h2⟩:=ho p m9
  have b:1<=wsz p.words.A:=by
   cases a:p.words.A with
   |nil=>exact absurd a h1
   |cons w t=>rw[lS];omega
  simp only[F5,N7,N8];omega
theorem qX{x:ItemV}{st:List PieceV}(h:x.H=4\/x.H=7)(hs:st.length<2):(st.map PieceV.pc).length<if vU x.it.H then 2 else 1:=by rw[show vU x.it.H=true from twoT h,O4];exact hs
theorem rF{x:ItemV}{st:List PieceV}(h:x.H≠4)(h':x.H≠7)(hs:st.length<1):(st.map PieceV.pc).length<if vU x.it.H then 2 else 1:=by rw[show vU x.it.H=false from twoN h h',O4];exact hs
set_option maxHeartbeats 1000000 in
theorem bUb(b r1 r2:Nat)(p:Value)(G:Option Addr)(m c:Nat)(A:Option Addr)(ci:Nat)(items:List ItemV)(most:Nat)(hm:most<=256)(hit: ∀it∈items,it.name.length<=140737488355328/\ ∀z∈it.nums.A,-9223372036854775808<=z/\z<=9223372036854775807):cY prog 92 [.pointer (some ⟨b,0,none⟩),.slice A items.length ci,k6 (most:Nat)] [.obj b (.cells [.map (some r1),.map (some r2),p,.slice G m c].toArray 120)] [mapF r1 .u8 (uH false),mapF r2 .u8 (uH true),kG,mU.sl (.slice A items.length ci) items,nP items] (λ(_:Unit)=> .tuple #[.string (bs ((gX (items.map ItemV.it) most).getD [])),.bool (gX (items.map ItemV.it) most).isSome]) (λ(_:Unit)=>[.obj b (.cells [.map (some r1),.map (some r2),p,.slice G m c].toArray 120)]) (λ_=>[]):=by
 have hT:=kY;generalize g:gX (items.map ItemV.it) most=r;refine j5 func92 ntmps92 ?_;intro β hM;refine g15 ?_;refine dP (λhc21=>?_) λhc21=>?_
 .refine g8 ?_;have hr:=g.symm.trans (x_long aa8);subst hr;exact rs2 () trivial
 refine g16 ?_;refine bQ (t:=186) bMx ?_;refine sN (ι:=Nat×List PieceV×Option Addr×Nat) (λ⟨i,st,B,e⟩=>[(0,.pointer (some ⟨b,0,none⟩)),(2,.int .i64 (most:Nat)),(8,.slice B st.reverse.length e),(22,.slice A items.length ci),(23,.int .i64 (items.length:Nat)),(24,.int .i64 (i:Nat))]) (λ⟨i,st,B,e⟩=> .obj b (.cells [.map (some r1),.map (some r2),p,.slice G m c].toArray 120)::bMx.row (.slice B st.reverse.length e) 186 st.reverse::bOk st) (λ⟨i,st,B,e⟩=>[Fact.pure (xS (items.map ItemV.it) st i),mapF r1 .u8 (uH false),mapF r2 .u8 (uH true),kG,mU.sl (.slice A items.length ci) items,nP items]) (λ⟨i,st,B,e⟩=>items.length-i) (0,[],none,0) ⟨rfl,rfl,rfl,rfl,rfl,rfl,i6⟩ (.c1 (.cons .head Sel.self)) ⟨i7 (xS.start _),d7,d8,d9,e6,e7,i6⟩ ?_;rintro⟨i,st,B,e⟩;dsimp only;refine bF d7 λa=>?_;have hil:=a.le;simp only[O4]at hil;have L:=a.sum;have Q:=a.len;refine g6 ?_;refine dP (λhc25=>?_) λhc25=>?_
 .refine g6 ?_;obtain⟨x1,P⟩:=gx items i;refine ss (ixs i) ?_;refine ss (pF P 0) ?_;refine j1 pJ λb3=>?_;refine g5 ?_;have hx0:(items.map ItemV.it)[i]?=some x1.it:=by rw[K1,P];rfl
  have M:=hit x1 (j0 P);have hvl:=bKq x1.it;refine g5 ?_;refine sD (λhg31=>?_) λhg31=>?_
  .refine g10 ?_;refine bB (bOy x1) (Has.each e8 (j0 P)) ?_;refine j2 func130 (bJr x1 M.1 M.2) ⟨d7,e7,i6⟩ λp4=>?_;refine bF d7 λhpu=>?_;refine g3 ?_;refine j1 pC λb5=>?_;refine g11 ?_;refine iQ (λhc42=>?_) λhc42=>?_
   .refine g14 ?_;have hr:=g.symm.trans (a.fail hx0 aj0);subst hr;exact rs2 () trivial
   refine g3 ?_;obtain⟨q,hq⟩: ∃q,operandS x1.it=some q:=O9.1 (by simpa using hc42);have hpc:=hpu q hq;rw[<-hpc]at hq;refine g3 ?_;refine jN (m:=p4) rfl rfl rfl rfl rfl λb6=>?_;refine jJ kT5 (bU .head rfl) rfl rfl rfl rfl rfl rfl rfl n0 λA7 c8=>?_;rw[<-L1];refine g9 ?_;refine inc (i+1) ?_;refine g3 ?_;exact jZ (i+1,p4::st,_,_) v8 ⟨rfl,rfl,rfl,rfl,rfl,rfl,i6⟩ (.c5 (.c0 (.c2 (Sel.skip (Sel.skip (Sel.skip Sel.self)))))) ⟨i7 (a.operand hx0 n7 M.2 hq),e6,e7,e8,e9,f3,i6⟩
  refine g6 ?_;refine gN (λhc35=>?_) λhc35=>?_
  .refine g3 ?_;refine bB (bOy x1) (Has.each e8 (j0 P)) ?_;refine j2 func130 (bJr x1 M.1 M.2) ⟨d7,e7,i6⟩ λp9=>?_;refine bF d7 λhpu=>?_;refine g3 ?_;refine j1 pC λb10=>?_;refine g11 ?_;refine iQ (λhc42=>?_) λhc42=>?_
   .refine g14 ?_;have hr:=g.symm.trans (a.fail hx0 aj0);subst hr;exact rs2 () trivial
   refine g3 ?_;obtain⟨q,hq⟩: ∃q,operandS x1.it=some q:=O9.1 (by simpa using hc42);have hpc:=hpu q hq;rw[<-hpc]at hq;refine g3 ?_;refine jN (m:=p9) rfl rfl rfl rfl rfl λb11=>?_;refine jJ kT5 (bU .head rfl) rfl rfl rfl rfl rfl rfl rfl n0 λA12 c13=>?_;rw[<-L1];refine g9 ?_;refine inc (i+1) ?_;refine g3 ?_;exact jZ (i+1,p9::st,_,_) v8 ⟨rfl,rfl,rfl,rfl,rfl,rfl,i6⟩ (.c5 (.c0 (.c2 (Sel.skip (Sel.skip (Sel.skip Sel.self)))))) ⟨i7 (a.operand hx0 n7 M.2 hq),e6,e7,e8,e9,f3,i6⟩
  refine g14 ?_;refine sD (λhg50=>?_) λhg50=>?_
  .refine g18 ?_;refine lR (λw=>?_) λw=>?_
   .refine g37 ?_;have hr:=g.symm.trans (a.fail hx0 l9);subst hr;exact rs2 () trivial
   refine g5 ?_;refine lR (λu=>?_) λu=>?_
   .refine g32 ?_;have hr:=g.symm.trans (a.fail hx0 l9);subst hr;exact rs2 () trivial
   refine g6 ?_;refine lR (λs=>?_) λs=>?_
   .refine g26 ?_;have hr:=g.symm.trans (a.fail hx0 l9);subst hr;exact rs2 () trivial
   refine g5 ?_;refine cG (λf=>?_) (λf=>?_)
   .have f:x1.name≠([]:Bs):=λh=>by rw[h]at f;first|(simp at f;done)|exact absurd f m6
    refine g21 ?_;have hr:=g.symm.trans (a.fail hx0 l9);subst hr;exact rs2 () trivial
   have f:x1.name=([]:Bs):=eq_of_beq (mT f);refine g2 ?_;refine bJ (z':=((st.length:Nat):Int)) (congrArg L6 O8) ?_;refine g5 ?_;refine dP (λy=>?_) λy=>?_
   .refine g13 ?_;have hr:=g.symm.trans (a.fail hx0 l9);subst hr;exact rs2 () trivial
   refine g6 ?_;refine bD func131 (bGt b r1 r2 p G m c x1) rfl rfl (.c1 .nil) ⟨d8,d9,i6⟩ λ_=>?_;refine g14 ?_;refine fX (λhc87=>?_) λhc87=>?_
   .have hc87:(verbS x1.it).1=([]:Bs):=eq_of_beq hc87;refine g13 ?_;have hr:=g.symm.trans (a.fail hx0 (kJ r9 (.inr (.inr (.inr (.inr ‹_›))))));subst hr;exact rs2 () trivial
   have hc87:(verbS x1.it).1≠([]:Bs):=λh=>absurd (beq_iff_eq.2 h) ag8;refine g3 ?_;obtain⟨d,q1,st,rfl⟩:=cons2_of (l:=st) l7;have R:=a.ok q1 m9;have hn2:=a.J q1 m9;have U:=a.ok d m9;have hn1:=a.J d m9;simp only[N7,N8]at L;simp only[F5]at Q;have hw1:=vE d.words.A;have hk1b:=U.2;have hw2:=vE q1.words.A;have hk2b:=R.2;rw[show bOk (d::q1::st)=bQw d::bQw q1::bOk st from rfl];refine g4 ?_;refine bJ (z':=(((st.length+2):Nat):Int)) m9 ?_;refine one ?_;refine inc ((st.length+2)-1) ?_;refine ss (cA hT (k:=((st.length+2)-1)) (cI kT2) rfl rfl rfl rfl rfl rfl rfl ab2) ?_;refine ss (fP hT (dD.knows (cI kT2) (k:=((st.length+2)-1)) (x:=d) bPf.1 0) rfl rfl rfl rfl rfl) ?_;refine j1 pC λb14=>?_;refine g9 ?_;refine inc (d.D+(verbS x1.it).2) ?_;refine g13 ?_;refine lH (m:=(verbS x1.it).1) rfl rfl rfl rfl rfl λb15=>?_;refine dO (E:=lZ) (xs:=[(verbS x1.it).1]) .head aa1 ?_;refine g2 ?_;refine mR .head (cI kT5) rfl rfl rfl rfl rfl rfl rfl q9 λA16 c17=>?_;refine g9 ?_;refine bC (t':=true) m6 ?_;refine g8 ?_;refine bJ (z':=(((st.length+2):Nat):Int)) m9 ?_;refine one ?_;refine inc ((st.length+2)-2) ?_;refine ss (cA hT (k:=((st.length+2)-2)) (cI kT4) rfl rfl rfl rfl rfl rfl rfl ab2) ?_;refine ss (fP hT (dD.knows (cI kT4) (k:=((st.length+2)-2)) (x:=q1) bPf.2 0) rfl rfl rfl rfl rfl) ?_;refine j1 pC λb18=>?_;refine g11 ?_;refine iQ (λI=>?_) λI=>?_
   .refine bP ?_;have hq0:=N6.2 R.1;refine wJ 8 _ _ [j9,u0,u5,u9,A00,u6,A02,A01] cN o0 (.c0 (.c0 (.c0 (.c0 (.c0 (.c0 (.c0 (.cons .head Sel.self)))))))) bA.self ?_;refine g4 ?_;obtain⟨D,n⟩:=gx q1.words.A 0;refine stL rfl (ixs 0) ?_;refine stL rfl (fG n 0) ?_;have hm0:=bPp n;refine stL rfl (dJ rfl rfl rfl p7) ?_;refine stL rfl (ixs 0) ?_;refine one ?_;refine fN hT (k:=0) (fo:=0) (y':=(([40]:Bs)++D)) kT7 rfl rfl rfl rfl rfl rfl rfl rfl rfl n rfl ?_;refine g9 ?_;refine bJ (z':=((q1.words.A.length:Nat):Int)) (rfl) ?_;refine one ?_;refine inc (q1.words.A.length-1) ?_;obtain⟨O,K⟩:=gx (q1.words.A.set 0 (([40]:Bs)++D)) (q1.words.A.length-1) q9;refine ss (cA hT (k:=(q1.words.A.length-1)) (cI .head) rfl rfl rfl rfl rfl m9 rfl q9) ?_;refine ss (fG K 0) ?_;have hm1:=bPp K;have hm2:=wsz_set (v:=[40]++D) n;simp only[F4,F5,O2]at hm2;refine ss (dJ rfl rfl rfl p7) ?_;refine ss (cA hT (k:=(q1.words.A.length-1)) (cI .head) rfl rfl rfl rfl rfl m9 rfl q9) ?_;refine fN hT (k:=(q1.words.A.length-1)) (fo:=0) (y':=(O++([41]:Bs))) .head rfl rfl rfl rfl rfl rfl rfl rfl rfl K rfl ?_;refine g7 ?_;refine inc (q1.J+1) ?_;refine g8 ?_;refine inc (q1.D+2) ?_;refine g5 ?_;have hbr:=brk_set n K;refine g5 ?_;refine mR kT1 (cI kT3) rfl rfl rfl rfl rfl rfl rfl q9 λA23 Z=>?_;refine g11 ?_;refine inc ((d.D+(verbS x1.it).2)+(q1.D+2)) ?_;refine g10 ?_;refine bJ (z':=(((max d.J (q1.J+1)):Nat):Int)) (maxN _ _) ?_;refine g4 ?_;refine kZ _ _ (.fl 0 (.fl 1 (.fl 2 (.fl 3 (.fl 4 (.fl 6 (.two 5 7 (.op 7 (.op 8 (.fl 9 .nil))) (.op 5 (.op 8 (.fl 9 .nil)))))))))) cN o0 (.c0 (.c0 (.c0 (.c0 (.c0 (.c0 (.c1 (Sel.skip Sel.self)))))))) bA.self ?_;refine g3 ?_;refine bJ (z':=(((st.length+2):Nat):Int)) m9 ?_;refine g2 ?_;refine inc ((st.length+2)-2) ?_;refine one ?_;refine gT (o:=_) (o':=_) rfl rfl ?_ ?_
    .refine jH hT (k:=((st.length+2)-2)) kT6 rfl rfl rfl rfl rfl rfl rfl rfl rfl o6 ?_;rw[tV];refine cZ (.c1 (.c1 (.c1 (.c1 (.c1 (.c1 (.c1 (Sel.skip Sel.self)))))))) (bA.drop 0) ?_;refine one ?_;refine jN (m:=(⟨⟨A23,Z,((q1.words.A.set 0 (([40]:Bs)++D)).set (q1.words.A.length-1) (O++([41]:Bs)))++([(verbS x1.it).1]++d.words.A)⟩,max d.J (q1.J+1),d.D+(verbS x1.it).2+(q1.D+2),false⟩:PieceV)) rfl rfl rfl rfl rfl λb25=>?_;refine cZ (.c2 (.c2 (.c2 (.c2 (.c2 (.c2 (.c2 (Sel.skip (Sel.skip Sel.self))))))))) (bA.drop 0) ?_;refine one ?_;refine jJ kT1 (bU .head rfl) rfl rfl rfl rfl rfl rfl rfl n0 λA26 c27=>?_;rw[<-L1];refine cZ (.c2 (.c2 (.c2 (.c2 (.c2 (.c2 (.c2 (Sel.skip (Sel.skip Sel.self))))))))) (bA.drop 0) ?_;refine g6 ?_;refine inc (i+1) ?_;refine g3 ?_;exact jZ (i+1,(⟨⟨A23,Z,((q1.words.A.set 0 (([40]:Bs)++D)).set (q1.words.A.length-1) (O++([41]:Bs)))++([(verbS x1.it).1]++d.words.A)⟩,max d.J (q1.J+1),d.D+(verbS x1.it).2+(q1.D+2),false⟩:PieceV)::st,_,_) v8 ⟨rfl,rfl,rfl,rfl,rfl,rfl,i6⟩ (.c6 (.c0 (.c2 (Sel.skip (Sel.skip (Sel.skip (Sel.skip (Sel.skip (Sel.skip Sel.self))))))))) ⟨i7 (a.two hx0 (mO ae9 af0 (iB l7) ‹_› ‹_›) (twoT n7) ‹_› ac4 w7 w7),d8,d9,e6,e7,e8,i6⟩
    refine jN (m:=(⟨⟨A23,Z,((q1.words.A.set 0 (([40]:Bs)++D)).set (q1.words.A.length-1) (O++([41]:Bs)))++([(verbS x1.it).1]++d.words.A)⟩,max d.J (q1.J+1),d.D+(verbS x1.it).2+(q1.D+2),false⟩:PieceV)) rfl rfl rfl rfl rfl λb28=>?_;refine cZ (.c1 (.c1 (.c1 (.c1 (.c1 (.c1 (.c2 (Sel.skip (Sel.skip Sel.self))))))))) (bA.drop 0) ?_;refine one ?_;refine jH hT (k:=((st.length+2)-2)) kT7 rfl rfl rfl rfl rfl rfl rfl rfl rfl o6 ?_;rw[tV];refine cZ (.c2 (.c2 (.c2 (.c2 (.c2 (.c2 (.c2 (Sel.skip (Sel.skip Sel.self))))))))) (bA.drop 0) ?_;refine one ?_;refine jJ .head (bU kT1 rfl) rfl rfl rfl rfl rfl rfl rfl n0 λA29 c30=>?_;rw[<-L1];refine cZ (.c2 (.c2 (.c2 (.c2 (.c2 (.c2 (.c2 (Sel.skip (Sel.skip Sel.self))))))))) (bA.drop 0) ?_;refine g6 ?_;refine inc (i+1) ?_;refine g3 ?_;exact jZ (i+1,(⟨⟨A23,Z,((q1.words.A.set 0 (([40]:Bs)++D)).set (q1.words.A.length-1) (O++([41]:Bs)))++([(verbS x1.it).1]++d.words.A)⟩,max d.J (q1.J+1),d.D+(verbS x1.it).2+(q1.D+2),false⟩:PieceV)::st,_,_) v8 ⟨rfl,rfl,rfl,rfl,rfl,rfl,i6⟩ (.c6 (.c0 (.c2 (Sel.skip (Sel.skip (Sel.skip (Sel.skip (Sel.skip (Sel.skip Sel.self))))))))) ⟨i7 (a.two hx0 (mO ae9 af0 (iB l7) ‹_› ‹_›) (twoT n7) ‹_› ac4 w7 w7),d8,d9,e6,e7,e8,i6⟩
   refine g8 ?_;refine mR kT7 (cI kT2) rfl rfl rfl rfl rfl rfl rfl q9 λA31 Y=>?_;refine g11 ?_;refine inc ((d.D+(verbS x1.it).2)+q1.D) ?_;refine g10 ?_;refine bJ (z':=(((max d.J q1.J):Nat):Int)) (maxN _ _) ?_;refine g4 ?_;refine kZ _ _ (.fl 0 (.fl 1 (.fl 2 (.fl 3 (.fl 4 (.fl 6 (.two 5 7 (.op 7 (.op 8 (.fl 9 .nil))) (.op 5 (.op 8 (.fl 9 .nil)))))))))) cN o0 (.c0 (.c0 (.c0 (.c0 (.c0 (.c0 (.c1 (Sel.skip Sel.self)))))))) bA.self ?_;refine g3 ?_;refine bJ (z':=(((st.length+2):Nat):Int)) m9 ?_;refine g2 ?_;refine inc ((st.length+2)-2) ?_;refine one ?_;refine gT (o:=_) (o':=_) rfl rfl ?_ ?_
   .refine jH hT (k:=((st.length+2)-2)) kT6 rfl rfl rfl rfl rfl rfl rfl rfl rfl o6 ?_;rw[tV];refine cZ (.c1 (.c1 (.c1 (.c1 (.c1 (.c1 (.c1 (Sel.skip Sel.self)))))))) (bA.drop 0) ?_;refine one ?_;refine jN (m:=(⟨⟨A31,Y,q1.words.A++([(verbS x1.it).1]++d.words.A)⟩,max d.J q1.J,d.D+(verbS x1.it).2+q1.D,false⟩:PieceV)) rfl rfl rfl rfl rfl λb33=>?_;refine cZ (.c2 (.c2 (.c2 (.c2 (.c2 (.c2 (.c2 (Sel.skip (Sel.skip Sel.self))))))))) (bA.drop 0) ?_;refine one ?_;refine jJ kT1 (bU .head rfl) rfl rfl rfl rfl rfl rfl rfl n0 λA34 c35=>?_;rw[<-L1];refine cZ (.c2 (.c2 (.c2 (.c2 (.c2 (.c2 (.c2 (Sel.skip (Sel.skip Sel.self))))))))) (bA.drop 0) ?_;refine g6 ?_;refine inc (i+1) ?_;refine g3 ?_;exact jZ (i+1,(⟨⟨A31,Y,q1.words.A++([(verbS x1.it).1]++d.words.A)⟩,max d.J q1.J,d.D+(verbS x1.it).2+q1.D,false⟩:PieceV)::st,_,_) v8 ⟨rfl,rfl,rfl,rfl,rfl,rfl,i6⟩ (.c6 (.c0 (.c2 (Sel.skip (Sel.skip (Sel.skip (Sel.skip (Sel.skip (Sel.skip Sel.self))))))))) ⟨i7 (a.two hx0 (mO ae9 af0 (iB l7) ‹_› ‹_›) (twoT n7) ‹_› w9 w9 w9),d8,d9,e6,e7,e8,i6⟩
   refine jN (m:=(⟨⟨A31,Y,q1.words.A++([(verbS x1.it).1]++d.words.A)⟩,max d.J q1.J,d.D+(verbS x1.it).2+q1.D,false⟩:PieceV)) rfl rfl rfl rfl rfl λb36=>?_;refine cZ (.c1 (.c1 (.c1 (.c1 (.c1 (.c1 (.c2 (Sel.skip (Sel.skip Sel.self))))))))) (bA.drop 0) ?_;refine one ?_;refine jH hT (k:=((st.length+2)-2)) kT7 rfl rfl rfl rfl rfl rfl rfl rfl rfl o6 ?_;rw[tV];refine cZ (.c2 (.c2 (.c2 (.c2 (.c2 (.c2 (.c2 (Sel.skip (Sel.skip Sel.self))))))))) (bA.drop 0) ?_;refine one ?_;refine jJ .head (bU kT1 rfl) rfl rfl rfl rfl rfl rfl rfl n0 λA37 c38=>?_;rw[<-L1];refine cZ (.c2 (.c2 (.c2 (.c2 (.c2 (.c2 (.c2 (Sel.skip (Sel.skip Sel.self))))))))) (bA.drop 0) ?_;refine g6 ?_;refine inc (i+1) ?_;refine g3 ?_;exact jZ (i+1,(⟨⟨A31,Y,q1.words.A++([(verbS x1.it).1]++d.words.A)⟩,max d.J q1.J,d.D+(verbS x1.it).2+q1.D,false⟩:PieceV)::st,_,_) v8 ⟨rfl,rfl,rfl,rfl,rfl,rfl,i6⟩ (.c6 (.c0 (.c2 (Sel.skip (Sel.skip (Sel.skip (Sel.skip (Sel.skip (Sel.skip Sel.self))))))))) ⟨i7 (a.two hx0 (mO ae9 af0 (iB l7) ‹_› ‹_›) (twoT n7) ‹_› w9 w9 w9),d8,d9,e6,e7,e8,i6⟩
  refine g6 ?_;refine gN (λhc54=>?_) λhc54=>?_
  .refine g11 ?_;refine lR (λw=>?_) λw=>?_
   .refine g37 ?_;have hr:=g.symm.trans (a.fail hx0 l9);subst hr;exact rs2 () trivial
   refine g5 ?_;refine lR (λu=>?_) λu=>?_
   .refine g32 ?_;have hr:=g.symm.trans (a.fail hx0 l9);subst hr;exact rs2 () trivial
   refine g6 ?_;refine lR (λs=>?_) λs=>?_
   .refine g26 ?_;have hr:=g.symm.trans (a.fail hx0 l9);subst hr;exact rs2 () trivial
   refine g5 ?_;refine cG (λf=>?_) (λf=>?_)
   .have f:x1.name≠([]:Bs):=λh=>by rw[h]at f;first|(simp at f;done)|exact absurd f m6
    refine g21 ?_;have hr:=g.symm.trans (a.fail hx0 l9);subst hr;exact rs2 () trivial
   have f:x1.name=([]:Bs):=eq_of_beq (mT f);refine g2 ?_;refine bJ (z':=((st.length:Nat):Int)) (congrArg L6 O8) ?_;refine g5 ?_;refine dP (λy=>?_) λy=>?_
   .refine g13 ?_;have hr:=g.symm.trans (a.fail hx0 l9);subst hr;exact rs2 () trivial
   refine g6 ?_;refine bD func131 (bGt b r1 r2 p G m c x1) rfl rfl (.c1 .nil) ⟨d8,d9,i6⟩ λ_=>?_;refine g14 ?_;refine fX (λhc87=>?_) λhc87=>?_
   .have hc87:(verbS x1.it).1=([]:Bs):=eq_of_beq hc87;refine g13 ?_;have hr:=g.symm.trans (a.fail hx0 (kJ r9 (.inr (.inr (.inr (.inr ‹_›))))));subst hr;exact rs2 () trivial
   have hc87:(verbS x1.it).1≠([]:Bs):=λh=>absurd (beq_iff_eq.2 h) ag8;refine g3 ?_;obtain⟨d,q1,st,rfl⟩:=cons2_of (l:=st) l7;have R:=a.ok q1 m9;have hn2:=a.J q1 m9;have U:=a.ok d m9;have hn1:=a.J d m9;simp only[N7,N8]at L;simp only[F5]at Q;have hw1:=vE d.words.A;have hk1b:=U.2;have hw2:=vE q1.words.A;have hk2b:=R.2;rw[show bOk (d::q1::st)=bQw d::bQw q1::bOk st from rfl];refine g4 ?_;refine bJ (z':=(((st.length+2):Nat):Int)) m9 ?_;refine one ?_;refine inc ((st.length+2)-1) ?_;refine ss (cA hT (k:=((st.length+2)-1)) (cI kT2) rfl rfl rfl rfl rfl rfl rfl ab2) ?_;refine ss (fP hT (dD.knows (cI kT2) (k:=((st.length+2)-1)) (x:=d) bPf.1 0) rfl rfl rfl rfl rfl) ?_;refine j1 pC λb39=>?_;refine g9 ?_;refine inc (d.D+(verbS x1.it).2) ?_;refine g13 ?_;refine lH (m:=(verbS x1.it).1) rfl rfl rfl rfl rfl λb40=>?_;refine dO (E:=lZ) (xs:=[(verbS x1.it).1]) .head aa1 ?_;refine g2 ?_;refine mR .head (cI kT5) rfl rfl rfl rfl rfl rfl rfl q9 λA41 c42=>?_;refine g9 ?_;refine bC (t':=true) m6 ?_;refine g8 ?_;refine bJ (z':=(((st.length+2):Nat):Int)) m9 ?_;refine one ?_;refine inc ((st.length+2)-2) ?_;refine ss (cA hT (k:=((st.length+2)-2)) (cI kT4) rfl rfl rfl rfl rfl rfl rfl ab2) ?_;refine ss (fP hT (dD.knows (cI kT4) (k:=((st.length+2)-2)) (x:=q1) bPf.2 0) rfl rfl rfl rfl rfl) ?_;refine j1 pC λb43=>?_;refine g11 ?_;refine iQ (λI=>?_) λI=>?_
   .refine bP ?_;have hq0:=N6.2 R.1;refine wJ 8 _ _ [j9,u0,u5,u9,A00,u6,A02,A01] cN o0 (.c0 (.c0 (.c0 (.c0 (.c0 (.c0 (.c0 (.cons .head Sel.self)))))))) bA.self ?_;refine g4 ?_;obtain⟨C,j⟩:=gx q1.words.A 0;refine stL rfl (ixs 0) ?_;refine stL rfl (fG j 0) ?_;have hm0:=bPp j;refine stL rfl (dJ rfl rfl rfl p7) ?_;refine stL rfl (ixs 0) ?_;refine one ?_;refine fN hT (k:=0) (fo:=0) (y':=(([40]:Bs)++C)) kT7 rfl rfl rfl rfl rfl rfl rfl rfl rfl j rfl ?_;refine g9 ?_;refine bJ (z':=((q1.words.A.length:Nat):Int)) (rfl) ?_;refine one ?_;refine inc (q1.words.A.length-1) ?_;obtain⟨N,J⟩:=gx (q1.words.A.set 0 (([40]:Bs)++C)) (q1.words.A.length-1) q9;refine ss (cA hT (k:=(q1.words.A.length-1)) (cI .head) rfl rfl rfl rfl rfl m9 rfl q9) ?_;refine ss (fG J 0) ?_;have hm1:=bPp J;have hm2:=wsz_set (v:=[40]++C) j;simp only[F4,F5,O2]at hm2;refine ss (dJ rfl rfl rfl p7) ?_;refine ss (cA hT (k:=(q1.words.A.length-1)) (cI .head) rfl rfl rfl rfl rfl m9 rfl q9) ?_;refine fN hT (k:=(q1.words.A.length-1)) (fo:=0) (y':=(N++([41]:Bs))) .head rfl rfl rfl rfl rfl rfl rfl rfl rfl J rfl ?_;refine g7 ?_;refine inc (q1.J+1) ?_;refine g8 ?_;refine inc (q1.D+2) ?_;refine g5 ?_;have hbr:=brk_set j J;refine g5 ?_;refine mR kT1 (cI kT3) rfl rfl rfl rfl rfl rfl rfl q9 λA48 X=>?_;refine g11 ?_;refine inc ((d.D+(verbS x1.it).2)+(q1.D+2)) ?_;refine g10 ?_;refine bJ (z':=(((max d.J (q1.J+1)):Nat):Int)) (maxN _ _) ?_;refine g4 ?_;refine kZ _ _ (.fl 0 (.fl 1 (.fl 2 (.fl 3 (.fl 4 (.fl 6 (.two 5 7 (.op 7 (.op 8 (.fl 9 .nil))) (.op 5 (.op 8 (.fl 9 .nil)))))))))) cN o0 (.c0 (.c0 (.c0 (.c0 (.c0 (.c0 (.c1 (Sel.skip Sel.self)))))))) bA.self ?_;refine g3 ?_;refine bJ (z':=(((st.length+2):Nat):Int)) m9 ?_;refine g2 ?_;refine inc ((st.length+2)-2) ?_;refine one ?_;refine gT (o:=_) (o':=_) rfl rfl ?_ ?_
    .refine jH hT (k:=((st.length+2)-2)) kT6 rfl rfl rfl rfl rfl rfl rfl rfl rfl o6 ?_;rw[tV];refine cZ (.c1 (.c1 (.c1 (.c1 (.c1 (.c1 (.c1 (Sel.skip Sel.self)))))))) (bA.drop 0) ?_;refine one ?_;refine jN (m:=(⟨⟨A48,X,((q1.words.A.set 0 (([40]:Bs)++C)).set (q1.words.A.length-1) (N++([41]:Bs)))++([(verbS x1.it).1]++d.words.A)⟩,max d.J (q1.J+1),d.D+(verbS x1.it).2+(q1.D+2),false⟩:PieceV)) rfl rfl rfl rfl rfl λb50=>?_;refine cZ (.c2 (.c2 (.c2 (.c2 (.c2 (.c2 (.c2 (Sel.skip (Sel.skip Sel.self))))))))) (bA.drop 0) ?_;refine one ?_;refine jJ kT1 (bU .head rfl) rfl rfl rfl rfl rfl rfl rfl n0 λA51 c52=>?_;rw[<-L1];refine cZ (.c2 (.c2 (.c2 (.c2 (.c2 (.c2 (.c2 (Sel.skip (Sel.skip Sel.self))))))))) (bA.drop 0) ?_;refine g6 ?_;refine inc (i+1) ?_;refine g3 ?_;exact jZ (i+1,(⟨⟨A48,X,((q1.words.A.set 0 (([40]:Bs)++C)).set (q1.words.A.length-1) (N++([41]:Bs)))++([(verbS x1.it).1]++d.words.A)⟩,max d.J (q1.J+1),d.D+(verbS x1.it).2+(q1.D+2),false⟩:PieceV)::st,_,_) v8 ⟨rfl,rfl,rfl,rfl,rfl,rfl,i6⟩ (.c6 (.c0 (.c2 (Sel.skip (Sel.skip (Sel.skip (Sel.skip (Sel.skip (Sel.skip Sel.self))))))))) ⟨i7 (a.two hx0 (mO ae9 af0 (iB l7) ‹_› ‹_›) (twoT n7) ‹_› ac4 w7 w7),d8,d9,e6,e7,e8,i6⟩
    refine jN (m:=(⟨⟨A48,X,((q1.words.A.set 0 (([40]:Bs)++C)).set (q1.words.A.length-1) (N++([41]:Bs)))++([(verbS x1.it).1]++d.words.A)⟩,max d.J (q1.J+1),d.D+(verbS x1.it).2+(q1.D+2),false⟩:PieceV)) rfl rfl rfl rfl rfl λb53=>?_;refine cZ (.c1 (.c1 (.c1 (.c1 (.c1 (.c1 (.c2 (Sel.skip (Sel.skip Sel.self))))))))) (bA.drop 0) ?_;refine one ?_;refine jH hT (k:=((st.length+2)-2)) kT7 rfl rfl rfl rfl rfl rfl rfl rfl rfl o6 ?_;rw[tV];refine cZ (.c2 (.c2 (.c2 (.c2 (.c2 (.c2 (.c2 (Sel.skip (Sel.skip Sel.self))))))))) (bA.drop 0) ?_;refine one ?_;refine jJ .head (bU kT1 rfl) rfl rfl rfl rfl rfl rfl rfl n0 λA54 c55=>?_;rw[<-L1];refine cZ (.c2 (.c2 (.c2 (.c2 (.c2 (.c2 (.c2 (Sel.skip (Sel.skip Sel.self))))))))) (bA.drop 0) ?_;refine g6 ?_;refine inc (i+1) ?_;refine g3 ?_;exact jZ (i+1,(⟨⟨A48,X,((q1.words.A.set 0 (([40]:Bs)++C)).set (q1.words.A.length-1) (N++([41]:Bs)))++([(verbS x1.it).1]++d.words.A)⟩,max d.J (q1.J+1),d.D+(verbS x1.it).2+(q1.D+2),false⟩:PieceV)::st,_,_) v8 ⟨rfl,rfl,rfl,rfl,rfl,rfl,i6⟩ (.c6 (.c0 (.c2 (Sel.skip (Sel.skip (Sel.skip (Sel.skip (Sel.skip (Sel.skip Sel.self))))))))) ⟨i7 (a.two hx0 (mO ae9 af0 (iB l7) ‹_› ‹_›) (twoT n7) ‹_› ac4 w7 w7),d8,d9,e6,e7,e8,i6⟩
   refine g8 ?_;refine mR kT7 (cI kT2) rfl rfl rfl rfl rfl rfl rfl q9 λA56 W=>?_;refine g11 ?_;refine inc ((d.D+(verbS x1.it).2)+q1.D) ?_;refine g10 ?_;refine bJ (z':=(((max d.J q1.J):Nat):Int)) (maxN _ _) ?_;refine g4 ?_;refine kZ _ _ (.fl 0 (.fl 1 (.fl 2 (.fl 3 (.fl 4 (.fl 6 (.two 5 7 (.op 7 (.op 8 (.fl 9 .nil))) (.op 5 (.op 8 (.fl 9 .nil)))))))))) cN o0 (.c0 (.c0 (.c0 (.c0 (.c0 (.c0 (.c1 (Sel.skip Sel.self)))))))) bA.self ?_;refine g3 ?_;refine bJ (z':=(((st.length+2):Nat):Int)) m9 ?_;refine g2 ?_;refine inc ((st.length+2)-2) ?_;refine one ?_;refine gT (o:=_) (o':=_) rfl rfl ?_ ?_
   .refine jH hT (k:=((st.length+2)-2)) kT6 rfl rfl rfl rfl rfl rfl rfl rfl rfl o6 ?_;rw[tV];refine cZ (.c1 (.c1 (.c1 (.c1 (.c1 (.c1 (.c1 (Sel.skip Sel.self)))))))) (bA.drop 0) ?_;refine one ?_;refine jN (m:=(⟨⟨A56,W,q1.words.A++([(verbS x1.it).1]++d.words.A)⟩,max d.J q1.J,d.D+(verbS x1.it).2+q1.D,false⟩:PieceV)) rfl rfl rfl rfl rfl λb58=>?_;refine cZ (.c2 (.c2 (.c2 (.c2 (.c2 (.c2 (.c2 (Sel.skip (Sel.skip Sel.self))))))))) (bA.drop 0) ?_;refine one ?_;refine jJ kT1 (bU .head rfl) rfl rfl rfl rfl rfl rfl rfl n0 λA59 c60=>?_;rw[<-L1];refine cZ (.c2 (.c2 (.c2 (.c2 (.c2 (.c2 (.c2 (Sel.skip (Sel.skip Sel.self))))))))) (bA.drop 0) ?_;refine g6 ?_;refine inc (i+1) ?_;refine g3 ?_;exact jZ (i+1,(⟨⟨A56,W,q1.words.A++([(verbS x1.it).1]++d.words.A)⟩,max d.J q1.J,d.D+(verbS x1.it).2+q1.D,false⟩:PieceV)::st,_,_) v8 ⟨rfl,rfl,rfl,rfl,rfl,rfl,i6⟩ (.c6 (.c0 (.c2 (Sel.skip (Sel.skip (Sel.skip (Sel.skip (Sel.skip (Sel.skip Sel.self))))))))) ⟨i7 (a.two hx0 (mO ae9 af0 (iB l7) ‹_› ‹_›) (twoT n7) ‹_› w9 w9 w9),d8,d9,e6,e7,e8,i6⟩
   refine jN (m:=(⟨⟨A56,W,q1.words.A++([(verbS x1.it).1]++d.words.A)⟩,max d.J q1.J,d.D+(verbS x1.it).2+q1.D,false⟩:PieceV)) rfl rfl rfl rfl rfl λb61=>?_;refine cZ (.c1 (.c1 (.c1 (.c1 (.c1 (.c1 (.c2 (Sel.skip (Sel.skip Sel.self))))))))) (bA.drop 0) ?_;refine one ?_;refine jH hT (k:=((st.length+2)-2)) kT7 rfl rfl rfl rfl rfl rfl rfl rfl rfl o6 ?_;rw[tV];refine cZ (.c2 (.c2 (.c2 (.c2 (.c2 (.c2 (.c2 (Sel.skip (Sel.skip Sel.self))))))))) (bA.drop 0) ?_;refine one ?_;refine jJ .head (bU kT1 rfl) rfl rfl rfl rfl rfl rfl rfl n0 λA62 c63=>?_;rw[<-L1];refine cZ (.c2 (.c2 (.c2 (.c2 (.c2 (.c2 (.c2 (Sel.skip (Sel.skip Sel.self))))))))) (bA.drop 0) ?_;refine g6 ?_;refine inc (i+1) ?_;refine g3 ?_;exact jZ (i+1,(⟨⟨A56,W,q1.words.A++([(verbS x1.it).1]++d.words.A)⟩,max d.J q1.J,d.D+(verbS x1.it).2+q1.D,false⟩:PieceV)::st,_,_) v8 ⟨rfl,rfl,rfl,rfl,rfl,rfl,i6⟩ (.c6 (.c0 (.c2 (Sel.skip (Sel.skip (Sel.skip (Sel.skip (Sel.skip (Sel.skip Sel.self))))))))) ⟨i7 (a.two hx0 (mO ae9 af0 (iB l7) ‹_› ‹_›) (twoT n7) ‹_› w9 w9 w9),d8,d9,e6,e7,e8,i6⟩
  refine g9 ?_;refine lR (λw=>?_) λw=>?_
  .refine g37 ?_;have hr:=g.symm.trans (a.fail hx0 l9);subst hr;exact rs2 () trivial
  refine g5 ?_;refine lR (λu=>?_) λu=>?_
  .refine g32 ?_;have hr:=g.symm.trans (a.fail hx0 l9);subst hr;exact rs2 () trivial
  refine g6 ?_;refine lR (λs=>?_) λs=>?_
  .refine g26 ?_;have hr:=g.symm.trans (a.fail hx0 l9);subst hr;exact rs2 () trivial
  refine g5 ?_;refine cG (λf=>?_) (λf=>?_)
  .have f:x1.name≠([]:Bs):=λh=>by rw[h]at f;first|(simp at f;done)|exact absurd f m6
   refine g21 ?_;have hr:=g.symm.trans (a.fail hx0 l9);subst hr;exact rs2 () trivial
  have f:x1.name=([]:Bs):=eq_of_beq (mT f);refine g2 ?_;refine bJ (z':=((st.length:Nat):Int)) (congrArg L6 O8) ?_;refine g5 ?_;refine dP (λy=>?_) λy=>?_
  .refine g13 ?_;have hr:=g.symm.trans (a.fail hx0 l9);subst hr;exact rs2 () trivial
  refine g6 ?_;refine bD func131 (bGt b r1 r2 p G m c x1) rfl rfl (.c1 .nil) ⟨d8,d9,i6⟩ λ_=>?_;refine g14 ?_;refine fX (λhc87=>?_) λhc87=>?_
  .have hc87:(verbS x1.it).1=([]:Bs):=eq_of_beq hc87;refine g13 ?_;have hr:=g.symm.trans (a.fail hx0 (kJ r9 (.inr (.inr (.inr (.inr ‹_›))))));subst hr;exact rs2 () trivial
  have hc87:(verbS x1.it).1≠([]:Bs):=λh=>absurd (beq_iff_eq.2 h) ag8;refine g3 ?_;obtain⟨d,st,rfl⟩:=cons_of (l:=st) l7;have U:=a.ok d m9;have hn1:=a.J d m9;simp only[N7,N8]at L;simp only[F5]at Q;have hw1:=vE d.words.A;have hk1b:=U.2;rw[show bOk (d::st)=bQw d::bOk st from rfl];refine g4 ?_;refine bJ (z':=(((st.length+1):Nat):Int)) m9 ?_;refine one ?_;refine inc ((st.length+1)-1) ?_;refine ss (cA hT (k:=((st.length+1)-1)) (cI kT2) rfl rfl rfl rfl rfl rfl rfl ab2) ?_;refine ss (pF rev_one 0) ?_;refine j1 pC λb64=>?_;refine g9 ?_;refine inc (d.D+(verbS x1.it).2) ?_;refine g13 ?_;refine lH (m:=(verbS x1.it).1) rfl rfl rfl rfl rfl λb65=>?_;refine dO (E:=lZ) (xs:=[(verbS x1.it).1]) .head aa1 ?_;refine g2 ?_;refine mR .head (cI kT5) rfl rfl rfl rfl rfl rfl rfl q9 λA66 V=>?_;refine g9 ?_;refine bC (t':=false) m6 ?_;refine g5 ?_;refine kZ _ _ (.fl 0 (.fl 1 (.fl 2 (.fl 3 (.fl 4 (.fl 6 (.two 5 7 (.op 7 (.op 8 (.fl 9 .nil))) (.op 5 (.op 8 (.fl 9 .nil)))))))))) cN o0 (.c0 (.c0 (.c0 (.c0 (.c1 (Sel.skip Sel.self)))))) bA.self ?_;refine g3 ?_;refine bJ (z':=(((st.length+1):Nat):Int)) m9 ?_;refine g2 ?_;refine inc ((st.length+1)-1) ?_;refine one ?_;refine gT (o:=_) (o':=_) rfl rfl ?_ ?_
  .refine jH hT (k:=((st.length+1)-1)) kT4 rfl rfl rfl rfl rfl rfl rfl rfl rfl o6 ?_;rw[rev_cut1];refine cZ (.c1 (.c1 (.c1 (.c1 (.c1 (Sel.skip Sel.self)))))) (bA.drop 0) ?_;refine one ?_;refine jN (m:=(⟨⟨A66,V,[(verbS x1.it).1]++d.words.A⟩,d.J,d.D+(verbS x1.it).2,false⟩:PieceV)) rfl rfl rfl rfl rfl λb68=>?_;refine cZ (.c2 (.c2 (.c2 (.c2 (.c2 (Sel.skip (Sel.skip Sel.self))))))) (bA.drop 0) ?_;refine one ?_;refine jJ kT1 (bU .head rfl) rfl rfl rfl rfl rfl rfl rfl n0 λA69 c70=>?_;rw[<-L1];refine cZ (.c2 (.c2 (.c2 (.c2 (.c2 (Sel.skip (Sel.skip Sel.self))))))) (bA.drop 0) ?_;refine g6 ?_;refine inc (i+1) ?_;refine g3 ?_;exact jZ (i+1,(⟨⟨A66,V,[(verbS x1.it).1]++d.words.A⟩,d.J,d.D+(verbS x1.it).2,false⟩:PieceV)::st,_,_) v8 ⟨rfl,rfl,rfl,rfl,rfl,rfl,i6⟩ (.c4 (.c0 (.c2 (Sel.skip (Sel.skip (Sel.skip (Sel.skip Sel.self))))))) ⟨i7 (a.one hx0 (mO ae9 af0 (iB l7) ‹_› ‹_›) (twoN ‹_› ‹_›) ‹_›),d8,d9,e6,e7,e8,i6⟩
  refine jN (m:=(⟨⟨A66,V,[(verbS x1.it).1]++d.words.A⟩,d.J,d.D+(verbS x1.it).2,false⟩:PieceV)) rfl rfl rfl rfl rfl λb71=>?_;refine cZ (.c1 (.c1 (.c1 (.c1 (.c2 (Sel.skip (Sel.skip Sel.self))))))) (bA.drop 0) ?_;refine one ?_;refine jH hT (k:=((st.length+1)-1)) kT5 rfl rfl rfl rfl rfl rfl rfl rfl rfl o6 ?_;rw[rev_cut1];refine cZ (.c2 (.c2 (.c2 (.c2 (.c2 (Sel.skip (Sel.skip Sel.self))))))) (bA.drop 0) ?_;refine one ?_;refine jJ .head (bU kT1 rfl) rfl rfl rfl rfl rfl rfl rfl n0 λA72 c73=>?_;rw[<-L1];refine cZ (.c2 (.c2 (.c2 (.c2 (.c2 (Sel.skip (Sel.skip Sel.self))))))) (bA.drop 0) ?_;refine g6 ?_;refine inc (i+1) ?_;refine g3 ?_;exact jZ (i+1,(⟨⟨A66,V,[(verbS x1.it).1]++d.words.A⟩,d.J,d.D+(verbS x1.it).2,false⟩:PieceV)::st,_,_) v8 ⟨rfl,rfl,rfl,rfl,rfl,rfl,i6⟩ (.c4 (.c0 (.c2 (Sel.skip (Sel.skip (Sel.skip (Sel.skip Sel.self))))))) ⟨i7 (a.one hx0 (mO ae9 af0 (iB l7) ‹_› ‹_›) (twoN ‹_› ‹_›) ‹_›),d8,d9,e6,e7,e8,i6⟩
 refine g10 ?_;refine bJ (z':=((st.length:Nat):Int)) (congrArg L6 O8) ?_;refine g2 ?_;refine yQ (λhg174=>?_) λhg174=>?_
 .refine g25 ?_;have hr:=g.symm.trans ((a.done aa8 aa8).trans (not_one q9));subst hr;exact rs2 () trivial
 obtain⟨p,rfl⟩:=one_of (l:=st) l7;simp only[N7,O6,N8,List.sum_nil]at L;rw[show bOk [p]=[bQw p]from rfl];refine one ?_;refine ss (cA hT (k:=0) (cI kT1) rfl rfl rfl rfl rfl rfl rfl m9) ?_;refine one ?_;refine ss (j6 hT (dD.knows (cI kT1) (k:=0) (x:=p) rfl 2)) ?_;refine g4 ?_;refine lR (λhg182=>?_) λhg182=>?_
 .refine g17 ?_;have hr:=g.symm.trans ((a.done aa8 aa8).trans (if_pos (show most<p.D\/32<p.J by omega)));subst hr;exact rs2 () trivial
 refine one ?_;refine ss (cA hT (k:=0) (cI kT1) rfl rfl rfl rfl rfl rfl rfl m9) ?_;refine one ?_;refine ss (j6 hT (dD.knows (cI kT1) (k:=0) (x:=p) rfl 1)) ?_;refine g4 ?_;refine dP (λhc188=>?_) λhc188=>?_
 .refine g8 ?_;have hr:=g.symm.trans ((a.done aa8 aa8).trans (if_pos (show most<p.D\/32<p.J by omega)));subst hr;exact rs2 () trivial
 refine g5 ?_;refine ss (cA hT (k:=0) (cI kT1) rfl rfl rfl rfl rfl rfl rfl m9) ?_;refine one ?_;refine ss (j6 hT (dD.knows (cI kT1) (k:=0) (x:=p) rfl 0)) ?_;refine fW kT2 λhcap=>bR kT2 ?_;have hjl:=bIg p.words.A;have hok:=a.ok p m9;have hws:=vE p.words.A;have hok2:=hok.2;refine bD func132 (join_spec _ _ _ hcap l7 l7) rfl rfl .nil ⟨d7,i6⟩ λ_=>?_;refine g5 ?_;have hr:=g.symm.trans ((a.done aa8 aa8).trans (if_neg (show ¬(most<p.D\/32<p.J) by omega)));subst hr;exact rs2 () trivial
theorem yN:dQ []=false:=by decide+kernel
structure rW (p:ProgV):Prop where
 input: ∀x∈p.C.A,x.name.length<=140737488355328/\ ∀d∈x.B.A,d.name.length<=140737488355328/\ -9223372036854775808<=d.n/\d.n<=9223372036854775807
 line: ∀x∈p.G.A,x.name.length<=140737488355328/\ ∀it∈x.K.A,it.name.length<=140737488355328/\ ∀z∈it.nums.A,-9223372036854775808<=z/\z<=9223372036854775807
def qL (p:iL)(i:Nat)(out:Bs):Bs×Bool:=match oM (p.C.drop i) out with
 |(o,false)=>(o,false)
 |(o,true)=>gS p.G o
section
variable {p : iL} {i : Nat} {out : Bs} {x : hU} {t : Bs}
theorem rA(h:p.G=[]\/64<p.C.length+p.G.length):dU p=([],false):=by rw[dU,if_pos h]
theorem bRu(h: ¬(p.G=[]\/64<p.C.length+p.G.length)):dU p=qL p 0 []:=by rw[dU,if_neg h];rfl
theorem yY(hx:p.C[i]?=some x)(hn:inputS x=none):qL p i out=(out,false):=by rw[qL,hO hx,oM,hn]
theorem bYi(hx:p.C[i]?=some x)(hn:inputS x=some t):qL p i out=qL p (i+1) (out++(([105,110,32]++t)++[10])):=by rw[qL,hO hx,oM,hn];rfl
theorem bVh(hi:p.C.length<=i):qL p i out=gS (p.G.drop 0) out:=by rw[qL,K3 hi];rfl
end
section
variable {l : List nF} {i : Nat} {out : Bs} {x : nF} {t : Bs}
theorem bMb(hi:l.length<=i):gS (l.drop i) out=(out,true):=by rw[K3 hi];rfl
theorem bGu(hx:l[i]?=some x)(hi:i+1=l.length):l.drop i=[x]:=by rw[hO hx,K3 l7]
theorem bFs(hx:l[i]?=some x)(hi:i+1<l.length): ∃y r,l.drop (i+1)=y::r/\l.drop i=x::y::r:=by have:l[i+1]?=some l[i+1]:=F1 hi;exact⟨_,_,hO this,by rw[hO hx,hO this]⟩
theorem oU(hx:l[i]?=some x)(he:gX x.K (if i+1=l.length then 255 else 254)=none):gS (l.drop i) out=(out,false):=by
 have hl:=(F3.1 hx).1
 by_cases hi:i+1=l.length
 .rw[if_pos hi]at he;rw[bGu hx hi,gS,he]
 .rw[if_neg hi]at he;obtain⟨y,r,_,h2⟩:=bFs hx l7;rw[h2,gS,he];exact λh=>by cases h
theorem rL(hx:l[i]?=some x)(hi:i+1=l.length)(hn:x.name≠[]){t:Bs}(he:gX x.K 255=some t):gS (l.drop i) out=(out,false):=by rw[bGu hx hi,gS,he];simp[hn]
theorem mB(hx:l[i]?=some x)(hi:i+1<l.length)(hn:dQ x.name=false){t:Bs}(he:gX x.K 254=some t):gS (l.drop i) out=(out,false):=by
 obtain⟨y,r,_,h2⟩:=bFs hx hi;rw[h2,gS,he]
 .simp[hn]
 .exact λh=>by cases h
theorem bZh(hx:l[i]?=some x)(hi:i+1=l.length)(hn:x.name=[]){t:Bs}(he:gX x.K 255=some t):gS (l.drop i) out=gS (l.drop (i+1)) (out++(([111,117,116,32]++t)++[10])):=by rw[bGu hx hi,gS,he,bMb l7];simp[hn]
theorem bTm(hx:l[i]?=some x)(hi:i+1<l.length)(hn:dQ x.name=true){t:Bs}(he:gX x.K 254=some t):gS (l.drop i) out=gS (l.drop (i+1)) (out++(((x.name++[58,32])++t)++[10])):=by
 obtain⟨y,r,h1,h2⟩:=bFs hx hi;rw[h2,h1,gS,he]
 .simp[hn]
 .exact λh=>by cases h
end
theorem step_okp{st st':List gE}{x:fF}(hz: ∀z∈x.nums,-9223372036854775808<=z/\z<=9223372036854775807)(ho: ∀p∈st,p.words≠[]/\wsz p.words<=40*p.D)(h:jV st x=some st'): ∀p∈st',p.words≠[]/\wsz p.words<=40*p.D:=by
 unfold jV at h;split at h
 .cases hq:operandS x with
  |none=>rw[hq]at h;cases h
  |some q=>
   rw[hq]at h;injection h with h
   subst h;intro p a
   rcases E2.1 a with rfl|a
   .exact⟨(bFw hz hq).1,(bFw hz hq).2.1⟩
   .exact ho p a
 .split at h
  .cases h
  .rename_i hn;have f:(verbS x).1≠[]:=λe=>hn (.inr (.inr (.inr (.inr e))));obtain⟨g,_,b⟩:=bKq x;have b:=b f;unfold rX at h;split at h
   .split at h
    .rename_i p q r;injection h with h
     subst h;have hq:=ho q m9;obtain⟨d,c,_,_⟩:=left_ok (q:=⟨⟨none,0,q.words⟩,q.J,q.D,q.plain⟩) hq;have d:(leftS q).words≠[]:=d;have c:wsz (leftS q).words<=40*(leftS q).D:=c;have a:=ho p m9;intro y hy
     rcases E2.1 hy with rfl|hy
     .refine⟨m9,?_⟩;simp only[bQr,lS];omega
     .exact ho y ae1
    .cases h
   .split at h
    .rename_i p r;injection h with h
     subst h;have a:=ho p m9;intro y hy
     rcases E2.1 hy with rfl|hy
     .refine⟨m9,?_⟩;simp only[lS];omega
     .exact ho y ae1
    .cases h
theorem bZs: ∀{l:List fF} {st st':List gE},(∀x∈l,∀z∈x.nums,-9223372036854775808<=z/\z<=9223372036854775807)->(∀p∈st,p.words≠[]/\wsz p.words<=40*p.D)->gO l st=some st'-> ∀p∈st',p.words≠[]/\wsz p.words<=40*p.D
 |[],st,st',_,ho,h=>by
  simp[gO]at h;subst h;exact ho
 |x::r,st,st',hz,ho,h=>by
  rw[gO]at h
  cases h1:jV st x with
  |none=>rw[h1]at h;cases h
  |some s1=>
   rw[h1]at h;exact bZs (λy hy=>hz y ae1) (step_okp (hz x m9) ho h1) h
theorem bMp{l:List fF}{most:Nat}{t:Bs}(hz: ∀x∈l,∀z∈x.nums,-9223372036854775808<=z/\z<=9223372036854775807)(h:gX l most=some t):t.length<=40*most:=by
 unfold gX at h;split at h
 .cases h
 .split at h
  .rename_i p a;split at h
   .cases h
   .injection h with h
    subst h;have h1:=(bZs hz (λp a=>by simp at a) a p m9).2;have:=bIg p.words;omega
  .cases h
section
variable {x : InputV} {j : Nat} {d : kP} {t : Bs}
theorem bDv(h:dQ x.name=false\/4<x.B.A.length):inputS x.inp=none:=by rw[inputS,if_pos (show dQ x.inp.name=false\/4<x.inp.B.length from h.imp id λh=>by show 4<(x.B.A.map kP.sd).length;rw[O4];exact h)]
theorem bNz(h:dQ x.name=true)(h4: ¬4<x.B.A.length):inputS x.inp=mD ((x.B.A.map kP.sd).drop 0) x.name:=by
 rw[inputS,if_neg]
 .rfl
 .rintro(h'|h')
  .rw[show x.inp.name=x.name from rfl,h]at h';cases h'
  .rw[show x.inp.B=x.B.A.map kP.sd from rfl,O4]at h';exact h4 h'
theorem sd_at(hd:x.B.A[j]?=some d):(x.B.A.map kP.sd)[j]?=some d.sd:=by rw[K1,hd];rfl
theorem side_num(hd:x.B.A[j]?=some d)(hn:d.name=[]):mD ((x.B.A.map kP.sd).drop j) t=mD ((x.B.A.map kP.sd).drop (j+1)) (t++([32]++fC d.n)):=by rw[hO (sd_at hd),mD,if_pos (show d.sd.name=[]from hn)];rfl
theorem bYh(hd:x.B.A[j]?=some d)(hn:d.name≠[])(h0:d.n=0)(hb:dQ d.name=true):mD ((x.B.A.map kP.sd).drop j) t=mD ((x.B.A.map kP.sd).drop (j+1)) (t++([32]++d.name)):=by rw[hO (sd_at hd),mD,if_neg (show ¬d.sd.name=[]from hn),if_pos (show d.sd.n=0/\dQ d.sd.name=true from ⟨h0,hb⟩)];rfl
theorem bHs(hd:x.B.A[j]?=some d)(hn:d.name≠[])(h:d.n≠0\/dQ d.name=false):mD ((x.B.A.map kP.sd).drop j) t=none:=by
 rw[hO (sd_at hd),mD,if_neg (show ¬d.sd.name=[]from hn),if_neg];rintro⟨h1,h2⟩
 rcases h with h|h
 .exact h h1
 .rw[show d.sd.name=d.name from rfl,h]at h2;cases h2
theorem bTs(hj:x.B.A.length<=j):mD ((x.B.A.map kP.sd).drop j) t=some t:=by rw[K3 (by rw[O4];exact hj)];rfl
end
theorem mP{α β:Type}{f:α->β}{l:List α}{i:Nat}{x:α}(h:l[i]?=some x):(l.map f)[i]?=some (f x):=by rw[K1,h];rfl
theorem bDn{o:Option Bs}(h:o.isSome=true):o=some (o.getD []):=by
 cases o with
 |none=>cases h
 |some x=>rfl
theorem shower_built(r1 r2:Nat):prog.built 120 [(0,.map (some r1)),(1,.map (some r2))]=some #[.map (some r1),.map (some r2),.pointer none,.slice none 0 0]:=m0
theorem zE:(prog.info? 52).bind (·.zero)=some (.agg #[.string (bs []),k6 0]):=m0
theorem bWt(b r1 r2:Nat)(P:ProgV)(hP:rW P)(hl1:P.C.A.length<=140737488355328)(hl2:P.G.A.length<=140737488355328):cY prog 52 [.pointer (some ⟨b,0,none⟩),.agg #[j8 P.C,j8 P.G]] [.obj b (.cells [.map (some r1),.map (some r2),.pointer none,.slice none 0 0].toArray 120),oZ.row (.slice none 0 0) 5 []] [mapF r1 .u8 (uH false),mapF r2 .u8 (uH true),kG,jP.sl (j8 P.C) P.C.A,iW P.C.A,nM.sl (j8 P.G) P.G.A,mA P.G.A] (λ(_:(Option Addr×Nat)×Bool)=> .bool (dU P.pr).2) (λ(x:(Option Addr×Nat)×Bool)=>[.obj b (.cells [.map (some r1),.map (some r2),bWs x.2 b,.slice x.1.1 (dU P.pr).1.length x.1.2].toArray 120),oZ.row (.slice x.1.1 (dU P.pr).1.length x.1.2) 5 (dU P.pr).1]) (λ(x:(Option Addr×Nat)×Bool)=>[Fact.pure ((dU P.pr).1=[]->x.1.1=none)]):=by
 have hT:=kY;have hpl:P.pr.G.length=P.G.A.length:=O4 _;have R:P.pr.C.length=P.C.A.length:=O4 _;generalize o:dU P.pr=r;refine j5 func52 ntmps52 ?_;intro β hM;refine g2 ?_;refine j4 λY=>?_;refine g9 ?_;refine bJ (z':=(((P.G.A.length:Nat):Int)-1)) (yW l7 l7) ?_;refine g9 ?_;refine lR (λhg23=>?_) λhg23=>?_
 .refine g25 ?_;have hr:=o.symm.trans (rA w8);subst hr;exact rs1 ((_,_),false) ⟨i7 (λ_=>rfl),i6⟩
 refine g6 ?_;refine lR (λD=>?_) λD=>?_
 .refine g19 ?_;have hr:=o.symm.trans (rA w8);subst hr;exact rs1 ((_,_),false) ⟨i7 (λ_=>rfl),i6⟩
 refine g7 ?_;refine inc (64-P.C.A.length) ?_;refine g4 ?_;refine dP (λM=>?_) λM=>?_
 .refine g7 ?_;have hr:=o.symm.trans (rA w8);subst hr;exact rs1 ((_,_),false) ⟨i7 (λ_=>rfl),i6⟩
 refine g12 ?_;refine cF (ι:=Nat×Bs×Bool×Option Addr×Nat) [(0,_),(3,_),(5,_),(40,_),(41,_)] ⟨rfl,rfl,rfl,rfl,rfl,i6⟩ (λ⟨i,out,u,G,c⟩=>[(42,.int .i64 (i:Nat))]) (λ⟨i,out,u,G,c⟩=>[.obj b (.cells [.map (some r1),.map (some r2),bWs u b,.slice G out.length c].toArray 120),oZ.row (.slice G out.length c) 5 out]) (λ⟨i,out,u,G,c⟩=>[Fact.pure (i<=P.C.A.length/\dU P.pr=qL P.pr i out/\(out=[]->G=none)/\out.length<=1000*i)]) (λ⟨i,out,u,G,c⟩=>P.C.A.length-i) (0,[],false,none,0) ⟨rfl,i6⟩ (.c1 (.c1 .nil)) ⟨i7 (⟨l7,bRu ag6,λ_=>rfl,m9⟩),i6⟩ ?_;rintro⟨i,out,u,G,c⟩;dsimp only;refine bF d7 λd=>?_;refine g6 ?_;refine dP (λL=>?_) λL=>?_
 .refine g6 ?_;obtain⟨p,q⟩:=gx P.C.A i;refine ss (ixs i) ?_;refine ss (pF q 0) ?_;refine j1 mN λX=>?_;refine g5 ?_;have w:=hP.input p (j0 q);have hx0:P.pr.C[i]?=some p.inp:=mP q;refine bB (nS p) (Has.each e8 (j0 q)) ?_;refine g3 ?_;refine bD func86 (pP _ w.1) rfl rfl .nil ⟨e7,i6⟩ λ_=>?_;refine g2 ?_;refine bTi (λC=>?_) λC=>?_
  .refine g20 ?_;have hr:=o.symm.trans (d.2.1.trans (yY hx0 (bDv z7)));subst hr;exact rs1 ((_,_),u) ⟨i7 (d.2.2.1),i6⟩
  refine g7 ?_;refine dP (λK=>?_) λK=>?_
  .refine g12 ?_;have hr:=o.symm.trans (d.2.1.trans (yY hx0 (bDv z7)));subst hr;exact rs1 ((_,_),u) ⟨i7 (d.2.2.1),i6⟩
  refine g19 ?_;refine cF (ι:=Nat×Bs) [(0,_),(3,_),(5,_),(40,_),(41,_),(42,_),(51,_),(52,_),(53,_),(54,_),(59,_),(60,_)] ⟨rfl,rfl,rfl,rfl,rfl,rfl,rfl,rfl,rfl,rfl,rfl,rfl,i6⟩ (λ⟨j,text⟩=>[(8,.string (bs text)),(61,.int .i64 (j:Nat))]) (λ_=>[]) (λ⟨j,text⟩=>[Fact.pure (j<=p.B.A.length/\mD ((p.B.A.map kP.sd).drop j) text=inputS p.inp/\text.length<=16+30*j)]) (λ⟨j,text⟩=>p.B.A.length-j) (0,p.name) ⟨rfl,rfl,i6⟩ .nil ⟨i7 (⟨l7,(bNz ‹_› l7).symm,by have:=nC ‹dQ p.name=true›;omega⟩),i6⟩ ?_;rintro⟨j,text⟩;dsimp only;refine bF d7 λhinv11=>?_;refine g6 ?_;refine dP (λJ=>?_) λJ=>?_
  .refine g6 ?_;obtain⟨v,n⟩:=gx p.B.A j;refine ss (ixs j) ?_;refine ss (pF n 0) ?_;refine j1 zE λW=>?_;refine g5 ?_;have l:=w.2 v (j0 n);refine g7 ?_;refine fX (λe=>?_) λe=>?_
   .have e:v.name=([]:Bs):=eq_of_beq e;refine g4 ?_;have Q:=mI l.2.1 l.2.2;refine bD func90 (bIb _ l.2.1 l.2.2) rfl rfl .nil ⟨e8,i6⟩ λ_=>?_;refine ss (dJ rfl rfl rfl p7) ?_;refine ss (dJ rfl rfl rfl p7) ?_;refine g7 ?_;refine inc (j+1) ?_;refine g3 ?_;exact bk2 (j+1,_) ⟨i7 (⟨by dsimp only;omega,hinv11.2.1▸(side_num n ‹_›).symm,by have:=mI l.2.1 l.2.2;simp;omega⟩),i6⟩
   have e:v.name≠([]:Bs):=λh=>absurd (beq_iff_eq.2 h) (by rw[show(v.name==([]:Bs))=false from e];simp);refine g6 ?_;refine sD (λB=>?_) λB=>?_
   .refine g2 ?_;refine bD func86 (pP _ l.1) rfl rfl .nil ⟨e8,i6⟩ λ_=>?_;refine g4 ?_;refine fX (λhc75=>?_) λhc75=>?_
    .refine g4 ?_;refine ss (dJ rfl rfl rfl p7) ?_;refine ss (dJ rfl rfl rfl p7) ?_;refine g7 ?_;refine inc (j+1) ?_;refine g3 ?_;exact bk2 (j+1,_) ⟨i7 (⟨by dsimp only;omega,hinv11.2.1▸(bYh n ‹_› ‹_› ‹_›).symm,by have:=nC ‹dQ v.name=true›;simp;omega⟩),i6⟩
    refine g17 ?_;have hr:=o.symm.trans (d.2.1.trans (yY hx0 (hinv11.2.1.symm.trans (bHs n ‹_› n7))));subst hr;exact rs1 ((_,_),u) ⟨i7 (d.2.2.1),i6⟩
   refine g25 ?_;have hr:=o.symm.trans (d.2.1.trans (yY hx0 (hinv11.2.1.symm.trans (bHs n ‹_› n7))));subst hr;exact rs1 ((_,_),u) ⟨i7 (d.2.2.1),i6⟩
  refine g5 ?_;have hin:=hinv11.2.1.symm.trans (bTs l7);refine g3 ?_;refine bD func91 (bGj b r1 r2 u G c out ([105,110,32]:Bs) text q9) rfl rfl (.c1 (.c1 .nil)) i6 λ⟨G8,c9⟩=>?_;refine g5 ?_;refine inc (i+1) ?_;refine g3 ?_;exact dA (i+1,(out++((([105,110,32]:Bs)++text)++[10])),true,_,_) v8 ⟨rfl,i6⟩ ⟨rfl,rfl,rfl,rfl,rfl,i6⟩ (.c0 (.c0 (.c1 .nil))) ⟨i7 (⟨by dsimp only;omega,d.2.1.trans (bYi hx0 hin),λh=>by simp at h,by simp;omega⟩),i6⟩ (bA.drop 3)
 refine g15 ?_;have A:=d.2.1.trans (bVh l7);refine cF (ι:=Nat×Bs×Bool×Option Addr×Nat) [(0,_),(5,_),(95,_),(96,_)] ⟨rfl,rfl,rfl,rfl,i6⟩ (λ⟨i,out,u,G,c⟩=>[(97,.int .i64 (i:Nat))]) (λ⟨i,out,u,G,c⟩=>[.obj b (.cells [.map (some r1),.map (some r2),bWs u b,.slice G out.length c].toArray 120),oZ.row (.slice G out.length c) 5 out]) (λ⟨i,out,u,G,c⟩=>[Fact.pure (i<=P.G.A.length/\dU P.pr=gS (P.pr.G.drop i) out/\(out=[]->G=none)/\out.length<=1000*64+20000*i)]) (λ⟨i,out,u,G,c⟩=>P.G.A.length-i) (0,out,u,G,c) ⟨rfl,i6⟩ (.c0 (.c0 .nil)) ⟨i7 (⟨l7,A,d.2.2.1,l7⟩),i6⟩ ?_;rintro⟨i,out,u,G,c⟩;dsimp only;refine bF d7 λa=>?_;refine g6 ?_;refine dP (λI=>?_) λI=>?_
 .refine g7 ?_;obtain⟨x10,m⟩:=gx P.G.A i;refine ss (ixs i) ?_;refine ss (pF m 0) ?_;refine j1 uK λV=>?_;refine g5 ?_;have s:=hP.line x10 (j0 m);have hx0:P.pr.G[i]?=some x10.ln:=mP m;refine bB (bJc x10) (Has.each f5 (j0 m))<|bB (mU.sl (.slice x10.K.I x10.K.A.length x10.K.cap) x10.K.A) (Has.left d7)<|bB (nP x10.K.A) (Has.right d8) ?_;have O: ∀y∈(x10.K.A.map ItemV.it),∀z∈y.nums,-9223372036854775808<=z/\z<=9223372036854775807:=λy hy z N=>by obtain⟨it,h1,rfl⟩:=List.mem_map.1 hy;exact(s.2 it h1).2 z N
  refine g3 ?_;refine ss (dJ rfl rfl rfl p7) ?_;refine g12 ?_;refine gN (λt=>?_) λt=>?_
  .refine g11 ?_;refine bD func92 (bUb b r1 r2 (bWs u b) G out.length c _ _ x10.K.A 255 l7 s.2) rfl rfl (.c1 .nil) ⟨e8,e9,f3,d8,d7,i6⟩ λ_=>?_;refine g13 ?_;refine bTi (λk=>?_) λk=>?_
   .refine g34 ?_;have hr:=o.symm.trans (a.2.1.trans (show gS (P.pr.G.drop i) out=(out,false)from ab8));subst hr;exact rs1 ((_,_),u) ⟨i7 (a.2.2.1),i6⟩
   have hex:=bDn (by assumption:(gX (x10.K.A.map ItemV.it) 255).isSome=true);have E:=bMp O hex;refine g3 ?_;refine sD (λg=>?_) λg=>?_
   .refine g3 ?_;refine cG (λhg124=>?_) (λhg124=>?_)
    .have hg124:x10.name=([]:Bs):=eq_of_beq hg124;refine one ?_;refine bC (t':=false) m6 ?_;refine g6 ?_;refine lR (λf=>?_) λf=>?_
     .omega
     refine g15 ?_;refine bD func91 (bGj b r1 r2 u G c out ([111,117,116,32]:Bs) ((gX (x10.K.A.map ItemV.it) 255).getD []) q9) rfl rfl (.c0 (.c1 .nil)) i6 λ⟨G13,c14⟩=>?_;refine g5 ?_;refine inc (i+1) ?_;refine g3 ?_;exact dA (i+1,(out++((([111,117,116,32]:Bs)++((gX (x10.K.A.map ItemV.it) 255).getD []))++[10])),true,_,_) v8 ⟨rfl,i6⟩ ⟨rfl,rfl,rfl,rfl,i6⟩ (.c0 (.c0 (.c1 .nil))) ⟨i7 (⟨by dsimp only;omega,a.2.1.trans (bZh hx0 l7 ‹_› hex),λh=>by simp at h,by simp;omega⟩),i6⟩ (bA.drop 4)
    have hg124:x10.name≠([]:Bs):=λh=>absurd (beq_iff_eq.2 h) ak8;refine one ?_;refine bC (t':=true) m6 ?_;refine g27 ?_;have hr:=o.symm.trans (a.2.1.trans (show gS (P.pr.G.drop i) out=(out,false)from ab8));subst hr;exact rs1 ((_,_),u) ⟨i7 (a.2.2.1),i6⟩
   omega
  refine g8 ?_;refine bD func92 (bUb b r1 r2 (bWs u b) G out.length c _ _ x10.K.A 254 l7 s.2) rfl rfl (.c1 .nil) ⟨e8,e9,f3,d8,d7,i6⟩ λ_=>?_;refine g13 ?_;refine bTi (λk=>?_) λk=>?_
  .refine g34 ?_;have hr:=o.symm.trans (a.2.1.trans (show gS (P.pr.G.drop i) out=(out,false)from aa0));subst hr;exact rs1 ((_,_),u) ⟨i7 (a.2.2.1),i6⟩
  have hex:=bDn (by assumption:(gX (x10.K.A.map ItemV.it) 254).isSome=true);have E:=bMp O hex;refine g3 ?_;refine sD (λg=>?_) λg=>?_
  .omega
  refine g3 ?_;refine cG (λhg124=>?_) (λhg124=>?_)
  .have hg124:x10.name=([]:Bs):=eq_of_beq hg124;refine one ?_;refine bC (t':=true) m6 ?_;refine g27 ?_;have hr:=o.symm.trans (a.2.1.trans (show gS (P.pr.G.drop i) out=(out,false)from aa0));subst hr;exact rs1 ((_,_),u) ⟨i7 (a.2.2.1),i6⟩
  have hg124:x10.name≠([]:Bs):=λh=>absurd (beq_iff_eq.2 h) ak8;refine one ?_;refine bC (t':=false) m6 ?_;refine g6 ?_;refine lR (λf=>?_) λf=>?_
  .refine g2 ?_;refine bD func86 (pP _ s.1) rfl rfl .nil ⟨f3,i6⟩ λ_=>?_;refine g5 ?_;refine iQ (λhc137=>?_) λhc137=>?_
   .refine g12 ?_;have hr:=o.symm.trans (a.2.1.trans (show gS (P.pr.G.drop i) out=(out,false)from aa0));subst hr;exact rs1 ((_,_),u) ⟨i7 (a.2.2.1),i6⟩
   refine g2 ?_;have U:=nC (by assumption:dQ x10.name=true);refine g4 ?_;refine bD func91 (bGj b r1 r2 u G c out (x10.name++([58,32]:Bs)) ((gX (x10.K.A.map ItemV.it) 254).getD []) q9) rfl rfl (.c0 (.c1 .nil)) i6 λ⟨G15,c16⟩=>?_;refine g5 ?_;refine inc (i+1) ?_;refine g3 ?_;exact dA (i+1,(out++(((x10.name++([58,32]:Bs))++((gX (x10.K.A.map ItemV.it) 254).getD []))++[10])),true,_,_) v8 ⟨rfl,i6⟩ ⟨rfl,rfl,rfl,rfl,i6⟩ (.c0 (.c0 (.c1 .nil))) ⟨i7 (⟨by dsimp only;omega,a.2.1.trans (bTm hx0 l7 ‹_› hex),λh=>by simp at h,by have:=nC ‹dQ x10.name=true›;simp;omega⟩),i6⟩ (bA.drop 4)
  omega
 refine g11 ?_;have hr:=o.symm.trans (a.2.1.trans (bMb l7));subst hr;exact rs1 ((_,_),u) ⟨i7 (a.2.2.1),i6⟩
theorem bstrN_spec(b r1 r2:Nat)(p:Value)(g c:Nat)(out:Bs)(h0:out≠[])(hc:out.length<=c):cY prog 53 [.pointer (some ⟨b,2,none⟩)] [.obj b (.cells [.map (some r1),.map (some r2),p,.slice (some ⟨g,0,none⟩) out.length c].toArray 120),oZ.row (.slice (some ⟨g,0,none⟩) out.length c) 5 out] [] (λ(_:Unit)=> .string (bs out)) (λ_=>[]) (λ_=>[]):=by have hT:=kY;refine j5 func53 ntmps53 ?_;intro β hM;refine g6 ?_;refine cL _ _ [j9,u0,u5,u9,A00,u6,A02,A01,A03,A04,A73,A07] cN o0 (.c0 .nil) bA.self ?_;refine g4 ?_;refine stM rfl (bFq rfl rfl (.inr (by have:=N6.2 h0;omega))) ?_;refine g6 ?_;refine bPb kT1 rfl rfl rfl rfl u8Ptr m0 rfl rfl rfl h0 ?_;refine g5 ?_;exact rs1 () trivial
theorem bstrE_spec(b r1 r2:Nat)(p:Value)(c:Nat):cY prog 53 [.pointer (some ⟨b,2,none⟩)] [.obj b (.cells [.map (some r1),.map (some r2),p,.slice none 0 c].toArray 120)] [] (λ(_:Unit)=> .string (bs [])) (λ_=>[]) (λ_=>[]):=by have hT:=kY;refine j5 func53 ntmps53 ?_;intro β hM;refine g6 ?_;refine cL _ _ [j9,u0,u5,u9,A00,u6,A02,A01,A03,A04,A08,A07] cN o0 (.c0 .nil) bA.self ?_;refine g4 ?_;refine stM rfl (bFq rfl rfl (.inl rfl)) ?_;refine g5 ?_;refine stM rfl (sti_noString rfl rfl rfl) ?_;refine g4 ?_;exact rs1 () trivial
theorem swrite_spec(P:ProgV)(hP:rW P)(hl1:P.C.A.length<=140737488355328)(hl2:P.G.A.length<=140737488355328):cY prog 28 [.agg #[j8 P.C,j8 P.G]] [] [kG,jP.sl (j8 P.C) P.C.A,iW P.C.A,nM.sl (j8 P.G) P.G.A,mA P.G.A] (λ(_:Unit)=> .tuple #[.string (bs (dU P.pr).1),.bool (dU P.pr).2]) (λ_=>[]) (λ_=>[]):=by
 have hT:=kY;refine j5 func28 ntmps28 ?_;intro β hM;refine g2 ?_;refine j4 λf=>?_;refine g6 ?_;refine j2 func51 (bRy false) ⟨d7,i6⟩ λe=>?_;refine j2 func51 (bRy true) ⟨d8,i6⟩ λd=>?_;refine ss (j3 (shower_built _ _)) ?_;refine j4 λc=>?_;refine g7 ?_;refine bQ (t:=5) oZ ?_;refine bD func52 (bWt c e d P hP hl1 hl2) rfl rfl (.c1 (.c0 .nil)) ⟨d8,d7,d9,e6,e7,e8,e9,i6⟩ λ⟨⟨G5,c6⟩,u7⟩=>?_;refine bF d7 λa=>?_;dsimp only at a;refine g4 ?_
 rcases Decidable.em ((dU P.pr).1=[])with h0|h0
 .skip
  refine g4 ?_;have hg:=a h0;subst hg;rw[h0];refine bD func53 (bstrE_spec c e d (bWs u7 c) c6) rfl rfl (.c0 .nil) i6 λ_=>?_;refine g6 ?_;exact rs2 () i6 (he:=(by first|rfl|rw[h0]))
 skip
 refine g4 ?_;refine fW kT1 λb=>?_;refine uL kT1 (N6.2 h0) λg hg=>?_;subst hg;refine bD func53 (bstrN_spec c e d (bWs u7 c) g c6 (dU P.pr).1 h0 b) rfl rfl (.c0 (.c0 .nil)) i6 λ_=>?_;refine g6 ?_;exact rs2 () i6 (he:=(by first|rfl|rw[h0]))
theorem sRight_spec(P:ProgV)(hP:rW P)(hl1:P.C.A.length<=140737488355328)(hl2:P.G.A.length<=140737488355328):cY prog 12 [.agg #[j8 P.C,j8 P.G]] [] [kG,jP.sl (j8 P.C) P.C.A,iW P.C.A,nM.sl (j8 P.G) P.G.A,mA P.G.A] (λ(_:Unit)=> .bool (dU P.pr).2) (λ_=>[]) (λ_=>[]):=by have hT:=kY;refine j5 func12 ntmps12 ?_;intro β hM;refine g2 ?_;refine j4 λa=>?_;refine g6 ?_;refine j2 func28 (swrite_spec P hP hl1 hl2) ⟨d7,d8,d9,e6,e7,i6⟩ λ_=>?_;refine g14 ?_;exact rs1 () trivial
abbrev bSb:List (String×DataW Unit):=Rows.typeTypesRow.laid
theorem bDg{P:Program}{W:World}{name:String}{k:IntKind}{zs:List Int}{g:Nat}{t e:TypeId}{n:Nat}
  (hg:P.globalNamed name=some g) (hty:(P.globals[g]?).map (·.type)=some t) (ht:P.underlying t=some (.array n e)) (he:P.underlying e=some (.int k)) (hce:P.cellsOf e=1) (hct:P.cellsOf t=n)
  (h:Lib.VarReads P W name (Lib.tabData k zs)):Lib.TabIs P W name k zs:=by obtain⟨j,i,l,d,p,c,b,a,f⟩:=h;obtain rfl:=Option.some.inj (hg.symm.trans c);obtain rfl:=Option.some.inj (hty.symm.trans b);unfold Lib.TabIs;rw[a,<-Lib.cells_of_tab ht he hce hct f]
theorem var_lt{P:Program}{W:World}{name:String}{g:Nat}{cs:Array Value}(hg:P.globalNamed name=some g)(h:W.var? P name=some cs):g<W.heap.size:=by
 unfold World.var? at h;rw[hg]at h;simp only[Option.bind_some]at h
 cases hh:W.heap[g]? with
 |none=>rw[hh]at h;cases h
 |some o=>exact(Array.getElem?_eq_some_iff.1 hh).1
theorem cell_lt'{W:World}{g i:Nat}{v:Value}(h:W.cell? ⟨g,i,none⟩=some v):g<W.heap.size:=by
 unfold D0 at h
 cases hh:W.heap[g]? with
 |none=>rw[hh]at h;cases h
 |some o=>exact(Array.getElem?_eq_some_iff.1 hh).1
set_option maxRecDepth 1000000 in
theorem globF_of{W:World}(hL:laidMetH prog bSb W)(hsh:W.ShapedOpen prog):kG.p (λb=>b<W.heap.size) W:=by
 have a:laidMet prog bSb W:=hL;have h0:Lib.TabIs prog W "strings.asciiSpace" .u8 Lib.asciiSpaceTab:=bDg (t:=176) (e:=5) (n:=256) named0 m0 underlying176 underlying5 m0 m0
  (Lib.laidMet.reads a (tQ4 (.tail _ (.tail _ (.tail _ (.head _))))))
 have k:Lib.TabIs prog W "internal/strconv.uint64pow10" .u64 Lib.pow10Tab:=bDg (t:=288) (e:=221) (n:=20) named7 m0 underlying288 underlying221 m0 m0
  (Lib.laidMet.reads a (.tail _ (.tail _ (.head _))))
 obtain⟨m,h4⟩:=cell_of_shapedOpen_int (P:=prog) (g:=0) (t:=3) (zero:= #[.int .i64 0]) hsh (of_decide_eq_true m0) m0 rfl m0 m0 underlying3;obtain⟨w,r,q,o,p,j,i,c,s⟩:=Lib.laidMet.reads a (n:= "strconv.ErrRange") (tQ4 (.head _));have d:prog.globalNamed "strconv.ErrRange" =some 4:=m0
 obtain rfl:=Option.some.inj (d.symm.trans j);obtain rfl:181=r:=Option.some.inj ((show(prog.globals[4]?).map (·.type)=some 181 by kernel_rfl).symm.trans i);obtain⟨x,u,v,h,_,_⟩:=iface_of_trod underlying181 s
 have f:q= #[.iface u v]:=by cases q;simp only at h;rw[h]
 subst f;have l:W.cell? ⟨4,0,none⟩=some (.iface u v):=by simpa using World.var?_cell d c 0
 exact⟨⟨var_lt named0 h0,var_lt named7 k,cell_lt' h4,cell_lt' l⟩,h0,k,⟨m,h4⟩,_,l,.inr ⟨u,v,rfl⟩⟩
def flat1:DataW Unit->List Value
 |.lit (.int k n)=>[.int k n]
 |_=>[]
def flat2:DataW Unit->List Value
 |.agg l=>l.flatMap flat1
 |d=>flat1 d
def bYt:DataW Unit->Array Value
 |.agg l=>(l.flatMap flat2).toArray
 |_=> #[]
def whiteNums:List Int:=[9,13,1,32,133,101,160,5760,5600,8192,8202,1,8232,8233,1,8239,8287,48,12288,12288,1]
noncomputable def laidWorld (os:Os):World:=
 let N:=(Q6 prog os).heap.size
 let w0:=World.holding prog os ⟨#[.cells (whiteNums.map λz=>Value.int .u16 z).toArray 237,.cells #[.slice (some ⟨N,0,none⟩) 7 7,.slice none 0 0,.int .i64 2] 234,
  .cells #[.string ⟨#[118,97,108,117,101,32,111,117,116,32,111,102,32,114,97,110,103,101]⟩] 296,.cells #[.string ⟨#[105,110,118,97,108,105,100,32,115,121,110,116,97,120]⟩] 296],#[],[]⟩
 let put (h:Array Obj) (g:Nat) (cs:Array Value):Array Obj:=h.modify g fun
  |.cells _ t frozen=> .cells cs t frozen
  |o=>o
 let h1:=put w0.heap 8 (bYt Rows.laid_math_bits_deBruijn32tab)
 let h2:=put h1 9 (bYt Rows.laid_math_bits_deBruijn64tab)
 let h3:=put h2 7 (bYt Rows.laid_internal_strconv_uint64pow10)
 let h4:=put h3 6 (bYt Rows.laid_unicode_utf8_acceptRanges)
 let h5:=put h4 4 #[.iface 294 (.pointer (some ⟨N+2,0,none⟩))]
 let h6:=put h5 3 #[.iface 294 (.pointer (some ⟨N+3,0,none⟩))]
 let h7:=put h6 2 #[.pointer (some ⟨N+1,0,none⟩)]
 let h8:=put h7 1 (bYt Rows.laid_strings_asciiSpace)
 let h9:=put h8 5 (bYt Rows.laid_unicode_utf8_first)
 {w0 with heap:=h9}
noncomputable abbrev N0:Nat:=(Q6 prog default).heap.size
set_option maxRecDepth 1000000 in
theorem piece0(os:Os)(args:Array Value):LaidIn prog ((laidWorld os).forCall (λ_ _=>0) ⟨#[],args,[]⟩).memory [("math/bits.deBruijn32tab",Rows.laid_math_bits_deBruijn32tab)] [8]:=
 LaidIn.of_run [8] 10 m0 m0 m0 m0
set_option maxRecDepth 1000000 in
theorem piece1(os:Os)(args:Array Value):LaidIn prog ((laidWorld os).forCall (λ_ _=>0) ⟨#[],args,[]⟩).memory [("math/bits.deBruijn64tab",Rows.laid_math_bits_deBruijn64tab)] [9]:=
 LaidIn.of_run [9] 10 m0 m0 m0 m0
set_option maxRecDepth 1000000 in
theorem piece2(os:Os)(args:Array Value):LaidIn prog ((laidWorld os).forCall (λ_ _=>0) ⟨#[],args,[]⟩).memory [("internal/strconv.uint64pow10",Rows.laid_internal_strconv_uint64pow10)] [7]:=
 LaidIn.of_run [7] 10 m0 m0 m0 m0
set_option maxRecDepth 1000000 in
theorem piece3(os:Os)(args:Array Value):LaidIn prog ((laidWorld os).forCall (λ_ _=>0) ⟨#[],args,[]⟩).memory [("unicode/utf8.acceptRanges",Rows.laid_unicode_utf8_acceptRanges)] [6]:=
 LaidIn.of_run [6] 10 m0 m0 m0 m0
set_option maxRecDepth 1000000 in
theorem piece4(os:Os)(args:Array Value):LaidIn prog ((laidWorld os).forCall (λ_ _=>0) ⟨#[],args,[]⟩).memory [("strconv.ErrRange",Rows.laid_strconv_ErrRange)] [4,N0+2]:=
 LaidIn.of_run [4,N0+2] 10 m0 m0 m0 m0
set_option maxRecDepth 1000000 in
theorem piece5(os:Os)(args:Array Value):LaidIn prog ((laidWorld os).forCall (λ_ _=>0) ⟨#[],args,[]⟩).memory [("strconv.ErrSyntax",Rows.laid_strconv_ErrSyntax)] [3,N0+3]:=
 LaidIn.of_run [3,N0+3] 10 m0 m0 m0 m0
set_option maxRecDepth 1000000 in
theorem piece6(os:Os)(args:Array Value):LaidIn prog ((laidWorld os).forCall (λ_ _=>0) ⟨#[],args,[]⟩).memory [("unicode.White_Space",Rows.laid_unicode_White_Space)] [2,N0,N0+1]:=
 LaidIn.of_run [2,N0,N0+1] 10 m0 m0 m0 m0
set_option maxRecDepth 1000000 in
theorem piece7(os:Os)(args:Array Value):LaidIn prog ((laidWorld os).forCall (λ_ _=>0) ⟨#[],args,[]⟩).memory [("strings.asciiSpace",Rows.laid_strings_asciiSpace)] [1]:=
 LaidIn.of_run [1] 10 m0 m0 m0 m0
set_option maxRecDepth 1000000 in
theorem piece8(os:Os)(args:Array Value):LaidIn prog ((laidWorld os).forCall (λ_ _=>0) ⟨#[],args,[]⟩).memory [("unicode/utf8.first",Rows.laid_unicode_utf8_first)] [5]:=
 LaidIn.of_run [5] 10 m0 m0 m0 m0
set_option maxRecDepth 1000000 in
theorem laid_met(os:Os)(args:Array Value):laidMet prog bSb ((laidWorld os).forCall (λ_ _=>0) ⟨#[],args,[]⟩).memory:=
 (((((((((piece0 os args).append (piece1 os args) m0).append (piece2 os args) m0).append (piece3 os args) m0).append (piece4 os args) m0).append (piece5 os args) m0).append (piece6 os args) m0).append (piece7 os args) m0).append (piece8 os args) m0).met
theorem wf_i64{z:Int}(h:(Lit.int .i64 z).wf=true): -9223372036854775808<=z/\z<=9223372036854775807:=by simp[Lit.wf,IntKind.min,IntKind.max,IntKind.bits,IntKind.signed]at h;omega
theorem prog_of{a:ProgV}{S:Nat->Prop}{w:World}(h:(progTy.deep a).p S w):
  ((jP.sl (j8 a.C) a.C.A).p S w/\(iW a.C.A).p S w/\(nM.sl (j8 a.G) a.G.A).p S w/\(mA a.G.A).p S w)/\
   rW a/\a.C.A.length<=140737488355328/\a.G.A.length<=140737488355328:=by
 obtain⟨⟨⟨j,c⟩,g⟩,⟨⟨i,b⟩,f⟩,_⟩:=h;have c: ∀x∈a.C.A,(bKn.deep x).p S w:=c;have b: ∀x∈a.G.A,(bQz.deep x).p S w:=b;have g:a.C.A.length*48<=140737488355328:=g;have f:a.G.A.length*48<=140737488355328:=f;refine⟨⟨j,λx hx=>?_,i,λx hx=>?_⟩,⟨λx hx=>?_,λx hx=>?_⟩,l7,l7⟩
 .exact(c x hx).2.2.1.1.1
 .exact⟨(b x hx).2.2.1.1.1,λy hy=>by
   have:=(b x hx).2.2.1.1.2 y hy
   exact this.2.2.2.2.1.1.1⟩
 .refine⟨(c x hx).1,λd l=>?_⟩;have:=(c x hx).2.2.1.1.2 d l;exact⟨this.1,wf_i64 this.2.1⟩
 .refine⟨(b x hx).1,λit e=>?_⟩;have:=(b x hx).2.2.1.1.2 it e;refine⟨this.2.2.2.1,λz k=>?_⟩;exact wf_i64 (this.2.2.2.2.1.1.2 z k)
