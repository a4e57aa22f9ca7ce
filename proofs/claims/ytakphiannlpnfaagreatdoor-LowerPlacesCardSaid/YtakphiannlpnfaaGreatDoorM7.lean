/- Texts of one proof, one behind the other: ShowP, ParseP, BackL, BackP, BackE, BackC, BackD, BackR, BackN. -/
import Derived.Test.YtakphiannlpnfaaGreatDoorM6
namespace Go.Proofs.YtakphiannlpnfaaGreatDoor
open Go.RowKit
structure oA where
  name:Bs
  n:Int
  deriving Inhabited,DecidableEq
structure dQ where
  name:Bs
  at_:Int
  sides:List oA
  deriving Inhabited,DecidableEq
structure iD where
  name:Bs
  at_:Int
  items:List cM
  deriving Inhabited,DecidableEq
structure fT where
  inputs:List dQ
  lines:List iD
  deriving Inhabited,DecidableEq
def cZ:List Bs:=[[43],[45],[42],[37],[124],[109,105,110],[109,97,120],[61],[126],[60],[60,61],[62,61],[62],[97,110,100],[111,114],[112,111,119],[114,104,111],[116,97,107,101],[100,114,111,112],[99,97,116],[105,111,116,97],[115,104,97,112,101],[114,97,118,101,108],[114,101,118],[116,117,114,110]]
def bFk (two:Bool)(f:Int):List Bs→Bs→Bs
  | [],acc=>acc
  | s::r,acc=>bFk two f r (if fR s two !=0&&fR s two==f then s else acc)
def iU (two:Bool)(f:Int):Bs:=bFk two f cZ []
structure dY where
  words:List Bs
  nest:Nat
  tokens:Nat
  plain:Bool
  deriving Inhabited,DecidableEq
def operandS(it:cM):Option dY:=
  if it.how=2 then (if it.fn=0∧it.nums=[]∧cT it.name=true then some ⟨[it.name],0,1,true⟩ else none)
  else if it.fn≠0∨it.name≠[]∨it.nums=[]∨256<it.nums.length then none
  else some ⟨it.nums.map dT,0,it.nums.length,true⟩
def markS (how:Int):Bs:=if how=5 then [47] else if how=6 then [92] else if how=7 then [46] else []
def verbS (it:cM):Bs×Nat:=
  if it.how=3 then (iU false it.fn,1)
  else if iU true it.fn=[]∨it.how=4 then (iU true it.fn,1)
  else if 17<it.fn then ([],0)
  else (iU true it.fn++markS it.how,2)
def brkEnd:List Bs→List Bs
  | []=>[]
  | [w]=>[w++[41]]
  | w::r=>w::brkEnd r
def brk:List Bs→List Bs
  | []=>[]
  | w::r=>brkEnd (([40]++w)::r)
def leftS (p:dY):dY:=if p.plain then p else ⟨brk p.words,p.nest+1,p.tokens+2,p.plain⟩
def rK (how:Int):Bool:=how==4 || how==7
def pF (it:cM)(st:List dY):Option (List dY):=
  if rK it.how then match st with
    | p::q::r=>some (⟨(leftS q).words++(verbS it).1::p.words,max p.nest (leftS q).nest,p.tokens+(verbS it).2+(leftS q).tokens,false⟩::r)
    | _=>none
  else match st with
    | p::r=>some (⟨(verbS it).1::p.words,p.nest,p.tokens+(verbS it).2,false⟩::r)
    | []=>none
def gS (st:List dY)(it:cM):Option (List dY):=
  if it.how=1∨it.how=2 then (operandS it).map (· ::st)
  else if it.how<3∨7<it.how∨it.nums≠[]∨it.name≠[]∨(verbS it).1=[] then none
  else pF it st
def dZ:List cM→List dY→Option (List dY)
  | [],st=>some st
  | it::r,st=>match gS st it with
    | none=>none
    | some st'=>dZ r st'
def joinSp:List Bs→Bs
  | []=>[]
  | [w]=>w
  | w::r=>w++32::joinSp r
def fO (l:List cM)(most:Nat):Option Bs:=
  if most<l.length then none else match dZ l [] with
    | some [p]=>if most<p.tokens∨32<p.nest then none else some (joinSp p.words)
    | _=>none
def jZ:List oA→Bs→Option Bs
  | [],t=>some t
  | d::r,t=>if d.name=[] then jZ r (t++([32]++dT d.n)) else if d.n=0∧cT d.name=true then jZ r (t++([32]++d.name)) else none
def mD (x:dQ):Option Bs:=if cT x.name=false∨4<x.sides.length then none else jZ x.sides x.name
def gZ:List dQ→Bs→Bs×Bool
  | [],o=>(o,true)
  | x::r,o=>match mD x with
    | none=>(o,false)
    | some t=>gZ r (o++(([105,110,32]++t)++[10]))
def dN:List iD→Bs→Bs×Bool
  | [],o=>(o,true)
  | [l],o=>match fO l.items 255 with
    | none=>(o,false)
    | some t=>if l.name≠[] then (o,false) else (o++(([111,117,116,32]++t)++[10]),true)
  | l::r,o=>match fO l.items 254 with
    | none=>(o,false)
    | some t=>if cT l.name=false then (o,false) else dN r (o++(((l.name++[58,32])++t)++[10]))
def cI (p:fT):Bs×Bool:=
  if p.lines=[]∨64<p.inputs.length+p.lines.length then ([],false) else match gZ p.inputs [] with
    | (o,false)=>(o,false)
    | (o,true)=>dN p.lines o
def mZ (p:fT):Bs×Int:=if (cI p).2=false then ([],50) else if 65536<(cI p).1.length then ([],30) else ((cI p).1,0)
def nJ (two:Bool)(f:Int):List Bs→Bs
  | []=>[]
  | s::r=>if fR s two !=0&&fR s two==f then s else nJ two f r
structure wT where
  s:Bs
  plain:Bool
  tokens:Nat
  nest:Nat
  deriving Inhabited,DecidableEq
def numsR:List Int→Bs→Bs
  | [],s=>s
  | n::r,s=>numsR r ((s++[32])++dT n)
def numsR0:List Int→Bs
  | []=>[]
  | n::r=>numsR r (dT n)
def rT:wT:=⟨[],false,0,0⟩
def operandR(x:cM):wT:=
  if x.fn≠0 then rT
  else if x.how=2 then (if x.nums≠[]∨cT x.name=false then rT else ⟨x.name,true,1,0⟩)
  else if x.name≠[]∨256<x.nums.length then rT
  else ⟨numsR0 x.nums,true,x.nums.length,0⟩
def brkR (p:wT):wT:=if p.plain then p else ⟨([40]++p.s)++[41],false,p.tokens+2,p.nest+1⟩
def takesB(f:Int):Bool:=decide (1≤f∧f≤17∧f≠16)
def verbR (x:cM):Bs×Nat:=
  let w:=nJ (x.how !=3) x.fn cZ
  if w=[]∨x.how≠3∧x.how≠4∧takesB x.fn=false then ([],1) else (w++markS x.how,if 5≤x.how then 2 else 1)
def bLj (l:List wT)(x:cM):Option (List wT):=
  if x.how=1∨x.how=2 then (if 0<(operandR x).tokens then some (operandR x::l) else none)
  else if x.how<3∨7<x.how∨x.nums≠[]∨x.name≠[] then none
  else if (verbR x).1=[] then none
  else if rK x.how then match l with
    | p::q::r=>some (⟨(((brkR q).s++[32])++(verbR x).1++[32])++p.s,false,(brkR q).tokens+(verbR x).2+p.tokens,max (brkR q).nest p.nest⟩::r)
    | _=>none
  else match l with
    | p::r=>some (⟨((verbR x).1++[32])++p.s,false,(verbR x).2+p.tokens,p.nest⟩::r)
    | []=>none
def bFm:List cM→List wT→Option (List wT)
  | [],st=>some st
  | it::r,st=>match bLj st it with
    | none=>none
    | some st'=>bFm r st'
def hitB (two:Bool)(f:Int)(s:Bs):Bool:=fR s two !=0&&fR s two==f
theorem bLq(two:Bool)(f:Int): ∀l:List Bs,l.Pairwise (fun s t=>fR s two=0∨fR s two≠fR t two)→ ∀acc,bFk two f l acc=if l.any (hitB two f) then nJ two f l else acc
  | [],_,acc=>rfl
  | s::r,h,acc=>by
    obtain⟨h1,h2⟩:=List.pairwise_cons.1 h;rw [bFk,nJ,bLq two f r h2]
    by_cases hs:(fR s two !=0&&fR s two==f)=true
    · have hn:r.any (hitB two f)=false:=by
        rw [List.any_eq_false];intro t ht hb;simp only [hitB,Bool.and_eq_true,bne_iff_ne,beq_iff_eq] at hb hs
        rcases h1 t ht with h | h
        · exact hs.1 h
        · exact h (hs.2.trans hb.2.symm)
      simp [hs,hn,hitB]
    · simp only [Bool.not_eq_true] at hs;simp [hs,hitB]
theorem bKf(two:Bool)(f:Int): ∀l:List Bs,l.any (hitB two f)=false→nJ two f l=[]
  | [],_=>rfl
  | s::r,h=>by
    rw [List.any_cons,Bool.or_eq_false_iff] at h;rw [nJ];have:(fR s two !=0&&fR s two==f)=false:=h.1;rw [this,bKf two f r h.2];rfl
theorem wP(two:Bool)(f:Int):nJ two f cZ=iU two f:=by
  unfold iU;rw [bLq two f cZ (by cases two<;>decide)];cases h:cZ.any (hitB two f)
  · rw [bKf two f _ h];rfl
  · rfl
theorem bRx(two:Bool)(f:Int): ∀l:List Bs,nJ two f l≠[]→nJ two f l∈l∧hitB two f (nJ two f l)=true
  | [],h=>absurd rfl h
  | s::r,h=>by
    rw [nJ] at h⊢
    by_cases hs:(fR s two !=0&&fR s two==f)=true
    · rw [if_pos hs];exact⟨List.mem_cons_self ..,hs⟩
    · rw [if_neg hs] at h⊢;obtain⟨h1,h2⟩:=bRx two f r h;exact⟨List.mem_cons_of_mem _ h1,h2⟩
theorem bGv{two:Bool}{f:Int}(h:iU two f≠[]):iU two f∈cZ∧fR (iU two f) two=f∧f≠0:=by
  rw [←wP] at h⊢;obtain⟨h1,h2⟩:=bRx two f _ h;simp only [hitB,Bool.and_eq_true,bne_iff_ne,beq_iff_eq] at h2;exact⟨h1,h2.2,fun e=>h2.1 (h2.2.trans e)⟩
theorem bRm{f:Int}(h:iU true f≠[]):takesB f=decide (f≤17):=by
  obtain⟨h1,h2,h3⟩:=bGv h;have key: ∀s∈cZ,fR s true≠0→takesB (fR s true)=decide (fR s true≤17):=o8
  rw [←h2] at h3⊢;have:=key _ h1 (by rw [h2] at h3⊢;exact h3);rw [h2] at this⊢;exact this
theorem jM(w:Bs){r:List Bs}(h:r≠[]):joinSp (w::r)=w++32::joinSp r:=by
  cases r with
  | nil=>exact absurd rfl h
  | cons x r=>rfl
theorem bAw: ∀(a b:List Bs),a≠[]→b≠[]→joinSp (a++b)=joinSp a++32::joinSp b
  | [],_,h,_=>absurd rfl h
  | [w],b,_,h=>jM w h
  | w::x::a,b,_,h=>by
    have:=bAw (x::a) b o3 h;rw [List.cons_append,jM w o3,this,jM w o3];simp
theorem bSw{l:List Bs}(h:l≠[]):brkEnd l≠[]:=by
  match l,h with
  | [w],_=>simp [brkEnd]
  | w::x::r,_=>simp [brkEnd]
theorem bIf: ∀l:List Bs,l≠[]→joinSp (brkEnd l)=joinSp l++[41]
  | [],h=>absurd rfl h
  | [w],_=>rfl
  | w::x::r,_=>by
    show joinSp (w::brkEnd (x::r))=_;rw [jM w (bSw o3),bIf (x::r) o3,jM w o3];simp
theorem join_brk{l:List Bs}(h:l≠[]):joinSp (brk l)=([40]++joinSp l)++[41]:=by
  cases l with
  | nil=>exact absurd rfl h
  | cons w r=>
    show joinSp (brkEnd _)=_;rw [bIf _ o3]
    cases r with
    | nil=>simp [joinSp]
    | cons x r=>simp [joinSp]
theorem brk_ne{l:List Bs}(h:l≠[]):brk l≠[]:=by
  cases l with
  | nil=>exact absurd rfl h
  | cons w r=>exact bSw o3
theorem bMw: ∀(l:List Int) (s:Bs),numsR l s=match l with
    | []=>s
    | _=>s++32::joinSp (l.map dT)
  | [],s=>rfl
  | n::r,s=>by
    rw [numsR,bMw r]
    cases r with
    | nil=>simp [joinSp]
    | cons m r=>simp [joinSp]
theorem bIk(l:List Int):numsR0 l=joinSp (l.map dT):=by
  cases l with
  | nil=>rfl
  | cons n r=>
    rw [numsR0,bMw]
    cases r with
    | nil=>rfl
    | cons m r=>rfl
structure Like (p:wT) (q:dY):Prop where
  s:p.s=joinSp q.words
  plain:p.plain=q.plain
  tokens:p.tokens=q.tokens
  nest:p.nest=q.nest
  ne:q.words≠[]
theorem Like.brk{p:wT}{q:dY}(h:Like p q):Like (brkR p) (leftS q):=by
  unfold brkR leftS;rw [h.plain];cases hq:q.plain
  · simp only [Bool.false_eq_true,if_false];exact⟨by rw [h.s,join_brk h.ne],o3,by simp [h.tokens],by simp [h.nest],brk_ne h.ne⟩
  · simp only [if_true];exact h
theorem operand_like(x:cM)(hx:x.how=1∨x.how=2):match operandS x with
    | none=> ¬0<(operandR x).tokens
    | some q=>0<(operandR x).tokens∧Like (operandR x) q:=by
  unfold operandS operandR
  rcases hx with hx | hx
  · have h2:x.how≠2:=n0
    simp only [h2,if_false]
    by_cases hf:x.fn=0
    · by_cases hn:x.name=[]
      · by_cases h0:x.nums=[]
        · simp [hf,hn,h0]
        · by_cases h256:256<x.nums.length
          · simp [hf,hn,h0,h256,rT]
          · have hl:0<x.nums.length:=List.length_pos_iff.2 h0;simp only [hf,hn,h0,h256,ne_eq,not_true_eq_false,or_self,if_false];exact⟨hl,bIk _,rfl,rfl,rfl,by simpa using h0⟩
      · simp [hf,hn,rT]
    · simp [hf,rT]
  · simp only [hx,if_true]
    by_cases hf:x.fn=0
    · by_cases h0:x.nums=[]
      · cases hn:cT x.name
        · simp [hf,h0,rT]
        · simp only [hf,h0,ne_eq,not_true_eq_false,and_self,or_self,Bool.true_eq_false,if_true,if_false];exact⟨o8,rfl,rfl,rfl,rfl,o3⟩
      · simp [hf,h0,rT]
    · simp [hf,rT]
theorem verb_like{x:cM}(h3:3≤x.how)(h7:x.how≤7):(verbS x).1=(verbR x).1∧((verbS x).1≠[]→(verbS x).2=(verbR x).2):=by
  unfold verbS verbR;rw [wP]
  by_cases e3:x.how=3
  · have hb:(x.how !=3)=false:=by simp [e3]
    simp only [e3,if_true,ne_eq,not_true_eq_false,false_and,or_false];rw [show((3:Int) !=3)=false from rfl]
    by_cases ht:iU false x.fn=[]
    · simp [ht]
    · simp [ht,markS]
  · have hb:(x.how !=3)=true:=by simp [e3]
    simp only [hb,e3,if_false,ne_eq,not_false_eq_true,true_and]
    by_cases ht:iU true x.fn=[]
    · simp [ht]
    · rw [bRm ht]
      by_cases e4:x.how=4
      · simp [ht,e4,markS]
      · have h5:5≤x.how:=n0
        by_cases h17:17<x.fn
        · have: ¬x.fn≤17:=n0
          simp [ht,e4,h17,this]
        · have:x.fn≤17:=n0
          simp [ht,e4,h17,this,h5]
inductive tT:List wT→List dY→Prop
  | nil:tT [] []
  | cons {p q a b}:Like p q→tT a b→tT (p::a) (q::b)
theorem tT.len{a:List wT}{b:List dY}(h:tT a b):a.length=b.length:=by induction h<;>simp_all
def OptLike:Option (List wT)→Option (List dY)→Prop
  | none,none=>True
  | some a,some b=>tT a b
  | _,_=>False
theorem step_like{a:List wT}{b:List dY}(h:tT a b)(x:cM):OptLike (bLj a x) (gS b x):=by
  unfold bLj gS
  by_cases ho:x.how=1∨x.how=2
  · have:=operand_like x ho;simp only [ho,if_true]
    cases hs:operandS x with
    | none=>rw [hs] at this;simp only [Option.map_none];rw [if_neg this];trivial
    | some q=>rw [hs] at this;simp only [Option.map_some];rw [if_pos this.1];exact .cons this.2 h
  · simp only [ho,if_false]
    by_cases hbad:x.how<3∨7<x.how∨x.nums≠[]∨x.name≠[]
    · rw [if_pos hbad,if_pos (by rcases hbad with h | h | h | h<;>simp [h])];trivial
    · rw [if_neg hbad];have hb':=hbad;simp only [not_or] at hb';obtain⟨v1,v2⟩:=verb_like (x:=x) n0 n0
      by_cases hv:(verbS x).1=[]
      · rw [if_pos (show(verbR x).1=[] by rw [←v1];exact hv),if_pos (.inr (.inr (.inr (.inr hv))))];trivial
      · have hv': ¬(verbR x).1=[]:=by rw [←v1];exact hv
        have hneg: ¬(x.how<3∨7<x.how∨x.nums≠[]∨x.name≠[]∨(verbS x).1=[]):=by
          rintro(h | h | h | h | h)
          · exact hbad (.inl h)
          · exact hbad (.inr (.inl h))
          · exact hbad (.inr (.inr (.inl h)))
          · exact hbad (.inr (.inr (.inr h)))
          · exact hv h
        rw [if_neg hneg,if_neg hv'];unfold pF;cases ht:rK x.how
        · simp only [Bool.false_eq_true,if_false]
          cases h with
          | nil=>trivial
          | cons hp hr=>
            refine .cons ⟨?_,rfl,?_,hp.nest,o3⟩ hr
            · simp only;rw [jM _ hp.ne,hp.s,v1];simp
            · simp only;rw [hp.tokens,v2 hv];omega
        · simp only [if_true]
          cases h with
          | nil=>trivial
          | cons hp hr=>
            cases hr with
            | nil=>trivial
            | cons hq hr=>
              have hb:=hq.brk;refine .cons ⟨?_,rfl,?_,?_,o3⟩ hr
              · simp only;rw [bAw _ _ hb.ne o3,jM _ hp.ne,hp.s,hb.s,v1];simp
              · simp only;rw [hp.tokens,hb.tokens,v2 hv];omega
              · simp only;rw [hp.nest,hb.nest,Nat.max_comm]
theorem bMo: ∀(l:List cM) {a:List wT} {b:List dY},tT a b→OptLike (bFm l a) (dZ l b)
  | [],_,_,h=>h
  | x::r,a,b,h=>by
    have:=step_like h x;rw [bFm,dZ];cases h1:bLj a x<;>cases h2:gS b x<;>rw [h1,h2] at this
    · trivial
    · exact this.elim
    · exact this.elim
    · exact bMo r this
theorem step_tokens{st st':List dY}{x:cM}(h:gS st x=some st'):(st.map (·.tokens)).sum+1≤(st'.map (·.tokens)).sum:=by
  unfold gS at h;split at h
  · unfold operandS at h;split at h
    · split at h
      · simp at h;subst h;simp;omega
      · simp at h
    · split at h
      · simp at h
      · rename_i hn;simp at h;subst h;have:0<x.nums.length:=List.length_pos_iff.2 fun e=>hn ah5;simp;omega
  · split at h
    · cases h
    · have hv:1≤(verbS x).2∨(verbS x).1=[]:=by
        unfold verbS;split
        · exact .inl o3
        · split
          · exact .inl o3
          · split
            · exact .inr rfl
            · exact .inl o3
      rename_i hn;have hv:1≤(verbS x).2:=hv.resolve_right fun e=>hn ah5;unfold pF at h;split at h
      · split at h
        · rename_i p q r;simp at h;subst h;have:q.tokens≤(leftS q).tokens:=by unfold leftS;split<;>simp
          simp only [List.map_cons,List.sum_cons];omega
        · cases h
      · split at h
        · simp at h;subst h;simp;omega
        · cases h
theorem bEb: ∀{l:List cM} {st st':List dY},dZ l st=some st'→(st.map (·.tokens)).sum+l.length≤(st'.map (·.tokens)).sum
  | [],st,st',h=>by simp [dZ] at h;subst h;simp
  | x::r,st,st',h=>by
    rw [dZ] at h
    cases h1:gS st x with
    | none=>rw [h1] at h;cases h
    | some s1=>
      rw [h1] at h;have:=bEb h;have:=step_tokens h1;simp only [List.length_cons];omega
def jK.sd (x:jK):oA:=⟨x.name,x.n⟩
def InputV.inp(x:InputV):dQ:=⟨x.name,x.at_,x.sides.list.map jK.sd⟩
def LineV.ln(x:LineV):iD:=⟨x.name,x.at_,x.items.list.map ItemV.it⟩
def ProgV.pr(x:ProgV):fT:=⟨x.inputs.list.map InputV.inp,x.lines.list.map LineV.ln⟩
def lG:List TokV→List oA→List oA×Flt
  | [],acc=>(acc,(0,0))
  | t::r,acc=>
    if t.kind≠2∧(t.kind≠1∨cT t.word=false) then (acc,(t.at_,41))
    else if acc.length=4 then (acc,(t.at_,45)) else lG r (acc++[⟨t.word,t.n⟩])
section
variable (toks : List TokV) (e : Int)
def kC:dQ×Flt:=
  if toks.length=1 then (⟨(bG toks 1).word,atP toks 1 e,[]⟩,(atP toks 1 e,42))
  else if (bG toks 1).kind≠1∨cT (bG toks 1).word=false then (⟨(bG toks 1).word,atP toks 1 e,[]⟩,(atP toks 1 e,41))
  else (⟨(bG toks 1).word,atP toks 1 e,(lG (toks.drop 2) []).1⟩,(lG (toks.drop 2) []).2)
def isW (t:TokV)(w:Bs):Bool:=t.kind==1&&t.word==w
def rV (name:Bs)(k:Nat):iD×Flt:=(⟨name,(bG toks 0).at_,(nA toks e k).1⟩,(nA toks e k).2)
def fP (p:fT)(n:Nat)(over:Bool):fT×Flt:=
  if n=64 then (p,(atP toks 0 e,45))
  else if 256<toks.length then (p,(atP toks 256 e,45))
  else if over=true∨isW (bG toks 0) [105,110]=true∧p.lines≠[] then (p,(atP toks 0 e,40))
  else if isW (bG toks 0) [105,110]=true then (⟨p.inputs++[(kC toks e).1],p.lines⟩,(kC toks e).2)
  else if isW (bG toks 0) [111,117,116]=true then (⟨p.inputs,p.lines++[(rV toks e [] 1).1]⟩,(rV toks e [] 1).2)
  else if (bG toks 0).kind≠1∨cT (bG toks 0).word=false then (p,(atP toks 0 e,40))
  else if (bG toks 1).kind≠3∨(bG toks 1).word≠[58] then (p,(atP toks 1 e,42))
  else (⟨p.inputs,p.lines++[(rV toks e (bG toks 0).word 2).1]⟩,(rV toks e (bG toks 0).word 2).2)
end
def dC (toks:List TokV):List TokV:=toks.takeWhile fun t=>t.kind !=4
def bPs (toks:List TokV)(len:Int):Int:=atP toks (dC toks).length len
def pH (p:fT):Bool:=match p.lines.getLast? with
  | none=>false
  | some l=>l.name==[]
def sD (len:Int):Nat→List TokV→fT→Nat→Bool→fT×Flt
  | 0,_,_,_,_=>(⟨[],[]⟩,(0,0))
  | f+1,toks,p,n,over=>
    if toks=[] then (if over=true then (p,(0,0)) else (⟨[],[]⟩,(len,42)))
    else if dC toks=[] then sD len f (toks.drop 1) p n over
    else if mJ (fP (dC toks) (bPs toks len) p n over).2 then
      sD len f (toks.drop ((dC toks).length+1)) (fP (dC toks) (bPs toks len) p n over).1 (n+1) (pH (fP (dC toks) (bPs toks len) p n over).1)
    else (⟨[],[]⟩,(fP (dC toks) (bPs toks len) p n over).2)
def hO (text:Bs):fT×Flt:=
  if mJ (fW text).2 then sD text.length ((fW text).1.length+1) (fW text).1 ⟨[],[]⟩ 0 false else (⟨[],[]⟩,(fW text).2)
def bBi (r:fT×Flt)(len:Int)(toks:List TokV)(p:fT)(n:Nat)(over:Bool):Prop:= ∃f,toks.length+1≤f∧sD len f toks p n over=r
section
variable {r : fT × Flt} {len : Int} {toks : List TokV} {p : fT} {n : Nat} {over : Bool}
theorem p_end(h:bBi r len toks p n over)(h0:toks=[]):r=if over=true then (p,(0,0)) else (⟨[],[]⟩,(len,42)):=by
  obtain⟨f,hf,h⟩:=h
  obtain⟨f,rfl⟩: ∃g,f=g+1:=⟨f-1,n0⟩
  rw [sD,if_pos h0] at h;exact h.symm
theorem p_skip(h:bBi r len toks p n over)(h0:toks≠[])(h1:dC toks=[]):bBi r len (toks.drop 1) p n over:=by
  obtain⟨f,hf,h⟩:=h;have:0<toks.length:=List.length_pos_iff.2 h0
  obtain⟨f,rfl⟩: ∃g,f=g+1:=⟨f-1,n0⟩
  rw [sD,if_neg h0,if_pos h1] at h;exact⟨f,by rw [List.length_drop];omega,h⟩
theorem bOw(h:bBi r len toks p n over)(h0:toks≠[])(h1:dC toks≠[]){q:fT}{f:Flt}(hq:fP (dC toks) (bPs toks len) p n over=(q,f)):
    (mJ f=true→bBi r len (toks.drop ((dC toks).length+1)) q (n+1) (pH q))∧(mJ f=false→r=(⟨[],[]⟩,f)):=by
  obtain⟨g,hg,h⟩:=h;have:0<toks.length:=List.length_pos_iff.2 h0
  obtain⟨g,rfl⟩: ∃k,g=k+1:=⟨g-1,n0⟩
  rw [sD,if_neg h0,if_neg h1,hq] at h;refine⟨fun hi=>?_,fun hi=>?_⟩
  · rw [if_pos hi] at h;exact⟨g,by rw [List.length_drop];omega,h⟩
  · rw [if_neg ag2] at h;exact h.symm
end
structure bCz (t:TokV):Prop where
  word:t.word.length≤16
  lo: -9223372036854775808≤t.n
  hi:t.n≤9223372036854775807
theorem bLv{neg:Bool}{ds:Bs}{v:Int}(h:rG neg ds=some v): -9223372036854775808≤v∧v≤9223372036854775807:=by
  unfold rG at h;split at h
  · split at h
    · injection h with h
      omega
    · cases h
  · split at h
    · injection h with h
      omega
    · cases h
theorem numTok_ok{b:UInt8}{r:Bs}{t:TokR}(h:gW b r= .ok (some t)):t.2.1=[]∧ -9223372036854775808≤t.2.2.1∧t.2.2.1≤9223372036854775807:=by
  unfold gW at h;dsimp only at h
  by_cases hb:(b==95)=true
  · simp only [hb,if_true] at h;split at h
    · cases h
    · split at h
      · cases h
      · rename_i hv;simp only [Except.ok.injEq,Option.some.injEq] at h;subst h;exact⟨rfl,bLv hv⟩
  · simp only [hb,Bool.false_eq_true,if_false] at h;split at h
    · cases h
    · split at h
      · cases h
      · rename_i hv;simp only [Except.ok.injEq,Option.some.injEq] at h;subst h;exact⟨rfl,bLv hv⟩
theorem bSj{s:Bs}{k v:Int}{wd:Bs}{m:Nat}(h:fE s= .ok (k,wd,v,m)):wd.length≤16∧ -9223372036854775808≤v∧v≤9223372036854775807:=by
  cases s with
  | nil=>cases h
  | cons b r=>
    simp only [fE] at h;split at h
    · cases h;decide
    · split at h
      · split at h
        · cases h
        · cases h;rename_i h16
          have:=(List.length_take_le (runB mG (b::r)) (b::r))
          exact⟨n0,o8,o8⟩
      · split at h
        · cases h
        · rename_i t' ht;simp only [Except.ok.injEq] at h;subst h;obtain⟨h1,h2,h3⟩:=numTok_ok ht;simp only at h1 h2 h3;exact⟨by rw [h1];decide,h2,h3⟩
        · split at h
          · cases h
          · cases h
            have h2:lV (b::r)≤2:=by
              simp only [lV];split
              · omega
              · split<;>omega
            have:=(List.length_take_le (lV (b::r)) (b::r))
            exact⟨n0,o8,o8⟩
theorem bEd: ∀(f i:Nat) (s:Bs) (out:List Tok),(∀t∈out,bCz t)→ ∀t∈(lexGo f i s out).1,bCz t
  | 0,_,_,out,h=>h
  | _+1,_,[],out,h=>h
  | f+1,i,b::r,out,h=>by
    unfold lexGo;split
    · exact bEd f _ _ _ h
    · split
      · exact bEd f _ _ _ h
      · split
        · exact fun t ht=>by simp at ht
        · rename_i ht;refine bEd f _ _ _ fun t hm=>?_
          rcases List.mem_append.1 hm with hm | hm
          · exact h t hm
          · rw [List.mem_singleton.1 hm];obtain⟨h1,h2,h3⟩:=bSj ht;exact⟨h1,h2,h3⟩
theorem lex_ok(s:Bs): ∀t∈(fW s).1,bCz t:=by
  unfold fW;split
  · exact fun t ht=>by simp at ht
  · exact bEd _ _ _ _ fun t ht=>by simp at ht
theorem peek_ok{toks:List TokV}(h: ∀t∈toks,bCz t)(k:Nat):bCz (bG toks k):=by
  unfold bG;split
  · rename_i ht;exact h _ (j3 ht)
  · exact⟨o8,o8,o8⟩
theorem zA{toks:List TokV}(h: ∀t∈toks,bCz t)(k:Nat):(bG toks k).word.length≤65536:=Nat.le_trans (peek_ok h k).word o8
theorem bNr(toks:List TokV):(dC toks).length≤toks.length:=(List.takeWhile_sublist _).length_le
theorem bDy(toks:List TokV):toks.take (dC toks).length=dC toks:=by
  unfold dC
  induction toks with
  | nil=>rfl
  | cons t r ih=>
    rw [List.takeWhile_cons];split
    · rw [List.length_cons,List.take_succ_cons,ih]
    · rfl
theorem own_more{toks:List TokV}{n:Nat}{x:TokV}(hn:n≤(dC toks).length)(hx:toks[n]?=some x)(h4:x.kind≠4):n+1≤(dC toks).length:=by
  unfold dC at*
  induction toks generalizing n with
  | nil=>simp at hx
  | cons t r ih=>
    rw [List.takeWhile_cons] at hn⊢;split at hn
    · rename_i ht;rw [if_pos ht]
      cases n with
      | zero=>simp
      | succ n=>
        have:=ih (n:=n) (by simpa using hn) (by simpa using hx);simp;omega
    · rename_i ht;have:n=0:=by simpa using hn
      subst this;simp at hx;subst hx;simp [h4] at ht
theorem own_stop{toks:List TokV}{n:Nat}(hn:n≤(dC toks).length)(h:toks.length≤n∨ ∃x:TokV,toks[n]?=some x∧x.kind=4):n=(dC toks).length:=by
  have hl:=bNr toks
  rcases h with h | ⟨x,hx,h4⟩
  · omega
  · rcases Nat.lt_or_ge n (dC toks).length with hlt | hge
    · exfalso
      have hm:(dC toks)[n]?=some x:=by
        rw [←bDy toks,List.getElem?_take,if_pos hlt];exact hx
      have:=List.all_takeWhile (p:=fun t:TokV=>t.kind !=4) (l:=toks);have:=List.all_eq_true.1 this x (j3 hm);simp [h4] at this
    · omega
structure Tk where
  kind:Int
  word:Bs
  n:Int
  deriving Inhabited,DecidableEq
def TokV.tk(t:TokV):Tk:=⟨t.kind,t.word,t.n⟩
def Lx (s:Bs)(T:List Tk)(rest:Bs):Prop:= ∀i out,∃L:List Tok,L.map TokV.tk=T∧lexGo (s++rest).length i (s++rest) out=lexGo rest.length (i+s.length) rest (out++L)
section
variable {a b s rest : Bs} {A B : List Tk}
theorem Lx.nil:Lx [] [] rest:=fun i out=>⟨[],rfl,o3⟩
theorem Lx.append(h:Lx a A (b++rest))(k:Lx b B rest):Lx (a++b) (A++B) rest:=fun i out=>by
  obtain⟨L,hL,e⟩:=h i out;obtain⟨M,hM,e'⟩:=k (i+a.length) (out++L);exact⟨L++M,by simp [hL,hM],by rw [List.append_assoc,e,e',List.length_append,Nat.add_assoc,List.append_assoc]⟩
theorem Lx.blank:Lx [32] [] rest:=fun i out=>⟨[],rfl,by
  show lexGo (32::rest).length i (32::rest) out=_;rw [mQ,if_pos o8,List.append_nil]
  rfl⟩
theorem Lx.tok{k v:Int}{wd:Bs}{b:UInt8}(h:fE ((b::s)++rest)= .ok (k,wd,v,(b::s).length))(hb:lP b=false)(h35:(b==35)=false):Lx (b::s) [⟨k,wd,v⟩] rest:=fun i out=>
  ⟨[⟨k,i,wd,v⟩],rfl,by
    rw [List.cons_append,mQ,hb,if_neg o3,h35,if_neg o3];rw [List.cons_append] at h;rw [h];simp only;have e:(b::(s++rest)).drop (b::s).length=rest:=by rw [←List.cons_append,List.drop_left]
    rw [e]⟩
end
theorem bLz{p:UInt8→Bool}{c:UInt8}{r:Bs}(hc:p c=false): ∀s:Bs,(∀b∈s,p b=true)→runB p (s++c::r)=s.length
  | [],_=>by simp [runB,hc]
  | b::s,h=>by
    rw [List.cons_append,runB,if_pos (h b o3),bLz hc s fun x hx=>h x ac4];rfl
theorem bNl{p:UInt8→Bool}: ∀{s:Bs},runB p s=s.length→ ∀b∈s,p b=true
  | [],_,b,hb=>by simp at hb
  | c::s,h,b,hb=>by
    rw [runB] at h;split at h
    · rename_i hc
      rcases List.mem_cons.1 hb with rfl | hb
      · exact hc
      · exact bNl ab5 b hb
    · simp at h
structure bSs (s:Bs):Prop where
  head: ∃b r,s=b::r∧lB b=true
  all: ∀b∈s,mG b=true
  len:s.length≤16
theorem letter_facts{b:UInt8}(h:lB b=true):lP b=false∧(b==35)=false∧(b==10)=false:=by
  have key: ∀k:Fin 256,lB (UInt8.ofNat k.val)=true→lP (UInt8.ofNat k.val)=false∧(UInt8.ofNat k.val==35)=false∧(UInt8.ofNat k.val==10)=false:=by decide+kernel
  have hb:UInt8.ofNat b.toNat=b:=by simp
  have:=key ⟨b.toNat,b.toNat_lt⟩;rw [hb] at this;exact this h
theorem zR{s r:Bs}{c:UInt8}(h:bSs s)(hc:mG c=false):Lx s [⟨1,s,0⟩] (c::r):=by
  obtain⟨b,t,rfl,hl⟩:=h.head;obtain⟨h1,h2,h3⟩:=letter_facts hl;refine Lx.tok ?_ h1 h2;have hr:runB mG (b::(t++c::r))=(b::t).length:=bLz hc (b::t) h.all;have:=h.len;simp only [List.cons_append,fE,h3,Bool.false_eq_true,if_false,hl,if_true,hr];rw [if_neg n0,←List.cons_append,List.take_left]
theorem bKc{n:Int}{r:Bs}{c:UInt8}(h0: -9223372036854775808≤n)(h1:n≤9223372036854775807)(hc:cS c=false):Lx (dT n) [⟨2,[],n⟩] (c::r):=by
  have hd:=nW n.natAbs;have hv:=bHn n.natAbs;have hne:=sB n.natAbs;have hr:runB cS (Lib.decDigits n.natAbs++c::r)=(Lib.decDigits n.natAbs).length:=bLz hc _ hd;have hk: ¬(Lib.decDigits n.natAbs).length=0:=fun e=>hne (List.eq_nil_of_length_eq_zero e);unfold dT;split
  · rename_i hn;refine Lx.tok (b:=95) (s:=Lib.decDigits n.natAbs) ?_ o8 o8
    have hp:rG true (Lib.decDigits n.natAbs)=some n:=by
      unfold rG;rw [hv,if_pos rfl,if_pos n0]
      congr 1
      omega
    have e1:((95:UInt8)==10)=false:=o8
    have e2:lB 95=false:=o8
    have e3:((95:UInt8)==95)=true:=o8
    simp only [List.cons_append,fE,e1,e2,Bool.false_eq_true,if_false,gW,e3,if_true,hr,hk,List.take_left,hp];rfl
  · rename_i hn;rw [List.nil_append]
    obtain⟨b,t,ht⟩: ∃b t,Lib.decDigits n.natAbs=b::t:=by
      cases h:Lib.decDigits n.natAbs with
      | nil=>exact absurd h hne
      | cons b t=>exact⟨b,t,rfl⟩
    rw [ht] at hd hr hv hk⊢;have hb:=lM (hd b o3);have e3:(b==95)=false:=by simp [hb.2.2.1]
    have e1:(b==10)=false:=by simp [hb.1]
    have hp:rG false (b::t)=some n:=by
      unfold rG;rw [hv];simp only [Bool.false_eq_true,if_false];rw [if_pos n0]
      congr 1
      omega
    refine Lx.tok ?_ hb.2.2.2.2.2.1 (by simp [hb.2.2.2.2.1]);rw [List.cons_append] at hr;simp only [List.cons_append,fE,e1,Bool.false_eq_true,if_false,hb.2.1,gW,e3,hr,hk];rw [←List.cons_append,List.take_left,hp];simp
def uS:Bs→Int
  | []=>3
  | b::_=>if lB b then 1 else 3
theorem verb_tok: ∀w∈cZ,∀c∈([32,47,92,46]:Bs),∀r:Bs,fE (w++c::r)= .ok (uS w,w,0,w.length):=by
  intro w hw c hc r;simp only [cZ,List.mem_cons,List.not_mem_nil,or_false] at hw hc
  rcases hw with rfl | rfl | rfl | rfl | rfl | rfl | rfl | rfl | rfl | rfl | rfl | rfl | rfl | rfl | rfl | rfl | rfl | rfl | rfl | rfl | rfl | rfl | rfl | rfl | rfl<;>rcases hc with rfl | rfl | rfl | rfl<;>rfl
theorem verb_head: ∀w∈cZ,∃b r,w=b::r∧lP b=false∧(b==35)=false:=by
  intro w hw;simp only [cZ,List.mem_cons,List.not_mem_nil,or_false] at hw
  rcases hw with rfl | rfl | rfl | rfl | rfl | rfl | rfl | rfl | rfl | rfl | rfl | rfl | rfl | rfl | rfl | rfl | rfl | rfl | rfl | rfl | rfl | rfl | rfl | rfl | rfl<;>exact⟨_,_,rfl,o8,o8⟩
theorem verb_lx{w:Bs}(hw:w∈cZ){c:UInt8}(hc:c∈([32,47,92,46]:Bs)){r:Bs}:Lx w [⟨uS w,w,0⟩] (c::r):=by
  obtain⟨b,t,rfl,h1,h2⟩:=verb_head w hw;exact Lx.tok (verb_tok _ hw c hc r) h1 h2
theorem bJh{c:UInt8}(hc:c∈([47,92,46,40,41,58]:Bs)){r:Bs}:Lx [c] [⟨3,[c],0⟩] r:=by
  simp only [List.mem_cons,List.not_mem_nil,or_false] at hc
  rcases hc with rfl | rfl | rfl | rfl | rfl | rfl<;>exact Lx.tok rfl o8 o8
theorem nl_lx{r:Bs}:Lx [10] [⟨4,[],0⟩] r:=Lx.tok rfl o8 o8
theorem numTok_kind{b:UInt8}{r:Bs}{t:TokR}(h:gW b r= .ok (some t)):t.1=2∧t.2.1=[]:=by
  unfold gW at h;dsimp only at h
  by_cases hb:(b==95)=true
  · simp only [hb,if_true] at h;split at h
    · cases h
    · split at h
      · cases h
      · simp only [Except.ok.injEq,Option.some.injEq] at h;subst h;exact⟨rfl,rfl⟩
  · simp only [hb,Bool.false_eq_true,if_false] at h;split at h
    · cases h
    · split at h
      · cases h
      · simp only [Except.ok.injEq,Option.some.injEq] at h;subst h;exact⟨rfl,rfl⟩
structure TokIs (k:Int) (wd:Bs) (v:Int) (s:Bs):Prop where
  len:wd.length≤s.length
  num:k=2→wd=[]
  word:k=1→v=0
  spell:k=1→wd=s→bSs s
theorem take_len(n:Nat)(s:Bs):(s.take n).length≤s.length:=by simp;omega
theorem bHf{s:Bs}{k v:Int}{wd:Bs}{m:Nat}(h:fE s= .ok (k,wd,v,m)):TokIs k wd v s:=by
  cases s with
  | nil=>cases h
  | cons b r=>
    simp only [fE] at h;split at h
    · cases h;exact⟨o3,fun h=>absurd h o8,fun h=>absurd h o8,fun h=>absurd h o8⟩
    · split at h
      · rename_i hl;split at h
        · cases h
        · cases h;rename_i h16;refine⟨take_len _ _,fun h=>absurd h o8,fun _=>rfl,fun _ e=>?_⟩;have hr:=kZ mG (b::r)
          have he:runB mG (b::r)=(b::r).length:=by
            have:=congrArg List.length e;rw [List.length_take] at this;omega
          exact⟨⟨b,r,rfl,hl⟩,bNl he,n0⟩
      · split at h
        · cases h
        · rename_i t' ht;simp only [Except.ok.injEq] at h;subst h;obtain⟨h1,h2⟩:=numTok_kind ht;simp only at h1 h2;subst h1;subst h2;exact⟨o3,fun _=>rfl,fun h=>absurd h o8,fun h=>absurd h o8⟩
        · split at h
          · cases h
          · cases h;exact⟨take_len _ _,fun h=>absurd h o8,fun h=>absurd h o8,fun h=>absurd h o8⟩
theorem oR: ∀(f i:Nat) (s:Bs) (out:List Tok),mJ (lexGo f i s out).2=true→ ∃L,(lexGo f i s out).1=out++L∧ ∀t∈L,t.word.length≤s.length
  | 0,_,_,out,_=>⟨[],by simp [lexGo],o3⟩
  | _+1,_,[],out,_=>⟨[],by simp [lexGo],o3⟩
  | f+1,i,b::r,out,h=>by
    unfold lexGo at h⊢;split at h
    · rename_i hb;rw [if_pos hb];obtain⟨L,h1,h2⟩:=oR f _ _ _ h;exact⟨L,h1,fun t ht=>by have:=h2 t ht;simp;omega⟩
    · rename_i hb;rw [if_neg hb];split at h
      · rename_i h35;rw [if_pos h35];obtain⟨L,h1,h2⟩:=oR f _ _ _ h;exact⟨L,h1,fun t ht=>by have:=h2 t ht;rw [List.length_drop] at this;omega⟩
      · rename_i h35;rw [if_neg h35];split at h
        · rename_i e he
          exact absurd h (by
            have:=tok_code he
            simp [mJ,pA,this])
        · rename_i k wd v m ht;obtain⟨L,h1,h2⟩:=oR f _ _ _ h;refine⟨⟨k,i,wd,v⟩::L,by rw [h1];simp,fun t hm=>?_⟩
          rcases List.mem_cons.1 hm with rfl | hm
          · exact(bHf ht).len
          · have:=h2 t hm;rw [List.length_drop] at this;omega
theorem lZ{s:Bs}(h:cT s=true):bSs s:=by
  simp only [cT,bFc,Bool.and_eq_true] at h;obtain⟨_,_,_,hf,hm⟩:=h;have hok:mJ (fW s).2=true:=hf;unfold fW at hok hm
  by_cases hlen:65536<s.length
  · rw [if_pos hlen] at hok;exact absurd hok o8
  · rw [if_neg hlen] at hok hm
    cases s with
    | nil=>simp [lexGo] at hm
    | cons b r=>
      rw [mQ] at hok hm
      by_cases hb:lP b=true
      · rw [if_pos hb] at hok hm;obtain⟨L,h1,h2⟩:=oR _ _ _ _ hok;rw [h1] at hm
        match L,hm,h2 with
        | [t],hm,h2=>
          simp only [List.nil_append,Bool.and_eq_true,beq_iff_eq] at hm;have:=h2 t o3;rw [hm.2] at this;simp at this;omega
      · rw [if_neg hb] at hok hm
        by_cases h35:(b==35)=true
        · rw [if_pos h35] at hok hm;have hp:1≤runB (· !=10) (b::r):=bCr (bMm h35);obtain⟨L,h1,h2⟩:=oR _ _ _ _ hok;rw [h1] at hm
          match L,hm,h2 with
          | [t],hm,h2=>
            simp only [List.nil_append,Bool.and_eq_true,beq_iff_eq] at hm;have:=h2 t o3;rw [hm.2,List.length_drop] at this;simp at this;omega
        · rw [if_neg h35] at hok hm
          cases ht:fE (b::r) with
          | error e=>
            rw [ht] at hm;simp at hm
          | ok q=>
            obtain⟨k,wd,v,m⟩:=q;rw [ht] at hok hm;simp only at hok hm;obtain⟨L,h1,h2⟩:=oR _ _ _ _ hok;rw [h1] at hm
            have hw:k=1∧wd=b::r:=by
              cases L with
              | nil=>simpa using hm
              | cons t L=>simp at hm
            obtain⟨rfl,rfl⟩:=hw;exact(bHf ht).spell rfl rfl
def cM.un (x:cM):cM:=⟨x.how,0,x.fn,x.name,x.nums⟩
def jC (l:List cM):List cM:=l.map cM.un
theorem nG(a b:List cM):jC (a++b)=jC a++jC b:=List.map_append
def OpenT:Tk:=⟨3,[40],0⟩
def CloseT:Tk:=⟨3,[41],0⟩
def jA (toks:List TokV)(k:Nat)(T:List Tk):Prop:=k≤toks.length∧(toks.drop k).map TokV.tk=T
section
variable {toks : List TokV} {k : Nat} {t : Tk} {T R : List Tk}
theorem jA.lt(h:jA toks k (t::T)):k<toks.length:=by
  rcases Nat.lt_or_ge k toks.length with h' | h'
  · exact h'
  · rw [jA,List.drop_of_length_le h'] at h;simp at h
theorem jA.peek(h:jA toks k (t::T)):(bG toks k).tk=t:=by
  have hk:=h.lt;rw [sR (List.getElem?_eq_getElem hk)];have:=h.2;rw [List.drop_eq_getElem_cons hk] at this;exact(List.cons.inj this).1
theorem jA.next(h:jA toks k (t::T)):jA toks (k+1) T:=by
  have hk:=h.lt;have:=h.2;rw [List.drop_eq_getElem_cons hk] at this;exact⟨hk,(List.cons.inj this).2⟩
theorem jA.kind(h:jA toks k (t::T)):(bG toks k).kind=t.kind:=by rw [←h.peek];rfl
theorem jA.word(h:jA toks k (t::T)):(bG toks k).word=t.word:=by rw [←h.peek];rfl
theorem jA.num(h:jA toks k (t::T)):(bG toks k).n=t.n:=by rw [←h.peek];rfl
theorem jA.nil(h:jA toks k []):bG toks k=⟨4,0,[],0⟩∧k=toks.length:=by
  have e:(toks.drop k).length=0:=by
    have:=congrArg List.length h.2
    simpa using this
  rw [List.length_drop] at e;have:=h.1;exact⟨bCl n0,n0⟩
theorem jA.skip: ∀(T:List Tk) {k:Nat},jA toks k (T++R)→jA toks (k+T.length) R
  | [],_,h=>h
  | t::T,k,h=>by
    have:=jA.skip T (jA.next (t:=t) (T:=T++R) h);rw [List.length_cons,show k+(T.length+1)=k+1+T.length from by omega];exact this
theorem jA.kindR(h:jA toks k R){c:Int}(hc:c≠4)(hR: ∀t∈R.head?,t.kind≠c):(bG toks k).kind≠c:=by
  cases R with
  | nil=>rw [h.nil.1];exact hc.symm
  | cons t R=>rw [h.kind];exact hR t rfl
end
def Mark (t:Tk):Prop:=t.kind=3∧(t.word=[47]∨t.word=[92]∨t.word=[46])
def Ps (T:List Tk)(I:List cM)(nest:Nat)(plain:Bool):Prop:=
  ∀{toks:List TokV} {e:Int} {r:wY} {k:Nat} {out:List cM} {st:Stk} {o:Nat} {R:List Tk},jA toks k (T++R)→(∀t∈R.head?,t.kind≠2)→o+nest≤32→bEj toks e r k out st o→
    ∃out' S,(plain=true→S=[])∧jC (out'++S)=jC I∧yC toks e r (k+T.length) (out++out') (S.map some++st) o
structure Vb (T:List Tk) (it:cM) (two:Bool):Prop where
  head: ∃t T',T=t::T'∧t.kind≠2∧t.kind≠4∧pP t.word=true∧ ¬Mark t
  phrase: ∀{toks:List TokV} {k:Nat} {e:Int} {R:List Tk},jA toks k (T++R)→(∀t∈R.head?,¬Mark t)→mJ (bH toks k e two).flt=true∧(bH toks k e two).next=k+T.length∧(bH toks k e two).it.un=it.un
def Hd (T:List Tk):Prop:= ∃t T',T=t::T'∧ ¬Mark t
theorem bSd(S:List cM)(st:Stk):nY (S.map some++st)=(S++(nY st).1,(nY st).2):=by
  induction S with
  | nil=>rfl
  | cons x S ih=>rw [List.map_cons,List.cons_append,nY,ih];rfl
theorem bSv{toks:List TokV}{R:List Tk}(hR: ∀t∈R.head?,t.kind≠2): ∀(ns:List Int) {k:Nat},jA toks k (ns.map (fun n=>(⟨2,[],n⟩:Tk))++R)→gD toks k=ns
  | [],k,h=>nums_end (jA.kindR (R:=R) h o8 hR)
  | n::ns,k,h=>by
    have h':jA toks k (⟨2,[],n⟩::(ns.map (fun n=>(⟨2,[],n⟩:Tk))++R)):=h;rw [vE h'.kind,bSv hR ns h'.next,h'.num]
theorem Ps.nums{ns:List Int}{a:Int}(h:ns≠[]):Ps (ns.map fun n=>⟨2,[],n⟩) [⟨1,a,0,[],ns⟩] 0 true:=by
  intro toks e r k out st o R hF hR _ hE;have hn:=bSv hR ns hF
  obtain⟨n,ns',rfl⟩: ∃n ns',ns=n::ns':=by
    cases ns with
    | nil=>exact absurd rfl h
    | cons n ns'=>exact⟨n,ns',rfl⟩
  have hk:(bG toks k).kind=2:=jA.kind (t:=⟨2,[],n⟩) (T:=_) hF;have:=e_num hE hk;rw [hn] at this;refine⟨[zN toks k],[],fun _=>rfl,?_,?_⟩
  · simp [jC,zN,cM.un,hn]
  · rw [List.length_map];exact this
theorem Ps.name{s:Bs}{a:Int}(h:cT s=true):Ps [⟨1,s,0⟩] [⟨2,a,0,s,[]⟩] 0 true:=by
  intro toks e r k out st o R hF hR _ hE;have hF':jA toks k (⟨1,s,0⟩::R):=hF;have:=e_name hE hF'.kind (by rw [hF'.word];exact h);refine⟨[sY toks k],[],fun _=>rfl,?_,this⟩;simp [jC,sY,cM.un,hF'.word]
theorem Ps.brk{T:List Tk}{I:List cM}{n:Nat}{p:Bool}(h:Ps T I n p):Ps (OpenT::(T++[CloseT])) I (n+1) true:=by
  intro toks e r k out st o R hF hR ho hE;have hF':jA toks k (OpenT::(T++(CloseT::R))):=by simpa using hF
  have h1:=(e_open hE hF'.kind hF'.word).1 n0;obtain⟨out',S,_,hu,hB⟩:=h hF'.next (by simp [CloseT]) n0 h1
  have hc:=jA.skip T hF'.next
  have:=b_close hB n0 hc.kind hc.word;rw [bSd] at this;refine⟨out'++S,[],fun _=>rfl,by rw [List.append_nil];exact hu,?_⟩;have e1:k+1+T.length+1=k+(OpenT::(T++[CloseT])).length:=by simp;omega
  rw [e1] at this;simp only [nY,List.append_nil,List.tail_cons,Nat.add_sub_cancel,List.append_assoc] at this;exact this
theorem Ps.mono{V T:List Tk}{I:List cM}{it:cM}{n:Nat}{p:Bool}(hv:Vb V it false)(hd:Hd T)(h:Ps T I n p):Ps (V++T) (I++[it]) n false:=by
  intro toks e r k out st o R hF hR ho hE;rw [List.append_assoc] at hF;obtain⟨t,V',hV,h2,h4,hvb,_⟩:=hv.head;obtain⟨u,T',hT,hm⟩:=hd;have hF':jA toks k (t::(V'++(T++R))):=by rw [hV] at hF;exact hF
  obtain⟨p1,p2,p3⟩:=hv.phrase (e:=e) hF (by rw [hT];simpa using hm);have h1:=(e_verb hE (by rw [hF'.kind];exact h2) (by rw [hF'.kind];exact h4) (by rw [hF'.word];exact hvb)).1 p1;rw [p2] at h1;obtain⟨out',S,_,hu,hB⟩:=h (jA.skip V hF) hR ho h1;refine⟨out',S++[(bH toks k e false).it],o3,?_,?_⟩
  · rw [←List.append_assoc,nG,hu,nG];show jC I++[_]=_;rw [p3];rfl
  · rw [List.length_append,←Nat.add_assoc,List.map_append,List.append_assoc];exact hB
theorem close_verb:pP [41]=false:=o8
theorem Ps.dyad{Q V T:List Tk}{J I:List cM}{it:cM}{m n:Nat}{p:Bool}(hq:Ps Q J m true)(hv:Vb V it true)(hd:Hd T)(h:Ps T I n p):Ps (Q++(V++T)) (J++I++[it]) (max m n) false:=by
  intro toks e r k out st o R hF hR ho hE;rw [List.append_assoc,List.append_assoc] at hF;obtain⟨t,V',hV,h2,h4,hvb,_⟩:=hv.head;obtain⟨u,T',hT,hm⟩:=hd;obtain⟨out1,S1,hS,hu1,hB1⟩:=hq hF (by rw [hV];simpa using h2) n0 hE;rw [hS rfl] at hB1 hu1;rw [List.append_nil] at hu1;have hF2:=jA.skip Q hF;have hF':jA toks (k+Q.length) (t::(V'++(T++R))):=by rw [hV] at hF2;exact hF2
  obtain⟨p1,p2,p3⟩:=hv.phrase (e:=e) hF2 (by rw [hT];simpa using hm);have h1:=(qN hB1 (.inr (.inr (by rw [hF'.word];intro hw;rw [hw,close_verb] at hvb;cases hvb))) (by rw [hF'.kind];exact h4) (by rw [hF'.kind];exact h2) (by rw [hF'.word];exact hvb)).1 p1;rw [p2] at h1;obtain⟨out2,S,_,hu,hB⟩:=h (jA.skip V hF2) hR n0 h1;refine⟨out1++out2,S++[(bH toks (k+Q.length) e true).it],o3,?_,?_⟩
  · rw [←List.append_assoc,nG,List.append_assoc,nG,hu,hu1,nG,nG];show _++[_]=_;rw [p3];rfl
  · rw [List.length_append,List.length_append,←Nat.add_assoc,←Nat.add_assoc,List.map_append,List.append_assoc,←List.append_assoc out];exact hB
theorem Ps.whole{T:List Tk}{I:List cM}{n:Nat}{p:Bool}(h:Ps T I n p)(hn:n≤32){toks:List TokV}{e:Int}{k:Nat}(hF:jA toks k T):jC (nA toks e k).1=jC I∧(nA toks e k).2=(0,0):=by
  have hF':jA toks k (T++[]):=by rw [List.append_nil];exact hF
  obtain⟨out',S,_,hu,hB⟩:=h hF' o3 n0 (e_start (e:=e) hF.1);have:=r_end hB (by rw [(jA.skip T hF').nil.1]) n0;rw [bSd] at this;rw [this];simp only [nY,List.append_nil,List.nil_append];exact⟨hu,j1⟩
def Sep (c:UInt8):Prop:=c=32∨c=41∨c=10
theorem Sep.word{c:UInt8}(h:Sep c):mG c=false:=by rcases h with rfl | rfl | rfl<;>decide
theorem Sep.digit{c:UInt8}(h:Sep c):cS c=false:=by rcases h with rfl | rfl | rfl<;>decide
theorem bRd: ∀w∈cZ,w≠[47]∧w≠[92]∧w≠[46]:=o8
theorem kindW_is(w:Bs):uS w=1∨uS w=3:=by
  cases w with
  | nil=>exact .inr rfl
  | cons b r=>
    simp only [uS];split
    · exact .inl rfl
    · exact .inr rfl
theorem kindW_2(w:Bs):uS w≠2:=by rcases kindW_is w with h | h<;>rw [h]<;>decide
theorem bDj(w:Bs):uS w≠4:=by rcases kindW_is w with h | h<;>rw [h]<;>decide
theorem bRw{w:Bs}{two:Bool}{f:Int}(h:fR w two=f)(hf:f≠0):pP w=true:=by
  unfold pP
  cases two with
  | false=>
    have:nC w≠0:=by rw [show nC w=f from h];exact hf
    simp [this]
  | true=>
    have:gM w≠0:=by rw [show gM w=f from h];exact hf
    simp [this]
theorem isOk_00:mJ (0,0)=true:=rfl
section
variable {x : cM} {w : Bs}
theorem vb_one{two:Bool}(hw:w∈cZ)(hf:fR w two=x.fn)(h0:x.fn≠0)(hh:x.how=if two then 4 else 3)(hn:x.nums=[])(hm:x.name=[]):Vb [⟨uS w,w,0⟩] x two where
  head:=⟨_,[],rfl,kindW_2 w,bDj w,bRw hf h0,fun h=>by
    obtain⟨h1,h2,h3⟩:=bRd w hw
    rcases h.2 with h | h | h
    · exact h1 h
    · exact h2 h
    · exact h3 h⟩
  phrase:=fun{toks k e R} hF hR=>by
    have hF':jA toks k (⟨uS w,w,0⟩::R):=hF
    have hneg: ¬((bG toks (k+1)).kind=3∧((bG toks (k+1)).word=[47]∨(bG toks (k+1)).word=[92]∨(bG toks (k+1)).word=[46])):=by
      have:=hF'.next
      cases R with
      | nil=>rw [this.nil.1];simp
      | cons t R=>
        rw [this.kind,this.word];exact hR t rfl
    have e0:fR (bG toks k).word two=x.fn:=by rw [hF'.word];exact hf
    unfold bH;rw [if_neg hneg];simp only [e0,h0,if_false];refine⟨isOk_00,rfl,?_⟩;simp only [Phr.it,cM.un,hn,hm,hh]
theorem vb_two{c:UInt8}(hc:x.how=5∧c=47∨x.how=6∧c=92∨x.how=7∧c=46)(hw:w∈cZ)(hf:fR w true=x.fn)(h0:x.fn≠0)(h17:x.fn≤17)(hn:x.nums=[])(hm:x.name=[]):Vb [⟨uS w,w,0⟩,⟨3,[c],0⟩] x (rK x.how) where
  head:=⟨_,_,rfl,kindW_2 w,bDj w,bRw hf h0,fun h=>by
    obtain⟨h1,h2,h3⟩:=bRd w hw
    rcases h.2 with h | h | h
    · exact h1 h
    · exact h2 h
    · exact h3 h⟩
  phrase:=fun{toks k e R} hF hR=>by
    have hF':jA toks k (⟨uS w,w,0⟩::(⟨3,[c],0⟩::R)):=hF;have hk:=hF'.next.kind
    have hwd:=hF'.next.word
    have e0:gM (bG toks k).word=x.fn:=by rw [hF'.word];exact hf
    have h17': ¬17<x.fn:=n0
    unfold bH;rw [if_pos ⟨hk,by rw [hwd];rcases hc with ⟨_,rfl⟩ | ⟨_,rfl⟩ | ⟨_,rfl⟩<;>simp⟩];simp only [e0,hwd]
    rcases hc with ⟨hh,rfl⟩ | ⟨hh,rfl⟩ | ⟨hh,rfl⟩<;>
      (rw [hh,if_neg (by simp [h17',rK])]
       simp only [h0,if_false]
       exact⟨isOk_00,rfl,by simp [Phr.it,cM.un,hn,hm,hh]⟩)
end
def bAi (T:List Tk):Prop:= ∀t∈T,t.kind≠4
theorem bAi.append{A B:List Tk}(h:bAi A)(k:bAi B):bAi (A++B):=fun t ht=>(List.mem_append.1 ht).elim (h t) (k t)
theorem bAi.one{t:Tk}(h:t.kind≠4):bAi [t]:=fun u hu=>by rw [List.mem_singleton.1 hu];exact h
theorem verb_vb{x:cM}(h3:3≤x.how)(h7:x.how≤7)(hn:x.nums=[])(hm:x.name=[])(hv:(verbR x).1≠[]): ∃V,Vb V x (rK x.how)∧V.length=(verbR x).2∧bAi V∧ ∀r,Lx (verbR x).1 V (32::r):=by
  unfold verbR at hv⊢;rw [wP] at hv⊢
  by_cases hbad:iU (x.how !=3) x.fn=[]∨x.how≠3∧x.how≠4∧takesB x.fn=false
  · simp only [hbad,if_true] at hv;simp at hv
  · simp only [hbad,if_false];rw [not_or] at hbad;obtain⟨hne,ht⟩:=hbad;obtain⟨hw,hf,h0⟩:=bGv hne
    by_cases h5:5≤x.how
    · have e3:(x.how !=3)=true:=by simp;omega
      rw [e3] at hw hf hne⊢
      have h17:x.fn≤17:=by
        have:=bRm hne;rw [this] at ht;have ht': ¬decide (x.fn≤17)=false:=fun h=>ht ⟨n0,n0,h⟩
        simpa using ht'
      obtain⟨c,hc,hmk⟩: ∃c:UInt8,(x.how=5∧c=47∨x.how=6∧c=92∨x.how=7∧c=46)∧markS x.how=[c]:=by
        have:x.how=5∨x.how=6∨x.how=7:=n0
        rcases this with h | h | h
        · exact⟨47,.inl ⟨h,rfl⟩,by rw [h];rfl⟩
        · exact⟨92,.inr (.inl ⟨h,rfl⟩),by rw [h];rfl⟩
        · exact⟨46,.inr (.inr ⟨h,rfl⟩),by rw [h];rfl⟩
      refine⟨_,vb_two hc hw hf h0 h17 hn hm,by simp [h5],bAi.append (A:=[_]) (B:=[_]) (.one (bDj _)) (.one (show(3:Int)≠4 by decide)),fun r=>?_⟩;rw [hmk];exact Lx.append (A:=[_]) (B:=[_]) (verb_lx hw (by rcases hc with ⟨_,rfl⟩ | ⟨_,rfl⟩ | ⟨_,rfl⟩<;>decide)) (bJh (by rcases hc with ⟨_,rfl⟩ | ⟨_,rfl⟩ | ⟨_,rfl⟩<;>decide))
    · have hcase:x.how=3∨x.how=4:=n0
      rcases hcase with h | h
      · have e3:(x.how !=3)=false:=by simp [h]
        rw [e3] at hw hf hne⊢;refine⟨[⟨uS (iU false x.fn),iU false x.fn,0⟩],?_,by simp [h5],.one (bDj _),fun r=>?_⟩
        · rw [show rK x.how=false from by rw [h];rfl];exact vb_one hw hf h0 ah2 hn hm
        · rw [show markS x.how=[] from by rw [h];rfl,List.append_nil];exact verb_lx hw o8
      · have e3:(x.how !=3)=true:=by simp [h]
        rw [e3] at hw hf hne⊢;refine⟨[⟨uS (iU true x.fn),iU true x.fn,0⟩],?_,by simp [h5],.one (bDj _),fun r=>?_⟩
        · rw [show rK x.how=true from by rw [h];rfl];exact vb_one hw hf h0 ah2 hn hm
        · rw [show markS x.how=[] from by rw [h];rfl,List.append_nil];exact verb_lx hw o8
def Rng (n:Int):Prop:= -9223372036854775808≤n∧n≤9223372036854775807
def Rd (s:Bs)(I:List cM)(tokens nest:Nat)(plain:Bool):Prop:= ∃T,(∀c r,Sep c→Lx s T (c::r))∧T.length=tokens∧Hd T∧bAi T∧Ps T I nest plain
inductive Rds:List wT→List cM→Prop
  | nil:Rds [] []
  | cons {p l I J}:Rd p.s I p.tokens p.nest p.plain→Rds l J→Rds (p::l) (J++I)
theorem Lx.gap{s rest:Bs}{T:List Tk}(h:Lx s T (32::rest)):Lx (s++[32]) T rest:=by
  have:=Lx.append (a:=s) (b:=[32]) (A:=T) (B:=[]) h Lx.blank;rw [List.append_nil] at this;exact this
theorem nums_lx: ∀(ns:List Int),ns≠[]→(∀n∈ns,Rng n)→ ∀c r,Sep c→Lx (joinSp (ns.map dT)) (ns.map fun n=>⟨2,[],n⟩) (c::r)
  | [],h,_,_,_,_=>absurd rfl h
  | [n],_,h,c,r,hc=>bKc (h n o3).1 (h n o3).2 hc.digit
  | n::m::ns,_,h,c,r,hc=>by
    have h1:=nums_lx (m::ns) o3 (fun x hx=>h x ac4) c r hc;have h2:Lx (dT n) [⟨2,[],n⟩] (32::(joinSp ((m::ns).map dT)++c::r)):=bKc (h n o3).1 (h n o3).2 o8;have h3:=Lx.append h2.gap h1;rw [List.map_cons,jM _ o3]
    simpa using h3
theorem operand_rd{x:cM}(hx: ∀n∈x.nums,Rng n)(ho:x.how=1∨x.how=2)(ht:0<(operandR x).tokens):Rd (operandR x).s [x] (operandR x).tokens (operandR x).nest (operandR x).plain:=by
  unfold operandR at ht⊢
  by_cases hf:x.fn=0
  · rw [if_neg (by simp [hf])] at ht⊢
    by_cases h2:x.how=2
    · rw [if_pos h2] at ht⊢
      by_cases hb:x.nums≠[]∨cT x.name=false
      · rw [if_pos hb] at ht;simp [rT] at ht
      · rw [if_neg hb] at ht⊢;simp only [not_or,ne_eq,Bool.not_eq_false,Classical.not_not] at hb;refine⟨[⟨1,x.name,0⟩],fun c r hc=>zR (lZ hb.2) hc.word,rfl,⟨_,[],rfl,fun h=>absurd (show(1:Int)=3 from h.1) o8⟩,.one (show(1:Int)≠4 by decide),?_⟩;have:Ps [⟨1,x.name,0⟩] [⟨2,x.at_,0,x.name,[]⟩] 0 true:=Ps.name hb.2
        have e1:x=⟨2,x.at_,0,x.name,[]⟩:=by
          cases x
          simp_all
        rw [←e1] at this;exact @this
    · rw [if_neg h2] at ht⊢
      by_cases hb:x.name≠[]∨256<x.nums.length
      · rw [if_pos hb] at ht;simp [rT] at ht
      · rw [if_neg hb] at ht⊢;simp only [not_or,ne_eq,Classical.not_not] at hb;have hne:x.nums≠[]:=List.length_pos_iff.1 ht;refine⟨x.nums.map fun n=>⟨2,[],n⟩,fun c r hc=>?_,o3,?_,fun t ht=>by obtain⟨n,_,rfl⟩:=List.mem_map.1 ht;exact(by decide:(2:Int)≠4),?_⟩
        · rw [bIk];exact nums_lx _ hne hx c r hc
        · cases hn:x.nums with
          | nil=>exact absurd hn hne
          | cons n ns=>exact⟨_,_,rfl,fun h=>absurd h.1 o3⟩
        · have:Ps (x.nums.map fun n=>⟨2,[],n⟩) [⟨1,x.at_,0,[],x.nums⟩] 0 true:=Ps.nums hne
          have e1:x=⟨1,x.at_,0,[],x.nums⟩:=by
            have:x.how=1:=n0
            cases x
            simp_all
          rw [←e1] at this;exact @this
  · rw [if_pos hf] at ht;simp [rT] at ht
theorem brk_rd{p:wT}{I:List cM}(h:Rd p.s I p.tokens p.nest p.plain):Rd (brkR p).s I (brkR p).tokens (brkR p).nest true:=by
  unfold brkR
  cases hp:p.plain with
  | true=>
    rw [hp] at h;exact h
  | false=>
    obtain⟨T,h1,h2,h3,h5,h4⟩:=h;refine⟨OpenT::(T++[CloseT]),fun c r hc=>?_,by simp [h2],⟨OpenT,_,rfl,fun h=>by simp [Mark,OpenT] at h⟩,bAi.append (A:=[OpenT]) (.one (show(3:Int)≠4 by decide)) (h5.append (.one (show(3:Int)≠4 by decide))),Ps.brk h4⟩;have ha:Lx [41] [CloseT] (c::r):=bJh o8;have hb:=h1 41 (c::r) (.inr (.inl rfl));have hc:Lx [40] [OpenT] (p.s++41::c::r):=bJh o8;have hd:=Lx.append (Lx.append (rest:=41::c::r) hc hb) (rest:=c::r) ha
    simpa using hd
theorem step_rd{l l':List wT}{x:cM}{I:List cM}(h:Rds l I)(hx: ∀n∈x.nums,Rng n)(hs:bLj l x=some l'):Rds l' (I++[x]):=by
  unfold bLj at hs
  by_cases ho:x.how=1∨x.how=2
  · rw [if_pos ho] at hs;split at hs
    · rename_i ht;cases hs;exact .cons (operand_rd hx ho ht) h
    · cases hs
  · rw [if_neg ho] at hs
    by_cases hbad:x.how<3∨7<x.how∨x.nums≠[]∨x.name≠[]
    · rw [if_pos hbad] at hs;cases hs
    · rw [if_neg hbad] at hs;simp only [not_or,ne_eq,Classical.not_not] at hbad;obtain⟨h3,h7,hn,hm⟩:=hbad
      by_cases hv:(verbR x).1=[]
      · rw [if_pos hv] at hs;cases hs
      · rw [if_neg hv] at hs;obtain⟨V,v1,v2,v4,v3⟩:=verb_vb n0 n0 hn hm hv;obtain⟨t,V',hV,_,_,_,hmk⟩:=v1.head
        cases ht:rK x.how with
        | false=>
          rw [ht] at hs v1;simp only [Bool.false_eq_true,if_false] at hs
          cases h with
          | nil=>cases hs
          | cons hp hl=>
            rename_i p l I J;cases hs;obtain⟨T,h1,h2,h3,h5,h4⟩:=hp;rw [show J++I++[x]=J++(I++[x]) from List.append_assoc ..];refine .cons ⟨V++T,fun c r hc=>?_,by simp [v2,h2],⟨t,V'++T,by rw [hV];rfl,hmk⟩,v4.append h5,Ps.mono v1 h3 h4⟩ hl;exact Lx.append (v3 _).gap (h1 c r hc)
        | true=>
          rw [ht] at hs v1;simp only [if_true] at hs
          cases h with
          | nil=>cases hs
          | cons hp hl=>
            cases hl with
            | nil=>cases hs
            | cons hq hl=>
              rename_i p I q l J' J;cases hs;obtain⟨T,h1,h2,h3,h5,h4⟩:=hp;obtain⟨Q,q1,q2,q3,q5,q4⟩:=brk_rd hq;obtain⟨u,Q',hQ,hu⟩:=q3;rw [show J++J'++I++[x]=J++(J'++I++[x]) from by simp];refine .cons ⟨Q++(V++T),fun c r hc=>?_,by simp [v2,h2,q2];omega,⟨u,Q'++(V++T),by rw [hQ];rfl,hu⟩,q5.append (v4.append h5),Ps.dyad q4 v1 h3 h4⟩ hl;have a1:=Lx.append (v3 _).gap (h1 c r hc);have a2:=Lx.append (q1 32 _ (.inl rfl)).gap a1;simp only [List.append_assoc,List.cons_append,List.nil_append] at a2⊢;exact a2
theorem steps_rd: ∀{xs:List cM} {l l':List wT} {I:List cM},Rds l I→(∀x∈xs,∀n∈x.nums,Rng n)→bFm xs l=some l'→Rds l' (I++xs)
  | [],l,l',I,h,_,hs=>by
    cases hs;rw [List.append_nil];exact h
  | x::xs,l,l',I,h,hx,hs=>by
    rw [bFm] at hs
    cases h1:bLj l x with
    | none=>rw [h1] at hs;cases hs
    | some l1=>
      rw [h1] at hs;have:=steps_rd (step_rd h (hx x o3) h1) (fun y hy=>hx y ad8) hs;rw [List.append_assoc] at this;exact this
def tokS (l:List cM):Nat:=match dZ l [] with
  | some [p]=>p.tokens
  | _=>0
theorem expr_rd{l:List cM}{k:Nat}{t:Bs}(hk:k≤256)(hl: ∀x∈l,∀n∈x.nums,Rng n)(h:fO l (256-k)=some t): ∃T,(∀c r,Sep c→Lx t T (c::r))∧T.length=tokS l∧tokS l+k≤256∧bAi T∧ ∀{toks:List TokV} {e:Int} {j:Nat},jA toks j T→jC (nA toks e j).1=jC l∧(nA toks e j).2=(0,0):=by
  have hlike:=bMo l .nil
  have hS: ∃q,dZ l []=some [q]∧q.tokens+k≤256∧q.nest≤32∧joinSp q.words=t:=by
    unfold fO at h;split at h
    · cases h
    · split at h
      · rename_i q hq;split at h
        · cases h
        · cases h;exact⟨q,hq,n0,n0,rfl⟩
      · cases h
  obtain⟨q,hq,h1,h2,h3⟩:=hS;rw [hq] at hlike
  cases hR:bFm l [] with
  | none=>rw [hR] at hlike;exact hlike.elim
  | some a=>
    rw [hR] at hlike
    cases hlike with
    | cons hp hr=>
      cases hr;have:=steps_rd .nil hl hR;rw [List.nil_append] at this;generalize hJ:l=J at this
      cases this with
      | cons hp' hl'=>
        cases hl';obtain⟨T,a1,a2,a3,a5,a4⟩:=hp';have ht:tokS l=q.tokens:=by unfold tokS;rw [hq]
        rw [hJ,List.nil_append] at ht;refine⟨T,?_,by rw [List.nil_append,ht,a2,hp.tokens],by rw [List.nil_append,ht];exact h1,a5,fun{toks e j} hF=>?_⟩
        · rw [←h3,←hp.s];exact a1
        · rw [List.nil_append];exact Ps.whole a4 (by rw [hp.nest];exact h2) hF
def iD.un (l:iD):iD:=⟨l.name,0,jC l.items⟩
def dQ.un (x:dQ):dQ:=⟨x.name,0,x.sides⟩
def fT.un (p:fT):fT:=⟨p.inputs.map dQ.un,p.lines.map iD.un⟩
def costI (x:dQ):Nat:=x.sides.length+3
def bSl (l:iD):Nat:=tokS l.items+if l.name=[] then 2 else 3
def xK (p:fT):Nat:=(p.inputs.map costI).sum+(p.lines.map bSl).sum
def NL:Tk:=⟨4,[],0⟩
def WT (w:Bs):Tk:=⟨1,w,0⟩
theorem bFy{toks:List TokV}{T:List Tk}(h:toks.map TokV.tk=T):jA toks 0 T:=⟨Nat.zero_le _,h⟩
theorem own_of: ∀{T:List Tk} {R:List Tk} {toks:List TokV},toks.map TokV.tk=T++NL::R→bAi T→(dC toks).map TokV.tk=T∧(dC toks).length=T.length∧(toks.drop (T.length+1)).map TokV.tk=R
  | [],R,[],h,_=>by simp at h
  | [],R,t::toks,h,_=>by
    simp only [List.map_cons,List.nil_append,List.cons.injEq] at h
    have h4:(t.kind !=4)=false:=by
      have:t.tk.kind=4:=by rw [h.1];rfl
      simpa [TokV.tk] using this
    unfold dC;rw [List.takeWhile_cons_of_neg (by rw [h4];simp)];exact⟨rfl,rfl,h.2⟩
  | u::T,R,[],h,_=>by simp at h
  | u::T,R,t::toks,h,hn=>by
    simp only [List.map_cons,List.cons_append,List.cons.injEq] at h
    have h4:(t.kind !=4)=true:=by
      have:t.tk.kind≠4:=by rw [h.1];exact hn u o3
      simpa [TokV.tk] using this
    obtain⟨a,b,c⟩:=own_of h.2 fun x hx=>hn x ac4;unfold dC at a b⊢;rw [List.takeWhile_cons_of_pos (p:=fun t:TokV=>t.kind !=4) h4];exact⟨by rw [List.map_cons,a,h.1],by simp [b],c⟩
theorem bEz{r:fT×Flt}{len:Int}{toks:List TokV}{p:fT}{n:Nat}{over:Bool}{T R:List Tk}{Good:fT→Prop}(h:bBi r len toks p n over)(ht:toks.map TokV.tk=T++NL::R)(hT:bAi T)(hne:T≠[])
    (hq: ∀own e,own.map TokV.tk=T→ ∃q,fP own e p n over=(q,(0,0))∧Good q): ∃q toks',Good q∧toks'.map TokV.tk=R∧bBi r len toks' q (n+1) (pH q):=by
  obtain⟨a,b,c⟩:=own_of ht hT;obtain⟨q,h1,h2⟩:=hq (dC toks) (bPs toks len) a
  have h0:toks≠[]:=by
    rintro rfl;simp at ht
  have hon:dC toks≠[]:=by
    intro e;rw [e] at a;exact hne a.symm
  exact⟨q,_,h2,by rw [b];exact c,(bOw h h0 hon h1).1 rfl⟩
structure bFi (d:oA):Prop where
  ok:d.name=[]∨d.n=0∧cT d.name=true
def pU (d:oA):Tk:=if d.name=[] then ⟨2,[],d.n⟩ else ⟨1,d.name,0⟩
theorem bCx{s:Bs}(h:cT s=true):s≠[]∧s≠[105,110]∧s≠[111,117,116]:=by
  refine⟨?_,?_,?_⟩
  · rintro rfl;obtain⟨b,r,e,_⟩:=(lZ h).head;cases e
  · rintro rfl;simp [cT] at h
  · rintro rfl;simp [cT] at h
theorem bMb: ∀(ds:List oA) {toks:List TokV} {acc:List oA},(∀d∈ds,bFi d)→toks.map TokV.tk=ds.map pU→acc.length+ds.length≤4→lG toks acc=(acc++ds,(0,0))
  | [],[],acc,_,_,_=>by simp [lG]
  | [],t::toks,acc,_,h,_=>by simp at h
  | d::ds,[],acc,_,h,_=>by simp at h
  | d::ds,t::toks,acc,hd,h,hl=>by
    simp only [List.map_cons,List.cons.injEq] at h;simp only [List.length_cons] at hl;have ht:t.kind=(pU d).kind∧t.word=(pU d).word∧t.n=(pU d).n:=by rw [←h.1];exact⟨rfl,rfl,rfl⟩
    have hs:(t.kind=2∨t.kind=1∧cT t.word=true)∧(⟨t.word,t.n⟩:oA)=d:=by
      obtain⟨h1,h2,h3⟩:=ht;unfold pU at h1 h2 h3
      rcases (hd d o3).ok with he | ⟨hn,hb⟩
      · rw [if_pos he] at h1 h2 h3;refine⟨.inl h1,?_⟩;cases d
        simp_all
      · have:=(bCx hb).1;rw [if_neg this] at h1 h2 h3;refine⟨.inr ⟨h1,by rw [h2];exact hb⟩,?_⟩;cases d
        simp_all
    rw [lG,if_neg,if_neg n0,hs.2,bMb ds (fun x hx=>hd x ac4) h.2 q9]
    · simp
    · rintro⟨a,b⟩
      rcases hs.1 with c | ⟨c,d⟩
      · exact a c
      · rcases b with b | b
        · exact b c
        · rw [d] at b;cases b
theorem bKs: ∀(ds:List oA) {acc t:Bs} {A:List Tk},(∀d∈ds,Rng d.n)→(∀c r,Sep c→Lx acc A (c::r))→jZ ds acc=some t→(∀d∈ds,bFi d)∧ ∀c r,Sep c→Lx t (A++ds.map pU) (c::r)
  | [],acc,t,A,_,h,hs=>by
    cases hs;exact⟨o3,by simpa using h⟩
  | d::ds,acc,t,A,hr,h,hs=>by
    rw [jZ] at hs;split at hs
    · rename_i he;have hst:pU d=⟨2,[],d.n⟩:=by unfold pU;rw [if_pos he]
      obtain⟨a,b⟩:=bKs ds (acc:=acc++([32]++dT d.n)) (A:=A++[pU d]) (fun x hx=>hr x ac4) (fun c r hc=>by
        rw [←List.append_assoc,hst]
        exact Lx.append (h 32 _ (.inl rfl)).gap (bKc (hr d o3).1 (hr d o3).2 hc.digit)) hs
      exact⟨fun x hx=>(List.mem_cons.1 hx).elim (fun e=>e▸⟨.inl he⟩) (a x),fun c r hc=>by simpa using b c r hc⟩
    · split at hs
      · rename_i he hb;have hst:pU d=⟨1,d.name,0⟩:=by unfold pU;rw [if_neg he]
        obtain⟨a,b⟩:=bKs ds (acc:=acc++([32]++d.name)) (A:=A++[pU d]) (fun x hx=>hr x ac4) (fun c r hc=>by
          rw [←List.append_assoc,hst]
          exact Lx.append (h 32 _ (.inl rfl)).gap (zR (lZ hb.2) hc.word)) hs
        exact⟨fun x hx=>(List.mem_cons.1 hx).elim (fun e=>e▸⟨.inr hb⟩) (a x),fun c r hc=>by simpa using b c r hc⟩
      · cases hs
theorem in_word:bSs [105,110]:=⟨⟨105,[110],rfl,o8⟩,o8,o8⟩
theorem out_word:bSs [111,117,116]:=⟨⟨111,[117,116],rfl,o8⟩,o8,o8⟩
theorem side_nl(d:oA):(pU d).kind≠4:=by
  unfold pU;split<;>simp
theorem bMr{toks:List TokV}{k:Nat}{t:Tk}{T:List Tk}(h:jA toks k (t::T))(w:Bs):isW (bG toks k) w=(t.kind==1&&t.word==w):=by unfold isW;rw [h.kind,h.word]
theorem input_into{x:dQ}(hb:cT x.name=true)(hl:x.sides.length≤4)(hd: ∀d∈x.sides,bFi d){own:List TokV}{e:Int}{ins:List dQ}{n:Nat}(hn:n<64)(ho:own.map TokV.tk=WT [105,110]::WT x.name::x.sides.map pU):
    ∃q,fP own e ⟨ins,[]⟩ n false=(q,(0,0))∧ ∃y,q=⟨ins++[y],[]⟩∧y.un=x.un:=by
  have hlen:own.length=x.sides.length+2:=by
    have:=congrArg List.length ho
    simpa using this
  have f0:jA own 0 _:=bFy ho;have f1:=f0.next
  have f2:=f1.next
  have i0:isW (bG own 0) [105,110]=true:=by rw [bMr f0];rfl
  have hk1:=f1.kind;have hw1:=f1.word
  have hin:kC own e=(⟨x.name,atP own 1 e,x.sides⟩,(0,0)):=by
    unfold kC;rw [if_neg n0,if_neg,hw1,bMb x.sides hd f2.2 (by simpa using hl)]
    · rfl
    · rw [hk1,hw1];rintro(h | h)
      · exact h rfl
      · rw [show(WT x.name).word=x.name from rfl,hb] at h;cases h
  refine⟨_,?_,⟨x.name,atP own 1 e,x.sides⟩,rfl,rfl⟩;unfold fP;rw [if_neg n0,if_neg n0,if_neg o3,if_pos i0,hin]
theorem bRn: ∀(xs:List dQ) {o o':Bs},(∀x∈xs,∀d∈x.sides,Rng d.n)→gZ xs o=(o',true)→ ∃t T,o'=o++t∧(∀rest,Lx t T rest)∧T.length=(xs.map costI).sum∧
    ∀{r:fT×Flt} {len:Int} {toks:List TokV} {R:List Tk} {ins:List dQ} {n:Nat},bBi r len toks ⟨ins,[]⟩ n false→toks.map TokV.tk=T++R→n+xs.length≤64→
      ∃toks' ins',toks'.map TokV.tk=R∧ins'.map dQ.un=xs.map dQ.un∧bBi r len toks' ⟨ins++ins',[]⟩ (n+xs.length) false
  | [],o,o',_,h=>by
    simp only [gZ,Prod.mk.injEq,and_true] at h;subst h;exact⟨[],[],o3,fun _=>Lx.nil,rfl,fun{r len toks R ins n} hP ht _=>⟨toks,[],by simpa using ht,rfl,by simpa using hP⟩⟩
  | x::xs,o,o',hr,h=>by
    rw [gZ] at h
    cases hi:mD x with
    | none=>rw [hi] at h;simp at h
    | some t=>
      rw [hi] at h;simp only at h;obtain⟨u,U,h1,h2,h3,h4⟩:=bRn xs (fun y hy=>hr y ad8) h;unfold mD at hi;split at hi
      · cases hi
      · rename_i hbad;simp only [not_or,Bool.not_eq_false,Nat.not_lt] at hbad;obtain⟨s1,s2⟩:=bKs x.sides (acc:=x.name) (A:=[WT x.name]) (hr x o3) (fun c r hc=>zR (lZ hbad.1) hc.word) hi
        have hlx: ∀rest,Lx (([105,110,32]++t)++[10]) ((WT [105,110]::WT x.name::x.sides.map pU)++[NL]) rest:=fun rest=>by
          have a1:Lx ([105,110]++[32]) [WT [105,110]] (t++10::rest):=Lx.gap (zR in_word o8);have a2:=s2 10 rest (.inr (.inr rfl));have a3:=Lx.append (rest:=rest) (Lx.append (rest:=10::rest) a1 a2) nl_lx;exact a3
        refine⟨(([105,110,32]++t)++[10])++u,(WT [105,110]::WT x.name::x.sides.map pU)++[NL]++U,by rw [h1];simp,fun rest=>Lx.append (hlx _) (h2 rest),?_,fun{r len toks R ins n} hP ht hn=>?_⟩
        · simp [h3,costI];omega
        · simp only [List.length_cons] at hn;have ht':toks.map TokV.tk=(WT [105,110]::WT x.name::x.sides.map pU)++NL::(U++R):=by rw [ht];simp
          obtain⟨q,toks',⟨y,rfl,hy⟩,k1,k2⟩:=bEz hP ht' (by
            intro t ht;simp only [List.mem_cons,List.mem_map] at ht
            rcases ht with rfl | rfl | ⟨d,_,rfl⟩
            · decide
            · exact(by decide:(1:Int)≠4)
            · exact side_nl d) o3 fun own e ho=>input_into (ins:=ins) hbad.1 hbad.2 s1 n0 ho
          obtain⟨toks'',ins',e1,e2,e3⟩:=h4 k2 k1 n0;refine⟨toks'',y::ins',e1,by rw [List.map_cons,List.map_cons,hy,e2],?_⟩;rw [List.append_assoc] at e3;rw [List.length_cons,show n+(xs.length+1)=n+1+xs.length from by omega];exact e3
theorem zD(ins:List dQ)(lns:List iD)(l:iD):pH ⟨ins,lns++[l]⟩=(l.name==[]):=by simp [pH]
theorem out_into{its:List cM}{T:List Tk}(hl:T.length+1≤256)(hx: ∀{toks:List TokV} {e:Int} {j:Nat},jA toks j T→jC (nA toks e j).1=jC its∧(nA toks e j).2=(0,0)){own:List TokV}{e:Int}{ins:List dQ}{lns:List iD}{n:Nat}(hn:n<64)(ho:own.map TokV.tk=WT [111,117,116]::T):
    ∃q,fP own e ⟨ins,lns⟩ n false=(q,(0,0))∧ ∃y,q=⟨ins,lns++[y]⟩∧y.un=⟨[],0,jC its⟩:=by
  have hlen:own.length=T.length+1:=by
    have:=congrArg List.length ho
    simpa using this
  have f0:jA own 0 _:=bFy ho;have i0:isW (bG own 0) [105,110]=false:=by rw [bMr f0];rfl
  have i1:isW (bG own 0) [111,117,116]=true:=by rw [bMr f0];rfl
  obtain⟨h1,h2⟩:=hx (e:=e) f0.next
  refine⟨_,?_,⟨[],(bG own 0).at_,(nA own e 1).1⟩,rfl,by rw [iD.un,h1]⟩;unfold fP;rw [if_neg n0,if_neg n0,if_neg (by rw [i0];simp),i0,if_neg o3,if_pos i1];simp only [rV];rw [h2]
theorem line_into{its:List cM}{T:List Tk}{nm:Bs}(hb:cT nm=true)(hl:T.length+2≤256)(hx: ∀{toks:List TokV} {e:Int} {j:Nat},jA toks j T→jC (nA toks e j).1=jC its∧(nA toks e j).2=(0,0)){own:List TokV}{e:Int}{ins:List dQ}{lns:List iD}{n:Nat}(hn:n<64)(ho:own.map TokV.tk=WT nm::⟨3,[58],0⟩::T):
    ∃q,fP own e ⟨ins,lns⟩ n false=(q,(0,0))∧ ∃y,q=⟨ins,lns++[y]⟩∧y.un=⟨nm,0,jC its⟩:=by
  have hlen:own.length=T.length+2:=by
    have:=congrArg List.length ho
    simpa using this
  obtain⟨n1,n2,n3⟩:=bCx hb;have f0:jA own 0 _:=bFy ho;have i0:isW (bG own 0) [105,110]=false:=by rw [bMr f0];simp [WT,n2]
  have i1:isW (bG own 0) [111,117,116]=false:=by rw [bMr f0];simp [WT,n3]
  have f1:=f0.next
  obtain⟨h1,h2⟩:=hx (e:=e) f1.next
  have hw0:(bG own 0).word=nm:=f0.word;refine⟨_,?_,⟨nm,(bG own 0).at_,(nA own e 2).1⟩,rfl,by rw [iD.un,h1]⟩;unfold fP;rw [if_neg n0,if_neg n0,if_neg (by rw [i0];simp),i0,if_neg o3,i1,if_neg o3,if_neg,if_neg,hw0]
  · simp only [rV];rw [h2]
  · rw [f1.kind,f1.word];simp
  · rw [f0.kind,hw0,hb];simp [WT]
theorem lines_rd: ∀(ls:List iD) {o o':Bs},ls≠[]→(∀l∈ls,∀x∈l.items,∀n∈x.nums,Rng n)→dN ls o=(o',true)→ ∃t T,o'=o++t∧(∀rest,Lx t T rest)∧T.length=(ls.map bSl).sum∧
    ∀{r:fT×Flt} {len:Int} {toks:List TokV} {ins:List dQ} {lns:List iD} {n:Nat},bBi r len toks ⟨ins,lns⟩ n false→toks.map TokV.tk=T→n+ls.length≤64→
      ∃lns',lns'.map iD.un=ls.map iD.un∧r=(⟨ins,lns++lns'⟩,(0,0))
  | [],_,_,h,_,_=>absurd rfl h
  | [l],o,o',_,hr,h=>by
    simp only [dN] at h
    cases hx:fO l.items 255 with
    | none=>rw [hx] at h;simp at h
    | some t=>
      rw [hx] at h;simp only at h;split at h
      · simp at h
      · rename_i hnm;simp only [ne_eq,Classical.not_not] at hnm;simp only [Prod.mk.injEq,and_true] at h;obtain⟨T,a1,a2,a3,a4,a5⟩:=expr_rd (k:=1) n0 (hr l o3) hx;refine⟨([111,117,116,32]++t)++[10],(WT [111,117,116]::T)++[NL],h.symm,fun rest=>?_,by simp [bSl,hnm,a2],fun{r len toks ins lns n} hP ht hn=>?_⟩
        · have b1:Lx ([111,117,116]++[32]) [WT [111,117,116]] (t++10::rest):=Lx.gap (zR out_word o8);exact Lx.append (rest:=rest) (Lx.append (rest:=10::rest) b1 (a1 10 rest (.inr (.inr rfl)))) nl_lx
        · obtain⟨q,toks',⟨y,rfl,hy⟩,k1,k2⟩:=bEz (R:=[]) hP ht (bAi.append (A:=[_]) (.one (show(1:Int)≠4 by decide)) a4) o3 fun own e ho=>out_into (ins:=ins) (lns:=lns) n0 (fun hF=>a5 hF) (by simp only [List.length_singleton] at hn;omega) ho;have hy':y.un=l.un:=by rw [hy,iD.un,hnm]
          have hov:y.name=[]:=by
            have:=congrArg iD.name hy;exact this
          refine⟨[y],by simp [hy'],?_⟩;have:=p_end k2 (List.map_eq_nil_iff.1 k1);rw [zD,hov,if_pos o8] at this;exact this
  | l::m::ls,o,o',_,hr,h=>by
    have h':(match fO l.items 254 with
        | none=>(o,false)
        | some t=>if cT l.name=false then (o,false) else dN (m::ls) (o++(((l.name++[58,32])++t)++[10])))=(o',true):=h
    cases hx:fO l.items 254 with
    | none=>rw [hx] at h';simp at h'
    | some t=>
      rw [hx] at h';simp only at h';split at h'
      · simp at h'
      · rename_i hb;simp only [Bool.not_eq_false] at hb;obtain⟨u,U,h1,h2,h3,h4⟩:=lines_rd (m::ls) o3 (fun y hy=>hr y (List.mem_cons_of_mem _ hy)) h';obtain⟨T,a1,a2,a3,a4,a5⟩:=expr_rd (k:=2) n0 (hr l o3) hx;refine⟨(((l.name++[58,32])++t)++[10])++u,((WT l.name::⟨3,[58],0⟩::T)++[NL])++U,by rw [h1];simp,fun rest=>Lx.append ?_ (h2 rest),?_,fun{r len toks ins lns n} hP ht hn=>?_⟩
        · have b0:Lx l.name [WT l.name] (58::32::(t++10::(u++rest))):=zR (lZ hb) o8;have b1:Lx ([58]++[32]) [⟨3,[58],0⟩] (t++10::(u++rest)):=Lx.gap (bJh o8);exact Lx.append (rest:=u++rest) (Lx.append (rest:=10::(u++rest)) (Lx.append (rest:=t++10::(u++rest)) b0 b1) (a1 10 _ (.inr (.inr rfl)))) nl_lx
        · have:=(bCx hb).1;simp [bSl,this,a2,h3];omega
        · have ht':toks.map TokV.tk=(WT l.name::⟨3,[58],0⟩::T)++NL::U:=by rw [ht];simp
          obtain⟨q,toks',⟨y,rfl,hy⟩,k1,k2⟩:=bEz hP ht' (bAi.append (A:=[_,_]) (bAi.append (A:=[_]) (B:=[_]) (.one (show(1:Int)≠4 by decide)) (.one (show(3:Int)≠4 by decide))) a4) o3 fun own e ho=>line_into (ins:=ins) (lns:=lns) hb n0 (fun hF=>a5 hF) (by simp only [List.length_cons] at hn;omega) ho
          have hov:pH ⟨ins,lns++[y]⟩=false:=by
            have:y.un.name=l.name:=by rw [hy]
            have:y.name=l.name:=this;rw [zD,this]
            simpa using (bCx hb).1
          rw [hov] at k2;obtain⟨lns',e1,e2⟩:=h4 k2 k1 (by simp only [List.length_cons] at hn⊢;omega);refine⟨y::lns',by rw [List.map_cons,e1,hy];rfl,?_⟩;rw [e2];simp
structure RngP (p:fT):Prop where
  ins: ∀x∈p.inputs,∀d∈x.sides,Rng d.n
  lns: ∀l∈p.lines,∀x∈l.items,∀n∈x.nums,Rng n
theorem lex_whole{t:Bs}{T:List Tk}(h:Lx t T [])(hl:t.length≤65536): ∃toks,fW t=(toks,(0,0))∧toks.map TokV.tk=T:=by
  obtain⟨L,h1,h2⟩:=h 0 [];refine⟨L,?_,h1⟩;unfold fW;rw [if_neg n0];rw [List.append_nil] at h2;rw [h2];rfl
theorem shown_read{p:fT}{t:Bs}(hr:RngP p)(h:cI p=(t,true))(hl:t.length≤65536):(∃q,hO t=(q,(0,0))∧q.un=p.un)∧(fW t).2=(0,0)∧(fW t).1.length=xK p:=by
  unfold cI at h;split at h
  · cases h
  · rename_i hbad;simp only [not_or,Nat.not_lt] at hbad
    cases hi:gZ p.inputs [] with
    | mk o b=>
      rw [hi] at h
      cases b with
      | false=>cases h
      | true=>
        simp only at h;obtain⟨a,A,a1,a2,a3,a4⟩:=bRn p.inputs hr.ins hi;obtain⟨b,B,b1,b2,b3,b4⟩:=lines_rd p.lines hbad.1 hr.lns h;rw [a1] at b1;rw [List.nil_append] at b1
        have hlx:Lx t (A++B) []:=by
          rw [b1];exact Lx.append (a2 _) (b2 _)
        obtain⟨toks,t1,t2⟩:=lex_whole hlx hl
        have hlen:toks.length=xK p:=by
          have:=congrArg List.length t2;rw [List.length_map,List.length_append,a3,b3] at this;exact this
        refine⟨?_,by rw [t1],by rw [t1];exact hlen⟩
        have hP:bBi (hO t) t.length toks ⟨[],[]⟩ 0 false:=⟨toks.length+1,n0,by unfold hO;rw [t1];rfl⟩
        obtain⟨toks',ins',c1,c2,c3⟩:=a4 hP t2 n0;obtain⟨lns',d1,d2⟩:=b4 c3 c1 n0;exact⟨_,d2,by simp only [fT.un,List.nil_append];rw [c2,d1]⟩
def qT:Stk→Nat
  | []=>0
  | none::r=>qT r+1
  | some _::r=>qT r
def VbOk (it:cM):Prop:= ¬(it.how<3∨7<it.how∨it.nums≠[]∨it.name≠[]∨(verbS it).1=[])
inductive bEh:Stk→List dY→Nat→Prop
  | nil:bEh [] [] 0
  | brk {st P c}:bEh st P c→bEh (none::st) P (c+1)
  | one {it st P c}:VbOk it→rK it.how=false→bEh st P c→bEh (some it::st) P (c+(verbS it).2)
  | two {it st q P c}:VbOk it→rK it.how=true→(leftS q).nest+qT st≤32→bEh st P c→bEh (some it::st) (q::P) (c+(verbS it).2+(leftS q).tokens)
theorem rZ: ∀(a b:List cM) (st:List dY),dZ (a++b) st=(dZ a st).bind (dZ b)
  | [],b,st=>rfl
  | x::a,b,st=>by
    rw [List.cons_append,dZ,dZ]
    cases gS st x with
    | none=>rfl
    | some s=>exact rZ a b s
theorem steps_snoc{a:List cM}{x:cM}{st P P':List dY}(h:dZ a st=some P)(hx:gS P x=some P'):dZ (a++[x]) st=some P':=by
  rw [rZ,h];show dZ [x] P=_;rw [dZ,hx];rfl
theorem bRi{it:cM}(h:VbOk it)(st:List dY):gS st it=pF it st:=by
  have h3: ¬(it.how=1∨it.how=2):=fun e=>h (.inl n0);unfold gS;rw [if_neg h3,if_neg h]
theorem fin_pend{st:Stk}{P:List dY}{c:Nat}(h:bEh st P c): ∀{p:dY},p.nest+qT st≤32→ ∃p' P' c',dZ (nY st).1 (p::P)=some (p'::P')∧bEh (nY st).2 P' c'∧p'.tokens+c'=p.tokens+c∧p'.nest+qT st≤32:=by
  induction h with
  | nil=>exact fun{p} hp=>⟨p,[],0,rfl,.nil,rfl,hp⟩
  | brk h _=>exact fun{p} hp=>⟨p,_,_,rfl,.brk h,rfl,hp⟩
  | one hv ht h ih=>
    rename_i it st P c;intro p hp;obtain⟨p',P',c',h1,h2,h3,h4⟩:=ih (p:=⟨(verbS it).1::p.words,p.nest,p.tokens+(verbS it).2,false⟩) hp;refine⟨p',P',c',?_,h2,by rw [h3];simp only;omega,h4⟩;rw [nY];simp only [dZ];rw [bRi hv];unfold pF;rw [ht];exact h1
  | two hv ht hn h ih=>
    rename_i it st q P c;intro p hp
    obtain⟨p',P',c',h1,h2,h3,h4⟩:=ih (p:=⟨(leftS q).words++(verbS it).1::p.words,max p.nest (leftS q).nest,p.tokens+(verbS it).2+(leftS q).tokens,false⟩) (by
      have:p.nest+qT st≤32:=hp;simp only
      omega)
    refine⟨p',P',c',?_,h2,by rw [h3];simp only;omega,h4⟩;rw [nY];simp only [dZ];rw [bRi hv];unfold pF;rw [ht];exact h1
theorem bPb: ∀st:Stk,((nY st).2=[]∧qT st=0)∨ ∃r,(nY st).2=none::r∧qT st=qT r+1
  | []=> .inl ⟨rfl,rfl⟩
  | none::r=> .inr ⟨r,rfl,rfl⟩
  | some _::r=>bPb r
theorem isOk_43{a:Int}:mJ (a,43)=false:=by simp [mJ,pA]
theorem iF{a c:Int}(hc:c≠0):mJ (a,c)=false:=by
  have:(c==0)=false:=by simpa using hc
  simp [mJ,pA,this]
theorem two_mem{w:Bs}(h:gM w≠0):w∈cZ:=by
  refine Classical.byContradiction fun hn=>h ?_;simp only [cZ,List.mem_cons,not_or] at hn;unfold gM;simp only [hn,if_false]
theorem one_mem{w:Bs}(h:nC w≠0):w∈cZ:=by
  refine Classical.byContradiction fun hn=>h ?_;simp only [cZ,List.mem_cons,not_or] at hn;unfold nC;simp only [hn,or_self,if_false]
theorem verb_mem{w:Bs}{two:Bool}(h:fR w two≠0):w∈cZ:=by
  cases two with
  | false=>exact one_mem h
  | true=>exact two_mem h
theorem bMn{two:Bool}{f:Int}{w:Bs}(hf:fR w two=f)(h0:f≠0): ∀l:List Bs,w∈l→(∀s∈l,s≠[])→nJ two f l≠[]
  | [],h,_=>by simp at h
  | s::r,h,hne=>by
    rw [nJ]
    by_cases hs:(fR s two !=0&&fR s two==f)=true
    · rw [if_pos hs];exact hne s o3
    · rw [if_neg hs];refine bMn hf h0 r ?_ fun x hx=>hne x ac4
      rcases List.mem_cons.1 h with rfl | h
      · exact absurd (by simp [hf,h0]) hs
      · exact h
theorem bRk{two:Bool}{w:Bs}{f:Int}(hf:fR w two=f)(h0:f≠0):iU two f≠[]:=by
  rw [←wP];exact bMn hf h0 _ (verb_mem (by rw [hf];exact h0)) o8
theorem bRg{toks:List TokV}{k:Nat}{e:Int}{two:Bool}(h:mJ (bH toks k e two).flt=true):VbOk (bH toks k e two).it∧rK (bH toks k e two).it.how=two∧(verbS (bH toks k e two).it).2+k≤(bH toks k e two).next:=by
  unfold bH at h⊢;split at h
  · rename_i hm;rw [if_pos hm];split at h
    · simp only [isOk_43] at h;cases h
    · rename_i hb;rw [if_neg hb];rw [not_or] at hb;obtain⟨h17,hl⟩:=hb
      by_cases h0:gM (bG toks k).word=0
      · simp only [h0,if_true,isOk_43] at h;cases h
      · have ht:=bRk (two:=true) (w:=(bG toks k).word) rfl h0;have ht':iU true (gM (bG toks k).word)≠[]:=ht;simp only [ne_eq,Classical.not_not] at hl;obtain⟨hm1,hm2⟩:=hm
        rcases hm2 with hw | hw | hw
        all_goals
          rw [hw] at hl;simp only [hw] at*;subst hl;refine⟨?_,rfl,?_⟩
          · simp [VbOk,Phr.it,verbS,ht',h17]
          · simp [Phr.it,verbS,ht',h17];omega
  · rename_i hm;rw [if_neg hm]
    by_cases h0:fR (bG toks k).word two=0
    · simp only [h0,if_true,isOk_43] at h;cases h
    · have ht:=bRk (two:=two) (w:=(bG toks k).word) rfl h0
      cases two with
      | false=>
        refine⟨?_,rfl,?_⟩
        · simp [VbOk,Phr.it,verbS,ht]
        · simp [Phr.it,verbS];omega
      | true=>
        refine⟨?_,rfl,?_⟩
        · simp [VbOk,Phr.it,verbS,ht]
        · simp [Phr.it,verbS];omega
structure bLg (t:TokV):Prop where
  num:t.kind=2→t.word=[]
  word:t.kind=1→t.n=0
  rng:Rng t.n
def RngI (l:List cM):Prop:= ∀x∈l,∀n∈x.nums,Rng n
theorem RngI.append{a b:List cM}(h:RngI a)(k:RngI b):RngI (a++b):=fun x hx=>(List.mem_append.1 hx).elim (h x) (k x)
def xF (l:List cM)(m:Nat):Prop:=(∃p,dZ l []=some [p]∧p.tokens≤m∧p.nest≤32)∧RngI l
def RngS (st:Stk):Prop:= ∀x,some x∈st→x.nums=[]
theorem fin_rng: ∀{st:Stk},RngS st→RngI (nY st).1∧RngS (nY st).2
  | [],_=>⟨fun x hx=>by simp [nY] at hx,fun x hx=>by simp [nY] at hx⟩
  | none::r,h=>⟨fun x hx=>by simp [nY] at hx,h⟩
  | some y::r,h=>by
    obtain⟨a,b⟩:=fin_rng (st:=r) fun x hx=>h x (List.mem_cons_of_mem _ hx);refine⟨fun x hx=>?_,b⟩;rw [nY] at hx
    rcases List.mem_cons.1 hx with rfl | hx
    · rw [h x (List.mem_cons_self ..)];simp
    · exact a x hx
theorem xZ(p:dY):p.tokens≤(leftS p).tokens∧(leftS p).tokens≤p.tokens+2∧p.nest≤(leftS p).nest∧(leftS p).nest≤p.nest+1:=by
  unfold leftS;split<;>simp
theorem pend_none{P:List dY}{c:Nat}(h:bEh [] P c):P=[]∧c=0:=by
  cases h;exact⟨rfl,rfl⟩
theorem pend_brk{st:Stk}{P:List dY}{c:Nat}(h:bEh (none::st) P c): ∃d,c=d+1∧bEh st P d:=by
  cases h with
  | brk h=>exact⟨_,rfl,h⟩
theorem nums_mem{toks:List TokV}(ht: ∀t∈toks,bLg t){k:Nat}{n:Int}(h:n∈gD toks k):Rng n:=by
  unfold gD at h;obtain⟨t,h1,rfl⟩:=List.mem_map.1 h;exact(ht t (List.mem_of_mem_drop (List.takeWhile_sublist _ |>.subset h1))).rng
section
variable {toks : List TokV} {e : Int} {l : List cM} {flt : Flt} {k0 : Nat}
structure StB (toks:List TokV) (k0 k:Nat) (out:List cM) (st:Stk) (o:Nat) (p:dY) (P:List dY) (c:Nat):Prop where
  steps:dZ out []=some (p::P)
  pend:bEh st P c
  cost:c+(leftS p).tokens+k0≤k
  nest:qT st+(leftS p).nest≤32
  opens:qT st=o
  rng:RngI out
  rngS:RngS st
  le:k≤toks.length
structure StA (toks:List TokV) (k0 k:Nat) (out:List cM) (st:Stk) (o:Nat) (P:List dY) (c:Nat):Prop where
  steps:dZ out []=some P
  pend:bEh st P c
  cost:c+k0≤k
  opens:qT st=o
  rng:RngI out
  rngS:RngS st
  le:k≤toks.length
theorem bIh(toks:List TokV)(k:Nat)(e:Int)(b:Bool):(bH toks k e b).it.nums=[]:=rfl
theorem StB.verb{k:Nat}{out:List cM}{st:Stk}{o:Nat}{p:dY}{P:List dY}{c:Nat}(h:StB toks k0 k out st o p P c)(hok:mJ (bH toks k e true).flt=true)(hk:k<toks.length):
    StA toks k0 (bH toks k e true).next out (some (bH toks k e true).it::st) o (p::P) (c+(verbS (bH toks k e true).it).2+(leftS p).tokens):=by
  obtain⟨v1,v2,v3⟩:=bRg hok;refine⟨h.steps,.two v1 v2 (by have:=h.nest;omega) h.pend,by have:=h.cost;omega,h.opens,h.rng,fun x hx=>?_,zO hk⟩
  rcases List.mem_cons.1 hx with e1 | hx
  · cases e1;exact bIh ..
  · exact h.rngS x hx
theorem StA.verb{k:Nat}{out:List cM}{st:Stk}{o:Nat}{P:List dY}{c:Nat}(h:StA toks k0 k out st o P c)(hok:mJ (bH toks k e false).flt=true)(hk:k<toks.length):
    StA toks k0 (bH toks k e false).next out (some (bH toks k e false).it::st) o P (c+(verbS (bH toks k e false).it).2):=by
  obtain⟨v1,v2,v3⟩:=bRg hok;refine⟨h.steps,.one v1 v2 h.pend,by have:=h.cost;omega,h.opens,h.rng,fun x hx=>?_,zO hk⟩
  rcases List.mem_cons.1 hx with e1 | hx
  · cases e1;exact bIh ..
  · exact h.rngS x hx
theorem StA.operand{k m:Nat}{out:List cM}{st:Stk}{o:Nat}{P:List dY}{c:Nat}{x:cM}{p:dY}(h:StA toks k0 k out st o P c)(hx:gS P x=some (p::P))(hp:p.plain=true)(hn:p.nest=0)(ht:p.tokens≤m)(ho:o≤32)(hr: ∀n∈x.nums,Rng n)(hl:k+m≤toks.length):
    StB toks k0 (k+m) (out++[x]) st o p P c:=by
  have e1:leftS p=p:=by unfold leftS;rw [if_pos hp]
  exact⟨steps_snoc h.steps hx,h.pend,by rw [e1];have:=h.cost;omega,by rw [e1,hn,h.opens];exact ho,h.opens,h.rng.append fun y hy=>by rw [List.mem_singleton.1 hy];exact hr,h.rngS,hl⟩
theorem StB.close{k:Nat}{out:List cM}{st:Stk}{o:Nat}{p:dY}{P:List dY}{c:Nat}(h:StB toks k0 k out st (o+1) p P c)(hk:k<toks.length):
    ∃p' P' c',StB toks k0 (k+1) (out++(nY st).1) (nY st).2.tail o p' P' c':=by
  have hn:=h.nest;have hc:=h.cost;have ho:=h.opens;obtain⟨l1,l2,l3,l4⟩:=xZ p;obtain⟨p',P',c',h1,h2,h3,h4⟩:=fin_pend h.pend (p:=p) n0
  rcases bPb st with ⟨_,h0⟩ | ⟨r,e1,e2⟩
  · omega
  · rw [e1] at h2;obtain⟨d,rfl,h5⟩:=pend_brk h2;obtain⟨m1,m2,m3,m4⟩:=xZ p';obtain⟨r1,r2⟩:=fin_rng h.rngS;refine⟨p',P',d,by rw [rZ,h.steps];exact h1,by rw [e1];exact h5,n0,by rw [e1];simp only [List.tail_cons];omega,by rw [e1];simp only [List.tail_cons];omega,h.rng.append r1,?_,n0⟩;intro x hx;rw [e1] at r2 hx;exact r2 x (List.mem_cons_of_mem _ hx)
theorem StB.done{k:Nat}{out:List cM}{st:Stk}{p:dY}{P:List dY}{c:Nat}(h:StB toks k0 k out st 0 p P c):xF (out++(nY st).1) (toks.length-k0):=by
  have hn:=h.nest;have hc:=h.cost;have ho:=h.opens;have hle:=h.le;obtain⟨l1,l2,l3,l4⟩:=xZ p;obtain⟨p',P',c',h1,h2,h3,h4⟩:=fin_pend h.pend (p:=p) n0
  rcases bPb st with ⟨e1,_⟩ | ⟨r,_,e2⟩
  · rw [e1] at h2;obtain⟨rfl,rfl⟩:=pend_none h2;exact⟨⟨p',by rw [rZ,h.steps];exact h1,n0,n0⟩,h.rng.append (fin_rng h.rngS).1⟩
  · omega
theorem bSz{rec:Nat→List cM→Stk→Nat→wY}{kk:Nat}(hrec: ∀{k out st o P c},kk<k→StA toks k0 k out st o P c→o≤32→rec k out st o=(l,flt)→xF l (toks.length-k0))(hok:mJ flt=true):
    ∀(o:Nat) {k:Nat} {out:List cM} {st:Stk} {p:dY} {P:List dY} {c:Nat},kk≤k→StB toks k0 k out st o p P c→tP toks e rec o k out st=(l,flt)→xF l (toks.length-k0):=by
  have rest: ∀(o:Nat) {k:Nat} {out:List cM} {st:Stk} {p:dY} {P:List dY} {c:Nat},kk≤k→StB toks k0 k out st o p P c→bCv toks e rec o k out st=(l,flt)→xF l (toks.length-k0):=by
    intro o k out st p P c hkk h hr;unfold bCv at hr;split at hr
    · split at hr
      · cases hr;rw [iF o8] at hok;cases hok
      · rename_i h0;cases hr;obtain rfl:o=0:=n0
        exact h.done
    · rename_i h4;split at hr
      · cases hr;rw [iF o8] at hok;cases hok
      · split at hr
        · rename_i hp;have:=cY toks k e true;exact hrec n0 (h.verb hp (iT h4)) (by have:=h.nest;have:=h.opens;omega) hr
        · rename_i hp;cases hr;exact absurd hok hp
  intro o
  induction o with
  | zero=>exact fun hkk h hr=>rest 0 hkk h hr
  | succ o ih=>
    intro k out st p P c hkk h hr;rw [tP] at hr;split at hr
    · rename_i hc;obtain⟨p',P',c',h'⟩:=h.close (iT (by rw [hc.1];decide));exact ih n0 h' hr
    · exact rest _ hkk h hr
theorem go_ok(ht: ∀t∈toks,bLg t)(h256:toks.length≤256)(hok:mJ flt=true): ∀(f:Nat) {k:Nat} {out:List cM} {st:Stk} {o:Nat} {P:List dY} {c:Nat},toks.length+1≤f+k→StA toks k0 k out st o P c→o≤32→mT toks e f k out st o=(l,flt)→xF l (toks.length-k0)
  | 0,k,out,st,o,P,c,hf,h,_,_=>by have:=h.le;omega
  | f+1,k,out,st,o,P,c,hf,h,ho,hg=>by
    have hrec: ∀(k':Nat),k<k'→ ∀{out st o P c},StA toks k0 k' out st o P c→o≤32→mT toks e f k' out st o=(l,flt)→xF l (toks.length-k0):=fun k' hk'=>go_ok ht h256 hok f n0;rw [mT] at hg;split at hg
    · rename_i hv;split at hg
      · rename_i hp;have:=cY toks k e false;exact hrec _ n0 (h.verb hp (iT hv.2.1)) ho hg
      · rename_i hp;cases hg;exact absurd hok hp
    · split at hg
      · rename_i hb;split at hg
        · cases hg;rw [iF o8] at hok;cases hok
        · rename_i h32;have hk:=iT (toks:=toks) (k:=k) (by rw [hb.1];decide);refine hrec (k+1) n0 (P:=P) (c:=c+1) ⟨h.steps,.brk h.pend,by have:=h.cost;omega,by rw [qT,h.opens],h.rng,fun x hx=>h.rngS x (by simpa using hx),hk⟩ n0 hg
      · split at hg
        · rename_i h2;have hn:=vE h2;have hl:=nums_le toks k;have hk:=iT (toks:=toks) (k:=k) (by rw [h2];decide)
          have hst:gS P (zN toks k)=some (⟨(gD toks k).map dT,0,(gD toks k).length,true⟩::P):=by
            have hne:gD toks k≠[]:=by rw [hn];simp
            have h3: ¬256<(gD toks k).length:=n0
            simp [gS,zN,operandS,hne,h3]
          have hB:=h.operand (m:=(gD toks k).length) hst rfl rfl (Nat.le_refl _) ho (fun n hn=>nums_mem ht hn) n0;exact bSz (kk:=k) (fun hk'=>hrec _ hk') hok o n0 hB hg
        · split at hg
          · rename_i hnm;have hk:=iT (toks:=toks) (k:=k) (by rw [hnm.1];decide);have hst:gS P (sY toks k)=some (⟨[(bG toks k).word],0,1,true⟩::P):=by simp [gS,sY,operandS,hnm.2]
            have hB:=h.operand (m:=1) hst rfl rfl (Nat.le_refl _) ho (fun n hn=>by simp [sY] at hn) n0;exact bSz (kk:=k) (fun hk'=>hrec _ hk') hok o n0 hB hg
          · split at hg
            · cases hg;rw [iF o8] at hok;cases hok
            · cases hg;rw [iF o8] at hok;cases hok
end
theorem bJj: ∀(f i:Nat) (s:Bs) (out:List Tok),(∀t∈out,bLg t)→ ∀t∈(lexGo f i s out).1,bLg t
  | 0,_,_,out,h=>h
  | _+1,_,[],out,h=>h
  | f+1,i,b::r,out,h=>by
    unfold lexGo;split
    · exact bJj f _ _ _ h
    · split
      · exact bJj f _ _ _ h
      · split
        · exact fun t ht=>by simp at ht
        · rename_i ht;refine bJj f _ _ _ fun t hm=>?_
          rcases List.mem_append.1 hm with hm | hm
          · exact h t hm
          · rw [List.mem_singleton.1 hm];have h1:=bHf ht;obtain⟨_,h2,h3⟩:=bSj ht;exact⟨h1.num,h1.word,h2,h3⟩
theorem tkOk(s:Bs): ∀t∈(fW s).1,bLg t:=by
  unfold fW;split
  · exact fun t ht=>by simp at ht
  · exact bJj _ _ _ _ fun t ht=>by simp at ht
theorem expr_ok{toks:List TokV}{e:Int}{k:Nat}(ht: ∀t∈toks,bLg t)(h256:toks.length≤256)(hk:k≤toks.length)(hok:mJ (nA toks e k).2=true):xF (nA toks e k).1 (toks.length-k):=
  go_ok (k0:=k) (e:=e) (l:=(nA toks e k).1) (flt:=(nA toks e k).2) ht h256 hok (toks.length+1) (k:=k) (o:=0) (P:=[]) (c:=0) n0 ⟨rfl,.nil,n0,rfl,fun x hx=>by simp at hx,fun x hx=>by simp at hx,hk⟩ n0 rfl
def InOk (x:dQ):Prop:=cT x.name=true∧x.sides.length≤4∧ ∀d∈x.sides,bFi d∧Rng d.n
def LnOk (l:iD):Prop:=cT l.name=true∧xF l.items 254
def LastOk(l:iD):Prop:=l.name=[]∧xF l.items 255
theorem xF.mono{l:List cM}{a b:Nat}(h:xF l a)(hab:a≤b):xF l b:=by
  obtain⟨⟨p,h1,h2,h3⟩,h4⟩:=h;exact⟨⟨p,h1,n0,h3⟩,h4⟩
theorem xF.tok{l:List cM}{a:Nat}(h:xF l a):tokS l≤a:=by
  obtain⟨⟨p,h1,h2,h3⟩,h4⟩:=h;unfold tokS;rw [h1];exact h2
theorem xF.expr{l:List cM}{a:Nat}(h:xF l a): ∃t,fO l a=some t:=by
  obtain⟨⟨p,h1,h2,h3⟩,h4⟩:=h;have:=bEb h1;simp at this;refine⟨joinSp p.words,?_⟩;unfold fO;rw [if_neg n0,h1];simp only;rw [if_neg n0]
def LinesOk(ls:List iD)(over:Bool):Prop:=(over=false∧ ∀l∈ls,LnOk l)∨(over=true∧ ∃L z,ls=L++[z]∧(∀l∈L,LnOk l)∧LastOk z)
structure PSt (p:fT) (n:Nat) (over:Bool):Prop where
  ins: ∀x∈p.inputs,InOk x
  lns:LinesOk p.lines over
  num:p.inputs.length+p.lines.length≤n
  le:n≤64
theorem bNo: ∀(toks:List TokV) (acc:List oA),(∀t∈toks,bLg t)→acc.length≤4→mJ (lG toks acc).2=true→ ∃ds,(lG toks acc).1=acc++ds∧ds.length=toks.length∧(acc++ds).length≤4∧ ∀d∈ds,bFi d∧Rng d.n
  | [],acc,_,ha,_=>⟨[],by simp [lG],rfl,by simpa using ha,o3⟩
  | t::r,acc,ht,ha,h=>by
    rw [lG] at h⊢;split at h
    · rw [iF o8] at h;cases h
    · rename_i hk;rw [if_neg hk];split at h
      · rw [iF o8] at h;cases h
      · rename_i h4;rw [if_neg h4];obtain⟨ds,h1,h2,h3,h5⟩:=bNo r (acc++[⟨t.word,t.n⟩]) (fun x hx=>ht x ac4) q9 h;refine⟨⟨t.word,t.n⟩::ds,by rw [h1];simp,by simp [h2],by simpa using h3,fun d hd=>?_⟩
        rcases List.mem_cons.1 hd with rfl | hd
        · have hto:=ht t o3;refine⟨⟨?_⟩,hto.rng⟩
          by_cases h2:t.kind=2
          · exact .inl (hto.num h2)
          · have: ¬(t.kind≠1∨cT t.word=false):=fun hh=>hk ⟨h2,hh⟩;simp only [not_or,ne_eq,Classical.not_not,Bool.not_eq_false] at this;exact .inr ⟨hto.word this.1,this.2⟩
        · exact h5 d hd
theorem input_conv{own:List TokV}{e:Int}(h0:own≠[])(ht: ∀t∈own,bLg t)(hok:mJ (kC own e).2=true):InOk (kC own e).1∧(kC own e).1.sides.length+2=own.length:=by
  have hpos:0<own.length:=List.length_pos_iff.2 h0;unfold kC at hok⊢;split at hok
  · rw [iF o8] at hok;cases hok
  · rename_i h1;rw [if_neg h1];split at hok
    · rw [iF o8] at hok;cases hok
    · rename_i h2;rw [if_neg h2];simp only [not_or,ne_eq,Classical.not_not,Bool.not_eq_false] at h2;obtain⟨ds,s1,s2,s3,s4⟩:=bNo (own.drop 2) [] (fun t hm=>ht t (List.mem_of_mem_drop hm)) o3 hok;rw [List.nil_append] at s1 s3;refine⟨⟨h2.2,by rw [s1];exact s3,by rw [s1];exact s4⟩,?_⟩;rw [s1,s2,List.length_drop];omega
theorem into_conv{own:List TokV}{e:Int}{p:fT}{n:Nat}{over:Bool}(h0:own≠[])(ht: ∀t∈own,bLg t)(h:PSt p n over)(hok:mJ (fP own e p n over).2=true):PSt (fP own e p n over).1 (n+1) (pH (fP own e p n over).1)∧xK (fP own e p n over).1≤xK p+own.length+1:=by
  have hpos:0<own.length:=List.length_pos_iff.2 h0;obtain⟨ins,lns⟩:=p;obtain⟨h1,h2,h3,h4⟩:=h;unfold fP at hok⊢;split at hok
  · rw [iF o8] at hok;cases hok
  · rename_i c1;rw [if_neg c1];split at hok
    · rw [iF o8] at hok;cases hok
    · rename_i c2;rw [if_neg c2];split at hok
      · rw [iF o8] at hok;cases hok
      · rename_i c3;rw [if_neg c3];simp only [not_or,Bool.not_eq_true,not_and,ne_eq,Classical.not_not] at c3;obtain⟨rfl,c3⟩:=c3
        have hL: ∀l∈lns,LnOk l:=by
          rcases h2 with ⟨_,h⟩ | ⟨h,_⟩
          · exact h
          · cases h
        split at hok
        · rename_i c4;rw [if_pos c4];have hl:lns=[]:=c3 c4;subst hl;obtain⟨i1,i2⟩:=input_conv h0 ht hok;refine⟨⟨fun x hx=>?_,.inl ⟨rfl,fun l hl=>by simp at hl⟩,by simp at h3⊢;omega,n0⟩,?_⟩
          · rcases List.mem_append.1 hx with hx | hx
            · exact h1 x hx
            · rw [List.mem_singleton.1 hx];exact i1
          · simp only [xK,List.map_append,List.sum_append,List.map_cons,List.map_nil,List.sum_cons,List.sum_nil,costI];omega
        · rename_i c4;rw [if_neg c4];split at hok
          · rename_i c5;rw [if_pos c5];have hx:xF (nA own e 1).1 (own.length-1):=expr_ok ht n0 hpos hok;have htk:=hx.tok;refine⟨⟨h1,.inr ⟨by rw [zD];rfl,lns,_,rfl,hL,rfl,hx.mono n0⟩,by simp only [List.length_append,List.length_singleton] at h3⊢;omega,n0⟩,?_⟩;simp only [xK,List.map_append,List.sum_append,List.map_cons,List.map_nil,List.sum_cons,List.sum_nil,bSl,rV,if_true];omega
          · rename_i c5;rw [if_neg c5];split at hok
            · rw [iF o8] at hok;cases hok
            · rename_i c6;rw [if_neg c6];simp only [not_or,ne_eq,Classical.not_not,Bool.not_eq_false] at c6;split at hok
              · rw [iF o8] at hok;cases hok
              · rename_i c7;rw [if_neg c7];simp only [not_or,ne_eq,Classical.not_not] at c7;have hk:=iT (toks:=own) (k:=1) (by rw [c7.1];decide);have hx:xF (nA own e 2).1 (own.length-2):=expr_ok ht n0 n0 hok;have htk:=hx.tok;have hne:=(bCx c6.2).1
                have hov:pH ⟨ins,lns++[(rV own e (bG own 0).word 2).1]⟩=false:=by
                  rw [zD]
                  simpa [rV] using hne
                refine⟨⟨h1,.inl ⟨hov,fun l hl=>?_⟩,by simp only [List.length_append,List.length_singleton] at h3⊢;omega,n0⟩,?_⟩
                · rcases List.mem_append.1 hl with hl | hl
                  · exact hL l hl
                  · rw [List.mem_singleton.1 hl];exact⟨c6.2,hx.mono n0⟩
                · simp only [xK,List.map_append,List.sum_append,List.map_cons,List.map_nil,List.sum_cons,List.sum_nil,bSl,rV,hne,if_false];omega
theorem tZ{len:Int}{tot:Nat}: ∀(f:Nat) {toks:List TokV} {p q:fT} {n:Nat} {over:Bool} {flt:Flt},toks.length+1≤f→(∀t∈toks,bLg t)→PSt p n over→xK p+toks.length≤tot+(if toks=[] then 1 else 0)→sD len f toks p n over=(q,flt)→mJ flt=true→PSt q 64 true∧xK q≤tot+1
  | 0,toks,_,_,_,_,_,hf,_,_,_,_,_=>by omega
  | f+1,toks,p,q,n,over,flt,hf,ht,hp,hc,h,hok=>by
    rw [sD] at h
    by_cases h0:toks=[]
    · rw [if_pos h0] at h;rw [if_pos h0] at hc;split at h
      · rename_i ho;cases h;subst ho;have:toks.length=0:=by rw [h0];rfl
        exact⟨⟨hp.ins,hp.lns,by have:=hp.num;have:=hp.le;omega,n0⟩,n0⟩
      · cases h;rw [iF o8] at hok;cases hok
    · rw [if_neg h0] at h;rw [if_neg h0] at hc;have hpos:0<toks.length:=List.length_pos_iff.2 h0;split at h
      · refine tZ f ah4 (fun t hm=>ht t (List.mem_of_mem_drop hm)) hp ?_ h hok;rw [List.length_drop];split<;>omega
      · rename_i hon;split at h
        · rename_i hi;have hsub: ∀t∈dC toks,bLg t:=fun t hm=>ht t (by rw [←bDy] at hm;exact List.mem_of_mem_take hm);obtain⟨a,b⟩:=into_conv hon hsub hp hi;have hle:=bNr toks;refine tZ f ah4 (fun t hm=>ht t (List.mem_of_mem_drop hm)) a ?_ h hok;rw [List.length_drop];split
          · omega
          · rename_i hd;have:(toks.drop ((dC toks).length+1)).length≠0:=fun e=>hd (List.eq_nil_of_length_eq_zero e);rw [List.length_drop] at this;omega
        · rename_i hi;cases h;exact absurd hok hi
theorem parse_conv{text:Bs}{p:fT}{flt:Flt}(h:hO text=(p,flt))(hok:mJ flt=true):PSt p 64 true∧xK p≤(fW text).1.length+1:=by
  unfold hO at h;split at h
  · refine tZ _ (Nat.le_refl _) (tkOk text) ⟨fun x hx=>by simp at hx,.inl ⟨rfl,fun l hl=>by simp at hl⟩,o3,n0⟩ ?_ h hok;simp [xK]
  · rename_i hl;cases h;exact absurd hok hl
theorem bCm: ∀(ds:List oA) (acc:Bs),(∀d∈ds,bFi d)→ ∃t,jZ ds acc=some t
  | [],acc,_=>⟨acc,rfl⟩
  | d::ds,acc,h=>by
    rw [jZ];split
    · exact bCm ds _ fun x hx=>h x ac4
    · rename_i he;rw [if_pos ((h d o3).ok.resolve_left he)];exact bCm ds _ fun x hx=>h x ac4
theorem bId: ∀(xs:List dQ) (o:Bs),(∀x∈xs,InOk x)→ ∃o',gZ xs o=(o',true)
  | [],o,_=>⟨o,rfl⟩
  | x::xs,o,h=>by
    obtain⟨h1,h2,h3⟩:=h x o3;obtain⟨t,ht⟩:=bCm x.sides x.name fun d hd=>(h3 d hd).1
    have hi:mD x=some t:=by
      unfold mD;rw [if_neg (by rw [h1];simp;omega),ht]
    rw [gZ,hi];exact bId xs _ fun y hy=>h y ad8
theorem bMi{z:iD}(hz:LastOk z): ∀(L:List iD) (o:Bs),(∀l∈L,LnOk l)→ ∃o',dN (L++[z]) o=(o',true)
  | [],o,_=>by
    obtain⟨t,ht⟩:=hz.2.expr;refine⟨o++(([111,117,116,32]++t)++[10]),?_⟩;show dN [z] o=_;simp only [dN];rw [ht];simp only [hz.1,ne_eq,not_true_eq_false,if_false]
  | l::L,o,h=>by
    obtain⟨h1,h2⟩:=h l o3;obtain⟨t,ht⟩:=h2.expr;obtain⟨o',ho⟩:=bMi hz L (o++(((l.name++[58,32])++t)++[10])) fun y hy=>h y ad8;refine⟨o',?_⟩
    obtain⟨m,M,hM⟩: ∃m M,L++[z]=m::M:=by
      cases L with
      | nil=>exact⟨z,[],rfl⟩
      | cons m M=>exact⟨m,M++[z],rfl⟩
    rw [List.cons_append];rw [hM] at ho⊢
    have:dN (l::m::M) o=match fO l.items 254 with
        | none=>(o,false)
        | some t=>if cT l.name=false then (o,false) else dN (m::M) (o++(((l.name++[58,32])++t)++[10])):=rfl
    rw [this,ht];simp only;rw [if_neg ah9];exact ho
theorem PSt.lines_ne{p:fT}{n:Nat}(h:PSt p n true):p.lines≠[]:=by
  rcases h.lns with ⟨h,_⟩ | ⟨_,L,z,h,_⟩
  · cases h
  · rw [h];simp
theorem PSt.right{p:fT}(h:PSt p 64 true):(cI p).2=true:=by
  unfold cI;rw [if_neg]
  · obtain⟨o,ho⟩:=bId p.inputs [] h.ins;rw [ho]
    rcases h.lns with ⟨h,_⟩ | ⟨_,L,z,hl,hL,hz⟩
    · cases h
    · obtain⟨o',ho'⟩:=bMi hz L o hL;simp only [hl,ho']
  · have:=h.num;rintro(h' | h')
    · exact h.lines_ne h'
    · omega
theorem PSt.rng{p:fT}{n:Nat}(h:PSt p n true):RngP p:=by
  refine⟨fun x hx d hd=>((h.ins x hx).2.2 d hd).2,fun l hl=>?_⟩
  rcases h.lns with ⟨h,_⟩ | ⟨_,L,z,e,hL,hz⟩
  · cases h
  · rw [e] at hl
    rcases List.mem_append.1 hl with hl | hl
    · exact(hL l hl).2.2
    · rw [List.mem_singleton.1 hl];exact hz.2.2
theorem steps_un: ∀(l:List cM) (st:List dY),dZ (jC l) st=dZ l st
  | [],_=>rfl
  | x::l,st=>by
    show(match gS st x with
      | none=>none
      | some st'=>dZ (jC l) st')=_
    rw [dZ]
    cases gS st x with
    | none=>rfl
    | some s=>exact steps_un l s
theorem expr_un(l:List cM)(m:Nat):fO (jC l) m=fO l m:=by
  unfold fO;rw [steps_un];simp [jC]
theorem bQo: ∀(xs:List dQ) (o:Bs),gZ (xs.map dQ.un) o=gZ xs o
  | [],_=>rfl
  | x::xs,o=>by
    rw [List.map_cons,gZ,gZ]
    show(match mD x with
      | none=>(o,false)
      | some t=>gZ (xs.map dQ.un) (o++(([105,110,32]++t)++[10])))=_
    cases mD x with
    | none=>rfl
    | some t=>exact bQo xs _
theorem lines_un: ∀(ls:List iD) (o:Bs),dN (ls.map iD.un) o=dN ls o
  | [],_=>rfl
  | [l],o=>by
    show dN [l.un] o=_;simp only [dN]
    show(match fO (jC l.items) 255 with
      | none=>(o,false)
      | some t=>_)=_
    rw [expr_un];rfl
  | l::m::ls,o=>by
    show(match fO (jC l.items) 254 with
        | none=>(o,false)
        | some t=>if cT l.name=false then (o,false) else dN ((m::ls).map iD.un) (o++(((l.name++[58,32])++t)++[10])))=match fO l.items 254 with
        | none=>(o,false)
        | some t=>if cT l.name=false then (o,false) else dN (m::ls) (o++(((l.name++[58,32])++t)++[10]))
    rw [expr_un]
    cases fO l.items 254 with
    | none=>rfl
    | some t=>
      simp only;split
      · rfl
      · exact lines_un (m::ls) _
theorem program_un(p:fT):cI p.un=cI p:=by
  unfold cI fT.un;simp only [List.map_eq_nil_iff,List.length_map,bQo,lines_un]
theorem show_ok{p:fT}(h:(mZ p).2=0):cI p=((mZ p).1,true)∧(mZ p).1.length≤65536:=by
  unfold mZ at h⊢;split at h
  · cases h
  · rename_i h1;split at h
    · cases h
    · rename_i h2;rw [if_neg h1,if_neg h2];simp only [Bool.not_eq_false] at h1;exact⟨Prod.ext rfl h1,by simp only;omega⟩
theorem isOk_iff{f:Flt}:mJ f=true↔f=(0,0):=by
  constructor
  · intro h;simp only [mJ,pA,Bool.and_eq_true,beq_iff_eq] at h;exact Prod.ext h.1 h.2
  · rintro rfl;rfl
theorem back_law{p:fT}(hr:RngP p)(h:(mZ p).2=0):(cI p).2=true∧(hO (mZ p).1).2=(0,0)∧(hO (mZ p).1).1.un=p.un:=by
  obtain⟨h1,h2⟩:=show_ok h;obtain⟨⟨q,h3,h4⟩,_⟩:=shown_read hr h1 h2;exact⟨by rw [h1],by rw [h3],by rw [h3];exact h4⟩
theorem bFv{text:Bs}(h:(hO text).2=(0,0)):(cI (hO text).1).2=true∧RngP (hO text).1:=by
  have:=parse_conv (text:=text) (p:=(hO text).1) (flt:=(hO text).2) rfl (isOk_iff.2 h);exact⟨this.1.right,this.1.rng⟩
end Go.Proofs.YtakphiannlpnfaaGreatDoor
