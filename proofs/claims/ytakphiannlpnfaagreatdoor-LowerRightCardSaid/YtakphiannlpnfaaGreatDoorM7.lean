/- Texts of one proof, one behind the other: ShowP, ParseP, BackL, BackP, BackE, BackC, BackD, BackR, BackN. -/
import Derived.Test.YtakphiannlpnfaaGreatDoorM6
namespace Go.Proofs.YtakphiannlpnfaaGreatDoor
open Go.RowKit
structure pN where
 name:Bs
 n:Int
 deriving Inhabited,DecidableEq
structure gM where
 name:Bs
 at_:Int
 sides:List pN
 deriving Inhabited,DecidableEq
structure mT where
 name:Bs
 at_:Int
 items:List cT
 deriving Inhabited,DecidableEq
structure gN where
 inputs:List gM
 lines:List mT
 deriving Inhabited,DecidableEq
def dU:List Bs:=[[43],[45],[42],[37],[124],[109,105,110],[109,97,120],[61],[126],[60],[60,61],[62,61],[62],[97,110,100],[111,114],[112,111,119],[114,104,111],[116,97,107,101],[100,114,111,112],[99,97,116],[105,111,116,97],[115,104,97,112,101],[114,97,118,101,108],[114,101,118],[116,117,114,110]]
def bAv (two:Bool)(f:Int):List Bs→Bs→Bs
 | [],acc=>acc
 | s::r,acc=>bAv two f r (if fG s two !=0&&fG s two==f then s else acc)
def lE (two:Bool)(f:Int):Bs:=bAv two f dU []
structure fC where
 words:List Bs
 nest:Nat
 tokens:Nat
 plain:Bool
 deriving Inhabited,DecidableEq
def operandS(it:cT):Option fC:=
 if it.how=2 then (if it.fn=0∧it.nums=[]∧dD it.name=true then some ⟨[it.name],0,1,true⟩ else none)
 else if it.fn≠0∨it.name≠[]∨it.nums=[]∨256<it.nums.length then none
 else some ⟨it.nums.map fY,0,it.nums.length,true⟩
def bWw (how:Int):Bs:=if how=5 then [47] else if how=6 then [92] else if how=7 then [46] else []
def verbS (it:cT):Bs×Nat:=
 if it.how=3 then (lE false it.fn,1)
 else if lE true it.fn=[]∨it.how=4 then (lE true it.fn,1)
 else if 17<it.fn then ([],0)
 else (lE true it.fn++bWw it.how,2)
def brkEnd:List Bs→List Bs
 | []=>[]
 | [w]=>[w++[41]]
 | w::r=>w::brkEnd r
def brk:List Bs→List Bs
 | []=>[]
 | w::r=>brkEnd (([40]++w)::r)
def leftS (p:fC):fC:=if p.plain then p else ⟨brk p.words,p.nest+1,p.tokens+2,p.plain⟩
def zR (how:Int):Bool:=how==4 || how==7
def rK (it:cT)(st:List fC):Option (List fC):=
 if zR it.how then match st with
  | p::q::r=>some (⟨(leftS q).words++(verbS it).1::p.words,max p.nest (leftS q).nest,p.tokens+(verbS it).2+(leftS q).tokens,false⟩::r)
  | _=>none
 else match st with
  | p::r=>some (⟨(verbS it).1::p.words,p.nest,p.tokens+(verbS it).2,false⟩::r)
  | []=>none
def iF (st:List fC)(it:cT):Option (List fC):=
 if it.how=1∨it.how=2 then (operandS it).map (· ::st)
 else if it.how<3∨7<it.how∨it.nums≠[]∨it.name≠[]∨(verbS it).1=[] then none
 else rK it st
def fT:List cT→List fC→Option (List fC)
 | [],st=>some st
 | it::r,st=>match iF st it with
  | none=>none
  | some st'=>fT r st'
def joinSp:List Bs→Bs
 | []=>[]
 | [w]=>w
 | w::r=>w++32::joinSp r
def gH (l:List cT)(most:Nat):Option Bs:=
 if most<l.length then none else match fT l [] with
  | some [p]=>if most<p.tokens∨32<p.nest then none else some (joinSp p.words)
  | _=>none
def lW:List pN→Bs→Option Bs
 | [],t=>some t
 | d::r,t=>if d.name=[] then lW r (t++([32]++fY d.n)) else if d.n=0∧dD d.name=true then lW r (t++([32]++d.name)) else none
def qD (x:gM):Option Bs:=if dD x.name=false∨4<x.sides.length then none else lW x.sides x.name
def mU:List gM→Bs→Bs×Bool
 | [],o=>(o,true)
 | x::r,o=>match qD x with
  | none=>(o,false)
  | some t=>mU r (o++(([105,110,32]++t)++[10]))
def fB:List mT→Bs→Bs×Bool
 | [],o=>(o,true)
 | [l],o=>match gH l.items 255 with
  | none=>(o,false)
  | some t=>if l.name≠[] then (o,false) else (o++(([111,117,116,32]++t)++[10]),true)
 | l::r,o=>match gH l.items 254 with
  | none=>(o,false)
  | some t=>if dD l.name=false then (o,false) else fB r (o++(((l.name++[58,32])++t)++[10]))
def cV (p:gN):Bs×Bool:=
 if p.lines=[]∨64<p.inputs.length+p.lines.length then ([],false) else match mU p.inputs [] with
  | (o,false)=>(o,false)
  | (o,true)=>fB p.lines o
def pL (two:Bool)(f:Int):List Bs→Bs
 | []=>[]
 | s::r=>if fG s two !=0&&fG s two==f then s else pL two f r
structure Part where
 s:Bs
 plain:Bool
 tokens:Nat
 nest:Nat
 deriving Inhabited,DecidableEq
def brkR (p:Part):Part:=if p.plain then p else ⟨([40]++p.s)++[41],false,p.tokens+2,p.nest+1⟩
def hitB (two:Bool)(f:Int)(s:Bs):Bool:=fG s two !=0&&fG s two==f
theorem bQq(two:Bool)(f:Int): ∀l:List Bs,l.Pairwise (fun s t=>fG s two=0∨fG s two≠fG t two)→ ∀acc,bAv two f l acc=if l.any (hitB two f) then pL two f l else acc
 | [],_,acc=>rfl
 | s::r,h,acc=>by
  obtain⟨h1,h2⟩:=List.pairwise_cons.1 h;rw [bAv,pL,bQq two f r h2]
  by_cases hs:(fG s two !=0&&fG s two==f)=true
  ·have hn:r.any (hitB two f)=false:=by
    rw [List.any_eq_false];intro t ht hb;simp only [hitB,Bool.and_eq_true,bne_iff_ne,beq_iff_eq] at hb hs
    rcases h1 t ht with h | h
    ·exact hs.1 h
    ·exact h (hs.2.trans hb.2.symm)
   simp [hs,hn,hitB]
  ·simp only [Bool.not_eq_true] at hs;simp [hs,hitB]
theorem bSg(two:Bool)(f:Int): ∀l:List Bs,l.any (hitB two f)=false→pL two f l=[]
 | [],_=>rfl
 | s::r,h=>by
  rw [List.any_cons,Bool.or_eq_false_iff] at h;rw [pL];have:(fG s two !=0&&fG s two==f)=false:=h.1;rw [this,bSg two f r h.2];rfl
theorem bNv(two:Bool)(f:Int):pL two f dU=lE two f:=by
 unfold lE;rw [bQq two f dU (by cases two<;>decide)];cases h:dU.any (hitB two f)
 ·rw [bSg two f _ h];rfl
 ·rfl
theorem bUn(two:Bool)(f:Int): ∀l:List Bs,pL two f l≠[]→pL two f l∈l∧hitB two f (pL two f l)=true
 | [],h=>absurd rfl h
 | s::r,h=>by
  rw [pL] at h⊢
  by_cases hs:(fG s two !=0&&fG s two==f)=true
  ·rw [if_pos hs];exact⟨List.mem_cons_self ..,hs⟩
  ·rw [if_neg hs] at h⊢;obtain⟨h1,h2⟩:=bUn two f r h;exact⟨List.mem_cons_of_mem _ h1,h2⟩
theorem textF_hit{two:Bool}{f:Int}(h:lE two f≠[]):lE two f∈dU∧fG (lE two f) two=f∧f≠0:=by
 rw [←bNv] at h⊢;obtain⟨h1,h2⟩:=bUn two f _ h;simp only [hitB,Bool.and_eq_true,bne_iff_ne,beq_iff_eq] at h2;exact⟨h1,h2.2,fun e=>h2.1 (h2.2.trans e)⟩
theorem uZ(w:Bs){r:List Bs}(h:r≠[]):joinSp (w::r)=w++32::joinSp r:=by
 cases r with
 | nil=>exact absurd rfl h
 | cons x r=>rfl
theorem bXo{l:List Bs}(h:l≠[]):brkEnd l≠[]:=by
 match l,h with
 | [w],_=>simp [brkEnd]
 | w::x::r,_=>simp [brkEnd]
theorem bLk: ∀l:List Bs,l≠[]→joinSp (brkEnd l)=joinSp l++[41]
 | [],h=>absurd rfl h
 | [w],_=>rfl
 | w::x::r,_=>by
  show joinSp (w::brkEnd (x::r))=_;rw [uZ w (bXo o6),bLk (x::r) o6,uZ w o6];simp
theorem join_brk{l:List Bs}(h:l≠[]):joinSp (brk l)=([40]++joinSp l)++[41]:=by
 cases l with
 | nil=>exact absurd rfl h
 | cons w r=>
  show joinSp (brkEnd _)=_;rw [bLk _ o6]
  cases r with
  | nil=>simp [joinSp]
  | cons x r=>simp [joinSp]
theorem brk_ne{l:List Bs}(h:l≠[]):brk l≠[]:=by
 cases l with
 | nil=>exact absurd rfl h
 | cons w r=>exact bXo o6
structure Like (p:Part) (q:fC):Prop where
 s:p.s=joinSp q.words
 plain:p.plain=q.plain
 tokens:p.tokens=q.tokens
 nest:p.nest=q.nest
 ne:q.words≠[]
theorem Like.brk{p:Part}{q:fC}(h:Like p q):Like (brkR p) (leftS q):=by
 unfold brkR leftS;rw [h.plain];cases hq:q.plain
 ·simp only [Bool.false_eq_true,if_false];exact⟨by rw [h.s,join_brk h.ne],o6,by simp [h.tokens],by simp [h.nest],brk_ne h.ne⟩
 ·simp only [if_true];exact h
inductive bGq:List Part→List fC→Prop
 | nil:bGq [] []
 | cons {p q a b}:Like p q→bGq a b→bGq (p::a) (q::b)
theorem bGq.len{a:List Part}{b:List fC}(h:bGq a b):a.length=b.length:=by induction h<;>simp_all
theorem step_tokens{st st':List fC}{x:cT}(h:iF st x=some st'):(st.map (·.tokens)).sum+1≤(st'.map (·.tokens)).sum:=by
 unfold iF at h;split at h
 ·unfold operandS at h;split at h
  ·split at h
   ·simp at h;subst h;simp;omega
   ·simp at h
  ·split at h
   ·simp at h
   ·rename_i hn;simp at h;subst h;have:0<x.nums.length:=List.length_pos_iff.2 fun e=>hn ai3;simp;omega
 ·split at h
  ·cases h
  ·have hv:1≤(verbS x).2∨(verbS x).1=[]:=by
    unfold verbS;split
    ·exact .inl o6
    ·split
     ·exact .inl o6
     ·split
      ·exact .inr rfl
      ·exact .inl o6
   rename_i hn;have hv:1≤(verbS x).2:=hv.resolve_right fun e=>hn ai3;unfold rK at h;split at h
   ·split at h
    ·rename_i p q r;simp at h;subst h;have:q.tokens≤(leftS q).tokens:=by unfold leftS;split<;>simp
     simp only [List.map_cons,List.sum_cons];omega
    ·cases h
   ·split at h
    ·simp at h;subst h;simp;omega
    ·cases h
theorem bHw: ∀{l:List cT} {st st':List fC},fT l st=some st'→(st.map (·.tokens)).sum+l.length≤(st'.map (·.tokens)).sum
 | [],st,st',h=>by simp [fT] at h;subst h;simp
 | x::r,st,st',h=>by
  rw [fT] at h
  cases h1:iF st x with
  | none=>rw [h1] at h;cases h
  | some s1=>
   rw [h1] at h;have:=bHw h;have:=step_tokens h1;simp only [List.length_cons];omega
def jQ.sd (x:jQ):pN:=⟨x.name,x.n⟩
def InputV.inp(x:InputV):gM:=⟨x.name,x.at_,x.sides.list.map jQ.sd⟩
def LineV.ln(x:LineV):mT:=⟨x.name,x.at_,x.items.list.map ItemV.it⟩
def ProgV.pr(x:ProgV):gN:=⟨x.inputs.list.map InputV.inp,x.lines.list.map LineV.ln⟩
def nX:List TokV→List pN→List pN×Flt
 | [],acc=>(acc,(0,0))
 | t::r,acc=>
  if t.kind≠2∧(t.kind≠1∨dD t.word=false) then (acc,(t.at_,41))
  else if acc.length=4 then (acc,(t.at_,45)) else nX r (acc++[⟨t.word,t.n⟩])
section
variable (toks : List TokV) (e : Int)
def mB:gM×Flt:=
 if toks.length=1 then (⟨(bG toks 1).word,atP toks 1 e,[]⟩,(atP toks 1 e,42))
 else if (bG toks 1).kind≠1∨dD (bG toks 1).word=false then (⟨(bG toks 1).word,atP toks 1 e,[]⟩,(atP toks 1 e,41))
 else (⟨(bG toks 1).word,atP toks 1 e,(nX (toks.drop 2) []).1⟩,(nX (toks.drop 2) []).2)
def isW (t:TokV)(w:Bs):Bool:=t.kind==1&&t.word==w
def vM (name:Bs)(k:Nat):mT×Flt:=(⟨name,(bG toks 0).at_,(uO toks e k).1⟩,(uO toks e k).2)
def gL (p:gN)(n:Nat)(over:Bool):gN×Flt:=
 if n=64 then (p,(atP toks 0 e,45))
 else if 256<toks.length then (p,(atP toks 256 e,45))
 else if over=true∨isW (bG toks 0) [105,110]=true∧p.lines≠[] then (p,(atP toks 0 e,40))
 else if isW (bG toks 0) [105,110]=true then (⟨p.inputs++[(mB toks e).1],p.lines⟩,(mB toks e).2)
 else if isW (bG toks 0) [111,117,116]=true then (⟨p.inputs,p.lines++[(vM toks e [] 1).1]⟩,(vM toks e [] 1).2)
 else if (bG toks 0).kind≠1∨dD (bG toks 0).word=false then (p,(atP toks 0 e,40))
 else if (bG toks 1).kind≠3∨(bG toks 1).word≠[58] then (p,(atP toks 1 e,42))
 else (⟨p.inputs,p.lines++[(vM toks e (bG toks 0).word 2).1]⟩,(vM toks e (bG toks 0).word 2).2)
end
def dL (toks:List TokV):List TokV:=toks.takeWhile fun t=>t.kind !=4
def endP (toks:List TokV)(len:Int):Int:=atP toks (dL toks).length len
def sI (p:gN):Bool:=match p.lines.getLast? with
 | none=>false
 | some l=>l.name==[]
def tO (len:Int):Nat→List TokV→gN→Nat→Bool→gN×Flt
 | 0,_,_,_,_=>(⟨[],[]⟩,(0,0))
 | f+1,toks,p,n,over=>
  if toks=[] then (if over=true then (p,(0,0)) else (⟨[],[]⟩,(len,42)))
  else if dL toks=[] then tO len f (toks.drop 1) p n over
  else if nN (gL (dL toks) (endP toks len) p n over).2 then
   tO len f (toks.drop ((dL toks).length+1)) (gL (dL toks) (endP toks len) p n over).1 (n+1) (sI (gL (dL toks) (endP toks len) p n over).1)
  else (⟨[],[]⟩,(gL (dL toks) (endP toks len) p n over).2)
def kP (text:Bs):gN×Flt:=
 if nN (gK text).2 then tO text.length ((gK text).1.length+1) (gK text).1 ⟨[],[]⟩ 0 false else (⟨[],[]⟩,(gK text).2)
def PInv (r:gN×Flt)(len:Int)(toks:List TokV)(p:gN)(n:Nat)(over:Bool):Prop:= ∃f,toks.length+1≤f∧tO len f toks p n over=r
section
variable {r : gN × Flt} {len : Int} {toks : List TokV} {p : gN} {n : Nat} {over : Bool}
theorem p_end(h:PInv r len toks p n over)(h0:toks=[]):r=if over=true then (p,(0,0)) else (⟨[],[]⟩,(len,42)):=by
 obtain⟨f,hf,h⟩:=h
 obtain⟨f,rfl⟩: ∃g,f=g+1:=⟨f-1,n7⟩
 rw [tO,if_pos h0] at h;exact h.symm
theorem p_skip(h:PInv r len toks p n over)(h0:toks≠[])(h1:dL toks=[]):PInv r len (toks.drop 1) p n over:=by
 obtain⟨f,hf,h⟩:=h;have:0<toks.length:=List.length_pos_iff.2 h0
 obtain⟨f,rfl⟩: ∃g,f=g+1:=⟨f-1,n7⟩
 rw [tO,if_neg h0,if_pos h1] at h;exact⟨f,by rw [List.length_drop];omega,h⟩
theorem p_line(h:PInv r len toks p n over)(h0:toks≠[])(h1:dL toks≠[]){q:gN}{f:Flt}(hq:gL (dL toks) (endP toks len) p n over=(q,f)):
  (nN f=true→PInv r len (toks.drop ((dL toks).length+1)) q (n+1) (sI q))∧(nN f=false→r=(⟨[],[]⟩,f)):=by
 obtain⟨g,hg,h⟩:=h;have:0<toks.length:=List.length_pos_iff.2 h0
 obtain⟨g,rfl⟩: ∃k,g=k+1:=⟨g-1,n7⟩
 rw [tO,if_neg h0,if_neg h1,hq] at h;refine⟨fun hi=>?_,fun hi=>?_⟩
 ·rw [if_pos hi] at h;exact⟨g,by rw [List.length_drop];omega,h⟩
 ·rw [if_neg ag6] at h;exact h.symm
end
structure bHm (t:TokV):Prop where
 word:t.word.length≤16
 lo: -9223372036854775808≤t.n
 hi:t.n≤9223372036854775807
theorem bQd{neg:Bool}{ds:Bs}{v:Int}(h:uX neg ds=some v): -9223372036854775808≤v∧v≤9223372036854775807:=by
 unfold uX at h;split at h
 ·split at h
  ·injection h with h
   omega
  ·cases h
 ·split at h
  ·injection h with h
   omega
  ·cases h
theorem numTok_ok{b:UInt8}{r:Bs}{t:TokR}(h:iH b r= .ok (some t)):t.2.1=[]∧ -9223372036854775808≤t.2.2.1∧t.2.2.1≤9223372036854775807:=by
 unfold iH at h;dsimp only at h
 by_cases hb:(b==95)=true
 ·simp only [hb,if_true] at h;split at h
  ·cases h
  ·split at h
   ·cases h
   ·rename_i hv;simp only [Except.ok.injEq,Option.some.injEq] at h;subst h;exact⟨rfl,bQd hv⟩
 ·simp only [hb,Bool.false_eq_true,if_false] at h;split at h
  ·cases h
  ·split at h
   ·cases h
   ·rename_i hv;simp only [Except.ok.injEq,Option.some.injEq] at h;subst h;exact⟨rfl,bQd hv⟩
theorem bUy{s:Bs}{k v:Int}{wd:Bs}{m:Nat}(h:fW s= .ok (k,wd,v,m)):wd.length≤16∧ -9223372036854775808≤v∧v≤9223372036854775807:=by
 cases s with
 | nil=>cases h
 | cons b r=>
  simp only [fW] at h;split at h
  ·cases h;decide
  ·split at h
   ·split at h
    ·cases h
    ·cases h;rename_i h16
     have:=(List.length_take_le (runB oQ (b::r)) (b::r))
     exact⟨n7,o9,o9⟩
   ·split at h
    ·cases h
    ·rename_i t' ht;simp only [Except.ok.injEq] at h;subst h;obtain⟨h1,h2,h3⟩:=numTok_ok ht;simp only at h1 h2 h3;exact⟨by rw [h1];decide,h2,h3⟩
    ·split at h
     ·cases h
     ·cases h
      have h2:mZ (b::r)≤2:=by
       simp only [mZ];split
       ·omega
       ·split<;>omega
      have:=(List.length_take_le (mZ (b::r)) (b::r))
      exact⟨n7,o9,o9⟩
theorem bIb: ∀(f i:Nat) (s:Bs) (out:List Tok),(∀t∈out,bHm t)→ ∀t∈(lexGo f i s out).1,bHm t
 | 0,_,_,out,h=>h
 | _+1,_,[],out,h=>h
 | f+1,i,b::r,out,h=>by
  unfold lexGo;split
  ·exact bIb f _ _ _ h
  ·split
   ·exact bIb f _ _ _ h
   ·split
    ·exact fun t ht=>by simp at ht
    ·rename_i ht;refine bIb f _ _ _ fun t hm=>?_
     rcases List.mem_append.1 hm with hm | hm
     ·exact h t hm
     ·rw [List.mem_singleton.1 hm];obtain⟨h1,h2,h3⟩:=bUy ht;exact⟨h1,h2,h3⟩
theorem lex_ok(s:Bs): ∀t∈(gK s).1,bHm t:=by
 unfold gK;split
 ·exact fun t ht=>by simp at ht
 ·exact bIb _ _ _ _ fun t ht=>by simp at ht
theorem peek_ok{toks:List TokV}(h: ∀t∈toks,bHm t)(k:Nat):bHm (bG toks k):=by
 unfold bG;split
 ·rename_i ht;exact h _ (j4 ht)
 ·exact⟨o9,o9,o9⟩
theorem bDi{toks:List TokV}(h: ∀t∈toks,bHm t)(k:Nat):(bG toks k).word.length≤65536:=Nat.le_trans (peek_ok h k).word o9
theorem bQr(toks:List TokV):(dL toks).length≤toks.length:=(List.takeWhile_sublist _).length_le
theorem bHx(toks:List TokV):toks.take (dL toks).length=dL toks:=by
 unfold dL
 induction toks with
 | nil=>rfl
 | cons t r ih=>
  rw [List.takeWhile_cons];split
  ·rw [List.length_cons,List.take_succ_cons,ih]
  ·rfl
theorem own_more{toks:List TokV}{n:Nat}{x:TokV}(hn:n≤(dL toks).length)(hx:toks[n]?=some x)(h4:x.kind≠4):n+1≤(dL toks).length:=by
 unfold dL at*
 induction toks generalizing n with
 | nil=>simp at hx
 | cons t r ih=>
  rw [List.takeWhile_cons] at hn⊢;split at hn
  ·rename_i ht;rw [if_pos ht]
   cases n with
   | zero=>simp
   | succ n=>
    have:=ih (n:=n) (by simpa using hn) (by simpa using hx);simp;omega
  ·rename_i ht;have:n=0:=by simpa using hn
   subst this;simp at hx;subst hx;simp [h4] at ht
theorem own_stop{toks:List TokV}{n:Nat}(hn:n≤(dL toks).length)(h:toks.length≤n∨ ∃x:TokV,toks[n]?=some x∧x.kind=4):n=(dL toks).length:=by
 have hl:=bQr toks
 rcases h with h | ⟨x,hx,h4⟩
 ·omega
 ·rcases Nat.lt_or_ge n (dL toks).length with hlt | hge
  ·exfalso
   have hm:(dL toks)[n]?=some x:=by
    rw [←bHx toks,List.getElem?_take,if_pos hlt];exact hx
   have:=List.all_takeWhile (p:=fun t:TokV=>t.kind !=4) (l:=toks);have:=List.all_eq_true.1 this x (j4 hm);simp [h4] at this
  ·omega
structure Tk where
 kind:Int
 word:Bs
 n:Int
 deriving Inhabited,DecidableEq
def TokV.tk(t:TokV):Tk:=⟨t.kind,t.word,t.n⟩
def Lx (s:Bs)(T:List Tk)(rest:Bs):Prop:= ∀i out,∃L:List Tok,L.map TokV.tk=T∧lexGo (s++rest).length i (s++rest) out=lexGo rest.length (i+s.length) rest (out++L)
section
variable {a b s rest : Bs} {A B : List Tk}
theorem Lx.nil:Lx [] [] rest:=fun i out=>⟨[],rfl,o6⟩
theorem Lx.append(h:Lx a A (b++rest))(k:Lx b B rest):Lx (a++b) (A++B) rest:=fun i out=>by
 obtain⟨L,hL,e⟩:=h i out;obtain⟨M,hM,e'⟩:=k (i+a.length) (out++L);exact⟨L++M,by simp [hL,hM],by rw [List.append_assoc,e,e',List.length_append,Nat.add_assoc,List.append_assoc]⟩
theorem Lx.tok{k v:Int}{wd:Bs}{b:UInt8}(h:fW ((b::s)++rest)= .ok (k,wd,v,(b::s).length))(hb:oS b=false)(h35:(b==35)=false):Lx (b::s) [⟨k,wd,v⟩] rest:=fun i out=>
 ⟨[⟨k,i,wd,v⟩],rfl,by
  rw [List.cons_append,pO,hb,if_neg o6,h35,if_neg o6];rw [List.cons_append] at h;rw [h];simp only;have e:(b::(s++rest)).drop (b::s).length=rest:=by rw [←List.cons_append,List.drop_left]
  rw [e]⟩
end
theorem bSm{p:UInt8→Bool}: ∀{s:Bs},runB p s=s.length→ ∀b∈s,p b=true
 | [],_,b,hb=>by simp at hb
 | c::s,h,b,hb=>by
  rw [runB] at h;split at h
  ·rename_i hc
   rcases List.mem_cons.1 hb with rfl | hb
   ·exact hc
   ·exact bSm ac1 b hb
  ·simp at h
structure WordB (s:Bs):Prop where
 head: ∃b r,s=b::r∧pI b=true
 all: ∀b∈s,oQ b=true
 len:s.length≤16
theorem numTok_kind{b:UInt8}{r:Bs}{t:TokR}(h:iH b r= .ok (some t)):t.1=2∧t.2.1=[]:=by
 unfold iH at h;dsimp only at h
 by_cases hb:(b==95)=true
 ·simp only [hb,if_true] at h;split at h
  ·cases h
  ·split at h
   ·cases h
   ·simp only [Except.ok.injEq,Option.some.injEq] at h;subst h;exact⟨rfl,rfl⟩
 ·simp only [hb,Bool.false_eq_true,if_false] at h;split at h
  ·cases h
  ·split at h
   ·cases h
   ·simp only [Except.ok.injEq,Option.some.injEq] at h;subst h;exact⟨rfl,rfl⟩
structure TokIs (k:Int) (wd:Bs) (v:Int) (s:Bs):Prop where
 len:wd.length≤s.length
 num:k=2→wd=[]
 word:k=1→v=0
 spell:k=1→wd=s→WordB s
theorem take_len(n:Nat)(s:Bs):(s.take n).length≤s.length:=by simp;omega
theorem bIw{s:Bs}{k v:Int}{wd:Bs}{m:Nat}(h:fW s= .ok (k,wd,v,m)):TokIs k wd v s:=by
 cases s with
 | nil=>cases h
 | cons b r=>
  simp only [fW] at h;split at h
  ·cases h;exact⟨o6,fun h=>absurd h o9,fun h=>absurd h o9,fun h=>absurd h o9⟩
  ·split at h
   ·rename_i hl;split at h
    ·cases h
    ·cases h;rename_i h16;refine⟨take_len _ _,fun h=>absurd h o9,fun _=>rfl,fun _ e=>?_⟩;have hr:=lT oQ (b::r)
     have he:runB oQ (b::r)=(b::r).length:=by
      have:=congrArg List.length e;rw [List.length_take] at this;omega
     exact⟨⟨b,r,rfl,hl⟩,bSm he,n7⟩
   ·split at h
    ·cases h
    ·rename_i t' ht;simp only [Except.ok.injEq] at h;subst h;obtain⟨h1,h2⟩:=numTok_kind ht;simp only at h1 h2;subst h1;subst h2;exact⟨o6,fun _=>rfl,fun h=>absurd h o9,fun h=>absurd h o9⟩
    ·split at h
     ·cases h
     ·cases h;exact⟨take_len _ _,fun h=>absurd h o9,fun h=>absurd h o9,fun h=>absurd h o9⟩
theorem pU: ∀(f i:Nat) (s:Bs) (out:List Tok),nN (lexGo f i s out).2=true→ ∃L,(lexGo f i s out).1=out++L∧ ∀t∈L,t.word.length≤s.length
 | 0,_,_,out,_=>⟨[],by simp [lexGo],o6⟩
 | _+1,_,[],out,_=>⟨[],by simp [lexGo],o6⟩
 | f+1,i,b::r,out,h=>by
  unfold lexGo at h⊢;split at h
  ·rename_i hb;rw [if_pos hb];obtain⟨L,h1,h2⟩:=pU f _ _ _ h;exact⟨L,h1,fun t ht=>by have:=h2 t ht;simp;omega⟩
  ·rename_i hb;rw [if_neg hb];split at h
   ·rename_i h35;rw [if_pos h35];obtain⟨L,h1,h2⟩:=pU f _ _ _ h;exact⟨L,h1,fun t ht=>by have:=h2 t ht;rw [List.length_drop] at this;omega⟩
   ·rename_i h35;rw [if_neg h35];split at h
    ·rename_i e he
     exact absurd h (by
      have:=tok_code he
      simp [nN,pB,this])
    ·rename_i k wd v m ht;obtain⟨L,h1,h2⟩:=pU f _ _ _ h;refine⟨⟨k,i,wd,v⟩::L,by rw [h1];simp,fun t hm=>?_⟩
     rcases List.mem_cons.1 hm with rfl | hm
     ·exact(bIw ht).len
     ·have:=h2 t hm;rw [List.length_drop] at this;omega
theorem tS{s:Bs}(h:dD s=true):WordB s:=by
 simp only [dD,bKj,Bool.and_eq_true] at h;obtain⟨_,_,_,hf,hm⟩:=h;have hok:nN (gK s).2=true:=hf;unfold gK at hok hm
 by_cases hlen:65536<s.length
 ·rw [if_pos hlen] at hok;exact absurd hok o9
 ·rw [if_neg hlen] at hok hm
  cases s with
  | nil=>simp [lexGo] at hm
  | cons b r=>
   rw [pO] at hok hm
   by_cases hb:oS b=true
   ·rw [if_pos hb] at hok hm;obtain⟨L,h1,h2⟩:=pU _ _ _ _ hok;rw [h1] at hm
    match L,hm,h2 with
    | [t],hm,h2=>
     simp only [List.nil_append,Bool.and_eq_true,beq_iff_eq] at hm;have:=h2 t o6;rw [hm.2] at this;simp at this;omega
   ·rw [if_neg hb] at hok hm
    by_cases h35:(b==35)=true
    ·rw [if_pos h35] at hok hm;have hp:1≤runB (· !=10) (b::r):=bGh (bQo h35);obtain⟨L,h1,h2⟩:=pU _ _ _ _ hok;rw [h1] at hm
     match L,hm,h2 with
     | [t],hm,h2=>
      simp only [List.nil_append,Bool.and_eq_true,beq_iff_eq] at hm;have:=h2 t o6;rw [hm.2,List.length_drop] at this;simp at this;omega
    ·rw [if_neg h35] at hok hm
     cases ht:fW (b::r) with
     | error e=>
      rw [ht] at hm;simp at hm
     | ok q=>
      obtain⟨k,wd,v,m⟩:=q;rw [ht] at hok hm;simp only at hok hm;obtain⟨L,h1,h2⟩:=pU _ _ _ _ hok;rw [h1] at hm
      have hw:k=1∧wd=b::r:=by
       cases L with
       | nil=>simpa using hm
       | cons t L=>simp at hm
      obtain⟨rfl,rfl⟩:=hw;exact(bIw ht).spell rfl rfl
def cT.un (x:cT):cT:=⟨x.how,0,x.fn,x.name,x.nums⟩
def bBu (l:List cT):List cT:=l.map cT.un
theorem oA(a b:List cT):bBu (a++b)=bBu a++bBu b:=List.map_append
def OpenT:Tk:=⟨3,[40],0⟩
def CloseT:Tk:=⟨3,[41],0⟩
def mH (toks:List TokV)(k:Nat)(T:List Tk):Prop:=k≤toks.length∧(toks.drop k).map TokV.tk=T
section
variable {toks : List TokV} {k : Nat} {t : Tk} {T R : List Tk}
theorem mH.lt(h:mH toks k (t::T)):k<toks.length:=by
 rcases Nat.lt_or_ge k toks.length with h' | h'
 ·exact h'
 ·rw [mH,List.drop_of_length_le h'] at h;simp at h
theorem mH.peek(h:mH toks k (t::T)):(bG toks k).tk=t:=by
 have hk:=h.lt;rw [uU (List.getElem?_eq_getElem hk)];have:=h.2;rw [List.drop_eq_getElem_cons hk] at this;exact(List.cons.inj this).1
theorem mH.next(h:mH toks k (t::T)):mH toks (k+1) T:=by
 have hk:=h.lt;have:=h.2;rw [List.drop_eq_getElem_cons hk] at this;exact⟨hk,(List.cons.inj this).2⟩
theorem mH.kind(h:mH toks k (t::T)):(bG toks k).kind=t.kind:=by rw [←h.peek];rfl
theorem mH.word(h:mH toks k (t::T)):(bG toks k).word=t.word:=by rw [←h.peek];rfl
theorem mH.num(h:mH toks k (t::T)):(bG toks k).n=t.n:=by rw [←h.peek];rfl
theorem mH.nil(h:mH toks k []):bG toks k=⟨4,0,[],0⟩∧k=toks.length:=by
 have e:(toks.drop k).length=0:=by
  have:=congrArg List.length h.2
  simpa using this
 rw [List.length_drop] at e;have:=h.1;exact⟨bEt n7,n7⟩
theorem mH.skip: ∀(T:List Tk) {k:Nat},mH toks k (T++R)→mH toks (k+T.length) R
 | [],_,h=>h
 | t::T,k,h=>by
  have:=mH.skip T (mH.next (t:=t) (T:=T++R) h);rw [List.length_cons,show k+(T.length+1)=k+1+T.length from by omega];exact this
theorem mH.kindR(h:mH toks k R){c:Int}(hc:c≠4)(hR: ∀t∈R.head?,t.kind≠c):(bG toks k).kind≠c:=by
 cases R with
 | nil=>rw [h.nil.1];exact hc.symm
 | cons t R=>rw [h.kind];exact hR t rfl
end
def Mark (t:Tk):Prop:=t.kind=3∧(t.word=[47]∨t.word=[92]∨t.word=[46])
def Ps (T:List Tk)(I:List cT)(nest:Nat)(plain:Bool):Prop:=
 ∀{toks:List TokV} {e:Int} {r:zO} {k:Nat} {out:List cT} {st:Stk} {o:Nat} {R:List Tk},mH toks k (T++R)→(∀t∈R.head?,t.kind≠2)→o+nest≤32→bIl toks e r k out st o→
  ∃out' S,(plain=true→S=[])∧bBu (out'++S)=bBu I∧bAo toks e r (k+T.length) (out++out') (S.map some++st) o
structure Vb (T:List Tk) (it:cT) (two:Bool):Prop where
 head: ∃t T',T=t::T'∧t.kind≠2∧t.kind≠4∧sG t.word=true∧ ¬Mark t
 phrase: ∀{toks:List TokV} {k:Nat} {e:Int} {R:List Tk},mH toks k (T++R)→(∀t∈R.head?,¬Mark t)→nN (bI toks k e two).flt=true∧(bI toks k e two).next=k+T.length∧(bI toks k e two).it.un=it.un
def Hd (T:List Tk):Prop:= ∃t T',T=t::T'∧ ¬Mark t
theorem bWq(S:List cT)(st:Stk):oZ (S.map some++st)=(S++(oZ st).1,(oZ st).2):=by
 induction S with
 | nil=>rfl
 | cons x S ih=>rw [List.map_cons,List.cons_append,oZ,ih];rfl
theorem bUk{toks:List TokV}{R:List Tk}(hR: ∀t∈R.head?,t.kind≠2): ∀(ns:List Int) {k:Nat},mH toks k (ns.map (fun n=>(⟨2,[],n⟩:Tk))++R)→gJ toks k=ns
 | [],k,h=>nums_end (mH.kindR (R:=R) h o9 hR)
 | n::ns,k,h=>by
  have h':mH toks k (⟨2,[],n⟩::(ns.map (fun n=>(⟨2,[],n⟩:Tk))++R)):=h;rw [wP h'.kind,bUk hR ns h'.next,h'.num]
theorem Ps.nums{ns:List Int}{a:Int}(h:ns≠[]):Ps (ns.map fun n=>⟨2,[],n⟩) [⟨1,a,0,[],ns⟩] 0 true:=by
 intro toks e r k out st o R hF hR _ hE;have hn:=bUk hR ns hF
 obtain⟨n,ns',rfl⟩: ∃n ns',ns=n::ns':=by
  cases ns with
  | nil=>exact absurd rfl h
  | cons n ns'=>exact⟨n,ns',rfl⟩
 have hk:(bG toks k).kind=2:=mH.kind (t:=⟨2,[],n⟩) (T:=_) hF;have:=e_num hE hk;rw [hn] at this;refine⟨[bCm toks k],[],fun _=>rfl,?_,?_⟩
 ·simp [bBu,bCm,cT.un,hn]
 ·rw [List.length_map];exact this
theorem Ps.name{s:Bs}{a:Int}(h:dD s=true):Ps [⟨1,s,0⟩] [⟨2,a,0,s,[]⟩] 0 true:=by
 intro toks e r k out st o R hF hR _ hE;have hF':mH toks k (⟨1,s,0⟩::R):=hF;have:=e_name hE hF'.kind (by rw [hF'.word];exact h);refine⟨[uD toks k],[],fun _=>rfl,?_,this⟩;simp [bBu,uD,cT.un,hF'.word]
theorem Ps.brk{T:List Tk}{I:List cT}{n:Nat}{p:Bool}(h:Ps T I n p):Ps (OpenT::(T++[CloseT])) I (n+1) true:=by
 intro toks e r k out st o R hF hR ho hE;have hF':mH toks k (OpenT::(T++(CloseT::R))):=by simpa using hF
 have h1:=(e_open hE hF'.kind hF'.word).1 n7;obtain⟨out',S,_,hu,hB⟩:=h hF'.next (by simp [CloseT]) n7 h1
 have hc:=mH.skip T hF'.next
 have:=b_close hB n7 hc.kind hc.word;rw [bWq] at this;refine⟨out'++S,[],fun _=>rfl,by rw [List.append_nil];exact hu,?_⟩;have e1:k+1+T.length+1=k+(OpenT::(T++[CloseT])).length:=by simp;omega
 rw [e1] at this;simp only [oZ,List.append_nil,List.tail_cons,Nat.add_sub_cancel,List.append_assoc] at this;exact this
theorem Ps.mono{V T:List Tk}{I:List cT}{it:cT}{n:Nat}{p:Bool}(hv:Vb V it false)(hd:Hd T)(h:Ps T I n p):Ps (V++T) (I++[it]) n false:=by
 intro toks e r k out st o R hF hR ho hE;rw [List.append_assoc] at hF;obtain⟨t,V',hV,h2,h4,hvb,_⟩:=hv.head;obtain⟨u,T',hT,hm⟩:=hd;have hF':mH toks k (t::(V'++(T++R))):=by rw [hV] at hF;exact hF
 obtain⟨p1,p2,p3⟩:=hv.phrase (e:=e) hF (by rw [hT];simpa using hm);have h1:=(e_verb hE (by rw [hF'.kind];exact h2) (by rw [hF'.kind];exact h4) (by rw [hF'.word];exact hvb)).1 p1;rw [p2] at h1;obtain⟨out',S,_,hu,hB⟩:=h (mH.skip V hF) hR ho h1;refine⟨out',S++[(bI toks k e false).it],o6,?_,?_⟩
 ·rw [←List.append_assoc,oA,hu,oA];show bBu I++[_]=_;rw [p3];rfl
 ·rw [List.length_append,←Nat.add_assoc,List.map_append,List.append_assoc];exact hB
theorem close_verb:sG [41]=false:=o9
theorem Ps.dyad{Q V T:List Tk}{J I:List cT}{it:cT}{m n:Nat}{p:Bool}(hq:Ps Q J m true)(hv:Vb V it true)(hd:Hd T)(h:Ps T I n p):Ps (Q++(V++T)) (J++I++[it]) (max m n) false:=by
 intro toks e r k out st o R hF hR ho hE;rw [List.append_assoc,List.append_assoc] at hF;obtain⟨t,V',hV,h2,h4,hvb,_⟩:=hv.head;obtain⟨u,T',hT,hm⟩:=hd;obtain⟨out1,S1,hS,hu1,hB1⟩:=hq hF (by rw [hV];simpa using h2) n7 hE;rw [hS rfl] at hB1 hu1;rw [List.append_nil] at hu1;have hF2:=mH.skip Q hF;have hF':mH toks (k+Q.length) (t::(V'++(T++R))):=by rw [hV] at hF2;exact hF2
 obtain⟨p1,p2,p3⟩:=hv.phrase (e:=e) hF2 (by rw [hT];simpa using hm);have h1:=(rW hB1 (.inr (.inr (by rw [hF'.word];intro hw;rw [hw,close_verb] at hvb;cases hvb))) (by rw [hF'.kind];exact h4) (by rw [hF'.kind];exact h2) (by rw [hF'.word];exact hvb)).1 p1;rw [p2] at h1;obtain⟨out2,S,_,hu,hB⟩:=h (mH.skip V hF2) hR n7 h1;refine⟨out1++out2,S++[(bI toks (k+Q.length) e true).it],o6,?_,?_⟩
 ·rw [←List.append_assoc,oA,List.append_assoc,oA,hu,hu1,oA,oA];show _++[_]=_;rw [p3];rfl
 ·rw [List.length_append,List.length_append,←Nat.add_assoc,←Nat.add_assoc,List.map_append,List.append_assoc,←List.append_assoc out];exact hB
theorem Ps.whole{T:List Tk}{I:List cT}{n:Nat}{p:Bool}(h:Ps T I n p)(hn:n≤32){toks:List TokV}{e:Int}{k:Nat}(hF:mH toks k T):bBu (uO toks e k).1=bBu I∧(uO toks e k).2=(0,0):=by
 have hF':mH toks k (T++[]):=by rw [List.append_nil];exact hF
 obtain⟨out',S,_,hu,hB⟩:=h hF' o6 n7 (e_start (e:=e) hF.1);have:=r_end hB (by rw [(mH.skip T hF').nil.1]) n7;rw [bWq] at this;rw [this];simp only [oZ,List.append_nil,List.nil_append];exact⟨hu,j0⟩
def Sep (c:UInt8):Prop:=c=32∨c=41∨c=10
theorem Sep.word{c:UInt8}(h:Sep c):oQ c=false:=by rcases h with rfl | rfl | rfl<;>decide
def NoNl (T:List Tk):Prop:= ∀t∈T,t.kind≠4
theorem NoNl.append{A B:List Tk}(h:NoNl A)(k:NoNl B):NoNl (A++B):=fun t ht=>(List.mem_append.1 ht).elim (h t) (k t)
theorem NoNl.one{t:Tk}(h:t.kind≠4):NoNl [t]:=fun u hu=>by rw [List.mem_singleton.1 hu];exact h
def Rng (n:Int):Prop:= -9223372036854775808≤n∧n≤9223372036854775807
def tokS (l:List cT):Nat:=match fT l [] with
 | some [p]=>p.tokens
 | _=>0
def mT.un (l:mT):mT:=⟨l.name,0,bBu l.items⟩
def gM.un (x:gM):gM:=⟨x.name,0,x.sides⟩
def gN.un (p:gN):gN:=⟨p.inputs.map gM.un,p.lines.map mT.un⟩
def costI (x:gM):Nat:=x.sides.length+3
def costL (l:mT):Nat:=tokS l.items+if l.name=[] then 2 else 3
def bIg (p:gN):Nat:=(p.inputs.map costI).sum+(p.lines.map costL).sum
structure SideOk (d:pN):Prop where
 ok:d.name=[]∨d.n=0∧dD d.name=true
theorem name_ne{s:Bs}(h:dD s=true):s≠[]∧s≠[105,110]∧s≠[111,117,116]:=by
 refine⟨?_,?_,?_⟩
 ·rintro rfl;obtain⟨b,r,e,_⟩:=(tS h).head;cases e
 ·rintro rfl;simp [dD] at h
 ·rintro rfl;simp [dD] at h
theorem bVm(ins:List gM)(lns:List mT)(l:mT):sI ⟨ins,lns++[l]⟩=(l.name==[]):=by simp [sI]
structure RngP (p:gN):Prop where
 ins: ∀x∈p.inputs,∀d∈x.sides,Rng d.n
 lns: ∀l∈p.lines,∀x∈l.items,∀n∈x.nums,Rng n
def rX:Stk→Nat
 | []=>0
 | none::r=>rX r+1
 | some _::r=>rX r
def VbOk (it:cT):Prop:= ¬(it.how<3∨7<it.how∨it.nums≠[]∨it.name≠[]∨(verbS it).1=[])
inductive bGw:Stk→List fC→Nat→Prop
 | nil:bGw [] [] 0
 | brk {st P c}:bGw st P c→bGw (none::st) P (c+1)
 | one {it st P c}:VbOk it→zR it.how=false→bGw st P c→bGw (some it::st) P (c+(verbS it).2)
 | two {it st q P c}:VbOk it→zR it.how=true→(leftS q).nest+rX st≤32→bGw st P c→bGw (some it::st) (q::P) (c+(verbS it).2+(leftS q).tokens)
theorem tH: ∀(a b:List cT) (st:List fC),fT (a++b) st=(fT a st).bind (fT b)
 | [],b,st=>rfl
 | x::a,b,st=>by
  rw [List.cons_append,fT,fT]
  cases iF st x with
  | none=>rfl
  | some s=>exact tH a b s
theorem steps_snoc{a:List cT}{x:cT}{st P P':List fC}(h:fT a st=some P)(hx:iF P x=some P'):fT (a++[x]) st=some P':=by
 rw [tH,h];show fT [x] P=_;rw [fT,hx];rfl
theorem bVk{it:cT}(h:VbOk it)(st:List fC):iF st it=rK it st:=by
 have h3: ¬(it.how=1∨it.how=2):=fun e=>h (.inl n7);unfold iF;rw [if_neg h3,if_neg h]
theorem fin_pend{st:Stk}{P:List fC}{c:Nat}(h:bGw st P c): ∀{p:fC},p.nest+rX st≤32→ ∃p' P' c',fT (oZ st).1 (p::P)=some (p'::P')∧bGw (oZ st).2 P' c'∧p'.tokens+c'=p.tokens+c∧p'.nest+rX st≤32:=by
 induction h with
 | nil=>exact fun{p} hp=>⟨p,[],0,rfl,.nil,rfl,hp⟩
 | brk h _=>exact fun{p} hp=>⟨p,_,_,rfl,.brk h,rfl,hp⟩
 | one hv ht h ih=>
  rename_i it st P c;intro p hp;obtain⟨p',P',c',h1,h2,h3,h4⟩:=ih (p:=⟨(verbS it).1::p.words,p.nest,p.tokens+(verbS it).2,false⟩) hp;refine⟨p',P',c',?_,h2,by rw [h3];simp only;omega,h4⟩;rw [oZ];simp only [fT];rw [bVk hv];unfold rK;rw [ht];exact h1
 | two hv ht hn h ih=>
  rename_i it st q P c;intro p hp
  obtain⟨p',P',c',h1,h2,h3,h4⟩:=ih (p:=⟨(leftS q).words++(verbS it).1::p.words,max p.nest (leftS q).nest,p.tokens+(verbS it).2+(leftS q).tokens,false⟩) (by
   have:p.nest+rX st≤32:=hp;simp only
   omega)
  refine⟨p',P',c',?_,h2,by rw [h3];simp only;omega,h4⟩;rw [oZ];simp only [fT];rw [bVk hv];unfold rK;rw [ht];exact h1
theorem bSq: ∀st:Stk,((oZ st).2=[]∧rX st=0)∨ ∃r,(oZ st).2=none::r∧rX st=rX r+1
 | []=> .inl ⟨rfl,rfl⟩
 | none::r=> .inr ⟨r,rfl,rfl⟩
 | some _::r=>bSq r
theorem isOk_43{a:Int}:nN (a,43)=false:=by simp [nN,pB]
theorem iS{a c:Int}(hc:c≠0):nN (a,c)=false:=by
 have:(c==0)=false:=by simpa using hc
 simp [nN,pB,this]
theorem two_mem{w:Bs}(h:hZ w≠0):w∈dU:=by
 refine Classical.byContradiction fun hn=>h ?_;simp only [dU,List.mem_cons,not_or] at hn;unfold hZ;simp only [hn,if_false]
theorem one_mem{w:Bs}(h:oU w≠0):w∈dU:=by
 refine Classical.byContradiction fun hn=>h ?_;simp only [dU,List.mem_cons,not_or] at hn;unfold oU;simp only [hn,or_self,if_false]
theorem verb_mem{w:Bs}{two:Bool}(h:fG w two≠0):w∈dU:=by
 cases two with
 | false=>exact one_mem h
 | true=>exact two_mem h
theorem bPq{two:Bool}{f:Int}{w:Bs}(hf:fG w two=f)(h0:f≠0): ∀l:List Bs,w∈l→(∀s∈l,s≠[])→pL two f l≠[]
 | [],h,_=>by simp at h
 | s::r,h,hne=>by
  rw [pL]
  by_cases hs:(fG s two !=0&&fG s two==f)=true
  ·rw [if_pos hs];exact hne s o6
  ·rw [if_neg hs];refine bPq hf h0 r ?_ fun x hx=>hne x ad2
   rcases List.mem_cons.1 h with rfl | h
   ·exact absurd (by simp [hf,h0]) hs
   ·exact h
theorem bUv{two:Bool}{w:Bs}{f:Int}(hf:fG w two=f)(h0:f≠0):lE two f≠[]:=by
 rw [←bNv];exact bPq hf h0 _ (verb_mem (by rw [hf];exact h0)) o9
theorem bWh{toks:List TokV}{k:Nat}{e:Int}{two:Bool}(h:nN (bI toks k e two).flt=true):VbOk (bI toks k e two).it∧zR (bI toks k e two).it.how=two∧(verbS (bI toks k e two).it).2+k≤(bI toks k e two).next:=by
 unfold bI at h⊢;split at h
 ·rename_i hm;rw [if_pos hm];split at h
  ·simp only [isOk_43] at h;cases h
  ·rename_i hb;rw [if_neg hb];rw [not_or] at hb;obtain⟨h17,hl⟩:=hb
   by_cases h0:hZ (bG toks k).word=0
   ·simp only [h0,if_true,isOk_43] at h;cases h
   ·have ht:=bUv (two:=true) (w:=(bG toks k).word) rfl h0;have ht':lE true (hZ (bG toks k).word)≠[]:=ht;simp only [ne_eq,Classical.not_not] at hl;obtain⟨hm1,hm2⟩:=hm
    rcases hm2 with hw | hw | hw
    all_goals
     rw [hw] at hl;simp only [hw] at*;subst hl;refine⟨?_,rfl,?_⟩
     ·simp [VbOk,Phr.it,verbS,ht',h17]
     ·simp [Phr.it,verbS,ht',h17];omega
 ·rename_i hm;rw [if_neg hm]
  by_cases h0:fG (bG toks k).word two=0
  ·simp only [h0,if_true,isOk_43] at h;cases h
  ·have ht:=bUv (two:=two) (w:=(bG toks k).word) rfl h0
   cases two with
   | false=>
    refine⟨?_,rfl,?_⟩
    ·simp [VbOk,Phr.it,verbS,ht]
    ·simp [Phr.it,verbS];omega
   | true=>
    refine⟨?_,rfl,?_⟩
    ·simp [VbOk,Phr.it,verbS,ht]
    ·simp [Phr.it,verbS];omega
structure bOp (t:TokV):Prop where
 num:t.kind=2→t.word=[]
 word:t.kind=1→t.n=0
 rng:Rng t.n
def RngI (l:List cT):Prop:= ∀x∈l,∀n∈x.nums,Rng n
theorem RngI.append{a b:List cT}(h:RngI a)(k:RngI b):RngI (a++b):=fun x hx=>(List.mem_append.1 hx).elim (h x) (k x)
def zQ (l:List cT)(m:Nat):Prop:=(∃p,fT l []=some [p]∧p.tokens≤m∧p.nest≤32)∧RngI l
def RngS (st:Stk):Prop:= ∀x,some x∈st→x.nums=[]
theorem fin_rng: ∀{st:Stk},RngS st→RngI (oZ st).1∧RngS (oZ st).2
 | [],_=>⟨fun x hx=>by simp [oZ] at hx,fun x hx=>by simp [oZ] at hx⟩
 | none::r,h=>⟨fun x hx=>by simp [oZ] at hx,h⟩
 | some y::r,h=>by
  obtain⟨a,b⟩:=fin_rng (st:=r) fun x hx=>h x (List.mem_cons_of_mem _ hx);refine⟨fun x hx=>?_,b⟩;rw [oZ] at hx
  rcases List.mem_cons.1 hx with rfl | hx
  ·rw [h x (List.mem_cons_self ..)];simp
  ·exact a x hx
theorem bAx(p:fC):p.tokens≤(leftS p).tokens∧(leftS p).tokens≤p.tokens+2∧p.nest≤(leftS p).nest∧(leftS p).nest≤p.nest+1:=by
 unfold leftS;split<;>simp
theorem pend_none{P:List fC}{c:Nat}(h:bGw [] P c):P=[]∧c=0:=by
 cases h;exact⟨rfl,rfl⟩
theorem pend_brk{st:Stk}{P:List fC}{c:Nat}(h:bGw (none::st) P c): ∃d,c=d+1∧bGw st P d:=by
 cases h with
 | brk h=>exact⟨_,rfl,h⟩
theorem nums_mem{toks:List TokV}(ht: ∀t∈toks,bOp t){k:Nat}{n:Int}(h:n∈gJ toks k):Rng n:=by
 unfold gJ at h;obtain⟨t,h1,rfl⟩:=List.mem_map.1 h;exact(ht t (List.mem_of_mem_drop (List.takeWhile_sublist _ |>.subset h1))).rng
section
variable {toks : List TokV} {e : Int} {l : List cT} {flt : Flt} {k0 : Nat}
structure StB (toks:List TokV) (k0 k:Nat) (out:List cT) (st:Stk) (o:Nat) (p:fC) (P:List fC) (c:Nat):Prop where
 steps:fT out []=some (p::P)
 pend:bGw st P c
 cost:c+(leftS p).tokens+k0≤k
 nest:rX st+(leftS p).nest≤32
 opens:rX st=o
 rng:RngI out
 rngS:RngS st
 le:k≤toks.length
structure StA (toks:List TokV) (k0 k:Nat) (out:List cT) (st:Stk) (o:Nat) (P:List fC) (c:Nat):Prop where
 steps:fT out []=some P
 pend:bGw st P c
 cost:c+k0≤k
 opens:rX st=o
 rng:RngI out
 rngS:RngS st
 le:k≤toks.length
theorem bMb(toks:List TokV)(k:Nat)(e:Int)(b:Bool):(bI toks k e b).it.nums=[]:=rfl
theorem StB.verb{k:Nat}{out:List cT}{st:Stk}{o:Nat}{p:fC}{P:List fC}{c:Nat}(h:StB toks k0 k out st o p P c)(hok:nN (bI toks k e true).flt=true)(hk:k<toks.length):
  StA toks k0 (bI toks k e true).next out (some (bI toks k e true).it::st) o (p::P) (c+(verbS (bI toks k e true).it).2+(leftS p).tokens):=by
 obtain⟨v1,v2,v3⟩:=bWh hok;refine⟨h.steps,.two v1 v2 (by have:=h.nest;omega) h.pend,by have:=h.cost;omega,h.opens,h.rng,fun x hx=>?_,bCr hk⟩
 rcases List.mem_cons.1 hx with e1 | hx
 ·cases e1;exact bMb ..
 ·exact h.rngS x hx
theorem StA.verb{k:Nat}{out:List cT}{st:Stk}{o:Nat}{P:List fC}{c:Nat}(h:StA toks k0 k out st o P c)(hok:nN (bI toks k e false).flt=true)(hk:k<toks.length):
  StA toks k0 (bI toks k e false).next out (some (bI toks k e false).it::st) o P (c+(verbS (bI toks k e false).it).2):=by
 obtain⟨v1,v2,v3⟩:=bWh hok;refine⟨h.steps,.one v1 v2 h.pend,by have:=h.cost;omega,h.opens,h.rng,fun x hx=>?_,bCr hk⟩
 rcases List.mem_cons.1 hx with e1 | hx
 ·cases e1;exact bMb ..
 ·exact h.rngS x hx
theorem StA.operand{k m:Nat}{out:List cT}{st:Stk}{o:Nat}{P:List fC}{c:Nat}{x:cT}{p:fC}(h:StA toks k0 k out st o P c)(hx:iF P x=some (p::P))(hp:p.plain=true)(hn:p.nest=0)(ht:p.tokens≤m)(ho:o≤32)(hr: ∀n∈x.nums,Rng n)(hl:k+m≤toks.length):
  StB toks k0 (k+m) (out++[x]) st o p P c:=by
 have e1:leftS p=p:=by unfold leftS;rw [if_pos hp]
 exact⟨steps_snoc h.steps hx,h.pend,by rw [e1];have:=h.cost;omega,by rw [e1,hn,h.opens];exact ho,h.opens,h.rng.append fun y hy=>by rw [List.mem_singleton.1 hy];exact hr,h.rngS,hl⟩
theorem StB.close{k:Nat}{out:List cT}{st:Stk}{o:Nat}{p:fC}{P:List fC}{c:Nat}(h:StB toks k0 k out st (o+1) p P c)(hk:k<toks.length):
  ∃p' P' c',StB toks k0 (k+1) (out++(oZ st).1) (oZ st).2.tail o p' P' c':=by
 have hn:=h.nest;have hc:=h.cost;have ho:=h.opens;obtain⟨l1,l2,l3,l4⟩:=bAx p;obtain⟨p',P',c',h1,h2,h3,h4⟩:=fin_pend h.pend (p:=p) n7
 rcases bSq st with ⟨_,h0⟩ | ⟨r,e1,e2⟩
 ·omega
 ·rw [e1] at h2;obtain⟨d,rfl,h5⟩:=pend_brk h2;obtain⟨m1,m2,m3,m4⟩:=bAx p';obtain⟨r1,r2⟩:=fin_rng h.rngS;refine⟨p',P',d,by rw [tH,h.steps];exact h1,by rw [e1];exact h5,n7,by rw [e1];simp only [List.tail_cons];omega,by rw [e1];simp only [List.tail_cons];omega,h.rng.append r1,?_,n7⟩;intro x hx;rw [e1] at r2 hx;exact r2 x (List.mem_cons_of_mem _ hx)
theorem StB.done{k:Nat}{out:List cT}{st:Stk}{p:fC}{P:List fC}{c:Nat}(h:StB toks k0 k out st 0 p P c):zQ (out++(oZ st).1) (toks.length-k0):=by
 have hn:=h.nest;have hc:=h.cost;have ho:=h.opens;have hle:=h.le;obtain⟨l1,l2,l3,l4⟩:=bAx p;obtain⟨p',P',c',h1,h2,h3,h4⟩:=fin_pend h.pend (p:=p) n7
 rcases bSq st with ⟨e1,_⟩ | ⟨r,_,e2⟩
 ·rw [e1] at h2;obtain⟨rfl,rfl⟩:=pend_none h2;exact⟨⟨p',by rw [tH,h.steps];exact h1,n7,n7⟩,h.rng.append (fin_rng h.rngS).1⟩
 ·omega
theorem bWo{rec:Nat→List cT→Stk→Nat→zO}{kk:Nat}(hrec: ∀{k out st o P c},kk<k→StA toks k0 k out st o P c→o≤32→rec k out st o=(l,flt)→zQ l (toks.length-k0))(hok:nN flt=true):
  ∀(o:Nat) {k:Nat} {out:List cT} {st:Stk} {p:fC} {P:List fC} {c:Nat},kk≤k→StB toks k0 k out st o p P c→vD toks e rec o k out st=(l,flt)→zQ l (toks.length-k0):=by
 have rest: ∀(o:Nat) {k:Nat} {out:List cT} {st:Stk} {p:fC} {P:List fC} {c:Nat},kk≤k→StB toks k0 k out st o p P c→bGd toks e rec o k out st=(l,flt)→zQ l (toks.length-k0):=by
  intro o k out st p P c hkk h hr;unfold bGd at hr;split at hr
  ·split at hr
   ·cases hr;rw [iS o9] at hok;cases hok
   ·rename_i h0;cases hr;obtain rfl:o=0:=n7
    exact h.done
  ·rename_i h4;split at hr
   ·cases hr;rw [iS o9] at hok;cases hok
   ·split at hr
    ·rename_i hp;have:=cZ toks k e true;exact hrec n7 (h.verb hp (jG h4)) (by have:=h.nest;have:=h.opens;omega) hr
    ·rename_i hp;cases hr;exact absurd hok hp
 intro o
 induction o with
 | zero=>exact fun hkk h hr=>rest 0 hkk h hr
 | succ o ih=>
  intro k out st p P c hkk h hr;rw [vD] at hr;split at hr
  ·rename_i hc;obtain⟨p',P',c',h'⟩:=h.close (jG (by rw [hc.1];decide));exact ih n7 h' hr
  ·exact rest _ hkk h hr
theorem go_ok(ht: ∀t∈toks,bOp t)(h256:toks.length≤256)(hok:nN flt=true): ∀(f:Nat) {k:Nat} {out:List cT} {st:Stk} {o:Nat} {P:List fC} {c:Nat},toks.length+1≤f+k→StA toks k0 k out st o P c→o≤32→nO toks e f k out st o=(l,flt)→zQ l (toks.length-k0)
 | 0,k,out,st,o,P,c,hf,h,_,_=>by have:=h.le;omega
 | f+1,k,out,st,o,P,c,hf,h,ho,hg=>by
  have hrec: ∀(k':Nat),k<k'→ ∀{out st o P c},StA toks k0 k' out st o P c→o≤32→nO toks e f k' out st o=(l,flt)→zQ l (toks.length-k0):=fun k' hk'=>go_ok ht h256 hok f n7;rw [nO] at hg;split at hg
  ·rename_i hv;split at hg
   ·rename_i hp;have:=cZ toks k e false;exact hrec _ n7 (h.verb hp (jG hv.2.1)) ho hg
   ·rename_i hp;cases hg;exact absurd hok hp
  ·split at hg
   ·rename_i hb;split at hg
    ·cases hg;rw [iS o9] at hok;cases hok
    ·rename_i h32;have hk:=jG (toks:=toks) (k:=k) (by rw [hb.1];decide);refine hrec (k+1) n7 (P:=P) (c:=c+1) ⟨h.steps,.brk h.pend,by have:=h.cost;omega,by rw [rX,h.opens],h.rng,fun x hx=>h.rngS x (by simpa using hx),hk⟩ n7 hg
   ·split at hg
    ·rename_i h2;have hn:=wP h2;have hl:=nums_le toks k;have hk:=jG (toks:=toks) (k:=k) (by rw [h2];decide)
     have hst:iF P (bCm toks k)=some (⟨(gJ toks k).map fY,0,(gJ toks k).length,true⟩::P):=by
      have hne:gJ toks k≠[]:=by rw [hn];simp
      have h3: ¬256<(gJ toks k).length:=n7
      simp [iF,bCm,operandS,hne,h3]
     have hB:=h.operand (m:=(gJ toks k).length) hst rfl rfl (Nat.le_refl _) ho (fun n hn=>nums_mem ht hn) n7;exact bWo (kk:=k) (fun hk'=>hrec _ hk') hok o n7 hB hg
    ·split at hg
     ·rename_i hnm;have hk:=jG (toks:=toks) (k:=k) (by rw [hnm.1];decide);have hst:iF P (uD toks k)=some (⟨[(bG toks k).word],0,1,true⟩::P):=by simp [iF,uD,operandS,hnm.2]
      have hB:=h.operand (m:=1) hst rfl rfl (Nat.le_refl _) ho (fun n hn=>by simp [uD] at hn) n7;exact bWo (kk:=k) (fun hk'=>hrec _ hk') hok o n7 hB hg
     ·split at hg
      ·cases hg;rw [iS o9] at hok;cases hok
      ·cases hg;rw [iS o9] at hok;cases hok
end
theorem bNh: ∀(f i:Nat) (s:Bs) (out:List Tok),(∀t∈out,bOp t)→ ∀t∈(lexGo f i s out).1,bOp t
 | 0,_,_,out,h=>h
 | _+1,_,[],out,h=>h
 | f+1,i,b::r,out,h=>by
  unfold lexGo;split
  ·exact bNh f _ _ _ h
  ·split
   ·exact bNh f _ _ _ h
   ·split
    ·exact fun t ht=>by simp at ht
    ·rename_i ht;refine bNh f _ _ _ fun t hm=>?_
     rcases List.mem_append.1 hm with hm | hm
     ·exact h t hm
     ·rw [List.mem_singleton.1 hm];have h1:=bIw ht;obtain⟨_,h2,h3⟩:=bUy ht;exact⟨h1.num,h1.word,h2,h3⟩
theorem tkOk(s:Bs): ∀t∈(gK s).1,bOp t:=by
 unfold gK;split
 ·exact fun t ht=>by simp at ht
 ·exact bNh _ _ _ _ fun t ht=>by simp at ht
theorem expr_ok{toks:List TokV}{e:Int}{k:Nat}(ht: ∀t∈toks,bOp t)(h256:toks.length≤256)(hk:k≤toks.length)(hok:nN (uO toks e k).2=true):zQ (uO toks e k).1 (toks.length-k):=
 go_ok (k0:=k) (e:=e) (l:=(uO toks e k).1) (flt:=(uO toks e k).2) ht h256 hok (toks.length+1) (k:=k) (o:=0) (P:=[]) (c:=0) n7 ⟨rfl,.nil,n7,rfl,fun x hx=>by simp at hx,fun x hx=>by simp at hx,hk⟩ n7 rfl
def InOk (x:gM):Prop:=dD x.name=true∧x.sides.length≤4∧ ∀d∈x.sides,SideOk d∧Rng d.n
def LnOk (l:mT):Prop:=dD l.name=true∧zQ l.items 254
def LastOk(l:mT):Prop:=l.name=[]∧zQ l.items 255
theorem zQ.mono{l:List cT}{a b:Nat}(h:zQ l a)(hab:a≤b):zQ l b:=by
 obtain⟨⟨p,h1,h2,h3⟩,h4⟩:=h;exact⟨⟨p,h1,n7,h3⟩,h4⟩
theorem zQ.tok{l:List cT}{a:Nat}(h:zQ l a):tokS l≤a:=by
 obtain⟨⟨p,h1,h2,h3⟩,h4⟩:=h;unfold tokS;rw [h1];exact h2
theorem zQ.expr{l:List cT}{a:Nat}(h:zQ l a): ∃t,gH l a=some t:=by
 obtain⟨⟨p,h1,h2,h3⟩,h4⟩:=h;have:=bHw h1;simp at this;refine⟨joinSp p.words,?_⟩;unfold gH;rw [if_neg n7,h1];simp only;rw [if_neg n7]
def LinesOk(ls:List mT)(over:Bool):Prop:=(over=false∧ ∀l∈ls,LnOk l)∨(over=true∧ ∃L z,ls=L++[z]∧(∀l∈L,LnOk l)∧LastOk z)
structure PSt (p:gN) (n:Nat) (over:Bool):Prop where
 ins: ∀x∈p.inputs,InOk x
 lns:LinesOk p.lines over
 num:p.inputs.length+p.lines.length≤n
 le:n≤64
theorem bQt: ∀(toks:List TokV) (acc:List pN),(∀t∈toks,bOp t)→acc.length≤4→nN (nX toks acc).2=true→ ∃ds,(nX toks acc).1=acc++ds∧ds.length=toks.length∧(acc++ds).length≤4∧ ∀d∈ds,SideOk d∧Rng d.n
 | [],acc,_,ha,_=>⟨[],by simp [nX],rfl,by simpa using ha,o6⟩
 | t::r,acc,ht,ha,h=>by
  rw [nX] at h⊢;split at h
  ·rw [iS o9] at h;cases h
  ·rename_i hk;rw [if_neg hk];split at h
   ·rw [iS o9] at h;cases h
   ·rename_i h4;rw [if_neg h4];obtain⟨ds,h1,h2,h3,h5⟩:=bQt r (acc++[⟨t.word,t.n⟩]) (fun x hx=>ht x ad2) q8 h;refine⟨⟨t.word,t.n⟩::ds,by rw [h1];simp,by simp [h2],by simpa using h3,fun d hd=>?_⟩
    rcases List.mem_cons.1 hd with rfl | hd
    ·have hto:=ht t o6;refine⟨⟨?_⟩,hto.rng⟩
     by_cases h2:t.kind=2
     ·exact .inl (hto.num h2)
     ·have: ¬(t.kind≠1∨dD t.word=false):=fun hh=>hk ⟨h2,hh⟩;simp only [not_or,ne_eq,Classical.not_not,Bool.not_eq_false] at this;exact .inr ⟨hto.word this.1,this.2⟩
    ·exact h5 d hd
theorem input_conv{own:List TokV}{e:Int}(h0:own≠[])(ht: ∀t∈own,bOp t)(hok:nN (mB own e).2=true):InOk (mB own e).1∧(mB own e).1.sides.length+2=own.length:=by
 have hpos:0<own.length:=List.length_pos_iff.2 h0;unfold mB at hok⊢;split at hok
 ·rw [iS o9] at hok;cases hok
 ·rename_i h1;rw [if_neg h1];split at hok
  ·rw [iS o9] at hok;cases hok
  ·rename_i h2;rw [if_neg h2];simp only [not_or,ne_eq,Classical.not_not,Bool.not_eq_false] at h2;obtain⟨ds,s1,s2,s3,s4⟩:=bQt (own.drop 2) [] (fun t hm=>ht t (List.mem_of_mem_drop hm)) o6 hok;rw [List.nil_append] at s1 s3;refine⟨⟨h2.2,by rw [s1];exact s3,by rw [s1];exact s4⟩,?_⟩;rw [s1,s2,List.length_drop];omega
theorem into_conv{own:List TokV}{e:Int}{p:gN}{n:Nat}{over:Bool}(h0:own≠[])(ht: ∀t∈own,bOp t)(h:PSt p n over)(hok:nN (gL own e p n over).2=true):PSt (gL own e p n over).1 (n+1) (sI (gL own e p n over).1)∧bIg (gL own e p n over).1≤bIg p+own.length+1:=by
 have hpos:0<own.length:=List.length_pos_iff.2 h0;obtain⟨ins,lns⟩:=p;obtain⟨h1,h2,h3,h4⟩:=h;unfold gL at hok⊢;split at hok
 ·rw [iS o9] at hok;cases hok
 ·rename_i c1;rw [if_neg c1];split at hok
  ·rw [iS o9] at hok;cases hok
  ·rename_i c2;rw [if_neg c2];split at hok
   ·rw [iS o9] at hok;cases hok
   ·rename_i c3;rw [if_neg c3];simp only [not_or,Bool.not_eq_true,not_and,ne_eq,Classical.not_not] at c3;obtain⟨rfl,c3⟩:=c3
    have hL: ∀l∈lns,LnOk l:=by
     rcases h2 with ⟨_,h⟩ | ⟨h,_⟩
     ·exact h
     ·cases h
    split at hok
    ·rename_i c4;rw [if_pos c4];have hl:lns=[]:=c3 c4;subst hl;obtain⟨i1,i2⟩:=input_conv h0 ht hok;refine⟨⟨fun x hx=>?_,.inl ⟨rfl,fun l hl=>by simp at hl⟩,by simp at h3⊢;omega,n7⟩,?_⟩
     ·rcases List.mem_append.1 hx with hx | hx
      ·exact h1 x hx
      ·rw [List.mem_singleton.1 hx];exact i1
     ·simp only [bIg,List.map_append,List.sum_append,List.map_cons,List.map_nil,List.sum_cons,List.sum_nil,costI];omega
    ·rename_i c4;rw [if_neg c4];split at hok
     ·rename_i c5;rw [if_pos c5];have hx:zQ (uO own e 1).1 (own.length-1):=expr_ok ht n7 hpos hok;have htk:=hx.tok;refine⟨⟨h1,.inr ⟨by rw [bVm];rfl,lns,_,rfl,hL,rfl,hx.mono n7⟩,by simp only [List.length_append,List.length_singleton] at h3⊢;omega,n7⟩,?_⟩;simp only [bIg,List.map_append,List.sum_append,List.map_cons,List.map_nil,List.sum_cons,List.sum_nil,costL,vM,if_true];omega
     ·rename_i c5;rw [if_neg c5];split at hok
      ·rw [iS o9] at hok;cases hok
      ·rename_i c6;rw [if_neg c6];simp only [not_or,ne_eq,Classical.not_not,Bool.not_eq_false] at c6;split at hok
       ·rw [iS o9] at hok;cases hok
       ·rename_i c7;rw [if_neg c7];simp only [not_or,ne_eq,Classical.not_not] at c7;have hk:=jG (toks:=own) (k:=1) (by rw [c7.1];decide);have hx:zQ (uO own e 2).1 (own.length-2):=expr_ok ht n7 n7 hok;have htk:=hx.tok;have hne:=(name_ne c6.2).1
        have hov:sI ⟨ins,lns++[(vM own e (bG own 0).word 2).1]⟩=false:=by
         rw [bVm]
         simpa [vM] using hne
        refine⟨⟨h1,.inl ⟨hov,fun l hl=>?_⟩,by simp only [List.length_append,List.length_singleton] at h3⊢;omega,n7⟩,?_⟩
        ·rcases List.mem_append.1 hl with hl | hl
         ·exact hL l hl
         ·rw [List.mem_singleton.1 hl];exact⟨c6.2,hx.mono n7⟩
        ·simp only [bIg,List.map_append,List.sum_append,List.map_cons,List.map_nil,List.sum_cons,List.sum_nil,costL,vM,hne,if_false];omega
theorem wA{len:Int}{tot:Nat}: ∀(f:Nat) {toks:List TokV} {p q:gN} {n:Nat} {over:Bool} {flt:Flt},toks.length+1≤f→(∀t∈toks,bOp t)→PSt p n over→bIg p+toks.length≤tot+(if toks=[] then 1 else 0)→tO len f toks p n over=(q,flt)→nN flt=true→PSt q 64 true∧bIg q≤tot+1
 | 0,toks,_,_,_,_,_,hf,_,_,_,_,_=>by omega
 | f+1,toks,p,q,n,over,flt,hf,ht,hp,hc,h,hok=>by
  rw [tO] at h
  by_cases h0:toks=[]
  ·rw [if_pos h0] at h;rw [if_pos h0] at hc;split at h
   ·rename_i ho;cases h;subst ho;have:toks.length=0:=by rw [h0];rfl
    exact⟨⟨hp.ins,hp.lns,by have:=hp.num;have:=hp.le;omega,n7⟩,n7⟩
   ·cases h;rw [iS o9] at hok;cases hok
  ·rw [if_neg h0] at h;rw [if_neg h0] at hc;have hpos:0<toks.length:=List.length_pos_iff.2 h0;split at h
   ·refine wA f ai2 (fun t hm=>ht t (List.mem_of_mem_drop hm)) hp ?_ h hok;rw [List.length_drop];split<;>omega
   ·rename_i hon;split at h
    ·rename_i hi;have hsub: ∀t∈dL toks,bOp t:=fun t hm=>ht t (by rw [←bHx] at hm;exact List.mem_of_mem_take hm);obtain⟨a,b⟩:=into_conv hon hsub hp hi;have hle:=bQr toks;refine wA f ai2 (fun t hm=>ht t (List.mem_of_mem_drop hm)) a ?_ h hok;rw [List.length_drop];split
     ·omega
     ·rename_i hd;have:(toks.drop ((dL toks).length+1)).length≠0:=fun e=>hd (List.eq_nil_of_length_eq_zero e);rw [List.length_drop] at this;omega
    ·rename_i hi;cases h;exact absurd hok hi
theorem parse_conv{text:Bs}{p:gN}{flt:Flt}(h:kP text=(p,flt))(hok:nN flt=true):PSt p 64 true∧bIg p≤(gK text).1.length+1:=by
 unfold kP at h;split at h
 ·refine wA _ (Nat.le_refl _) (tkOk text) ⟨fun x hx=>by simp at hx,.inl ⟨rfl,fun l hl=>by simp at hl⟩,o6,n7⟩ ?_ h hok;simp [bIg]
 ·rename_i hl;cases h;exact absurd hok hl
theorem bEv: ∀(ds:List pN) (acc:Bs),(∀d∈ds,SideOk d)→ ∃t,lW ds acc=some t
 | [],acc,_=>⟨acc,rfl⟩
 | d::ds,acc,h=>by
  rw [lW];split
  ·exact bEv ds _ fun x hx=>h x ad2
  ·rename_i he;rw [if_pos ((h d o6).ok.resolve_left he)];exact bEv ds _ fun x hx=>h x ad2
theorem bMd: ∀(xs:List gM) (o:Bs),(∀x∈xs,InOk x)→ ∃o',mU xs o=(o',true)
 | [],o,_=>⟨o,rfl⟩
 | x::xs,o,h=>by
  obtain⟨h1,h2,h3⟩:=h x o6;obtain⟨t,ht⟩:=bEv x.sides x.name fun d hd=>(h3 d hd).1
  have hi:qD x=some t:=by
   unfold qD;rw [if_neg (by rw [h1];simp;omega),ht]
  rw [mU,hi];exact bMd xs _ fun y hy=>h y ae3
theorem bPi{z:mT}(hz:LastOk z): ∀(L:List mT) (o:Bs),(∀l∈L,LnOk l)→ ∃o',fB (L++[z]) o=(o',true)
 | [],o,_=>by
  obtain⟨t,ht⟩:=hz.2.expr;refine⟨o++(([111,117,116,32]++t)++[10]),?_⟩;show fB [z] o=_;simp only [fB];rw [ht];simp only [hz.1,ne_eq,not_true_eq_false,if_false]
 | l::L,o,h=>by
  obtain⟨h1,h2⟩:=h l o6;obtain⟨t,ht⟩:=h2.expr;obtain⟨o',ho⟩:=bPi hz L (o++(((l.name++[58,32])++t)++[10])) fun y hy=>h y ae3;refine⟨o',?_⟩
  obtain⟨m,M,hM⟩: ∃m M,L++[z]=m::M:=by
   cases L with
   | nil=>exact⟨z,[],rfl⟩
   | cons m M=>exact⟨m,M++[z],rfl⟩
  rw [List.cons_append];rw [hM] at ho⊢
  have:fB (l::m::M) o=match gH l.items 254 with
    | none=>(o,false)
    | some t=>if dD l.name=false then (o,false) else fB (m::M) (o++(((l.name++[58,32])++t)++[10])):=rfl
  rw [this,ht];simp only;rw [if_neg ai7];exact ho
theorem PSt.lines_ne{p:gN}{n:Nat}(h:PSt p n true):p.lines≠[]:=by
 rcases h.lns with ⟨h,_⟩ | ⟨_,L,z,h,_⟩
 ·cases h
 ·rw [h];simp
theorem PSt.right{p:gN}(h:PSt p 64 true):(cV p).2=true:=by
 unfold cV;rw [if_neg]
 ·obtain⟨o,ho⟩:=bMd p.inputs [] h.ins;rw [ho]
  rcases h.lns with ⟨h,_⟩ | ⟨_,L,z,hl,hL,hz⟩
  ·cases h
  ·obtain⟨o',ho'⟩:=bPi hz L o hL;simp only [hl,ho']
 ·have:=h.num;rintro(h' | h')
  ·exact h.lines_ne h'
  ·omega
theorem PSt.rng{p:gN}{n:Nat}(h:PSt p n true):RngP p:=by
 refine⟨fun x hx d hd=>((h.ins x hx).2.2 d hd).2,fun l hl=>?_⟩
 rcases h.lns with ⟨h,_⟩ | ⟨_,L,z,e,hL,hz⟩
 ·cases h
 ·rw [e] at hl
  rcases List.mem_append.1 hl with hl | hl
  ·exact(hL l hl).2.2
  ·rw [List.mem_singleton.1 hl];exact hz.2.2
theorem isOk_iff{f:Flt}:nN f=true↔f=(0,0):=by
 constructor
 ·intro h;simp only [nN,pB,Bool.and_eq_true,beq_iff_eq] at h;exact Prod.ext h.1 h.2
 ·rintro rfl;rfl
theorem bUl{text:Bs}(h:(kP text).2=(0,0)):(cV (kP text).1).2=true∧RngP (kP text).1:=by
 have:=parse_conv (text:=text) (p:=(kP text).1) (flt:=(kP text).2) rfl (isOk_iff.2 h);exact⟨this.1.right,this.1.rng⟩
end Go.Proofs.YtakphiannlpnfaaGreatDoor
