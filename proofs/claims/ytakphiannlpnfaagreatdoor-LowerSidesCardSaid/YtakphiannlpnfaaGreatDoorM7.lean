/- Texts of one proof, one behind the other: ShowP, ParseP, BackL, BackP, BackE, BackC, BackD, BackR, BackN. -/
import Derived.Test.YtakphiannlpnfaaGreatDoorM6
namespace Go.Proofs.YtakphiannlpnfaaGreatDoor
open Go.RowKit
structure qQ where
 name:Bs
 n:Int
 deriving Inhabited,DecidableEq
structure gE where
 name:Bs
 at_:Int
 sides:List qQ
 deriving Inhabited,DecidableEq
structure lF where
 name:Bs
 at_:Int
 items:List cR
 deriving Inhabited,DecidableEq
structure gP where
 inputs:List gE
 lines:List lF
 deriving Inhabited,DecidableEq
def dY:List Bs:=[[43],[45],[42],[37],[124],[109,105,110],[109,97,120],[61],[126],[60],[60,61],[62,61],[62],[97,110,100],[111,114],[112,111,119],[114,104,111],[116,97,107,101],[100,114,111,112],[99,97,116],[105,111,116,97],[115,104,97,112,101],[114,97,118,101,108],[114,101,118],[116,117,114,110]]
def bFi (two:Bool)(f:Int):List Bs→Bs→Bs
 | [],acc=>acc
 | s::r,acc=>bFi two f r (if gA s two !=0&&gA s two==f then s else acc)
def lB (two:Bool)(f:Int):Bs:=bFi two f dY []
structure dV where
 words:List Bs
 nest:Nat
 tokens:Nat
 plain:Bool
 deriving Inhabited,DecidableEq
def operandS(it:cR):Option dV:=
 if it.how=2 then (if it.fn=0∧it.nums=[]∧dA it.name=true then some ⟨[it.name],0,1,true⟩ else none)
 else if it.fn≠0∨it.name≠[]∨it.nums=[]∨256<it.nums.length then none
 else some ⟨it.nums.map fN,0,it.nums.length,true⟩
def bPb (how:Int):Bs:=if how=5 then [47] else if how=6 then [92] else if how=7 then [46] else []
def verbS (it:cR):Bs×Nat:=
 if it.how=3 then (lB false it.fn,1)
 else if lB true it.fn=[]∨it.how=4 then (lB true it.fn,1)
 else if 17<it.fn then ([],0)
 else (lB true it.fn++bPb it.how,2)
def brkEnd:List Bs→List Bs
 | []=>[]
 | [w]=>[w++[41]]
 | w::r=>w::brkEnd r
def brk:List Bs→List Bs
 | []=>[]
 | w::r=>brkEnd (([40]++w)::r)
def leftS (p:dV):dV:=if p.plain then p else ⟨brk p.words,p.nest+1,p.tokens+2,p.plain⟩
def wZ (how:Int):Bool:=how==4 || how==7
def pP (it:cR)(st:List dV):Option (List dV):=
 if wZ it.how then match st with
  | p::q::r=>some (⟨(leftS q).words++(verbS it).1::p.words,max p.nest (leftS q).nest,p.tokens+(verbS it).2+(leftS q).tokens,false⟩::r)
  | _=>none
 else match st with
  | p::r=>some (⟨(verbS it).1::p.words,p.nest,p.tokens+(verbS it).2,false⟩::r)
  | []=>none
def hU (st:List dV)(it:cR):Option (List dV):=
 if it.how=1∨it.how=2 then (operandS it).map (· ::st)
 else if it.how<3∨7<it.how∨it.nums≠[]∨it.name≠[]∨(verbS it).1=[] then none
 else pP it st
def fO:List cR→List dV→Option (List dV)
 | [],st=>some st
 | it::r,st=>match hU st it with
  | none=>none
  | some st'=>fO r st'
def joinSp:List Bs→Bs
 | []=>[]
 | [w]=>w
 | w::r=>w++32::joinSp r
def gQ (l:List cR)(most:Nat):Option Bs:=
 if most<l.length then none else match fO l [] with
  | some [p]=>if most<p.tokens∨32<p.nest then none else some (joinSp p.words)
  | _=>none
def kV:List qQ→Bs→Option Bs
 | [],t=>some t
 | d::r,t=>if d.name=[] then kV r (t++([32]++fN d.n)) else if d.n=0∧dA d.name=true then kV r (t++([32]++d.name)) else none
def oS (x:gE):Option Bs:=if dA x.name=false∨4<x.sides.length then none else kV x.sides x.name
def lZ:List gE→Bs→Bs×Bool
 | [],o=>(o,true)
 | x::r,o=>match oS x with
  | none=>(o,false)
  | some t=>lZ r (o++(([105,110,32]++t)++[10]))
def fE:List lF→Bs→Bs×Bool
 | [],o=>(o,true)
 | [l],o=>match gQ l.items 255 with
  | none=>(o,false)
  | some t=>if l.name≠[] then (o,false) else (o++(([111,117,116,32]++t)++[10]),true)
 | l::r,o=>match gQ l.items 254 with
  | none=>(o,false)
  | some t=>if dA l.name=false then (o,false) else fE r (o++(((l.name++[58,32])++t)++[10]))
def cU (p:gP):Bs×Bool:=
 if p.lines=[]∨64<p.inputs.length+p.lines.length then ([],false) else match lZ p.inputs [] with
  | (o,false)=>(o,false)
  | (o,true)=>fE p.lines o
def nT (two:Bool)(f:Int):List Bs→Bs
 | []=>[]
 | s::r=>if gA s two !=0&&gA s two==f then s else nT two f r
structure Part where
 s:Bs
 plain:Bool
 tokens:Nat
 nest:Nat
 deriving Inhabited,DecidableEq
def brkR (p:Part):Part:=if p.plain then p else ⟨([40]++p.s)++[41],false,p.tokens+2,p.nest+1⟩
def hitB (two:Bool)(f:Int)(s:Bs):Bool:=gA s two !=0&&gA s two==f
theorem bNn(two:Bool)(f:Int): ∀l:List Bs,l.Pairwise (fun s t=>gA s two=0∨gA s two≠gA t two)→ ∀acc,bFi two f l acc=if l.any (hitB two f) then nT two f l else acc
 | [],_,acc=>rfl
 | s::r,h,acc=>by
  obtain⟨h1,h2⟩:=List.pairwise_cons.1 h;rw [bFi,nT,bNn two f r h2]
  by_cases hs:(gA s two !=0&&gA s two==f)=true
  ·have hn:r.any (hitB two f)=false:=by
    rw [List.any_eq_false];intro t ht hb;simp only [hitB,Bool.and_eq_true,bne_iff_ne,beq_iff_eq] at hb hs
    rcases h1 t ht with h | h
    ·exact hs.1 h
    ·exact h (hs.2.trans hb.2.symm)
   simp [hs,hn,hitB]
  ·simp only [Bool.not_eq_true] at hs;simp [hs,hitB]
theorem bIw(two:Bool)(f:Int): ∀l:List Bs,l.any (hitB two f)=false→nT two f l=[]
 | [],_=>rfl
 | s::r,h=>by
  rw [List.any_cons,Bool.or_eq_false_iff] at h;rw [nT];have:(gA s two !=0&&gA s two==f)=false:=h.1;rw [this,bIw two f r h.2];rfl
theorem bMf(two:Bool)(f:Int):nT two f dY=lB two f:=by
 unfold lB;rw [bNn two f dY (by cases two<;>decide)];cases h:dY.any (hitB two f)
 ·rw [bIw two f _ h];rfl
 ·rfl
theorem bQd(two:Bool)(f:Int): ∀l:List Bs,nT two f l≠[]→nT two f l∈l∧hitB two f (nT two f l)=true
 | [],h=>absurd rfl h
 | s::r,h=>by
  rw [nT] at h⊢
  by_cases hs:(gA s two !=0&&gA s two==f)=true
  ·rw [if_pos hs];exact⟨List.mem_cons_self ..,hs⟩
  ·rw [if_neg hs] at h⊢;obtain⟨h1,h2⟩:=bQd two f r h;exact⟨List.mem_cons_of_mem _ h1,h2⟩
theorem textF_hit{two:Bool}{f:Int}(h:lB two f≠[]):lB two f∈dY∧gA (lB two f) two=f∧f≠0:=by
 rw [←bMf] at h⊢;obtain⟨h1,h2⟩:=bQd two f _ h;simp only [hitB,Bool.and_eq_true,bne_iff_ne,beq_iff_eq] at h2;exact⟨h1,h2.2,fun e=>h2.1 (h2.2.trans e)⟩
theorem tQ(w:Bs){r:List Bs}(h:r≠[]):joinSp (w::r)=w++32::joinSp r:=by
 cases r with
 | nil=>exact absurd rfl h
 | cons x r=>rfl
theorem bRs{l:List Bs}(h:l≠[]):brkEnd l≠[]:=by
 match l,h with
 | [w],_=>simp [brkEnd]
 | w::x::r,_=>simp [brkEnd]
theorem bGi: ∀l:List Bs,l≠[]→joinSp (brkEnd l)=joinSp l++[41]
 | [],h=>absurd rfl h
 | [w],_=>rfl
 | w::x::r,_=>by
  show joinSp (w::brkEnd (x::r))=_;rw [tQ w (bRs o6),bGi (x::r) o6,tQ w o6];simp
theorem join_brk{l:List Bs}(h:l≠[]):joinSp (brk l)=([40]++joinSp l)++[41]:=by
 cases l with
 | nil=>exact absurd rfl h
 | cons w r=>
  show joinSp (brkEnd _)=_;rw [bGi _ o6]
  cases r with
  | nil=>simp [joinSp]
  | cons x r=>simp [joinSp]
theorem brk_ne{l:List Bs}(h:l≠[]):brk l≠[]:=by
 cases l with
 | nil=>exact absurd rfl h
 | cons w r=>exact bRs o6
structure Like (p:Part) (q:dV):Prop where
 s:p.s=joinSp q.words
 plain:p.plain=q.plain
 tokens:p.tokens=q.tokens
 nest:p.nest=q.nest
 ne:q.words≠[]
theorem Like.brk{p:Part}{q:dV}(h:Like p q):Like (brkR p) (leftS q):=by
 unfold brkR leftS;rw [h.plain];cases hq:q.plain
 ·simp only [Bool.false_eq_true,if_false];exact⟨by rw [h.s,join_brk h.ne],o6,by simp [h.tokens],by simp [h.nest],brk_ne h.ne⟩
 ·simp only [if_true];exact h
inductive bCi:List Part→List dV→Prop
 | nil:bCi [] []
 | cons {p q a b}:Like p q→bCi a b→bCi (p::a) (q::b)
theorem bCi.len{a:List Part}{b:List dV}(h:bCi a b):a.length=b.length:=by induction h<;>simp_all
theorem step_tokens{st st':List dV}{x:cR}(h:hU st x=some st'):(st.map (·.tokens)).sum+1≤(st'.map (·.tokens)).sum:=by
 unfold hU at h;split at h
 ·unfold operandS at h;split at h
  ·split at h
   ·simp at h;subst h;simp;omega
   ·simp at h
  ·split at h
   ·simp at h
   ·rename_i hn;simp at h;subst h;have:0<x.nums.length:=List.length_pos_iff.2 fun e=>hn ah4;simp;omega
 ·split at h
  ·cases h
  ·have hv:1≤(verbS x).2∨(verbS x).1=[]:=by
    unfold verbS;split
    ·exact .inl o6
    ·split
     ·exact .inl o6
     ·split
      ·exact .inr rfl
      ·exact .inl o6
   rename_i hn;have hv:1≤(verbS x).2:=hv.resolve_right fun e=>hn ah4;unfold pP at h;split at h
   ·split at h
    ·rename_i p q r;simp at h;subst h;have:q.tokens≤(leftS q).tokens:=by unfold leftS;split<;>simp
     simp only [List.map_cons,List.sum_cons];omega
    ·cases h
   ·split at h
    ·simp at h;subst h;simp;omega
    ·cases h
theorem bCn: ∀{l:List cR} {st st':List dV},fO l st=some st'→(st.map (·.tokens)).sum+l.length≤(st'.map (·.tokens)).sum
 | [],st,st',h=>by simp [fO] at h;subst h;simp
 | x::r,st,st',h=>by
  rw [fO] at h
  cases h1:hU st x with
  | none=>rw [h1] at h;cases h
  | some s1=>
   rw [h1] at h;have:=bCn h;have:=step_tokens h1;simp only [List.length_cons];omega
def jG.sd (x:jG):qQ:=⟨x.name,x.n⟩
def InputV.inp(x:InputV):gE:=⟨x.name,x.at_,x.sides.list.map jG.sd⟩
def LineV.ln(x:LineV):lF:=⟨x.name,x.at_,x.items.list.map ItemV.it⟩
def ProgV.pr(x:ProgV):gP:=⟨x.inputs.list.map InputV.inp,x.lines.list.map LineV.ln⟩
def mM:List TokV→List qQ→List qQ×Flt
 | [],acc=>(acc,(0,0))
 | t::r,acc=>
  if t.kind≠2∧(t.kind≠1∨dA t.word=false) then (acc,(t.at_,41))
  else if acc.length=4 then (acc,(t.at_,45)) else mM r (acc++[⟨t.word,t.n⟩])
section
variable (toks : List TokV) (e : Int)
def kS:gE×Flt:=
 if toks.length=1 then (⟨(bG toks 1).word,atP toks 1 e,[]⟩,(atP toks 1 e,42))
 else if (bG toks 1).kind≠1∨dA (bG toks 1).word=false then (⟨(bG toks 1).word,atP toks 1 e,[]⟩,(atP toks 1 e,41))
 else (⟨(bG toks 1).word,atP toks 1 e,(mM (toks.drop 2) []).1⟩,(mM (toks.drop 2) []).2)
def isW (t:TokV)(w:Bs):Bool:=t.kind==1&&t.word==w
def tH (name:Bs)(k:Nat):lF×Flt:=(⟨name,(bG toks 0).at_,(sO toks e k).1⟩,(sO toks e k).2)
def fY (p:gP)(n:Nat)(over:Bool):gP×Flt:=
 if n=64 then (p,(atP toks 0 e,45))
 else if 256<toks.length then (p,(atP toks 256 e,45))
 else if over=true∨isW (bG toks 0) [105,110]=true∧p.lines≠[] then (p,(atP toks 0 e,40))
 else if isW (bG toks 0) [105,110]=true then (⟨p.inputs++[(kS toks e).1],p.lines⟩,(kS toks e).2)
 else if isW (bG toks 0) [111,117,116]=true then (⟨p.inputs,p.lines++[(tH toks e [] 1).1]⟩,(tH toks e [] 1).2)
 else if (bG toks 0).kind≠1∨dA (bG toks 0).word=false then (p,(atP toks 0 e,40))
 else if (bG toks 1).kind≠3∨(bG toks 1).word≠[58] then (p,(atP toks 1 e,42))
 else (⟨p.inputs,p.lines++[(tH toks e (bG toks 0).word 2).1]⟩,(tH toks e (bG toks 0).word 2).2)
end
def dG (toks:List TokV):List TokV:=toks.takeWhile fun t=>t.kind !=4
def endP (toks:List TokV)(len:Int):Int:=atP toks (dG toks).length len
def qV (p:gP):Bool:=match p.lines.getLast? with
 | none=>false
 | some l=>l.name==[]
def rN (len:Int):Nat→List TokV→gP→Nat→Bool→gP×Flt
 | 0,_,_,_,_=>(⟨[],[]⟩,(0,0))
 | f+1,toks,p,n,over=>
  if toks=[] then (if over=true then (p,(0,0)) else (⟨[],[]⟩,(len,42)))
  else if dG toks=[] then rN len f (toks.drop 1) p n over
  else if mI (fY (dG toks) (endP toks len) p n over).2 then
   rN len f (toks.drop ((dG toks).length+1)) (fY (dG toks) (endP toks len) p n over).1 (n+1) (qV (fY (dG toks) (endP toks len) p n over).1)
  else (⟨[],[]⟩,(fY (dG toks) (endP toks len) p n over).2)
def jS (text:Bs):gP×Flt:=
 if mI (fT text).2 then rN text.length ((fT text).1.length+1) (fT text).1 ⟨[],[]⟩ 0 false else (⟨[],[]⟩,(fT text).2)
def PInv (r:gP×Flt)(len:Int)(toks:List TokV)(p:gP)(n:Nat)(over:Bool):Prop:= ∃f,toks.length+1≤f∧rN len f toks p n over=r
section
variable {r : gP × Flt} {len : Int} {toks : List TokV} {p : gP} {n : Nat} {over : Bool}
theorem p_end(h:PInv r len toks p n over)(h0:toks=[]):r=if over=true then (p,(0,0)) else (⟨[],[]⟩,(len,42)):=by
 obtain⟨f,hf,h⟩:=h
 obtain⟨f,rfl⟩: ∃g,f=g+1:=⟨f-1,n0⟩
 rw [rN,if_pos h0] at h;exact h.symm
theorem p_skip(h:PInv r len toks p n over)(h0:toks≠[])(h1:dG toks=[]):PInv r len (toks.drop 1) p n over:=by
 obtain⟨f,hf,h⟩:=h;have:0<toks.length:=List.length_pos_iff.2 h0
 obtain⟨f,rfl⟩: ∃g,f=g+1:=⟨f-1,n0⟩
 rw [rN,if_neg h0,if_pos h1] at h;exact⟨f,by rw [List.length_drop];omega,h⟩
theorem p_line(h:PInv r len toks p n over)(h0:toks≠[])(h1:dG toks≠[]){q:gP}{f:Flt}(hq:fY (dG toks) (endP toks len) p n over=(q,f)):
  (mI f=true→PInv r len (toks.drop ((dG toks).length+1)) q (n+1) (qV q))∧(mI f=false→r=(⟨[],[]⟩,f)):=by
 obtain⟨g,hg,h⟩:=h;have:0<toks.length:=List.length_pos_iff.2 h0
 obtain⟨g,rfl⟩: ∃k,g=k+1:=⟨g-1,n0⟩
 rw [rN,if_neg h0,if_neg h1,hq] at h;refine⟨fun hi=>?_,fun hi=>?_⟩
 ·rw [if_pos hi] at h;exact⟨g,by rw [List.length_drop];omega,h⟩
 ·rw [if_neg ag2] at h;exact h.symm
end
structure bCg (t:TokV):Prop where
 word:t.word.length≤16
 lo: -9223372036854775808≤t.n
 hi:t.n≤9223372036854775807
theorem bNi{neg:Bool}{ds:Bs}{v:Int}(h:tC neg ds=some v): -9223372036854775808≤v∧v≤9223372036854775807:=by
 unfold tC at h;split at h
 ·split at h
  ·injection h with h
   omega
  ·cases h
 ·split at h
  ·injection h with h
   omega
  ·cases h
theorem numTok_ok{b:UInt8}{r:Bs}{t:TokR}(h:hJ b r= .ok (some t)):t.2.1=[]∧ -9223372036854775808≤t.2.2.1∧t.2.2.1≤9223372036854775807:=by
 unfold hJ at h;dsimp only at h
 by_cases hb:(b==95)=true
 ·simp only [hb,if_true] at h;split at h
  ·cases h
  ·split at h
   ·cases h
   ·rename_i hv;simp only [Except.ok.injEq,Option.some.injEq] at h;subst h;exact⟨rfl,bNi hv⟩
 ·simp only [hb,Bool.false_eq_true,if_false] at h;split at h
  ·cases h
  ·split at h
   ·cases h
   ·rename_i hv;simp only [Except.ok.injEq,Option.some.injEq] at h;subst h;exact⟨rfl,bNi hv⟩
theorem bPu{s:Bs}{k v:Int}{wd:Bs}{m:Nat}(h:fM s= .ok (k,wd,v,m)):wd.length≤16∧ -9223372036854775808≤v∧v≤9223372036854775807:=by
 cases s with
 | nil=>cases h
 | cons b r=>
  simp only [fM] at h;split at h
  ·cases h;decide
  ·split at h
   ·split at h
    ·cases h
    ·cases h;rename_i h16
     have:=(List.length_take_le (runB nC (b::r)) (b::r))
     exact⟨n0,o9,o9⟩
   ·split at h
    ·cases h
    ·rename_i t' ht;simp only [Except.ok.injEq] at h;subst h;obtain⟨h1,h2,h3⟩:=numTok_ok ht;simp only at h1 h2 h3;exact⟨by rw [h1];decide,h2,h3⟩
    ·split at h
     ·cases h
     ·cases h
      have h2:lN (b::r)≤2:=by
       simp only [lN];split
       ·omega
       ·split<;>omega
      have:=(List.length_take_le (lN (b::r)) (b::r))
      exact⟨n0,o9,o9⟩
theorem bDy: ∀(f i:Nat) (s:Bs) (out:List Tok),(∀t∈out,bCg t)→ ∀t∈(lexGo f i s out).1,bCg t
 | 0,_,_,out,h=>h
 | _+1,_,[],out,h=>h
 | f+1,i,b::r,out,h=>by
  unfold lexGo;split
  ·exact bDy f _ _ _ h
  ·split
   ·exact bDy f _ _ _ h
   ·split
    ·exact fun t ht=>by simp at ht
    ·rename_i ht;refine bDy f _ _ _ fun t hm=>?_
     rcases List.mem_append.1 hm with hm | hm
     ·exact h t hm
     ·rw [List.mem_singleton.1 hm];obtain⟨h1,h2,h3⟩:=bPu ht;exact⟨h1,h2,h3⟩
theorem lex_ok(s:Bs): ∀t∈(fT s).1,bCg t:=by
 unfold fT;split
 ·exact fun t ht=>by simp at ht
 ·exact bDy _ _ _ _ fun t ht=>by simp at ht
theorem peek_ok{toks:List TokV}(h: ∀t∈toks,bCg t)(k:Nat):bCg (bG toks k):=by
 unfold bG;split
 ·rename_i ht;exact h _ (j3 ht)
 ·exact⟨o9,o9,o9⟩
theorem zI{toks:List TokV}(h: ∀t∈toks,bCg t)(k:Nat):(bG toks k).word.length≤65536:=Nat.le_trans (peek_ok h k).word o9
theorem bMu(toks:List TokV):(dG toks).length≤toks.length:=(List.takeWhile_sublist _).length_le
theorem bCy(toks:List TokV):toks.take (dG toks).length=dG toks:=by
 unfold dG
 induction toks with
 | nil=>rfl
 | cons t r ih=>
  rw [List.takeWhile_cons];split
  ·rw [List.length_cons,List.take_succ_cons,ih]
  ·rfl
theorem own_more{toks:List TokV}{n:Nat}{x:TokV}(hn:n≤(dG toks).length)(hx:toks[n]?=some x)(h4:x.kind≠4):n+1≤(dG toks).length:=by
 unfold dG at*
 induction toks generalizing n with
 | nil=>simp at hx
 | cons t r ih=>
  rw [List.takeWhile_cons] at hn⊢;split at hn
  ·rename_i ht;rw [if_pos ht]
   cases n with
   | zero=>simp
   | succ n=>
    have:=ih (n:=n) (by simpa using hn) (by simpa using hx);simp;omega
  ·rename_i ht;have:n=0:=by simpa using hn
   subst this;simp at hx;subst hx;simp [h4] at ht
theorem own_stop{toks:List TokV}{n:Nat}(hn:n≤(dG toks).length)(h:toks.length≤n∨ ∃x:TokV,toks[n]?=some x∧x.kind=4):n=(dG toks).length:=by
 have hl:=bMu toks
 rcases h with h | ⟨x,hx,h4⟩
 ·omega
 ·rcases Nat.lt_or_ge n (dG toks).length with hlt | hge
  ·exfalso
   have hm:(dG toks)[n]?=some x:=by
    rw [←bCy toks,List.getElem?_take,if_pos hlt];exact hx
   have:=List.all_takeWhile (p:=fun t:TokV=>t.kind !=4) (l:=toks);have:=List.all_eq_true.1 this x (j3 hm);simp [h4] at this
  ·omega
structure Tk where
 kind:Int
 word:Bs
 n:Int
 deriving Inhabited,DecidableEq
def TokV.tk(t:TokV):Tk:=⟨t.kind,t.word,t.n⟩
def Lx (s:Bs)(T:List Tk)(rest:Bs):Prop:= ∀i out,∃L:List Tok,L.map TokV.tk=T∧lexGo (s++rest).length i (s++rest) out=lexGo rest.length (i+s.length) rest (out++L)
section
variable {a b s rest : Bs} {A B : List Tk}
theorem Lx.nil:Lx [] [] rest:=fun i out=>⟨[],rfl,o6⟩
theorem Lx.append(h:Lx a A (b++rest))(k:Lx b B rest):Lx (a++b) (A++B) rest:=fun i out=>by
 obtain⟨L,hL,e⟩:=h i out;obtain⟨M,hM,e'⟩:=k (i+a.length) (out++L);exact⟨L++M,by simp [hL,hM],by rw [List.append_assoc,e,e',List.length_append,Nat.add_assoc,List.append_assoc]⟩
theorem Lx.tok{k v:Int}{wd:Bs}{b:UInt8}(h:fM ((b::s)++rest)= .ok (k,wd,v,(b::s).length))(hb:nG b=false)(h35:(b==35)=false):Lx (b::s) [⟨k,wd,v⟩] rest:=fun i out=>
 ⟨[⟨k,i,wd,v⟩],rfl,by
  rw [List.cons_append,nX,hb,if_neg o6,h35,if_neg o6];rw [List.cons_append] at h;rw [h];simp only;have e:(b::(s++rest)).drop (b::s).length=rest:=by rw [←List.cons_append,List.drop_left]
  rw [e]⟩
end
theorem bMt{p:UInt8→Bool}: ∀{s:Bs},runB p s=s.length→ ∀b∈s,p b=true
 | [],_,b,hb=>by simp at hb
 | c::s,h,b,hb=>by
  rw [runB] at h;split at h
  ·rename_i hc
   rcases List.mem_cons.1 hb with rfl | hb
   ·exact hc
   ·exact bMt ab2 b hb
  ·simp at h
structure WordB (s:Bs):Prop where
 head: ∃b r,s=b::r∧nR b=true
 all: ∀b∈s,nC b=true
 len:s.length≤16
theorem numTok_kind{b:UInt8}{r:Bs}{t:TokR}(h:hJ b r= .ok (some t)):t.1=2∧t.2.1=[]:=by
 unfold hJ at h;dsimp only at h
 by_cases hb:(b==95)=true
 ·simp only [hb,if_true] at h;split at h
  ·cases h
  ·split at h
   ·cases h
   ·simp only [Except.ok.injEq,Option.some.injEq] at h;subst h;exact⟨rfl,rfl⟩
 ·simp only [hb,Bool.false_eq_true,if_false] at h;split at h
  ·cases h
  ·split at h
   ·cases h
   ·simp only [Except.ok.injEq,Option.some.injEq] at h;subst h;exact⟨rfl,rfl⟩
structure TokIs (k:Int) (wd:Bs) (v:Int) (s:Bs):Prop where
 len:wd.length≤s.length
 num:k=2→wd=[]
 word:k=1→v=0
 spell:k=1→wd=s→WordB s
theorem take_len(n:Nat)(s:Bs):(s.take n).length≤s.length:=by simp;omega
theorem bGd{s:Bs}{k v:Int}{wd:Bs}{m:Nat}(h:fM s= .ok (k,wd,v,m)):TokIs k wd v s:=by
 cases s with
 | nil=>cases h
 | cons b r=>
  simp only [fM] at h;split at h
  ·cases h;exact⟨o6,fun h=>absurd h o9,fun h=>absurd h o9,fun h=>absurd h o9⟩
  ·split at h
   ·rename_i hl;split at h
    ·cases h
    ·cases h;rename_i h16;refine⟨take_len _ _,fun h=>absurd h o9,fun _=>rfl,fun _ e=>?_⟩;have hr:=kQ nC (b::r)
     have he:runB nC (b::r)=(b::r).length:=by
      have:=congrArg List.length e;rw [List.length_take] at this;omega
     exact⟨⟨b,r,rfl,hl⟩,bMt he,n0⟩
   ·split at h
    ·cases h
    ·rename_i t' ht;simp only [Except.ok.injEq] at h;subst h;obtain⟨h1,h2⟩:=numTok_kind ht;simp only at h1 h2;subst h1;subst h2;exact⟨o6,fun _=>rfl,fun h=>absurd h o9,fun h=>absurd h o9⟩
    ·split at h
     ·cases h
     ·cases h;exact⟨take_len _ _,fun h=>absurd h o9,fun h=>absurd h o9,fun h=>absurd h o9⟩
theorem oJ: ∀(f i:Nat) (s:Bs) (out:List Tok),mI (lexGo f i s out).2=true→ ∃L,(lexGo f i s out).1=out++L∧ ∀t∈L,t.word.length≤s.length
 | 0,_,_,out,_=>⟨[],by simp [lexGo],o6⟩
 | _+1,_,[],out,_=>⟨[],by simp [lexGo],o6⟩
 | f+1,i,b::r,out,h=>by
  unfold lexGo at h⊢;split at h
  ·rename_i hb;rw [if_pos hb];obtain⟨L,h1,h2⟩:=oJ f _ _ _ h;exact⟨L,h1,fun t ht=>by have:=h2 t ht;simp;omega⟩
  ·rename_i hb;rw [if_neg hb];split at h
   ·rename_i h35;rw [if_pos h35];obtain⟨L,h1,h2⟩:=oJ f _ _ _ h;exact⟨L,h1,fun t ht=>by have:=h2 t ht;rw [List.length_drop] at this;omega⟩
   ·rename_i h35;rw [if_neg h35];split at h
    ·rename_i e he
     exact absurd h (by
      have:=tok_code he
      simp [mI,lX,this])
    ·rename_i k wd v m ht;obtain⟨L,h1,h2⟩:=oJ f _ _ _ h;refine⟨⟨k,i,wd,v⟩::L,by rw [h1];simp,fun t hm=>?_⟩
     rcases List.mem_cons.1 hm with rfl | hm
     ·exact(bGd ht).len
     ·have:=h2 t hm;rw [List.length_drop] at this;omega
theorem rX{s:Bs}(h:dA s=true):WordB s:=by
 simp only [dA,bEl,Bool.and_eq_true] at h;obtain⟨_,_,_,hf,hm⟩:=h;have hok:mI (fT s).2=true:=hf;unfold fT at hok hm
 by_cases hlen:65536<s.length
 ·rw [if_pos hlen] at hok;exact absurd hok o9
 ·rw [if_neg hlen] at hok hm
  cases s with
  | nil=>simp [lexGo] at hm
  | cons b r=>
   rw [nX] at hok hm
   by_cases hb:nG b=true
   ·rw [if_pos hb] at hok hm;obtain⟨L,h1,h2⟩:=oJ _ _ _ _ hok;rw [h1] at hm
    match L,hm,h2 with
    | [t],hm,h2=>
     simp only [List.nil_append,Bool.and_eq_true,beq_iff_eq] at hm;have:=h2 t o6;rw [hm.2] at this;simp at this;omega
   ·rw [if_neg hb] at hok hm
    by_cases h35:(b==35)=true
    ·rw [if_pos h35] at hok hm;have hp:1≤runB (· !=10) (b::r):=bDn (bJr h35);obtain⟨L,h1,h2⟩:=oJ _ _ _ _ hok;rw [h1] at hm
     match L,hm,h2 with
     | [t],hm,h2=>
      simp only [List.nil_append,Bool.and_eq_true,beq_iff_eq] at hm;have:=h2 t o6;rw [hm.2,List.length_drop] at this;simp at this;omega
    ·rw [if_neg h35] at hok hm
     cases ht:fM (b::r) with
     | error e=>
      rw [ht] at hm;simp at hm
     | ok q=>
      obtain⟨k,wd,v,m⟩:=q;rw [ht] at hok hm;simp only at hok hm;obtain⟨L,h1,h2⟩:=oJ _ _ _ _ hok;rw [h1] at hm
      have hw:k=1∧wd=b::r:=by
       cases L with
       | nil=>simpa using hm
       | cons t L=>simp at hm
      obtain⟨rfl,rfl⟩:=hw;exact(bGd ht).spell rfl rfl
def cR.un (x:cR):cR:=⟨x.how,0,x.fn,x.name,x.nums⟩
def xQ (l:List cR):List cR:=l.map cR.un
theorem bDm(a b:List cR):xQ (a++b)=xQ a++xQ b:=List.map_append
def OpenT:Tk:=⟨3,[40],0⟩
def CloseT:Tk:=⟨3,[41],0⟩
def lV (toks:List TokV)(k:Nat)(T:List Tk):Prop:=k≤toks.length∧(toks.drop k).map TokV.tk=T
section
variable {toks : List TokV} {k : Nat} {t : Tk} {T R : List Tk}
theorem lV.lt(h:lV toks k (t::T)):k<toks.length:=by
 rcases Nat.lt_or_ge k toks.length with h' | h'
 ·exact h'
 ·rw [lV,List.drop_of_length_le h'] at h;simp at h
theorem lV.peek(h:lV toks k (t::T)):(bG toks k).tk=t:=by
 have hk:=h.lt;rw [sM (List.getElem?_eq_getElem hk)];have:=h.2;rw [List.drop_eq_getElem_cons hk] at this;exact(List.cons.inj this).1
theorem lV.next(h:lV toks k (t::T)):lV toks (k+1) T:=by
 have hk:=h.lt;have:=h.2;rw [List.drop_eq_getElem_cons hk] at this;exact⟨hk,(List.cons.inj this).2⟩
theorem lV.kind(h:lV toks k (t::T)):(bG toks k).kind=t.kind:=by rw [←h.peek];rfl
theorem lV.word(h:lV toks k (t::T)):(bG toks k).word=t.word:=by rw [←h.peek];rfl
theorem lV.num(h:lV toks k (t::T)):(bG toks k).n=t.n:=by rw [←h.peek];rfl
theorem lV.nil(h:lV toks k []):bG toks k=⟨4,0,[],0⟩∧k=toks.length:=by
 have e:(toks.drop k).length=0:=by
  have:=congrArg List.length h.2
  simpa using this
 rw [List.length_drop] at e;have:=h.1;exact⟨bBq n0,n0⟩
theorem lV.skip: ∀(T:List Tk) {k:Nat},lV toks k (T++R)→lV toks (k+T.length) R
 | [],_,h=>h
 | t::T,k,h=>by
  have:=lV.skip T (lV.next (t:=t) (T:=T++R) h);rw [List.length_cons,show k+(T.length+1)=k+1+T.length from by omega];exact this
theorem lV.kindR(h:lV toks k R){c:Int}(hc:c≠4)(hR: ∀t∈R.head?,t.kind≠c):(bG toks k).kind≠c:=by
 cases R with
 | nil=>rw [h.nil.1];exact hc.symm
 | cons t R=>rw [h.kind];exact hR t rfl
end
def Mark (t:Tk):Prop:=t.kind=3∧(t.word=[47]∨t.word=[92]∨t.word=[46])
def Ps (T:List Tk)(I:List cR)(nest:Nat)(plain:Bool):Prop:=
 ∀{toks:List TokV} {e:Int} {r:wN} {k:Nat} {out:List cR} {st:Stk} {o:Nat} {R:List Tk},lV toks k (T++R)→(∀t∈R.head?,t.kind≠2)→o+nest≤32→bDx toks e r k out st o→
  ∃out' S,(plain=true→S=[])∧xQ (out'++S)=xQ I∧xT toks e r (k+T.length) (out++out') (S.map some++st) o
structure Vb (T:List Tk) (it:cR) (two:Bool):Prop where
 head: ∃t T',T=t::T'∧t.kind≠2∧t.kind≠4∧rK t.word=true∧ ¬Mark t
 phrase: ∀{toks:List TokV} {k:Nat} {e:Int} {R:List Tk},lV toks k (T++R)→(∀t∈R.head?,¬Mark t)→mI (bI toks k e two).flt=true∧(bI toks k e two).next=k+T.length∧(bI toks k e two).it.un=it.un
def Hd (T:List Tk):Prop:= ∃t T',T=t::T'∧ ¬Mark t
theorem bQc(S:List cR)(st:Stk):nO (S.map some++st)=(S++(nO st).1,(nO st).2):=by
 induction S with
 | nil=>rfl
 | cons x S ih=>rw [List.map_cons,List.cons_append,nO,ih];rfl
theorem bPt{toks:List TokV}{R:List Tk}(hR: ∀t∈R.head?,t.kind≠2): ∀(ns:List Int) {k:Nat},lV toks k (ns.map (fun n=>(⟨2,[],n⟩:Tk))++R)→fW toks k=ns
 | [],k,h=>nums_end (lV.kindR (R:=R) h o9 hR)
 | n::ns,k,h=>by
  have h':lV toks k (⟨2,[],n⟩::(ns.map (fun n=>(⟨2,[],n⟩:Tk))++R)):=h;rw [uW h'.kind,bPt hR ns h'.next,h'.num]
theorem Ps.nums{ns:List Int}{a:Int}(h:ns≠[]):Ps (ns.map fun n=>⟨2,[],n⟩) [⟨1,a,0,[],ns⟩] 0 true:=by
 intro toks e r k out st o R hF hR _ hE;have hn:=bPt hR ns hF
 obtain⟨n,ns',rfl⟩: ∃n ns',ns=n::ns':=by
  cases ns with
  | nil=>exact absurd rfl h
  | cons n ns'=>exact⟨n,ns',rfl⟩
 have hk:(bG toks k).kind=2:=lV.kind (t:=⟨2,[],n⟩) (T:=_) hF;have:=e_num hE hk;rw [hn] at this;refine⟨[yZ toks k],[],fun _=>rfl,?_,?_⟩
 ·simp [xQ,yZ,cR.un,hn]
 ·rw [List.length_map];exact this
theorem Ps.name{s:Bs}{a:Int}(h:dA s=true):Ps [⟨1,s,0⟩] [⟨2,a,0,s,[]⟩] 0 true:=by
 intro toks e r k out st o R hF hR _ hE;have hF':lV toks k (⟨1,s,0⟩::R):=hF;have:=e_name hE hF'.kind (by rw [hF'.word];exact h);refine⟨[sJ toks k],[],fun _=>rfl,?_,this⟩;simp [xQ,sJ,cR.un,hF'.word]
theorem Ps.brk{T:List Tk}{I:List cR}{n:Nat}{p:Bool}(h:Ps T I n p):Ps (OpenT::(T++[CloseT])) I (n+1) true:=by
 intro toks e r k out st o R hF hR ho hE;have hF':lV toks k (OpenT::(T++(CloseT::R))):=by simpa using hF
 have h1:=(e_open hE hF'.kind hF'.word).1 n0;obtain⟨out',S,_,hu,hB⟩:=h hF'.next (by simp [CloseT]) n0 h1
 have hc:=lV.skip T hF'.next
 have:=b_close hB n0 hc.kind hc.word;rw [bQc] at this;refine⟨out'++S,[],fun _=>rfl,by rw [List.append_nil];exact hu,?_⟩;have e1:k+1+T.length+1=k+(OpenT::(T++[CloseT])).length:=by simp;omega
 rw [e1] at this;simp only [nO,List.append_nil,List.tail_cons,Nat.add_sub_cancel,List.append_assoc] at this;exact this
theorem Ps.mono{V T:List Tk}{I:List cR}{it:cR}{n:Nat}{p:Bool}(hv:Vb V it false)(hd:Hd T)(h:Ps T I n p):Ps (V++T) (I++[it]) n false:=by
 intro toks e r k out st o R hF hR ho hE;rw [List.append_assoc] at hF;obtain⟨t,V',hV,h2,h4,hvb,_⟩:=hv.head;obtain⟨u,T',hT,hm⟩:=hd;have hF':lV toks k (t::(V'++(T++R))):=by rw [hV] at hF;exact hF
 obtain⟨p1,p2,p3⟩:=hv.phrase (e:=e) hF (by rw [hT];simpa using hm);have h1:=(e_verb hE (by rw [hF'.kind];exact h2) (by rw [hF'.kind];exact h4) (by rw [hF'.word];exact hvb)).1 p1;rw [p2] at h1;obtain⟨out',S,_,hu,hB⟩:=h (lV.skip V hF) hR ho h1;refine⟨out',S++[(bI toks k e false).it],o6,?_,?_⟩
 ·rw [←List.append_assoc,bDm,hu,bDm];show xQ I++[_]=_;rw [p3];rfl
 ·rw [List.length_append,←Nat.add_assoc,List.map_append,List.append_assoc];exact hB
theorem Ps.whole{T:List Tk}{I:List cR}{n:Nat}{p:Bool}(h:Ps T I n p)(hn:n≤32){toks:List TokV}{e:Int}{k:Nat}(hF:lV toks k T):xQ (sO toks e k).1=xQ I∧(sO toks e k).2=(0,0):=by
 have hF':lV toks k (T++[]):=by rw [List.append_nil];exact hF
 obtain⟨out',S,_,hu,hB⟩:=h hF' o6 n0 (e_start (e:=e) hF.1);have:=r_end hB (by rw [(lV.skip T hF').nil.1]) n0;rw [bQc] at this;rw [this];simp only [nO,List.append_nil,List.nil_append];exact⟨hu,j1⟩
def Sep (c:UInt8):Prop:=c=32∨c=41∨c=10
theorem Sep.word{c:UInt8}(h:Sep c):nC c=false:=by rcases h with rfl | rfl | rfl<;>decide
def NoNl (T:List Tk):Prop:= ∀t∈T,t.kind≠4
theorem NoNl.append{A B:List Tk}(h:NoNl A)(k:NoNl B):NoNl (A++B):=fun t ht=>(List.mem_append.1 ht).elim (h t) (k t)
theorem NoNl.one{t:Tk}(h:t.kind≠4):NoNl [t]:=fun u hu=>by rw [List.mem_singleton.1 hu];exact h
def Rng (n:Int):Prop:= -9223372036854775808≤n∧n≤9223372036854775807
def tokS (l:List cR):Nat:=match fO l [] with
 | some [p]=>p.tokens
 | _=>0
def lF.un (l:lF):lF:=⟨l.name,0,xQ l.items⟩
def gE.un (x:gE):gE:=⟨x.name,0,x.sides⟩
def gP.un (p:gP):gP:=⟨p.inputs.map gE.un,p.lines.map lF.un⟩
def costI (x:gE):Nat:=x.sides.length+3
def costL (l:lF):Nat:=tokS l.items+if l.name=[] then 2 else 3
def bCz (p:gP):Nat:=(p.inputs.map costI).sum+(p.lines.map costL).sum
structure SideOk (d:qQ):Prop where
 ok:d.name=[]∨d.n=0∧dA d.name=true
theorem name_ne{s:Bs}(h:dA s=true):s≠[]∧s≠[105,110]∧s≠[111,117,116]:=by
 refine⟨?_,?_,?_⟩
 ·rintro rfl;obtain⟨b,r,e,_⟩:=(rX h).head;cases e
 ·rintro rfl;simp [dA] at h
 ·rintro rfl;simp [dA] at h
theorem bQv(ins:List gE)(lns:List lF)(l:lF):qV ⟨ins,lns++[l]⟩=(l.name==[]):=by simp [qV]
structure RngP (p:gP):Prop where
 ins: ∀x∈p.inputs,∀d∈x.sides,Rng d.n
 lns: ∀l∈p.lines,∀x∈l.items,∀n∈x.nums,Rng n
def pW:Stk→Nat
 | []=>0
 | none::r=>pW r+1
 | some _::r=>pW r
def VbOk (it:cR):Prop:= ¬(it.how<3∨7<it.how∨it.nums≠[]∨it.name≠[]∨(verbS it).1=[])
inductive bEb:Stk→List dV→Nat→Prop
 | nil:bEb [] [] 0
 | brk {st P c}:bEb st P c→bEb (none::st) P (c+1)
 | one {it st P c}:VbOk it→wZ it.how=false→bEb st P c→bEb (some it::st) P (c+(verbS it).2)
 | two {it st q P c}:VbOk it→wZ it.how=true→(leftS q).nest+pW st≤32→bEb st P c→bEb (some it::st) (q::P) (c+(verbS it).2+(leftS q).tokens)
theorem rM: ∀(a b:List cR) (st:List dV),fO (a++b) st=(fO a st).bind (fO b)
 | [],b,st=>rfl
 | x::a,b,st=>by
  rw [List.cons_append,fO,fO]
  cases hU st x with
  | none=>rfl
  | some s=>exact rM a b s
theorem steps_snoc{a:List cR}{x:cR}{st P P':List dV}(h:fO a st=some P)(hx:hU P x=some P'):fO (a++[x]) st=some P':=by
 rw [rM,h];show fO [x] P=_;rw [fO,hx];rfl
theorem bPr{it:cR}(h:VbOk it)(st:List dV):hU st it=pP it st:=by
 have h3: ¬(it.how=1∨it.how=2):=fun e=>h (.inl n0);unfold hU;rw [if_neg h3,if_neg h]
theorem fin_pend{st:Stk}{P:List dV}{c:Nat}(h:bEb st P c): ∀{p:dV},p.nest+pW st≤32→ ∃p' P' c',fO (nO st).1 (p::P)=some (p'::P')∧bEb (nO st).2 P' c'∧p'.tokens+c'=p.tokens+c∧p'.nest+pW st≤32:=by
 induction h with
 | nil=>exact fun{p} hp=>⟨p,[],0,rfl,.nil,rfl,hp⟩
 | brk h _=>exact fun{p} hp=>⟨p,_,_,rfl,.brk h,rfl,hp⟩
 | one hv ht h ih=>
  rename_i it st P c;intro p hp;obtain⟨p',P',c',h1,h2,h3,h4⟩:=ih (p:=⟨(verbS it).1::p.words,p.nest,p.tokens+(verbS it).2,false⟩) hp;refine⟨p',P',c',?_,h2,by rw [h3];simp only;omega,h4⟩;rw [nO];simp only [fO];rw [bPr hv];unfold pP;rw [ht];exact h1
 | two hv ht hn h ih=>
  rename_i it st q P c;intro p hp
  obtain⟨p',P',c',h1,h2,h3,h4⟩:=ih (p:=⟨(leftS q).words++(verbS it).1::p.words,max p.nest (leftS q).nest,p.tokens+(verbS it).2+(leftS q).tokens,false⟩) (by
   have:p.nest+pW st≤32:=hp;simp only
   omega)
  refine⟨p',P',c',?_,h2,by rw [h3];simp only;omega,h4⟩;rw [nO];simp only [fO];rw [bPr hv];unfold pP;rw [ht];exact h1
theorem bLx: ∀st:Stk,((nO st).2=[]∧pW st=0)∨ ∃r,(nO st).2=none::r∧pW st=pW r+1
 | []=> .inl ⟨rfl,rfl⟩
 | none::r=> .inr ⟨r,rfl,rfl⟩
 | some _::r=>bLx r
theorem isOk_43{a:Int}:mI (a,43)=false:=by simp [mI,lX]
theorem iC{a c:Int}(hc:c≠0):mI (a,c)=false:=by
 have:(c==0)=false:=by simpa using hc
 simp [mI,lX,this]
theorem two_mem{w:Bs}(h:gU w≠0):w∈dY:=by
 refine Classical.byContradiction fun hn=>h ?_;simp only [dY,List.mem_cons,not_or] at hn;unfold gU;simp only [hn,if_false]
theorem one_mem{w:Bs}(h:nH w≠0):w∈dY:=by
 refine Classical.byContradiction fun hn=>h ?_;simp only [dY,List.mem_cons,not_or] at hn;unfold nH;simp only [hn,or_self,if_false]
theorem verb_mem{w:Bs}{two:Bool}(h:gA w two≠0):w∈dY:=by
 cases two with
 | false=>exact one_mem h
 | true=>exact two_mem h
theorem bMh{two:Bool}{f:Int}{w:Bs}(hf:gA w two=f)(h0:f≠0): ∀l:List Bs,w∈l→(∀s∈l,s≠[])→nT two f l≠[]
 | [],h,_=>by simp at h
 | s::r,h,hne=>by
  rw [nT]
  by_cases hs:(gA s two !=0&&gA s two==f)=true
  ·rw [if_pos hs];exact hne s o6
  ·rw [if_neg hs];refine bMh hf h0 r ?_ fun x hx=>hne x ae2
   rcases List.mem_cons.1 h with rfl | h
   ·exact absurd (by simp [hf,h0]) hs
   ·exact h
theorem bQg{two:Bool}{w:Bs}{f:Int}(hf:gA w two=f)(h0:f≠0):lB two f≠[]:=by
 rw [←bMf];exact bMh hf h0 _ (verb_mem (by rw [hf];exact h0)) o9
theorem bPc{toks:List TokV}{k:Nat}{e:Int}{two:Bool}(h:mI (bI toks k e two).flt=true):VbOk (bI toks k e two).it∧wZ (bI toks k e two).it.how=two∧(verbS (bI toks k e two).it).2+k≤(bI toks k e two).next:=by
 unfold bI at h⊢;split at h
 ·rename_i hm;rw [if_pos hm];split at h
  ·simp only [isOk_43] at h;cases h
  ·rename_i hb;rw [if_neg hb];rw [not_or] at hb;obtain⟨h17,hl⟩:=hb
   by_cases h0:gU (bG toks k).word=0
   ·simp only [h0,if_true,isOk_43] at h;cases h
   ·have ht:=bQg (two:=true) (w:=(bG toks k).word) rfl h0;have ht':lB true (gU (bG toks k).word)≠[]:=ht;simp only [ne_eq,Classical.not_not] at hl;obtain⟨hm1,hm2⟩:=hm
    rcases hm2 with hw | hw | hw
    all_goals
     rw [hw] at hl;simp only [hw] at*;subst hl;refine⟨?_,rfl,?_⟩
     ·simp [VbOk,Phr.it,verbS,ht',h17]
     ·simp [Phr.it,verbS,ht',h17];omega
 ·rename_i hm;rw [if_neg hm]
  by_cases h0:gA (bG toks k).word two=0
  ·simp only [h0,if_true,isOk_43] at h;cases h
  ·have ht:=bQg (two:=two) (w:=(bG toks k).word) rfl h0
   cases two with
   | false=>
    refine⟨?_,rfl,?_⟩
    ·simp [VbOk,Phr.it,verbS,ht]
    ·simp [Phr.it,verbS];omega
   | true=>
    refine⟨?_,rfl,?_⟩
    ·simp [VbOk,Phr.it,verbS,ht]
    ·simp [Phr.it,verbS];omega
structure bMc (t:TokV):Prop where
 num:t.kind=2→t.word=[]
 word:t.kind=1→t.n=0
 rng:Rng t.n
def RngI (l:List cR):Prop:= ∀x∈l,∀n∈x.nums,Rng n
theorem RngI.append{a b:List cR}(h:RngI a)(k:RngI b):RngI (a++b):=fun x hx=>(List.mem_append.1 hx).elim (h x) (k x)
def wV (l:List cR)(m:Nat):Prop:=(∃p,fO l []=some [p]∧p.tokens≤m∧p.nest≤32)∧RngI l
def RngS (st:Stk):Prop:= ∀x,some x∈st→x.nums=[]
theorem fin_rng: ∀{st:Stk},RngS st→RngI (nO st).1∧RngS (nO st).2
 | [],_=>⟨fun x hx=>by simp [nO] at hx,fun x hx=>by simp [nO] at hx⟩
 | none::r,h=>⟨fun x hx=>by simp [nO] at hx,h⟩
 | some y::r,h=>by
  obtain⟨a,b⟩:=fin_rng (st:=r) fun x hx=>h x (List.mem_cons_of_mem _ hx);refine⟨fun x hx=>?_,b⟩;rw [nO] at hx
  rcases List.mem_cons.1 hx with rfl | hx
  ·rw [h x (List.mem_cons_self ..)];simp
  ·exact a x hx
theorem yR(p:dV):p.tokens≤(leftS p).tokens∧(leftS p).tokens≤p.tokens+2∧p.nest≤(leftS p).nest∧(leftS p).nest≤p.nest+1:=by
 unfold leftS;split<;>simp
theorem pend_none{P:List dV}{c:Nat}(h:bEb [] P c):P=[]∧c=0:=by
 cases h;exact⟨rfl,rfl⟩
theorem pend_brk{st:Stk}{P:List dV}{c:Nat}(h:bEb (none::st) P c): ∃d,c=d+1∧bEb st P d:=by
 cases h with
 | brk h=>exact⟨_,rfl,h⟩
theorem nums_mem{toks:List TokV}(ht: ∀t∈toks,bMc t){k:Nat}{n:Int}(h:n∈fW toks k):Rng n:=by
 unfold fW at h;obtain⟨t,h1,rfl⟩:=List.mem_map.1 h;exact(ht t (List.mem_of_mem_drop (List.takeWhile_sublist _ |>.subset h1))).rng
section
variable {toks : List TokV} {e : Int} {l : List cR} {flt : Flt} {k0 : Nat}
structure StB (toks:List TokV) (k0 k:Nat) (out:List cR) (st:Stk) (o:Nat) (p:dV) (P:List dV) (c:Nat):Prop where
 steps:fO out []=some (p::P)
 pend:bEb st P c
 cost:c+(leftS p).tokens+k0≤k
 nest:pW st+(leftS p).nest≤32
 opens:pW st=o
 rng:RngI out
 rngS:RngS st
 le:k≤toks.length
structure StA (toks:List TokV) (k0 k:Nat) (out:List cR) (st:Stk) (o:Nat) (P:List dV) (c:Nat):Prop where
 steps:fO out []=some P
 pend:bEb st P c
 cost:c+k0≤k
 opens:pW st=o
 rng:RngI out
 rngS:RngS st
 le:k≤toks.length
theorem bGo(toks:List TokV)(k:Nat)(e:Int)(b:Bool):(bI toks k e b).it.nums=[]:=rfl
theorem StB.verb{k:Nat}{out:List cR}{st:Stk}{o:Nat}{p:dV}{P:List dV}{c:Nat}(h:StB toks k0 k out st o p P c)(hok:mI (bI toks k e true).flt=true)(hk:k<toks.length):
  StA toks k0 (bI toks k e true).next out (some (bI toks k e true).it::st) o (p::P) (c+(verbS (bI toks k e true).it).2+(leftS p).tokens):=by
 obtain⟨v1,v2,v3⟩:=bPc hok;refine⟨h.steps,.two v1 v2 (by have:=h.nest;omega) h.pend,by have:=h.cost;omega,h.opens,h.rng,fun x hx=>?_,zH hk⟩
 rcases List.mem_cons.1 hx with e1 | hx
 ·cases e1;exact bGo ..
 ·exact h.rngS x hx
theorem StA.verb{k:Nat}{out:List cR}{st:Stk}{o:Nat}{P:List dV}{c:Nat}(h:StA toks k0 k out st o P c)(hok:mI (bI toks k e false).flt=true)(hk:k<toks.length):
  StA toks k0 (bI toks k e false).next out (some (bI toks k e false).it::st) o P (c+(verbS (bI toks k e false).it).2):=by
 obtain⟨v1,v2,v3⟩:=bPc hok;refine⟨h.steps,.one v1 v2 h.pend,by have:=h.cost;omega,h.opens,h.rng,fun x hx=>?_,zH hk⟩
 rcases List.mem_cons.1 hx with e1 | hx
 ·cases e1;exact bGo ..
 ·exact h.rngS x hx
theorem StA.operand{k m:Nat}{out:List cR}{st:Stk}{o:Nat}{P:List dV}{c:Nat}{x:cR}{p:dV}(h:StA toks k0 k out st o P c)(hx:hU P x=some (p::P))(hp:p.plain=true)(hn:p.nest=0)(ht:p.tokens≤m)(ho:o≤32)(hr: ∀n∈x.nums,Rng n)(hl:k+m≤toks.length):
  StB toks k0 (k+m) (out++[x]) st o p P c:=by
 have e1:leftS p=p:=by unfold leftS;rw [if_pos hp]
 exact⟨steps_snoc h.steps hx,h.pend,by rw [e1];have:=h.cost;omega,by rw [e1,hn,h.opens];exact ho,h.opens,h.rng.append fun y hy=>by rw [List.mem_singleton.1 hy];exact hr,h.rngS,hl⟩
theorem StB.close{k:Nat}{out:List cR}{st:Stk}{o:Nat}{p:dV}{P:List dV}{c:Nat}(h:StB toks k0 k out st (o+1) p P c)(hk:k<toks.length):
  ∃p' P' c',StB toks k0 (k+1) (out++(nO st).1) (nO st).2.tail o p' P' c':=by
 have hn:=h.nest;have hc:=h.cost;have ho:=h.opens;obtain⟨l1,l2,l3,l4⟩:=yR p;obtain⟨p',P',c',h1,h2,h3,h4⟩:=fin_pend h.pend (p:=p) n0
 rcases bLx st with ⟨_,h0⟩ | ⟨r,e1,e2⟩
 ·omega
 ·rw [e1] at h2;obtain⟨d,rfl,h5⟩:=pend_brk h2;obtain⟨m1,m2,m3,m4⟩:=yR p';obtain⟨r1,r2⟩:=fin_rng h.rngS;refine⟨p',P',d,by rw [rM,h.steps];exact h1,by rw [e1];exact h5,n0,by rw [e1];simp only [List.tail_cons];omega,by rw [e1];simp only [List.tail_cons];omega,h.rng.append r1,?_,n0⟩;intro x hx;rw [e1] at r2 hx;exact r2 x (List.mem_cons_of_mem _ hx)
theorem StB.done{k:Nat}{out:List cR}{st:Stk}{p:dV}{P:List dV}{c:Nat}(h:StB toks k0 k out st 0 p P c):wV (out++(nO st).1) (toks.length-k0):=by
 have hn:=h.nest;have hc:=h.cost;have ho:=h.opens;have hle:=h.le;obtain⟨l1,l2,l3,l4⟩:=yR p;obtain⟨p',P',c',h1,h2,h3,h4⟩:=fin_pend h.pend (p:=p) n0
 rcases bLx st with ⟨e1,_⟩ | ⟨r,_,e2⟩
 ·rw [e1] at h2;obtain⟨rfl,rfl⟩:=pend_none h2;exact⟨⟨p',by rw [rM,h.steps];exact h1,n0,n0⟩,h.rng.append (fin_rng h.rngS).1⟩
 ·omega
theorem bOl{rec:Nat→List cR→Stk→Nat→wN}{kk:Nat}(hrec: ∀{k out st o P c},kk<k→StA toks k0 k out st o P c→o≤32→rec k out st o=(l,flt)→wV l (toks.length-k0))(hok:mI flt=true):
  ∀(o:Nat) {k:Nat} {out:List cR} {st:Stk} {p:dV} {P:List dV} {c:Nat},kk≤k→StB toks k0 k out st o p P c→tM toks e rec o k out st=(l,flt)→wV l (toks.length-k0):=by
 have rest: ∀(o:Nat) {k:Nat} {out:List cR} {st:Stk} {p:dV} {P:List dV} {c:Nat},kk≤k→StB toks k0 k out st o p P c→bDo toks e rec o k out st=(l,flt)→wV l (toks.length-k0):=by
  intro o k out st p P c hkk h hr;unfold bDo at hr;split at hr
  ·split at hr
   ·cases hr;rw [iC o9] at hok;cases hok
   ·rename_i h0;cases hr;obtain rfl:o=0:=n0
    exact h.done
  ·rename_i h4;split at hr
   ·cases hr;rw [iC o9] at hok;cases hok
   ·split at hr
    ·rename_i hp;have:=cW toks k e true;exact hrec n0 (h.verb hp (iR h4)) (by have:=h.nest;have:=h.opens;omega) hr
    ·rename_i hp;cases hr;exact absurd hok hp
 intro o
 induction o with
 | zero=>exact fun hkk h hr=>rest 0 hkk h hr
 | succ o ih=>
  intro k out st p P c hkk h hr;rw [tM] at hr;split at hr
  ·rename_i hc;obtain⟨p',P',c',h'⟩:=h.close (iR (by rw [hc.1];decide));exact ih n0 h' hr
  ·exact rest _ hkk h hr
theorem go_ok(ht: ∀t∈toks,bMc t)(h256:toks.length≤256)(hok:mI flt=true): ∀(f:Nat) {k:Nat} {out:List cR} {st:Stk} {o:Nat} {P:List dV} {c:Nat},toks.length+1≤f+k→StA toks k0 k out st o P c→o≤32→mC toks e f k out st o=(l,flt)→wV l (toks.length-k0)
 | 0,k,out,st,o,P,c,hf,h,_,_=>by have:=h.le;omega
 | f+1,k,out,st,o,P,c,hf,h,ho,hg=>by
  have hrec: ∀(k':Nat),k<k'→ ∀{out st o P c},StA toks k0 k' out st o P c→o≤32→mC toks e f k' out st o=(l,flt)→wV l (toks.length-k0):=fun k' hk'=>go_ok ht h256 hok f n0;rw [mC] at hg;split at hg
  ·rename_i hv;split at hg
   ·rename_i hp;have:=cW toks k e false;exact hrec _ n0 (h.verb hp (iR hv.2.1)) ho hg
   ·rename_i hp;cases hg;exact absurd hok hp
  ·split at hg
   ·rename_i hb;split at hg
    ·cases hg;rw [iC o9] at hok;cases hok
    ·rename_i h32;have hk:=iR (toks:=toks) (k:=k) (by rw [hb.1];decide);refine hrec (k+1) n0 (P:=P) (c:=c+1) ⟨h.steps,.brk h.pend,by have:=h.cost;omega,by rw [pW,h.opens],h.rng,fun x hx=>h.rngS x (by simpa using hx),hk⟩ n0 hg
   ·split at hg
    ·rename_i h2;have hn:=uW h2;have hl:=nums_le toks k;have hk:=iR (toks:=toks) (k:=k) (by rw [h2];decide)
     have hst:hU P (yZ toks k)=some (⟨(fW toks k).map fN,0,(fW toks k).length,true⟩::P):=by
      have hne:fW toks k≠[]:=by rw [hn];simp
      have h3: ¬256<(fW toks k).length:=n0
      simp [hU,yZ,operandS,hne,h3]
     have hB:=h.operand (m:=(fW toks k).length) hst rfl rfl (Nat.le_refl _) ho (fun n hn=>nums_mem ht hn) n0;exact bOl (kk:=k) (fun hk'=>hrec _ hk') hok o n0 hB hg
    ·split at hg
     ·rename_i hnm;have hk:=iR (toks:=toks) (k:=k) (by rw [hnm.1];decide);have hst:hU P (sJ toks k)=some (⟨[(bG toks k).word],0,1,true⟩::P):=by simp [hU,sJ,operandS,hnm.2]
      have hB:=h.operand (m:=1) hst rfl rfl (Nat.le_refl _) ho (fun n hn=>by simp [sJ] at hn) n0;exact bOl (kk:=k) (fun hk'=>hrec _ hk') hok o n0 hB hg
     ·split at hg
      ·cases hg;rw [iC o9] at hok;cases hok
      ·cases hg;rw [iC o9] at hok;cases hok
end
theorem bIc: ∀(f i:Nat) (s:Bs) (out:List Tok),(∀t∈out,bMc t)→ ∀t∈(lexGo f i s out).1,bMc t
 | 0,_,_,out,h=>h
 | _+1,_,[],out,h=>h
 | f+1,i,b::r,out,h=>by
  unfold lexGo;split
  ·exact bIc f _ _ _ h
  ·split
   ·exact bIc f _ _ _ h
   ·split
    ·exact fun t ht=>by simp at ht
    ·rename_i ht;refine bIc f _ _ _ fun t hm=>?_
     rcases List.mem_append.1 hm with hm | hm
     ·exact h t hm
     ·rw [List.mem_singleton.1 hm];have h1:=bGd ht;obtain⟨_,h2,h3⟩:=bPu ht;exact⟨h1.num,h1.word,h2,h3⟩
theorem tkOk(s:Bs): ∀t∈(fT s).1,bMc t:=by
 unfold fT;split
 ·exact fun t ht=>by simp at ht
 ·exact bIc _ _ _ _ fun t ht=>by simp at ht
theorem expr_ok{toks:List TokV}{e:Int}{k:Nat}(ht: ∀t∈toks,bMc t)(h256:toks.length≤256)(hk:k≤toks.length)(hok:mI (sO toks e k).2=true):wV (sO toks e k).1 (toks.length-k):=
 go_ok (k0:=k) (e:=e) (l:=(sO toks e k).1) (flt:=(sO toks e k).2) ht h256 hok (toks.length+1) (k:=k) (o:=0) (P:=[]) (c:=0) n0 ⟨rfl,.nil,n0,rfl,fun x hx=>by simp at hx,fun x hx=>by simp at hx,hk⟩ n0 rfl
def InOk (x:gE):Prop:=dA x.name=true∧x.sides.length≤4∧ ∀d∈x.sides,SideOk d∧Rng d.n
def LnOk (l:lF):Prop:=dA l.name=true∧wV l.items 254
def LastOk(l:lF):Prop:=l.name=[]∧wV l.items 255
theorem wV.mono{l:List cR}{a b:Nat}(h:wV l a)(hab:a≤b):wV l b:=by
 obtain⟨⟨p,h1,h2,h3⟩,h4⟩:=h;exact⟨⟨p,h1,n0,h3⟩,h4⟩
theorem wV.tok{l:List cR}{a:Nat}(h:wV l a):tokS l≤a:=by
 obtain⟨⟨p,h1,h2,h3⟩,h4⟩:=h;unfold tokS;rw [h1];exact h2
theorem wV.expr{l:List cR}{a:Nat}(h:wV l a): ∃t,gQ l a=some t:=by
 obtain⟨⟨p,h1,h2,h3⟩,h4⟩:=h;have:=bCn h1;simp at this;refine⟨joinSp p.words,?_⟩;unfold gQ;rw [if_neg n0,h1];simp only;rw [if_neg n0]
def LinesOk(ls:List lF)(over:Bool):Prop:=(over=false∧ ∀l∈ls,LnOk l)∨(over=true∧ ∃L z,ls=L++[z]∧(∀l∈L,LnOk l)∧LastOk z)
structure PSt (p:gP) (n:Nat) (over:Bool):Prop where
 ins: ∀x∈p.inputs,InOk x
 lns:LinesOk p.lines over
 num:p.inputs.length+p.lines.length≤n
 le:n≤64
theorem bIv: ∀(toks:List TokV) (acc:List qQ),(∀t∈toks,bMc t)→acc.length≤4→mI (mM toks acc).2=true→ ∃ds,(mM toks acc).1=acc++ds∧ds.length=toks.length∧(acc++ds).length≤4∧ ∀d∈ds,SideOk d∧Rng d.n
 | [],acc,_,ha,_=>⟨[],by simp [mM],rfl,by simpa using ha,o6⟩
 | t::r,acc,ht,ha,h=>by
  rw [mM] at h⊢;split at h
  ·rw [iC o9] at h;cases h
  ·rename_i hk;rw [if_neg hk];split at h
   ·rw [iC o9] at h;cases h
   ·rename_i h4;rw [if_neg h4];obtain⟨ds,h1,h2,h3,h5⟩:=bIv r (acc++[⟨t.word,t.n⟩]) (fun x hx=>ht x ae2) q9 h;refine⟨⟨t.word,t.n⟩::ds,by rw [h1];simp,by simp [h2],by simpa using h3,fun d hd=>?_⟩
    rcases List.mem_cons.1 hd with rfl | hd
    ·have hto:=ht t o6;refine⟨⟨?_⟩,hto.rng⟩
     by_cases h2:t.kind=2
     ·exact .inl (hto.num h2)
     ·have: ¬(t.kind≠1∨dA t.word=false):=fun hh=>hk ⟨h2,hh⟩;simp only [not_or,ne_eq,Classical.not_not,Bool.not_eq_false] at this;exact .inr ⟨hto.word this.1,this.2⟩
    ·exact h5 d hd
theorem input_conv{own:List TokV}{e:Int}(h0:own≠[])(ht: ∀t∈own,bMc t)(hok:mI (kS own e).2=true):InOk (kS own e).1∧(kS own e).1.sides.length+2=own.length:=by
 have hpos:0<own.length:=List.length_pos_iff.2 h0;unfold kS at hok⊢;split at hok
 ·rw [iC o9] at hok;cases hok
 ·rename_i h1;rw [if_neg h1];split at hok
  ·rw [iC o9] at hok;cases hok
  ·rename_i h2;rw [if_neg h2];simp only [not_or,ne_eq,Classical.not_not,Bool.not_eq_false] at h2;obtain⟨ds,s1,s2,s3,s4⟩:=bIv (own.drop 2) [] (fun t hm=>ht t (List.mem_of_mem_drop hm)) o6 hok;rw [List.nil_append] at s1 s3;refine⟨⟨h2.2,by rw [s1];exact s3,by rw [s1];exact s4⟩,?_⟩;rw [s1,s2,List.length_drop];omega
theorem into_conv{own:List TokV}{e:Int}{p:gP}{n:Nat}{over:Bool}(h0:own≠[])(ht: ∀t∈own,bMc t)(h:PSt p n over)(hok:mI (fY own e p n over).2=true):PSt (fY own e p n over).1 (n+1) (qV (fY own e p n over).1)∧bCz (fY own e p n over).1≤bCz p+own.length+1:=by
 have hpos:0<own.length:=List.length_pos_iff.2 h0;obtain⟨ins,lns⟩:=p;obtain⟨h1,h2,h3,h4⟩:=h;unfold fY at hok⊢;split at hok
 ·rw [iC o9] at hok;cases hok
 ·rename_i c1;rw [if_neg c1];split at hok
  ·rw [iC o9] at hok;cases hok
  ·rename_i c2;rw [if_neg c2];split at hok
   ·rw [iC o9] at hok;cases hok
   ·rename_i c3;rw [if_neg c3];simp only [not_or,Bool.not_eq_true,not_and,ne_eq,Classical.not_not] at c3;obtain⟨rfl,c3⟩:=c3
    have hL: ∀l∈lns,LnOk l:=by
     rcases h2 with ⟨_,h⟩ | ⟨h,_⟩
     ·exact h
     ·cases h
    split at hok
    ·rename_i c4;rw [if_pos c4];have hl:lns=[]:=c3 c4;subst hl;obtain⟨i1,i2⟩:=input_conv h0 ht hok;refine⟨⟨fun x hx=>?_,.inl ⟨rfl,fun l hl=>by simp at hl⟩,by simp at h3⊢;omega,n0⟩,?_⟩
     ·rcases List.mem_append.1 hx with hx | hx
      ·exact h1 x hx
      ·rw [List.mem_singleton.1 hx];exact i1
     ·simp only [bCz,List.map_append,List.sum_append,List.map_cons,List.map_nil,List.sum_cons,List.sum_nil,costI];omega
    ·rename_i c4;rw [if_neg c4];split at hok
     ·rename_i c5;rw [if_pos c5];have hx:wV (sO own e 1).1 (own.length-1):=expr_ok ht n0 hpos hok;have htk:=hx.tok;refine⟨⟨h1,.inr ⟨by rw [bQv];rfl,lns,_,rfl,hL,rfl,hx.mono n0⟩,by simp only [List.length_append,List.length_singleton] at h3⊢;omega,n0⟩,?_⟩;simp only [bCz,List.map_append,List.sum_append,List.map_cons,List.map_nil,List.sum_cons,List.sum_nil,costL,tH,if_true];omega
     ·rename_i c5;rw [if_neg c5];split at hok
      ·rw [iC o9] at hok;cases hok
      ·rename_i c6;rw [if_neg c6];simp only [not_or,ne_eq,Classical.not_not,Bool.not_eq_false] at c6;split at hok
       ·rw [iC o9] at hok;cases hok
       ·rename_i c7;rw [if_neg c7];simp only [not_or,ne_eq,Classical.not_not] at c7;have hk:=iR (toks:=own) (k:=1) (by rw [c7.1];decide);have hx:wV (sO own e 2).1 (own.length-2):=expr_ok ht n0 n0 hok;have htk:=hx.tok;have hne:=(name_ne c6.2).1
        have hov:qV ⟨ins,lns++[(tH own e (bG own 0).word 2).1]⟩=false:=by
         rw [bQv]
         simpa [tH] using hne
        refine⟨⟨h1,.inl ⟨hov,fun l hl=>?_⟩,by simp only [List.length_append,List.length_singleton] at h3⊢;omega,n0⟩,?_⟩
        ·rcases List.mem_append.1 hl with hl | hl
         ·exact hL l hl
         ·rw [List.mem_singleton.1 hl];exact⟨c6.2,hx.mono n0⟩
        ·simp only [bCz,List.map_append,List.sum_append,List.map_cons,List.map_nil,List.sum_cons,List.sum_nil,costL,tH,hne,if_false];omega
theorem uH{len:Int}{tot:Nat}: ∀(f:Nat) {toks:List TokV} {p q:gP} {n:Nat} {over:Bool} {flt:Flt},toks.length+1≤f→(∀t∈toks,bMc t)→PSt p n over→bCz p+toks.length≤tot+(if toks=[] then 1 else 0)→rN len f toks p n over=(q,flt)→mI flt=true→PSt q 64 true∧bCz q≤tot+1
 | 0,toks,_,_,_,_,_,hf,_,_,_,_,_=>by omega
 | f+1,toks,p,q,n,over,flt,hf,ht,hp,hc,h,hok=>by
  rw [rN] at h
  by_cases h0:toks=[]
  ·rw [if_pos h0] at h;rw [if_pos h0] at hc;split at h
   ·rename_i ho;cases h;subst ho;have:toks.length=0:=by rw [h0];rfl
    exact⟨⟨hp.ins,hp.lns,by have:=hp.num;have:=hp.le;omega,n0⟩,n0⟩
   ·cases h;rw [iC o9] at hok;cases hok
  ·rw [if_neg h0] at h;rw [if_neg h0] at hc;have hpos:0<toks.length:=List.length_pos_iff.2 h0;split at h
   ·refine uH f ah3 (fun t hm=>ht t (List.mem_of_mem_drop hm)) hp ?_ h hok;rw [List.length_drop];split<;>omega
   ·rename_i hon;split at h
    ·rename_i hi;have hsub: ∀t∈dG toks,bMc t:=fun t hm=>ht t (by rw [←bCy] at hm;exact List.mem_of_mem_take hm);obtain⟨a,b⟩:=into_conv hon hsub hp hi;have hle:=bMu toks;refine uH f ah3 (fun t hm=>ht t (List.mem_of_mem_drop hm)) a ?_ h hok;rw [List.length_drop];split
     ·omega
     ·rename_i hd;have:(toks.drop ((dG toks).length+1)).length≠0:=fun e=>hd (List.eq_nil_of_length_eq_zero e);rw [List.length_drop] at this;omega
    ·rename_i hi;cases h;exact absurd hok hi
theorem parse_conv{text:Bs}{p:gP}{flt:Flt}(h:jS text=(p,flt))(hok:mI flt=true):PSt p 64 true∧bCz p≤(fT text).1.length+1:=by
 unfold jS at h;split at h
 ·refine uH _ (Nat.le_refl _) (tkOk text) ⟨fun x hx=>by simp at hx,.inl ⟨rfl,fun l hl=>by simp at hl⟩,o6,n0⟩ ?_ h hok;simp [bCz]
 ·rename_i hl;cases h;exact absurd hok hl
theorem bBi: ∀(ds:List qQ) (acc:Bs),(∀d∈ds,SideOk d)→ ∃t,kV ds acc=some t
 | [],acc,_=>⟨acc,rfl⟩
 | d::ds,acc,h=>by
  rw [kV];split
  ·exact bBi ds _ fun x hx=>h x ae2
  ·rename_i he;rw [if_pos ((h d o6).ok.resolve_left he)];exact bBi ds _ fun x hx=>h x ae2
theorem bHb: ∀(xs:List gE) (o:Bs),(∀x∈xs,InOk x)→ ∃o',lZ xs o=(o',true)
 | [],o,_=>⟨o,rfl⟩
 | x::xs,o,h=>by
  obtain⟨h1,h2,h3⟩:=h x o6;obtain⟨t,ht⟩:=bBi x.sides x.name fun d hd=>(h3 d hd).1
  have hi:oS x=some t:=by
   unfold oS;rw [if_neg (by rw [h1];simp;omega),ht]
  rw [lZ,hi];exact bHb xs _ fun y hy=>h y ae3
theorem bKy{z:lF}(hz:LastOk z): ∀(L:List lF) (o:Bs),(∀l∈L,LnOk l)→ ∃o',fE (L++[z]) o=(o',true)
 | [],o,_=>by
  obtain⟨t,ht⟩:=hz.2.expr;refine⟨o++(([111,117,116,32]++t)++[10]),?_⟩;show fE [z] o=_;simp only [fE];rw [ht];simp only [hz.1,ne_eq,not_true_eq_false,if_false]
 | l::L,o,h=>by
  obtain⟨h1,h2⟩:=h l o6;obtain⟨t,ht⟩:=h2.expr;obtain⟨o',ho⟩:=bKy hz L (o++(((l.name++[58,32])++t)++[10])) fun y hy=>h y ae3;refine⟨o',?_⟩
  obtain⟨m,M,hM⟩: ∃m M,L++[z]=m::M:=by
   cases L with
   | nil=>exact⟨z,[],rfl⟩
   | cons m M=>exact⟨m,M++[z],rfl⟩
  rw [List.cons_append];rw [hM] at ho⊢
  have:fE (l::m::M) o=match gQ l.items 254 with
    | none=>(o,false)
    | some t=>if dA l.name=false then (o,false) else fE (m::M) (o++(((l.name++[58,32])++t)++[10])):=rfl
  rw [this,ht];simp only;rw [if_neg ah8];exact ho
theorem PSt.lines_ne{p:gP}{n:Nat}(h:PSt p n true):p.lines≠[]:=by
 rcases h.lns with ⟨h,_⟩ | ⟨_,L,z,h,_⟩
 ·cases h
 ·rw [h];simp
theorem PSt.right{p:gP}(h:PSt p 64 true):(cU p).2=true:=by
 unfold cU;rw [if_neg]
 ·obtain⟨o,ho⟩:=bHb p.inputs [] h.ins;rw [ho]
  rcases h.lns with ⟨h,_⟩ | ⟨_,L,z,hl,hL,hz⟩
  ·cases h
  ·obtain⟨o',ho'⟩:=bKy hz L o hL;simp only [hl,ho']
 ·have:=h.num;rintro(h' | h')
  ·exact h.lines_ne h'
  ·omega
theorem PSt.rng{p:gP}{n:Nat}(h:PSt p n true):RngP p:=by
 refine⟨fun x hx d hd=>((h.ins x hx).2.2 d hd).2,fun l hl=>?_⟩
 rcases h.lns with ⟨h,_⟩ | ⟨_,L,z,e,hL,hz⟩
 ·cases h
 ·rw [e] at hl
  rcases List.mem_append.1 hl with hl | hl
  ·exact(hL l hl).2.2
  ·rw [List.mem_singleton.1 hl];exact hz.2.2
theorem isOk_iff{f:Flt}:mI f=true↔f=(0,0):=by
 constructor
 ·intro h;simp only [mI,lX,Bool.and_eq_true,beq_iff_eq] at h;exact Prod.ext h.1 h.2
 ·rintro rfl;rfl
theorem bPv{text:Bs}(h:(jS text).2=(0,0)):(cU (jS text).1).2=true∧RngP (jS text).1:=by
 have:=parse_conv (text:=text) (p:=(jS text).1) (flt:=(jS text).2) rfl (isOk_iff.2 h);exact⟨this.1.right,this.1.rng⟩
end Go.Proofs.YtakphiannlpnfaaGreatDoor
