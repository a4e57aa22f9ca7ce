/- Texts of one proof, one behind the other: ShowP, ParseP, BackL, BackP, BackE, BackC, BackD, BackR, BackN. -/
import Derived.Test.YtbgdphbebhjpiaaGreatDoorM4
namespace Go.Proofs.YtbgdphbebhjpiaaGreatDoor
open Go.RowKit
structure mP where
  name:Bs
  n:Int
  deriving Inhabited,DecidableEq
structure dX where
  name:Bs
  at_:Int
  sides:List mP
  deriving Inhabited,DecidableEq
structure lK where
  name:Bs
  at_:Int
  items:List dN
  deriving Inhabited,DecidableEq
structure Prog where
  inputs:List dX
  lines:List lK
  deriving Inhabited,DecidableEq
def verbWords:List Bs:=[[43],[45],[42],[37],[124],[109,105,110],[109,97,120],[61],[126],[60],[60,61],[62,61],[62],[97,110,100],[111,114],[112,111,119],[114,104,111],[116,97,107,101],[100,114,111,112],[99,97,116],[105,111,116,97],[115,104,97,112,101],[114,97,118,101,108],[114,101,118],[116,117,114,110]]
def bBp (two:Bool)(f:Int):List Bs→Bs→Bs
  | [],acc=>acc
  | s::r,acc=>bBp two f r (if gG s two !=0&&gG s two==f then s else acc)
def kP (two:Bool)(f:Int):Bs:=bBp two f verbWords []
structure fO where
  words:List Bs
  nest:Nat
  tokens:Nat
  plain:Bool
  deriving Inhabited,DecidableEq
def operandS(it:dN):Option fO:=
  if it.how=2 then (if it.fn=0∧it.nums=[]∧dW it.name=true then some ⟨[it.name],0,1,true⟩ else none)
  else if it.fn≠0∨it.name≠[]∨it.nums=[]∨256<it.nums.length then none
  else some ⟨it.nums.map fS,0,it.nums.length,true⟩
def bLf (how:Int):Bs:=if how=5 then [47] else if how=6 then [92] else if how=7 then [46] else []
def verbS (it:dN):Bs×Nat:=
  if it.how=3 then (kP false it.fn,1)
  else if kP true it.fn=[]∨it.how=4 then (kP true it.fn,1)
  else if 17<it.fn then ([],0)
  else (kP true it.fn++bLf it.how,2)
def brkEnd:List Bs→List Bs
  | []=>[]
  | [w]=>[w++[41]]
  | w::r=>w::brkEnd r
def brk:List Bs→List Bs
  | []=>[]
  | w::r=>brkEnd (([40]++w)::r)
def leftS (p:fO):fO:=if p.plain then p else ⟨brk p.words,p.nest+1,p.tokens+2,p.plain⟩
def uW (how:Int):Bool:=how==4 || how==7
def pI (it:dN)(st:List fO):Option (List fO):=
  if uW it.how then match st with
    | p::q::r=>some (⟨(leftS q).words++(verbS it).1::p.words,max p.nest (leftS q).nest,p.tokens+(verbS it).2+(leftS q).tokens,false⟩::r)
    | _=>none
  else match st with
    | p::r=>some (⟨(verbS it).1::p.words,p.nest,p.tokens+(verbS it).2,false⟩::r)
    | []=>none
def iL (st:List fO)(it:dN):Option (List fO):=
  if it.how=1∨it.how=2 then (operandS it).map (· ::st)
  else if it.how<3∨7<it.how∨it.nums≠[]∨it.name≠[]∨(verbS it).1=[] then none
  else pI it st
def fU:List dN→List fO→Option (List fO)
  | [],st=>some st
  | it::r,st=>match iL st it with
    | none=>none
    | some st'=>fU r st'
def joinSp:List Bs→Bs
  | []=>[]
  | [w]=>w
  | w::r=>w++32::joinSp r
def gM (l:List dN)(most:Nat):Option Bs:=
  if most<l.length then none else match fU l [] with
    | some [p]=>if most<p.tokens∨32<p.nest then none else some (joinSp p.words)
    | _=>none
def kC:List mP→Bs→Option Bs
  | [],t=>some t
  | d::r,t=>if d.name=[] then kC r (t++([32]++fS d.n)) else if d.n=0∧dW d.name=true then kC r (t++([32]++d.name)) else none
def mJ (x:dX):Option Bs:=if dW x.name=false∨4<x.sides.length then none else kC x.sides x.name
def iO:List dX→Bs→Bs×Bool
  | [],o=>(o,true)
  | x::r,o=>match mJ x with
    | none=>(o,false)
    | some t=>iO r (o++(([105,110,32]++t)++[10]))
def fK:List lK→Bs→Bs×Bool
  | [],o=>(o,true)
  | [l],o=>match gM l.items 255 with
    | none=>(o,false)
    | some t=>if l.name≠[] then (o,false) else (o++(([111,117,116,32]++t)++[10]),true)
  | l::r,o=>match gM l.items 254 with
    | none=>(o,false)
    | some t=>if dW l.name=false then (o,false) else fK r (o++(((l.name++[58,32])++t)++[10]))
def dS (p:Prog):Bs×Bool:=
  if p.lines=[]∨64<p.inputs.length+p.lines.length then ([],false) else match iO p.inputs [] with
    | (o,false)=>(o,false)
    | (o,true)=>fK p.lines o
def nJ (two:Bool)(f:Int):List Bs→Bs
  | []=>[]
  | s::r=>if gG s two !=0&&gG s two==f then s else nJ two f r
structure Part where
  s:Bs
  plain:Bool
  tokens:Nat
  nest:Nat
  deriving Inhabited,DecidableEq
def brkR (p:Part):Part:=if p.plain then p else ⟨([40]++p.s)++[41],false,p.tokens+2,p.nest+1⟩
def hitB (two:Bool)(f:Int)(s:Bs):Bool:=gG s two !=0&&gG s two==f
theorem bJu(two:Bool)(f:Int): ∀l:List Bs,l.Pairwise (fun s t=>gG s two=0∨gG s two≠gG t two)→ ∀acc,bBp two f l acc=if l.any (hitB two f) then nJ two f l else acc
  | [],_,acc=>rfl
  | s::r,h,acc=>by
    obtain⟨h1,h2⟩:=List.pairwise_cons.1 h;rw [bBp,nJ,bJu two f r h2]
    by_cases hs:(gG s two !=0&&gG s two==f)=true
    · have hn:r.any (hitB two f)=false:=by
        rw [List.any_eq_false];intro t ht hb;simp only [hitB,Bool.and_eq_true,bne_iff_ne,beq_iff_eq] at hb hs
        rcases h1 t ht with h | h
        · exact hs.1 h
        · exact h (hs.2.trans hb.2.symm)
      simp [hs,hn,hitB]
    · simp only [Bool.not_eq_true] at hs;simp [hs,hitB]
theorem bIw(two:Bool)(f:Int): ∀l:List Bs,l.any (hitB two f)=false→nJ two f l=[]
  | [],_=>rfl
  | s::r,h=>by
    rw [List.any_cons,Bool.or_eq_false_iff] at h;rw [nJ];have:(gG s two !=0&&gG s two==f)=false:=h.1;rw [this,bIw two f r h.2];rfl
theorem bHz(two:Bool)(f:Int):nJ two f verbWords=kP two f:=by
  unfold kP;rw [bJu two f verbWords (by cases two<;>decide)];cases h:verbWords.any (hitB two f)
  · rw [bIw two f _ h];rfl
  · rfl
theorem bMt(two:Bool)(f:Int): ∀l:List Bs,nJ two f l≠[]→nJ two f l∈l∧hitB two f (nJ two f l)=true
  | [],h=>absurd rfl h
  | s::r,h=>by
    rw [nJ] at h⊢
    by_cases hs:(gG s two !=0&&gG s two==f)=true
    · rw [if_pos hs];exact⟨List.mem_cons_self ..,hs⟩
    · rw [if_neg hs] at h⊢;obtain⟨h1,h2⟩:=bMt two f r h;exact⟨List.mem_cons_of_mem _ h1,h2⟩
theorem textF_hit{two:Bool}{f:Int}(h:kP two f≠[]):kP two f∈verbWords∧gG (kP two f) two=f∧f≠0:=by
  rw [←bHz] at h⊢;obtain⟨h1,h2⟩:=bMt two f _ h;simp only [hitB,Bool.and_eq_true,bne_iff_ne,beq_iff_eq] at h2;exact⟨h1,h2.2,fun e=>h2.1 (h2.2.trans e)⟩
theorem rU(w:Bs){r:List Bs}(h:r≠[]):joinSp (w::r)=w++32::joinSp r:=by
  cases r with
  | nil=>exact absurd rfl h
  | cons x r=>rfl
theorem bMb{l:List Bs}(h:l≠[]):brkEnd l≠[]:=by
  match l,h with
  | [w],_=>simp [brkEnd]
  | w::x::r,_=>simp [brkEnd]
theorem bDn: ∀l:List Bs,l≠[]→joinSp (brkEnd l)=joinSp l++[41]
  | [],h=>absurd rfl h
  | [w],_=>rfl
  | w::x::r,_=>by
    show joinSp (w::brkEnd (x::r))=_;rw [rU w (bMb (by simp)),bDn (x::r) (by simp),rU w (by simp)];simp
theorem join_brk{l:List Bs}(h:l≠[]):joinSp (brk l)=([40]++joinSp l)++[41]:=by
  cases l with
  | nil=>exact absurd rfl h
  | cons w r=>
    show joinSp (brkEnd _)=_;rw [bDn _ (by simp)]
    cases r with
    | nil=>simp [joinSp]
    | cons x r=>simp [joinSp]
theorem brk_ne{l:List Bs}(h:l≠[]):brk l≠[]:=by
  cases l with
  | nil=>exact absurd rfl h
  | cons w r=>exact bMb (by simp)
structure Like (p:Part) (q:fO):Prop where
  s:p.s=joinSp q.words
  plain:p.plain=q.plain
  tokens:p.tokens=q.tokens
  nest:p.nest=q.nest
  ne:q.words≠[]
theorem Like.brk{p:Part}{q:fO}(h:Like p q):Like (brkR p) (leftS q):=by
  unfold brkR leftS;rw [h.plain];cases hq:q.plain
  · simp only [Bool.false_eq_true,if_false];exact⟨by rw [h.s,join_brk h.ne],by simp,by simp [h.tokens],by simp [h.nest],brk_ne h.ne⟩
  · simp only [if_true];exact h
inductive bAt:List Part→List fO→Prop
  | nil:bAt [] []
  | cons {p q a b}:Like p q→bAt a b→bAt (p::a) (q::b)
theorem bAt.len{a:List Part}{b:List fO}(h:bAt a b):a.length=b.length:=by induction h<;>simp_all
theorem step_tokens{st st':List fO}{x:dN}(h:iL st x=some st'):(st.map (·.tokens)).sum+1≤(st'.map (·.tokens)).sum:=by
  unfold iL at h;split at h
  · unfold operandS at h;split at h
    · split at h
      · simp at h;subst h;simp;omega
      · simp at h
    · split at h
      · simp at h
      · rename_i hn;simp at h;subst h;have:0<x.nums.length:=List.length_pos_iff.2 fun e=>hn (by simp [e]);simp;omega
  · split at h
    · cases h
    · have hv:1≤(verbS x).2∨(verbS x).1=[]:=by
        unfold verbS;split
        · exact .inl (by simp)
        · split
          · exact .inl (by simp)
          · split
            · exact .inr rfl
            · exact .inl (by simp)
      rename_i hn;have hv:1≤(verbS x).2:=hv.resolve_right fun e=>hn (by simp [e]);unfold pI at h;split at h
      · split at h
        · rename_i p q r;simp at h;subst h;have:q.tokens≤(leftS q).tokens:=by unfold leftS;split<;>simp
          simp only [List.map_cons,List.sum_cons];omega
        · cases h
      · split at h
        · simp at h;subst h;simp;omega
        · cases h
theorem zD: ∀{l:List dN} {st st':List fO},fU l st=some st'→(st.map (·.tokens)).sum+l.length≤(st'.map (·.tokens)).sum
  | [],st,st',h=>by simp [fU] at h;subst h;simp
  | x::r,st,st',h=>by
    rw [fU] at h
    cases h1:iL st x with
    | none=>rw [h1] at h;cases h
    | some s1=>
      rw [h1] at h;have:=zD h;have:=step_tokens h1;simp only [List.length_cons];omega
end Go.Proofs.YtbgdphbebhjpiaaGreatDoor
namespace Go.Proofs.YtbgdphbebhjpiaaGreatDoor
open Go.RowKit
def jH.sd (x:jH):mP:=⟨x.name,x.n⟩
def InputV.inp(x:InputV):dX:=⟨x.name,x.at_,x.sides.list.map jH.sd⟩
def LineV.ln(x:LineV):lK:=⟨x.name,x.at_,x.items.list.map ItemV.it⟩
def ProgV.pr(x:ProgV):Prog:=⟨x.inputs.list.map InputV.inp,x.lines.list.map LineV.ln⟩
def kJ:List TokV→List mP→List mP×Flt
  | [],acc=>(acc,(0,0))
  | t::r,acc=>
    if t.kind≠2∧(t.kind≠1∨dW t.word=false) then (acc,(t.at_,41))
    else if acc.length=4 then (acc,(t.at_,45)) else kJ r (acc++[⟨t.word,t.n⟩])
section
variable (toks : List TokV) (e : Int)
def jJ:dX×Flt:=
  if toks.length=1 then (⟨(bQ toks 1).word,atP toks 1 e,[]⟩,(atP toks 1 e,42))
  else if (bQ toks 1).kind≠1∨dW (bQ toks 1).word=false then (⟨(bQ toks 1).word,atP toks 1 e,[]⟩,(atP toks 1 e,41))
  else (⟨(bQ toks 1).word,atP toks 1 e,(kJ (toks.drop 2) []).1⟩,(kJ (toks.drop 2) []).2)
def isW (t:TokV)(w:Bs):Bool:=t.kind==1&&t.word==w
def rW (name:Bs)(k:Nat):lK×Flt:=(⟨name,(bQ toks 0).at_,(iK toks e k).1⟩,(iK toks e k).2)
def intoP (p:Prog)(n:Nat)(over:Bool):Prog×Flt:=
  if n=64 then (p,(atP toks 0 e,45))
  else if 256<toks.length then (p,(atP toks 256 e,45))
  else if over=true∨isW (bQ toks 0) [105,110]=true∧p.lines≠[] then (p,(atP toks 0 e,40))
  else if isW (bQ toks 0) [105,110]=true then (⟨p.inputs++[(jJ toks e).1],p.lines⟩,(jJ toks e).2)
  else if isW (bQ toks 0) [111,117,116]=true then (⟨p.inputs,p.lines++[(rW toks e [] 1).1]⟩,(rW toks e [] 1).2)
  else if (bQ toks 0).kind≠1∨dW (bQ toks 0).word=false then (p,(atP toks 0 e,40))
  else if (bQ toks 1).kind≠3∨(bQ toks 1).word≠[58] then (p,(atP toks 1 e,42))
  else (⟨p.inputs,p.lines++[(rW toks e (bQ toks 0).word 2).1]⟩,(rW toks e (bQ toks 0).word 2).2)
end
def ownP (toks:List TokV):List TokV:=toks.takeWhile fun t=>t.kind !=4
def endP (toks:List TokV)(len:Int):Int:=atP toks (ownP toks).length len
def nC (p:Prog):Bool:=match p.lines.getLast? with
  | none=>false
  | some l=>l.name==[]
def qM (len:Int):Nat→List TokV→Prog→Nat→Bool→Prog×Flt
  | 0,_,_,_,_=>(⟨[],[]⟩,(0,0))
  | f+1,toks,p,n,over=>
    if toks=[] then (if over=true then (p,(0,0)) else (⟨[],[]⟩,(len,42)))
    else if ownP toks=[] then qM len f (toks.drop 1) p n over
    else if isOk (intoP (ownP toks) (endP toks len) p n over).2 then
      qM len f (toks.drop ((ownP toks).length+1)) (intoP (ownP toks) (endP toks len) p n over).1 (n+1) (nC (intoP (ownP toks) (endP toks len) p n over).1)
    else (⟨[],[]⟩,(intoP (ownP toks) (endP toks len) p n over).2)
def gI (text:Bs):Prog×Flt:=
  if isOk (lexP text).2 then qM text.length ((lexP text).1.length+1) (lexP text).1 ⟨[],[]⟩ 0 false else (⟨[],[]⟩,(lexP text).2)
def sU (r:Prog×Flt)(len:Int)(toks:List TokV)(p:Prog)(n:Nat)(over:Bool):Prop:= ∃f,toks.length+1≤f∧qM len f toks p n over=r
section
variable {r : Prog × Flt} {len : Int} {toks : List TokV} {p : Prog} {n : Nat} {over : Bool}
theorem p_end(h:sU r len toks p n over)(h0:toks=[]):r=if over=true then (p,(0,0)) else (⟨[],[]⟩,(len,42)):=by
  obtain⟨f,hf,h⟩:=h
  obtain⟨f,rfl⟩: ∃g,f=g+1:=⟨f-1,by omega⟩
  rw [qM,if_pos h0] at h;exact h.symm
theorem p_skip(h:sU r len toks p n over)(h0:toks≠[])(h1:ownP toks=[]):sU r len (toks.drop 1) p n over:=by
  obtain⟨f,hf,h⟩:=h;have:0<toks.length:=List.length_pos_iff.2 h0
  obtain⟨f,rfl⟩: ∃g,f=g+1:=⟨f-1,by omega⟩
  rw [qM,if_neg h0,if_pos h1] at h;exact⟨f,by rw [List.length_drop];omega,h⟩
theorem yA(h:sU r len toks p n over)(h0:toks≠[])(h1:ownP toks≠[]){q:Prog}{f:Flt}(hq:intoP (ownP toks) (endP toks len) p n over=(q,f)):
    (isOk f=true→sU r len (toks.drop ((ownP toks).length+1)) q (n+1) (nC q))∧(isOk f=false→r=(⟨[],[]⟩,f)):=by
  obtain⟨g,hg,h⟩:=h;have:0<toks.length:=List.length_pos_iff.2 h0
  obtain⟨g,rfl⟩: ∃k,g=k+1:=⟨g-1,by omega⟩
  rw [qM,if_neg h0,if_neg h1,hq] at h;refine⟨fun hi=>?_,fun hi=>?_⟩
  · rw [if_pos hi] at h;exact⟨g,by rw [List.length_drop];omega,h⟩
  · rw [if_neg (by rw [hi];simp)] at h;exact h.symm
end
structure zL (t:TokV):Prop where
  word:t.word.length≤16
  lo: -9223372036854775808≤t.n
  hi:t.n≤9223372036854775807
theorem bHr{neg:Bool}{ds:Bs}{v:Int}(h:pP neg ds=some v): -9223372036854775808≤v∧v≤9223372036854775807:=by
  unfold pP at h;split at h
  · split at h
    · injection h with h
      omega
    · cases h
  · split at h
    · injection h with h
      omega
    · cases h
theorem numTok_ok{b:UInt8}{r:Bs}{t:TokR}(h:gK b r= .ok (some t)):t.2.1=[]∧ -9223372036854775808≤t.2.2.1∧t.2.2.1≤9223372036854775807:=by
  unfold gK at h;dsimp only at h
  by_cases hb:(b==95)=true
  · simp only [hb,if_true] at h;split at h
    · cases h
    · split at h
      · cases h
      · rename_i hv;simp only [Except.ok.injEq,Option.some.injEq] at h;subst h;exact⟨rfl,bHr hv⟩
  · simp only [hb,Bool.false_eq_true,if_false] at h;split at h
    · cases h
    · split at h
      · cases h
      · rename_i hv;simp only [Except.ok.injEq,Option.some.injEq] at h;subst h;exact⟨rfl,bHr hv⟩
theorem bKo{s:Bs}{k v:Int}{wd:Bs}{m:Nat}(h:fA s= .ok (k,wd,v,m)):wd.length≤16∧ -9223372036854775808≤v∧v≤9223372036854775807:=by
  cases s with
  | nil=>cases h
  | cons b r=>
    simp only [fA] at h;split at h
    · cases h;decide
    · split at h
      · split at h
        · cases h
        · cases h;rename_i h16
          have:=(List.length_take_le (runB jG (b::r)) (b::r))
          exact⟨by omega,by decide,by decide⟩
      · split at h
        · cases h
        · rename_i t' ht;simp only [Except.ok.injEq] at h;subst h;obtain⟨h1,h2,h3⟩:=numTok_ok ht;simp only at h1 h2 h3;exact⟨by rw [h1];decide,h2,h3⟩
        · split at h
          · cases h
          · cases h
            have h2:signP (b::r)≤2:=by
              simp only [signP];split
              · omega
              · split<;>omega
            have:=(List.length_take_le (signP (b::r)) (b::r))
            exact⟨by omega,by decide,by decide⟩
theorem bAf: ∀(f i:Nat) (s:Bs) (out:List Tok),(∀t∈out,zL t)→ ∀t∈(lexGo f i s out).1,zL t
  | 0,_,_,out,h=>h
  | _+1,_,[],out,h=>h
  | f+1,i,b::r,out,h=>by
    unfold lexGo;split
    · exact bAf f _ _ _ h
    · split
      · exact bAf f _ _ _ h
      · split
        · exact fun t ht=>by simp at ht
        · rename_i ht;refine bAf f _ _ _ fun t hm=>?_
          rcases List.mem_append.1 hm with hm | hm
          · exact h t hm
          · rw [List.mem_singleton.1 hm];obtain⟨h1,h2,h3⟩:=bKo ht;exact⟨h1,h2,h3⟩
theorem lex_ok(s:Bs): ∀t∈(lexP s).1,zL t:=by
  unfold lexP;split
  · exact fun t ht=>by simp at ht
  · exact bAf _ _ _ _ fun t ht=>by simp at ht
theorem peek_ok{toks:List TokV}(h: ∀t∈toks,zL t)(k:Nat):zL (bQ toks k):=by
  unfold bQ;split
  · rename_i ht;exact h _ (List.mem_of_getElem? ht)
  · exact⟨by decide,by decide,by decide⟩
theorem wR{toks:List TokV}(h: ∀t∈toks,zL t)(k:Nat):(bQ toks k).word.length≤65536:=Nat.le_trans (peek_ok h k).word (by decide)
theorem bGk(toks:List TokV):(ownP toks).length≤toks.length:=(List.takeWhile_sublist _).length_le
theorem zA(toks:List TokV):toks.take (ownP toks).length=ownP toks:=by
  unfold ownP
  induction toks with
  | nil=>rfl
  | cons t r ih=>
    rw [List.takeWhile_cons];split
    · rw [List.length_cons,List.take_succ_cons,ih]
    · rfl
theorem own_more{toks:List TokV}{n:Nat}{x:TokV}(hn:n≤(ownP toks).length)(hx:toks[n]?=some x)(h4:x.kind≠4):n+1≤(ownP toks).length:=by
  unfold ownP at*
  induction toks generalizing n with
  | nil=>simp at hx
  | cons t r ih=>
    rw [List.takeWhile_cons] at hn⊢;split at hn
    · rename_i ht;rw [if_pos ht]
      cases n with
      | zero=>simp
      | succ n=>
        have:=ih (n:=n) (by simpa using hn) (by simpa using hx);simp;omega
    · rename_i ht;have:n=0:=by simpa using hn
      subst this;simp at hx;subst hx;simp [h4] at ht
theorem own_stop{toks:List TokV}{n:Nat}(hn:n≤(ownP toks).length)(h:toks.length≤n∨ ∃x:TokV,toks[n]?=some x∧x.kind=4):n=(ownP toks).length:=by
  have hl:=bGk toks
  rcases h with h | ⟨x,hx,h4⟩
  · omega
  · rcases Nat.lt_or_ge n (ownP toks).length with hlt | hge
    · exfalso
      have hm:(ownP toks)[n]?=some x:=by
        rw [←zA toks,List.getElem?_take,if_pos hlt];exact hx
      have:=List.all_takeWhile (p:=fun t:TokV=>t.kind !=4) (l:=toks);have:=List.all_eq_true.1 this x (List.mem_of_getElem? hm);simp [h4] at this
    · omega
end Go.Proofs.YtbgdphbebhjpiaaGreatDoor
namespace Go.Proofs.YtbgdphbebhjpiaaGreatDoor
open Go.RowKit
structure Tk where
  kind:Int
  word:Bs
  n:Int
  deriving Inhabited,DecidableEq
def TokV.tk(t:TokV):Tk:=⟨t.kind,t.word,t.n⟩
def Lx (s:Bs)(T:List Tk)(rest:Bs):Prop:= ∀i out,∃L:List Tok,L.map TokV.tk=T∧lexGo (s++rest).length i (s++rest) out=lexGo rest.length (i+s.length) rest (out++L)
section
variable {a b s rest : Bs} {A B : List Tk}
theorem Lx.nil:Lx [] [] rest:=fun i out=>⟨[],rfl,by simp⟩
theorem Lx.append(h:Lx a A (b++rest))(k:Lx b B rest):Lx (a++b) (A++B) rest:=fun i out=>by
  obtain⟨L,hL,e⟩:=h i out;obtain⟨M,hM,e'⟩:=k (i+a.length) (out++L);exact⟨L++M,by simp [hL,hM],by rw [List.append_assoc,e,e',List.length_append,Nat.add_assoc,List.append_assoc]⟩
theorem Lx.blank:Lx [32] [] rest:=fun i out=>⟨[],rfl,by
  show lexGo (32::rest).length i (32::rest) out=_;rw [iR,if_pos (by decide),List.append_nil]
  rfl⟩
theorem Lx.tok{k v:Int}{wd:Bs}{b:UInt8}(h:fA ((b::s)++rest)= .ok (k,wd,v,(b::s).length))(hb:iS b=false)(h35:(b==35)=false):Lx (b::s) [⟨k,wd,v⟩] rest:=fun i out=>
  ⟨[⟨k,i,wd,v⟩],rfl,by
    rw [List.cons_append,iR,hb,if_neg (by simp),h35,if_neg (by simp)];rw [List.cons_append] at h;rw [h];simp only;have e:(b::(s++rest)).drop (b::s).length=rest:=by rw [←List.cons_append,List.drop_left]
    rw [e]⟩
end
theorem bAg{p:UInt8→Bool}{c:UInt8}{r:Bs}(hc:p c=false): ∀s:Bs,(∀b∈s,p b=true)→runB p (s++c::r)=s.length
  | [],_=>by simp [runB,hc]
  | b::s,h=>by
    rw [List.cons_append,runB,if_pos (h b (by simp)),bAg hc s fun x hx=>h x (by simp [hx])];rfl
theorem bJj{p:UInt8→Bool}: ∀{s:Bs},runB p s=s.length→ ∀b∈s,p b=true
  | [],_,b,hb=>by simp at hb
  | c::s,h,b,hb=>by
    rw [runB] at h;split at h
    · rename_i hc
      rcases List.mem_cons.1 hb with rfl | hb
      · exact hc
      · exact bJj (by simpa using h) b hb
    · simp at h
structure bKs (s:Bs):Prop where
  head: ∃b r,s=b::r∧jY b=true
  all: ∀b∈s,jG b=true
  len:s.length≤16
theorem letter_facts{b:UInt8}(h:jY b=true):iS b=false∧(b==35)=false∧(b==10)=false:=by
  have key: ∀k:Fin 256,jY (UInt8.ofNat k.val)=true→iS (UInt8.ofNat k.val)=false∧(UInt8.ofNat k.val==35)=false∧(UInt8.ofNat k.val==10)=false:=by decide+kernel
  have hb:UInt8.ofNat b.toNat=b:=by simp
  have:=key ⟨b.toNat,b.toNat_lt⟩;rw [hb] at this;exact this h
theorem tU{s r:Bs}{c:UInt8}(h:bKs s)(hc:jG c=false):Lx s [⟨1,s,0⟩] (c::r):=by
  obtain⟨b,t,rfl,hl⟩:=h.head;obtain⟨h1,h2,h3⟩:=letter_facts hl;refine Lx.tok ?_ h1 h2;have hr:runB jG (b::(t++c::r))=(b::t).length:=bAg hc (b::t) h.all;have:=h.len;simp only [List.cons_append,fA,h3,Bool.false_eq_true,if_false,hl,if_true,hr];rw [if_neg (by omega),←List.cons_append,List.take_left]
theorem spell_lx{n:Int}{r:Bs}{c:UInt8}(h0: -9223372036854775808≤n)(h1:n≤9223372036854775807)(hc:dG c=false):Lx (fS n) [⟨2,[],n⟩] (c::r):=by
  have hd:=mY n.natAbs;have hv:=bDq n.natAbs;have hne:=qO n.natAbs;have hr:runB dG (Lib.decDigits n.natAbs++c::r)=(Lib.decDigits n.natAbs).length:=bAg hc _ hd;have hk: ¬(Lib.decDigits n.natAbs).length=0:=fun e=>hne (List.eq_nil_of_length_eq_zero e);unfold fS;split
  · rename_i hn;refine Lx.tok (b:=95) (s:=Lib.decDigits n.natAbs) ?_ (by decide) (by decide)
    have hp:pP true (Lib.decDigits n.natAbs)=some n:=by
      unfold pP;rw [hv,if_pos rfl,if_pos (by omega)]
      congr 1
      omega
    have e1:((95:UInt8)==10)=false:=by decide
    have e2:jY 95=false:=by decide
    have e3:((95:UInt8)==95)=true:=by decide
    simp only [List.cons_append,fA,e1,e2,Bool.false_eq_true,if_false,gK,e3,if_true,hr,hk,List.take_left,hp];rfl
  · rename_i hn;rw [List.nil_append]
    obtain⟨b,t,ht⟩: ∃b t,Lib.decDigits n.natAbs=b::t:=by
      cases h:Lib.decDigits n.natAbs with
      | nil=>exact absurd h hne
      | cons b t=>exact⟨b,t,rfl⟩
    rw [ht] at hd hr hv hk⊢;have hb:=kO (hd b (by simp));have e3:(b==95)=false:=by simp [hb.2.2.1]
    have e1:(b==10)=false:=by simp [hb.1]
    have hp:pP false (b::t)=some n:=by
      unfold pP;rw [hv];simp only [Bool.false_eq_true,if_false];rw [if_pos (by omega)]
      congr 1
      omega
    refine Lx.tok ?_ hb.2.2.2.2.2.1 (by simp [hb.2.2.2.2.1]);rw [List.cons_append] at hr;simp only [List.cons_append,fA,e1,Bool.false_eq_true,if_false,hb.2.1,gK,e3,hr,hk];rw [←List.cons_append,List.take_left,hp];simp
def kindW:Bs→Int
  | []=>3
  | b::_=>if jY b then 1 else 3
theorem verb_tok: ∀w∈verbWords,∀c∈([32,47,92,46]:Bs),∀r:Bs,fA (w++c::r)= .ok (kindW w,w,0,w.length):=by
  intro w hw c hc r;simp only [verbWords,List.mem_cons,List.not_mem_nil,or_false] at hw hc
  rcases hw with rfl | rfl | rfl | rfl | rfl | rfl | rfl | rfl | rfl | rfl | rfl | rfl | rfl | rfl | rfl | rfl | rfl | rfl | rfl | rfl | rfl | rfl | rfl | rfl | rfl<;>rcases hc with rfl | rfl | rfl | rfl<;>rfl
theorem verb_head: ∀w∈verbWords,∃b r,w=b::r∧iS b=false∧(b==35)=false:=by
  intro w hw;simp only [verbWords,List.mem_cons,List.not_mem_nil,or_false] at hw
  rcases hw with rfl | rfl | rfl | rfl | rfl | rfl | rfl | rfl | rfl | rfl | rfl | rfl | rfl | rfl | rfl | rfl | rfl | rfl | rfl | rfl | rfl | rfl | rfl | rfl | rfl<;>exact⟨_,_,rfl,by decide,by decide⟩
theorem verb_lx{w:Bs}(hw:w∈verbWords){c:UInt8}(hc:c∈([32,47,92,46]:Bs)){r:Bs}:Lx w [⟨kindW w,w,0⟩] (c::r):=by
  obtain⟨b,t,rfl,h1,h2⟩:=verb_head w hw;exact Lx.tok (verb_tok _ hw c hc r) h1 h2
theorem sign_lx{c:UInt8}(hc:c∈([47,92,46,40,41,58]:Bs)){r:Bs}:Lx [c] [⟨3,[c],0⟩] r:=by
  simp only [List.mem_cons,List.not_mem_nil,or_false] at hc
  rcases hc with rfl | rfl | rfl | rfl | rfl | rfl<;>exact Lx.tok rfl (by decide) (by decide)
theorem nl_lx{r:Bs}:Lx [10] [⟨4,[],0⟩] r:=Lx.tok rfl (by decide) (by decide)
theorem numTok_kind{b:UInt8}{r:Bs}{t:TokR}(h:gK b r= .ok (some t)):t.1=2∧t.2.1=[]:=by
  unfold gK at h;dsimp only at h
  by_cases hb:(b==95)=true
  · simp only [hb,if_true] at h;split at h
    · cases h
    · split at h
      · cases h
      · simp only [Except.ok.injEq,Option.some.injEq] at h;subst h;exact⟨rfl,rfl⟩
  · simp only [hb,Bool.false_eq_true,if_false] at h;split at h
    · cases h
    · split at h
      · cases h
      · simp only [Except.ok.injEq,Option.some.injEq] at h;subst h;exact⟨rfl,rfl⟩
structure TokIs (k:Int) (wd:Bs) (v:Int) (s:Bs):Prop where
  len:wd.length≤s.length
  num:k=2→wd=[]
  word:k=1→v=0
  spell:k=1→wd=s→bKs s
theorem take_len(n:Nat)(s:Bs):(s.take n).length≤s.length:=by simp;omega
theorem bCj{s:Bs}{k v:Int}{wd:Bs}{m:Nat}(h:fA s= .ok (k,wd,v,m)):TokIs k wd v s:=by
  cases s with
  | nil=>cases h
  | cons b r=>
    simp only [fA] at h;split at h
    · cases h;exact⟨by simp,fun h=>absurd h (by decide),fun h=>absurd h (by decide),fun h=>absurd h (by decide)⟩
    · split at h
      · rename_i hl;split at h
        · cases h
        · cases h;rename_i h16;refine⟨take_len _ _,fun h=>absurd h (by decide),fun _=>rfl,fun _ e=>?_⟩;have hr:=iU jG (b::r)
          have he:runB jG (b::r)=(b::r).length:=by
            have:=congrArg List.length e;rw [List.length_take] at this;omega
          exact⟨⟨b,r,rfl,hl⟩,bJj he,by omega⟩
      · split at h
        · cases h
        · rename_i t' ht;simp only [Except.ok.injEq] at h;subst h;obtain⟨h1,h2⟩:=numTok_kind ht;simp only at h1 h2;subst h1;subst h2;exact⟨by simp,fun _=>rfl,fun h=>absurd h (by decide),fun h=>absurd h (by decide)⟩
        · split at h
          · cases h
          · cases h;exact⟨take_len _ _,fun h=>absurd h (by decide),fun h=>absurd h (by decide),fun h=>absurd h (by decide)⟩
theorem nV: ∀(f i:Nat) (s:Bs) (out:List Tok),isOk (lexGo f i s out).2=true→ ∃L,(lexGo f i s out).1=out++L∧ ∀t∈L,t.word.length≤s.length
  | 0,_,_,out,_=>⟨[],by simp [lexGo],by simp⟩
  | _+1,_,[],out,_=>⟨[],by simp [lexGo],by simp⟩
  | f+1,i,b::r,out,h=>by
    unfold lexGo at h⊢;split at h
    · rename_i hb;rw [if_pos hb];obtain⟨L,h1,h2⟩:=nV f _ _ _ h;exact⟨L,h1,fun t ht=>by have:=h2 t ht;simp;omega⟩
    · rename_i hb;rw [if_neg hb];split at h
      · rename_i h35;rw [if_pos h35];obtain⟨L,h1,h2⟩:=nV f _ _ _ h;exact⟨L,h1,fun t ht=>by have:=h2 t ht;rw [List.length_drop] at this;omega⟩
      · rename_i h35;rw [if_neg h35];split at h
        · rename_i e he
          exact absurd h (by
            have:=bAs he
            simp [isOk,mW,this])
        · rename_i k wd v m ht;obtain⟨L,h1,h2⟩:=nV f _ _ _ h;refine⟨⟨k,i,wd,v⟩::L,by rw [h1];simp,fun t hm=>?_⟩
          rcases List.mem_cons.1 hm with rfl | hm
          · exact(bCj ht).len
          · have:=h2 t hm;rw [List.length_drop] at this;omega
theorem oZ{s:Bs}(h:dW s=true):bKs s:=by
  simp only [dW,bBf,Bool.and_eq_true] at h;obtain⟨_,_,_,hf,hm⟩:=h;have hok:isOk (lexP s).2=true:=hf;unfold lexP at hok hm
  by_cases hlen:65536<s.length
  · rw [if_pos hlen] at hok;exact absurd hok (by decide)
  · rw [if_neg hlen] at hok hm
    cases s with
    | nil=>simp [lexGo] at hm
    | cons b r=>
      rw [iR] at hok hm
      by_cases hb:iS b=true
      · rw [if_pos hb] at hok hm;obtain⟨L,h1,h2⟩:=nV _ _ _ _ hok;rw [h1] at hm
        match L,hm,h2 with
        | [t],hm,h2=>
          simp only [List.nil_append,Bool.and_eq_true,beq_iff_eq] at hm;have:=h2 t (by simp);rw [hm.2] at this;simp at this;omega
      · rw [if_neg hb] at hok hm
        by_cases h35:(b==35)=true
        · rw [if_pos h35] at hok hm;have hp:1≤runB (· !=10) (b::r):=bAj (bJc h35);obtain⟨L,h1,h2⟩:=nV _ _ _ _ hok;rw [h1] at hm
          match L,hm,h2 with
          | [t],hm,h2=>
            simp only [List.nil_append,Bool.and_eq_true,beq_iff_eq] at hm;have:=h2 t (by simp);rw [hm.2,List.length_drop] at this;simp at this;omega
        · rw [if_neg h35] at hok hm
          cases ht:fA (b::r) with
          | error e=>
            rw [ht] at hm;simp at hm
          | ok q=>
            obtain⟨k,wd,v,m⟩:=q;rw [ht] at hok hm;simp only at hok hm;obtain⟨L,h1,h2⟩:=nV _ _ _ _ hok;rw [h1] at hm
            have hw:k=1∧wd=b::r:=by
              cases L with
              | nil=>simpa using hm
              | cons t L=>simp at hm
            obtain⟨rfl,rfl⟩:=hw;exact(bCj ht).spell rfl rfl
end Go.Proofs.YtbgdphbebhjpiaaGreatDoor
namespace Go.Proofs.YtbgdphbebhjpiaaGreatDoor
open Go.RowKit
def dN.un (x:dN):dN:=⟨x.how,0,x.fn,x.name,x.nums⟩
def gL (l:List dN):List dN:=l.map dN.un
theorem iB(a b:List dN):gL (a++b)=gL a++gL b:=List.map_append
def OpenT:Tk:=⟨3,[40],0⟩
def CloseT:Tk:=⟨3,[41],0⟩
def fP (toks:List TokV)(k:Nat)(T:List Tk):Prop:=k≤toks.length∧(toks.drop k).map TokV.tk=T
section
variable {toks : List TokV} {k : Nat} {t : Tk} {T R : List Tk}
theorem fP.lt(h:fP toks k (t::T)):k<toks.length:=by
  rcases Nat.lt_or_ge k toks.length with h' | h'
  · exact h'
  · rw [fP,List.drop_of_length_le h'] at h;simp at h
theorem fP.peek(h:fP toks k (t::T)):(bQ toks k).tk=t:=by
  have hk:=h.lt;rw [qX (List.getElem?_eq_getElem hk)];have:=h.2;rw [List.drop_eq_getElem_cons hk] at this;exact(List.cons.inj this).1
theorem fP.next(h:fP toks k (t::T)):fP toks (k+1) T:=by
  have hk:=h.lt;have:=h.2;rw [List.drop_eq_getElem_cons hk] at this;exact⟨hk,(List.cons.inj this).2⟩
theorem fP.kind(h:fP toks k (t::T)):(bQ toks k).kind=t.kind:=by rw [←h.peek];rfl
theorem fP.word(h:fP toks k (t::T)):(bQ toks k).word=t.word:=by rw [←h.peek];rfl
theorem fP.num(h:fP toks k (t::T)):(bQ toks k).n=t.n:=by rw [←h.peek];rfl
theorem fP.nil(h:fP toks k []):bQ toks k=⟨4,0,[],0⟩∧k=toks.length:=by
  have e:(toks.drop k).length=0:=by
    have:=congrArg List.length h.2
    simpa using this
  rw [List.length_drop] at e;have:=h.1;exact⟨xV (by omega),by omega⟩
theorem fP.skip: ∀(T:List Tk) {k:Nat},fP toks k (T++R)→fP toks (k+T.length) R
  | [],_,h=>h
  | t::T,k,h=>by
    have:=fP.skip T (fP.next (t:=t) (T:=T++R) h);rw [List.length_cons,show k+(T.length+1)=k+1+T.length from by omega];exact this
theorem fP.kindR(h:fP toks k R){c:Int}(hc:c≠4)(hR: ∀t∈R.head?,t.kind≠c):(bQ toks k).kind≠c:=by
  cases R with
  | nil=>rw [h.nil.1];exact hc.symm
  | cons t R=>rw [h.kind];exact hR t rfl
end
def Mark (t:Tk):Prop:=t.kind=3∧(t.word=[47]∨t.word=[92]∨t.word=[46])
def Ps (T:List Tk)(I:List dN)(nest:Nat)(plain:Bool):Prop:=
  ∀{toks:List TokV} {e:Int} {r:qH} {k:Nat} {out:List dN} {st:Stk} {o:Nat} {R:List Tk},fP toks k (T++R)→(∀t∈R.head?,t.kind≠2)→o+nest≤32→xX toks e r k out st o→
    ∃out' S,(plain=true→S=[])∧gL (out'++S)=gL I∧tQ toks e r (k+T.length) (out++out') (S.map some++st) o
structure Vb (T:List Tk) (it:dN) (two:Bool):Prop where
  head: ∃t T',T=t::T'∧t.kind≠2∧t.kind≠4∧pS t.word=true∧ ¬Mark t
  phrase: ∀{toks:List TokV} {k:Nat} {e:Int} {R:List Tk},fP toks k (T++R)→(∀t∈R.head?,¬Mark t)→isOk (bU toks k e two).flt=true∧(bU toks k e two).next=k+T.length∧(bU toks k e two).it.un=it.un
def Hd (T:List Tk):Prop:= ∃t T',T=t::T'∧ ¬Mark t
theorem wU(S:List dN)(st:Stk):jA (S.map some++st)=(S++(jA st).1,(jA st).2):=by
  induction S with
  | nil=>rfl
  | cons x S ih=>rw [List.map_cons,List.cons_append,jA,ih];rfl
theorem bMy{toks:List TokV}{R:List Tk}(hR: ∀t∈R.head?,t.kind≠2): ∀(ns:List Int) {k:Nat},fP toks k (ns.map (fun n=>(⟨2,[],n⟩:Tk))++R)→fW toks k=ns
  | [],k,h=>pZ (fP.kindR (R:=R) h (by decide) hR)
  | n::ns,k,h=>by
    have h':fP toks k (⟨2,[],n⟩::(ns.map (fun n=>(⟨2,[],n⟩:Tk))++R)):=h;rw [mB h'.kind,bMy hR ns h'.next,h'.num]
theorem Ps.nums{ns:List Int}{a:Int}(h:ns≠[]):Ps (ns.map fun n=>⟨2,[],n⟩) [⟨1,a,0,[],ns⟩] 0 true:=by
  intro toks e r k out st o R hF hR _ hE;have hn:=bMy hR ns hF
  obtain⟨n,ns',rfl⟩: ∃n ns',ns=n::ns':=by
    cases ns with
    | nil=>exact absurd rfl h
    | cons n ns'=>exact⟨n,ns',rfl⟩
  have hk:(bQ toks k).kind=2:=fP.kind (t:=⟨2,[],n⟩) (T:=_) hF;have:=e_num hE hk;rw [hn] at this;refine⟨[sD toks k],[],fun _=>rfl,?_,?_⟩
  · simp [gL,sD,dN.un,hn]
  · rw [List.length_map];exact this
theorem Ps.name{s:Bs}{a:Int}(h:dW s=true):Ps [⟨1,s,0⟩] [⟨2,a,0,s,[]⟩] 0 true:=by
  intro toks e r k out st o R hF hR _ hE;have hF':fP toks k (⟨1,s,0⟩::R):=hF;have:=e_name hE hF'.kind (by rw [hF'.word];exact h);refine⟨[lA toks k],[],fun _=>rfl,?_,this⟩;simp [gL,lA,dN.un,hF'.word]
theorem Ps.brk{T:List Tk}{I:List dN}{n:Nat}{p:Bool}(h:Ps T I n p):Ps (OpenT::(T++[CloseT])) I (n+1) true:=by
  intro toks e r k out st o R hF hR ho hE;have hF':fP toks k (OpenT::(T++(CloseT::R))):=by simpa using hF
  have h1:=(bCb hE hF'.kind hF'.word).1 (by omega);obtain⟨out',S,_,hu,hB⟩:=h hF'.next (by simp [CloseT]) (by omega) h1
  have hc:=fP.skip T hF'.next
  have:=bFl hB (by omega) hc.kind hc.word;rw [wU] at this;refine⟨out'++S,[],fun _=>rfl,by rw [List.append_nil];exact hu,?_⟩;have e1:k+1+T.length+1=k+(OpenT::(T++[CloseT])).length:=by simp;omega
  rw [e1] at this;simp only [jA,List.append_nil,List.tail_cons,Nat.add_sub_cancel,List.append_assoc] at this;exact this
theorem Ps.mono{V T:List Tk}{I:List dN}{it:dN}{n:Nat}{p:Bool}(hv:Vb V it false)(hd:Hd T)(h:Ps T I n p):Ps (V++T) (I++[it]) n false:=by
  intro toks e r k out st o R hF hR ho hE;rw [List.append_assoc] at hF;obtain⟨t,V',hV,h2,h4,hvb,_⟩:=hv.head;obtain⟨u,T',hT,hm⟩:=hd;have hF':fP toks k (t::(V'++(T++R))):=by rw [hV] at hF;exact hF
  obtain⟨p1,p2,p3⟩:=hv.phrase (e:=e) hF (by rw [hT];simpa using hm);have h1:=(e_verb hE (by rw [hF'.kind];exact h2) (by rw [hF'.kind];exact h4) (by rw [hF'.word];exact hvb)).1 p1;rw [p2] at h1;obtain⟨out',S,_,hu,hB⟩:=h (fP.skip V hF) hR ho h1;refine⟨out',S++[(bU toks k e false).it],by simp,?_,?_⟩
  · rw [←List.append_assoc,iB,hu,iB];show gL I++[_]=_;rw [p3];rfl
  · rw [List.length_append,←Nat.add_assoc,List.map_append,List.append_assoc];exact hB
theorem close_verb:pS [41]=false:=by decide
theorem Ps.whole{T:List Tk}{I:List dN}{n:Nat}{p:Bool}(h:Ps T I n p)(hn:n≤32){toks:List TokV}{e:Int}{k:Nat}(hF:fP toks k T):gL (iK toks e k).1=gL I∧(iK toks e k).2=(0,0):=by
  have hF':fP toks k (T++[]):=by rw [List.append_nil];exact hF
  obtain⟨out',S,_,hu,hB⟩:=h hF' (by simp) (by omega) (bAi (e:=e) hF.1);have:=r_end hB (by rw [(fP.skip T hF').nil.1]) (by omega);rw [wU] at this;rw [this];simp only [jA,List.append_nil,List.nil_append];exact⟨hu,trivial⟩
end Go.Proofs.YtbgdphbebhjpiaaGreatDoor
namespace Go.Proofs.YtbgdphbebhjpiaaGreatDoor
open Go.RowKit
def Sep (c:UInt8):Prop:=c=32∨c=41∨c=10
theorem Sep.word{c:UInt8}(h:Sep c):jG c=false:=by rcases h with rfl | rfl | rfl<;>decide
theorem Sep.digit{c:UInt8}(h:Sep c):dG c=false:=by rcases h with rfl | rfl | rfl<;>decide
theorem bFm:isOk (0,0)=true:=rfl
def rR (T:List Tk):Prop:= ∀t∈T,t.kind≠4
theorem rR.append{A B:List Tk}(h:rR A)(k:rR B):rR (A++B):=fun t ht=>(List.mem_append.1 ht).elim (h t) (k t)
theorem rR.one{t:Tk}(h:t.kind≠4):rR [t]:=fun u hu=>by rw [List.mem_singleton.1 hu];exact h
def Rng (n:Int):Prop:= -9223372036854775808≤n∧n≤9223372036854775807
theorem Lx.gap{s rest:Bs}{T:List Tk}(h:Lx s T (32::rest)):Lx (s++[32]) T rest:=by
  have:=Lx.append (a:=s) (b:=[32]) (A:=T) (B:=[]) h Lx.blank;rw [List.append_nil] at this;exact this
def tokS (l:List dN):Nat:=match fU l [] with
  | some [p]=>p.tokens
  | _=>0
end Go.Proofs.YtbgdphbebhjpiaaGreatDoor
namespace Go.Proofs.YtbgdphbebhjpiaaGreatDoor
open Go.RowKit
def lK.un (l:lK):lK:=⟨l.name,0,gL l.items⟩
def dX.un (x:dX):dX:=⟨x.name,0,x.sides⟩
def Prog.un(p:Prog):Prog:=⟨p.inputs.map dX.un,p.lines.map lK.un⟩
def costI (x:dX):Nat:=x.sides.length+3
def costL (l:lK):Nat:=tokS l.items+if l.name=[] then 2 else 3
def zC (p:Prog):Nat:=(p.inputs.map costI).sum+(p.lines.map costL).sum
def NL:Tk:=⟨4,[],0⟩
def WT (w:Bs):Tk:=⟨1,w,0⟩
theorem bBr{toks:List TokV}{T:List Tk}(h:toks.map TokV.tk=T):fP toks 0 T:=⟨Nat.zero_le _,h⟩
theorem own_of: ∀{T:List Tk} {R:List Tk} {toks:List TokV},toks.map TokV.tk=T++NL::R→rR T→(ownP toks).map TokV.tk=T∧(ownP toks).length=T.length∧(toks.drop (T.length+1)).map TokV.tk=R
  | [],R,[],h,_=>by simp at h
  | [],R,t::toks,h,_=>by
    simp only [List.map_cons,List.nil_append,List.cons.injEq] at h
    have h4:(t.kind !=4)=false:=by
      have:t.tk.kind=4:=by rw [h.1];rfl
      simpa [TokV.tk] using this
    unfold ownP;rw [List.takeWhile_cons_of_neg (by rw [h4];simp)];exact⟨rfl,rfl,h.2⟩
  | u::T,R,[],h,_=>by simp at h
  | u::T,R,t::toks,h,hn=>by
    simp only [List.map_cons,List.cons_append,List.cons.injEq] at h
    have h4:(t.kind !=4)=true:=by
      have:t.tk.kind≠4:=by rw [h.1];exact hn u (by simp)
      simpa [TokV.tk] using this
    obtain⟨a,b,c⟩:=own_of h.2 fun x hx=>hn x (by simp [hx]);unfold ownP at a b⊢;rw [List.takeWhile_cons_of_pos (p:=fun t:TokV=>t.kind !=4) h4];exact⟨by rw [List.map_cons,a,h.1],by simp [b],c⟩
theorem line_step{r:Prog×Flt}{len:Int}{toks:List TokV}{p:Prog}{n:Nat}{over:Bool}{T R:List Tk}{Good:Prog→Prop}(h:sU r len toks p n over)(ht:toks.map TokV.tk=T++NL::R)(hT:rR T)(hne:T≠[])
    (hq: ∀own e,own.map TokV.tk=T→ ∃q,intoP own e p n over=(q,(0,0))∧Good q): ∃q toks',Good q∧toks'.map TokV.tk=R∧sU r len toks' q (n+1) (nC q):=by
  obtain⟨a,b,c⟩:=own_of ht hT;obtain⟨q,h1,h2⟩:=hq (ownP toks) (endP toks len) a
  have h0:toks≠[]:=by
    rintro rfl;simp at ht
  have hon:ownP toks≠[]:=by
    intro e;rw [e] at a;exact hne a.symm
  exact⟨q,_,h2,by rw [b];exact c,(yA h h0 hon h1).1 rfl⟩
structure bCg (d:mP):Prop where
  ok:d.name=[]∨d.n=0∧dW d.name=true
def oO (d:mP):Tk:=if d.name=[] then ⟨2,[],d.n⟩ else ⟨1,d.name,0⟩
theorem name_ne{s:Bs}(h:dW s=true):s≠[]∧s≠[105,110]∧s≠[111,117,116]:=by
  refine⟨?_,?_,?_⟩
  · rintro rfl;obtain⟨b,r,e,_⟩:=(oZ h).head;cases e
  · rintro rfl;simp [dW] at h
  · rintro rfl;simp [dW] at h
theorem bIf: ∀(ds:List mP) {toks:List TokV} {acc:List mP},(∀d∈ds,bCg d)→toks.map TokV.tk=ds.map oO→acc.length+ds.length≤4→kJ toks acc=(acc++ds,(0,0))
  | [],[],acc,_,_,_=>by simp [kJ]
  | [],t::toks,acc,_,h,_=>by simp at h
  | d::ds,[],acc,_,h,_=>by simp at h
  | d::ds,t::toks,acc,hd,h,hl=>by
    simp only [List.map_cons,List.cons.injEq] at h;simp only [List.length_cons] at hl;have ht:t.kind=(oO d).kind∧t.word=(oO d).word∧t.n=(oO d).n:=by rw [←h.1];exact⟨rfl,rfl,rfl⟩
    have hs:(t.kind=2∨t.kind=1∧dW t.word=true)∧(⟨t.word,t.n⟩:mP)=d:=by
      obtain⟨h1,h2,h3⟩:=ht;unfold oO at h1 h2 h3
      rcases (hd d (by simp)).ok with he | ⟨hn,hb⟩
      · rw [if_pos he] at h1 h2 h3;refine⟨.inl h1,?_⟩;cases d
        simp_all
      · have:=(name_ne hb).1;rw [if_neg this] at h1 h2 h3;refine⟨.inr ⟨h1,by rw [h2];exact hb⟩,?_⟩;cases d
        simp_all
    rw [kJ,if_neg,if_neg (by omega),hs.2,bIf ds (fun x hx=>hd x (by simp [hx])) h.2 (by simp;omega)]
    · simp
    · rintro⟨a,b⟩
      rcases hs.1 with c | ⟨c,d⟩
      · exact a c
      · rcases b with b | b
        · exact b c
        · rw [d] at b;cases b
theorem bFq: ∀(ds:List mP) {acc t:Bs} {A:List Tk},(∀d∈ds,Rng d.n)→(∀c r,Sep c→Lx acc A (c::r))→kC ds acc=some t→(∀d∈ds,bCg d)∧ ∀c r,Sep c→Lx t (A++ds.map oO) (c::r)
  | [],acc,t,A,_,h,hs=>by
    cases hs;exact⟨by simp,by simpa using h⟩
  | d::ds,acc,t,A,hr,h,hs=>by
    rw [kC] at hs;split at hs
    · rename_i he;have hst:oO d=⟨2,[],d.n⟩:=by unfold oO;rw [if_pos he]
      obtain⟨a,b⟩:=bFq ds (acc:=acc++([32]++fS d.n)) (A:=A++[oO d]) (fun x hx=>hr x (by simp [hx])) (fun c r hc=>by
        rw [←List.append_assoc,hst]
        exact Lx.append (h 32 _ (.inl rfl)).gap (spell_lx (hr d (by simp)).1 (hr d (by simp)).2 hc.digit)) hs
      exact⟨fun x hx=>(List.mem_cons.1 hx).elim (fun e=>e▸⟨.inl he⟩) (a x),fun c r hc=>by simpa using b c r hc⟩
    · split at hs
      · rename_i he hb;have hst:oO d=⟨1,d.name,0⟩:=by unfold oO;rw [if_neg he]
        obtain⟨a,b⟩:=bFq ds (acc:=acc++([32]++d.name)) (A:=A++[oO d]) (fun x hx=>hr x (by simp [hx])) (fun c r hc=>by
          rw [←List.append_assoc,hst]
          exact Lx.append (h 32 _ (.inl rfl)).gap (tU (oZ hb.2) hc.word)) hs
        exact⟨fun x hx=>(List.mem_cons.1 hx).elim (fun e=>e▸⟨.inr hb⟩) (a x),fun c r hc=>by simpa using b c r hc⟩
      · cases hs
theorem in_word:bKs [105,110]:=⟨⟨105,[110],rfl,by decide⟩,by decide,by decide⟩
theorem out_word:bKs [111,117,116]:=⟨⟨111,[117,116],rfl,by decide⟩,by decide,by decide⟩
theorem side_nl(d:mP):(oO d).kind≠4:=by
  unfold oO;split<;>simp
theorem bJf{toks:List TokV}{k:Nat}{t:Tk}{T:List Tk}(h:fP toks k (t::T))(w:Bs):isW (bQ toks k) w=(t.kind==1&&t.word==w):=by unfold isW;rw [h.kind,h.word]
theorem input_into{x:dX}(hb:dW x.name=true)(hl:x.sides.length≤4)(hd: ∀d∈x.sides,bCg d){own:List TokV}{e:Int}{ins:List dX}{n:Nat}(hn:n<64)(ho:own.map TokV.tk=WT [105,110]::WT x.name::x.sides.map oO):
    ∃q,intoP own e ⟨ins,[]⟩ n false=(q,(0,0))∧ ∃y,q=⟨ins++[y],[]⟩∧y.un=x.un:=by
  have hlen:own.length=x.sides.length+2:=by
    have:=congrArg List.length ho
    simpa using this
  have f0:fP own 0 _:=bBr ho;have f1:=f0.next
  have f2:=f1.next
  have i0:isW (bQ own 0) [105,110]=true:=by rw [bJf f0];rfl
  have hk1:=f1.kind;have hw1:=f1.word
  have hin:jJ own e=(⟨x.name,atP own 1 e,x.sides⟩,(0,0)):=by
    unfold jJ;rw [if_neg (by omega),if_neg,hw1,bIf x.sides hd f2.2 (by simpa using hl)]
    · rfl
    · rw [hk1,hw1];rintro(h | h)
      · exact h rfl
      · rw [show(WT x.name).word=x.name from rfl,hb] at h;cases h
  refine⟨_,?_,⟨x.name,atP own 1 e,x.sides⟩,rfl,rfl⟩;unfold intoP;rw [if_neg (by omega),if_neg (by omega),if_neg (by simp),if_pos i0,hin]
theorem bLy: ∀(xs:List dX) {o o':Bs},(∀x∈xs,∀d∈x.sides,Rng d.n)→iO xs o=(o',true)→ ∃t T,o'=o++t∧(∀rest,Lx t T rest)∧T.length=(xs.map costI).sum∧
    ∀{r:Prog×Flt} {len:Int} {toks:List TokV} {R:List Tk} {ins:List dX} {n:Nat},sU r len toks ⟨ins,[]⟩ n false→toks.map TokV.tk=T++R→n+xs.length≤64→
      ∃toks' ins',toks'.map TokV.tk=R∧ins'.map dX.un=xs.map dX.un∧sU r len toks' ⟨ins++ins',[]⟩ (n+xs.length) false
  | [],o,o',_,h=>by
    simp only [iO,Prod.mk.injEq,and_true] at h;subst h;exact⟨[],[],by simp,fun _=>Lx.nil,rfl,fun{r len toks R ins n} hP ht _=>⟨toks,[],by simpa using ht,rfl,by simpa using hP⟩⟩
  | x::xs,o,o',hr,h=>by
    rw [iO] at h
    cases hi:mJ x with
    | none=>rw [hi] at h;simp at h
    | some t=>
      rw [hi] at h;simp only at h;obtain⟨u,U,h1,h2,h3,h4⟩:=bLy xs (fun y hy=>hr y (by simp [hy])) h;unfold mJ at hi;split at hi
      · cases hi
      · rename_i hbad;simp only [not_or,Bool.not_eq_false,Nat.not_lt] at hbad;obtain⟨s1,s2⟩:=bFq x.sides (acc:=x.name) (A:=[WT x.name]) (hr x (by simp)) (fun c r hc=>tU (oZ hbad.1) hc.word) hi
        have hlx: ∀rest,Lx (([105,110,32]++t)++[10]) ((WT [105,110]::WT x.name::x.sides.map oO)++[NL]) rest:=fun rest=>by
          have a1:Lx ([105,110]++[32]) [WT [105,110]] (t++10::rest):=Lx.gap (tU in_word (by decide));have a2:=s2 10 rest (.inr (.inr rfl));have a3:=Lx.append (rest:=rest) (Lx.append (rest:=10::rest) a1 a2) nl_lx;exact a3
        refine⟨(([105,110,32]++t)++[10])++u,(WT [105,110]::WT x.name::x.sides.map oO)++[NL]++U,by rw [h1];simp,fun rest=>Lx.append (hlx _) (h2 rest),?_,fun{r len toks R ins n} hP ht hn=>?_⟩
        · simp [h3,costI];omega
        · simp only [List.length_cons] at hn;have ht':toks.map TokV.tk=(WT [105,110]::WT x.name::x.sides.map oO)++NL::(U++R):=by rw [ht];simp
          obtain⟨q,toks',⟨y,rfl,hy⟩,k1,k2⟩:=line_step hP ht' (by
            intro t ht;simp only [List.mem_cons,List.mem_map] at ht
            rcases ht with rfl | rfl | ⟨d,_,rfl⟩
            · decide
            · exact(by decide:(1:Int)≠4)
            · exact side_nl d) (by simp) fun own e ho=>input_into (ins:=ins) hbad.1 hbad.2 s1 (by omega) ho
          obtain⟨toks'',ins',e1,e2,e3⟩:=h4 k2 k1 (by omega);refine⟨toks'',y::ins',e1,by rw [List.map_cons,List.map_cons,hy,e2],?_⟩;rw [List.append_assoc] at e3;rw [List.length_cons,show n+(xs.length+1)=n+1+xs.length from by omega];exact e3
theorem wS(ins:List dX)(lns:List lK)(l:lK):nC ⟨ins,lns++[l]⟩=(l.name==[]):=by simp [nC]
structure RngP (p:Prog):Prop where
  ins: ∀x∈p.inputs,∀d∈x.sides,Rng d.n
  lns: ∀l∈p.lines,∀x∈l.items,∀n∈x.nums,Rng n
theorem lex_whole{t:Bs}{T:List Tk}(h:Lx t T [])(hl:t.length≤65536): ∃toks,lexP t=(toks,(0,0))∧toks.map TokV.tk=T:=by
  obtain⟨L,h1,h2⟩:=h 0 [];refine⟨L,?_,h1⟩;unfold lexP;rw [if_neg (by omega)];rw [List.append_nil] at h2;rw [h2];rfl
end Go.Proofs.YtbgdphbebhjpiaaGreatDoor
namespace Go.Proofs.YtbgdphbebhjpiaaGreatDoor
open Go.RowKit
def iJ:Stk→Nat
  | []=>0
  | none::r=>iJ r+1
  | some _::r=>iJ r
def VbOk (it:dN):Prop:= ¬(it.how<3∨7<it.how∨it.nums≠[]∨it.name≠[]∨(verbS it).1=[])
inductive bAk:Stk→List fO→Nat→Prop
  | nil:bAk [] [] 0
  | brk {st P c}:bAk st P c→bAk (none::st) P (c+1)
  | one {it st P c}:VbOk it→uW it.how=false→bAk st P c→bAk (some it::st) P (c+(verbS it).2)
  | two {it st q P c}:VbOk it→uW it.how=true→(leftS q).nest+iJ st≤32→bAk st P c→bAk (some it::st) (q::P) (c+(verbS it).2+(leftS q).tokens)
theorem qN: ∀(a b:List dN) (st:List fO),fU (a++b) st=(fU a st).bind (fU b)
  | [],b,st=>rfl
  | x::a,b,st=>by
    rw [List.cons_append,fU,fU]
    cases iL st x with
    | none=>rfl
    | some s=>exact qN a b s
theorem steps_snoc{a:List dN}{x:dN}{st P P':List fO}(h:fU a st=some P)(hx:iL P x=some P'):fU (a++[x]) st=some P':=by
  rw [qN,h];show fU [x] P=_;rw [fU,hx];rfl
theorem bLd{it:dN}(h:VbOk it)(st:List fO):iL st it=pI it st:=by
  have h3: ¬(it.how=1∨it.how=2):=fun e=>h (.inl (by omega));unfold iL;rw [if_neg h3,if_neg h]
theorem fin_pend{st:Stk}{P:List fO}{c:Nat}(h:bAk st P c): ∀{p:fO},p.nest+iJ st≤32→ ∃p' P' c',fU (jA st).1 (p::P)=some (p'::P')∧bAk (jA st).2 P' c'∧p'.tokens+c'=p.tokens+c∧p'.nest+iJ st≤32:=by
  induction h with
  | nil=>exact fun{p} hp=>⟨p,[],0,rfl,.nil,rfl,hp⟩
  | brk h _=>exact fun{p} hp=>⟨p,_,_,rfl,.brk h,rfl,hp⟩
  | one hv ht h ih=>
    rename_i it st P c;intro p hp;obtain⟨p',P',c',h1,h2,h3,h4⟩:=ih (p:=⟨(verbS it).1::p.words,p.nest,p.tokens+(verbS it).2,false⟩) hp;refine⟨p',P',c',?_,h2,by rw [h3];simp only;omega,h4⟩;rw [jA];simp only [fU];rw [bLd hv];unfold pI;rw [ht];exact h1
  | two hv ht hn h ih=>
    rename_i it st q P c;intro p hp
    obtain⟨p',P',c',h1,h2,h3,h4⟩:=ih (p:=⟨(leftS q).words++(verbS it).1::p.words,max p.nest (leftS q).nest,p.tokens+(verbS it).2+(leftS q).tokens,false⟩) (by
      have:p.nest+iJ st≤32:=hp;simp only
      omega)
    refine⟨p',P',c',?_,h2,by rw [h3];simp only;omega,h4⟩;rw [jA];simp only [fU];rw [bLd hv];unfold pI;rw [ht];exact h1
theorem wG: ∀st:Stk,((jA st).2=[]∧iJ st=0)∨ ∃r,(jA st).2=none::r∧iJ st=iJ r+1
  | []=> .inl ⟨rfl,rfl⟩
  | none::r=> .inr ⟨r,rfl,rfl⟩
  | some _::r=>wG r
theorem zO{a:Int}:isOk (a,43)=false:=by simp [isOk,mW]
theorem fX{a c:Int}(hc:c≠0):isOk (a,c)=false:=by
  have:(c==0)=false:=by simpa using hc
  simp [isOk,mW,this]
theorem two_mem{w:Bs}(h:gO w≠0):w∈verbWords:=by
  refine Classical.byContradiction fun hn=>h ?_;simp only [verbWords,List.mem_cons,not_or] at hn;unfold gO;simp only [hn,if_false]
theorem one_mem{w:Bs}(h:mM w≠0):w∈verbWords:=by
  refine Classical.byContradiction fun hn=>h ?_;simp only [verbWords,List.mem_cons,not_or] at hn;unfold mM;simp only [hn,or_self,if_false]
theorem verb_mem{w:Bs}{two:Bool}(h:gG w two≠0):w∈verbWords:=by
  cases two with
  | false=>exact one_mem h
  | true=>exact two_mem h
theorem bGn{two:Bool}{f:Int}{w:Bs}(hf:gG w two=f)(h0:f≠0): ∀l:List Bs,w∈l→(∀s∈l,s≠[])→nJ two f l≠[]
  | [],h,_=>by simp at h
  | s::r,h,hne=>by
    rw [nJ]
    by_cases hs:(gG s two !=0&&gG s two==f)=true
    · rw [if_pos hs];exact hne s (by simp)
    · rw [if_neg hs];refine bGn hf h0 r ?_ fun x hx=>hne x (by simp [hx])
      rcases List.mem_cons.1 h with rfl | h
      · exact absurd (by simp [hf,h0]) hs
      · exact h
theorem bLi{two:Bool}{w:Bs}{f:Int}(hf:gG w two=f)(h0:f≠0):kP two f≠[]:=by
  rw [←bHz];exact bGn hf h0 _ (verb_mem (by rw [hf];exact h0)) (by decide)
theorem bLn{toks:List TokV}{k:Nat}{e:Int}{two:Bool}(h:isOk (bU toks k e two).flt=true):VbOk (bU toks k e two).it∧uW (bU toks k e two).it.how=two∧(verbS (bU toks k e two).it).2+k≤(bU toks k e two).next:=by
  unfold bU at h⊢;split at h
  · rename_i hm;rw [if_pos hm];split at h
    · simp only [zO] at h;cases h
    · rename_i hb;rw [if_neg hb];rw [not_or] at hb;obtain⟨h17,hl⟩:=hb
      by_cases h0:gO (bQ toks k).word=0
      · simp only [h0,if_true,zO] at h;cases h
      · have ht:=bLi (two:=true) (w:=(bQ toks k).word) rfl h0;have ht':kP true (gO (bQ toks k).word)≠[]:=ht;simp only [ne_eq,Classical.not_not] at hl;obtain⟨hm1,hm2⟩:=hm
        rcases hm2 with hw | hw | hw
        all_goals
          rw [hw] at hl;simp only [hw] at*;subst hl;refine⟨?_,rfl,?_⟩
          · simp [VbOk,Phr.it,verbS,ht',h17]
          · simp [Phr.it,verbS,ht',h17];omega
  · rename_i hm;rw [if_neg hm]
    by_cases h0:gG (bQ toks k).word two=0
    · simp only [h0,if_true,zO] at h;cases h
    · have ht:=bLi (two:=two) (w:=(bQ toks k).word) rfl h0
      cases two with
      | false=>
        refine⟨?_,rfl,?_⟩
        · simp [VbOk,Phr.it,verbS,ht]
        · simp [Phr.it,verbS];omega
      | true=>
        refine⟨?_,rfl,?_⟩
        · simp [VbOk,Phr.it,verbS,ht]
        · simp [Phr.it,verbS];omega
structure bJm (t:TokV):Prop where
  num:t.kind=2→t.word=[]
  word:t.kind=1→t.n=0
  rng:Rng t.n
def RngI (l:List dN):Prop:= ∀x∈l,∀n∈x.nums,Rng n
theorem RngI.append{a b:List dN}(h:RngI a)(k:RngI b):RngI (a++b):=fun x hx=>(List.mem_append.1 hx).elim (h x) (k x)
def uY (l:List dN)(m:Nat):Prop:=(∃p,fU l []=some [p]∧p.tokens≤m∧p.nest≤32)∧RngI l
def RngS (st:Stk):Prop:= ∀x,some x∈st→x.nums=[]
theorem fin_rng: ∀{st:Stk},RngS st→RngI (jA st).1∧RngS (jA st).2
  | [],_=>⟨fun x hx=>by simp [jA] at hx,fun x hx=>by simp [jA] at hx⟩
  | none::r,h=>⟨fun x hx=>by simp [jA] at hx,h⟩
  | some y::r,h=>by
    obtain⟨a,b⟩:=fin_rng (st:=r) fun x hx=>h x (List.mem_cons_of_mem _ hx);refine⟨fun x hx=>?_,b⟩;rw [jA] at hx
    rcases List.mem_cons.1 hx with rfl | hx
    · rw [h x (List.mem_cons_self ..)];simp
    · exact a x hx
theorem vK(p:fO):p.tokens≤(leftS p).tokens∧(leftS p).tokens≤p.tokens+2∧p.nest≤(leftS p).nest∧(leftS p).nest≤p.nest+1:=by
  unfold leftS;split<;>simp
theorem pend_none{P:List fO}{c:Nat}(h:bAk [] P c):P=[]∧c=0:=by
  cases h;exact⟨rfl,rfl⟩
theorem pend_brk{st:Stk}{P:List fO}{c:Nat}(h:bAk (none::st) P c): ∃d,c=d+1∧bAk st P d:=by
  cases h with
  | brk h=>exact⟨_,rfl,h⟩
theorem nums_mem{toks:List TokV}(ht: ∀t∈toks,bJm t){k:Nat}{n:Int}(h:n∈fW toks k):Rng n:=by
  unfold fW at h;obtain⟨t,h1,rfl⟩:=List.mem_map.1 h;exact(ht t (List.mem_of_mem_drop (List.takeWhile_sublist _ |>.subset h1))).rng
section
variable {toks : List TokV} {e : Int} {l : List dN} {flt : Flt} {k0 : Nat}
structure StB (toks:List TokV) (k0 k:Nat) (out:List dN) (st:Stk) (o:Nat) (p:fO) (P:List fO) (c:Nat):Prop where
  steps:fU out []=some (p::P)
  pend:bAk st P c
  cost:c+(leftS p).tokens+k0≤k
  nest:iJ st+(leftS p).nest≤32
  opens:iJ st=o
  rng:RngI out
  rngS:RngS st
  le:k≤toks.length
structure StA (toks:List TokV) (k0 k:Nat) (out:List dN) (st:Stk) (o:Nat) (P:List fO) (c:Nat):Prop where
  steps:fU out []=some P
  pend:bAk st P c
  cost:c+k0≤k
  opens:iJ st=o
  rng:RngI out
  rngS:RngS st
  le:k≤toks.length
theorem bEd(toks:List TokV)(k:Nat)(e:Int)(b:Bool):(bU toks k e b).it.nums=[]:=rfl
theorem StB.verb{k:Nat}{out:List dN}{st:Stk}{o:Nat}{p:fO}{P:List fO}{c:Nat}(h:StB toks k0 k out st o p P c)(hok:isOk (bU toks k e true).flt=true)(hk:k<toks.length):
    StA toks k0 (bU toks k e true).next out (some (bU toks k e true).it::st) o (p::P) (c+(verbS (bU toks k e true).it).2+(leftS p).tokens):=by
  obtain⟨v1,v2,v3⟩:=bLn hok;refine⟨h.steps,.two v1 v2 (by have:=h.nest;omega) h.pend,by have:=h.cost;omega,h.opens,h.rng,fun x hx=>?_,xA hk⟩
  rcases List.mem_cons.1 hx with e1 | hx
  · cases e1;exact bEd ..
  · exact h.rngS x hx
theorem StA.verb{k:Nat}{out:List dN}{st:Stk}{o:Nat}{P:List fO}{c:Nat}(h:StA toks k0 k out st o P c)(hok:isOk (bU toks k e false).flt=true)(hk:k<toks.length):
    StA toks k0 (bU toks k e false).next out (some (bU toks k e false).it::st) o P (c+(verbS (bU toks k e false).it).2):=by
  obtain⟨v1,v2,v3⟩:=bLn hok;refine⟨h.steps,.one v1 v2 h.pend,by have:=h.cost;omega,h.opens,h.rng,fun x hx=>?_,xA hk⟩
  rcases List.mem_cons.1 hx with e1 | hx
  · cases e1;exact bEd ..
  · exact h.rngS x hx
theorem StA.operand{k m:Nat}{out:List dN}{st:Stk}{o:Nat}{P:List fO}{c:Nat}{x:dN}{p:fO}(h:StA toks k0 k out st o P c)(hx:iL P x=some (p::P))(hp:p.plain=true)(hn:p.nest=0)(ht:p.tokens≤m)(ho:o≤32)(hr: ∀n∈x.nums,Rng n)(hl:k+m≤toks.length):
    StB toks k0 (k+m) (out++[x]) st o p P c:=by
  have e1:leftS p=p:=by unfold leftS;rw [if_pos hp]
  exact⟨steps_snoc h.steps hx,h.pend,by rw [e1];have:=h.cost;omega,by rw [e1,hn,h.opens];exact ho,h.opens,h.rng.append fun y hy=>by rw [List.mem_singleton.1 hy];exact hr,h.rngS,hl⟩
theorem StB.close{k:Nat}{out:List dN}{st:Stk}{o:Nat}{p:fO}{P:List fO}{c:Nat}(h:StB toks k0 k out st (o+1) p P c)(hk:k<toks.length):
    ∃p' P' c',StB toks k0 (k+1) (out++(jA st).1) (jA st).2.tail o p' P' c':=by
  have hn:=h.nest;have hc:=h.cost;have ho:=h.opens;obtain⟨l1,l2,l3,l4⟩:=vK p;obtain⟨p',P',c',h1,h2,h3,h4⟩:=fin_pend h.pend (p:=p) (by omega)
  rcases wG st with ⟨_,h0⟩ | ⟨r,e1,e2⟩
  · omega
  · rw [e1] at h2;obtain⟨d,rfl,h5⟩:=pend_brk h2;obtain⟨m1,m2,m3,m4⟩:=vK p';obtain⟨r1,r2⟩:=fin_rng h.rngS;refine⟨p',P',d,by rw [qN,h.steps];exact h1,by rw [e1];exact h5,by omega,by rw [e1];simp only [List.tail_cons];omega,by rw [e1];simp only [List.tail_cons];omega,h.rng.append r1,?_,by omega⟩;intro x hx;rw [e1] at r2 hx;exact r2 x (List.mem_cons_of_mem _ hx)
theorem StB.done{k:Nat}{out:List dN}{st:Stk}{p:fO}{P:List fO}{c:Nat}(h:StB toks k0 k out st 0 p P c):uY (out++(jA st).1) (toks.length-k0):=by
  have hn:=h.nest;have hc:=h.cost;have ho:=h.opens;have hle:=h.le;obtain⟨l1,l2,l3,l4⟩:=vK p;obtain⟨p',P',c',h1,h2,h3,h4⟩:=fin_pend h.pend (p:=p) (by omega)
  rcases wG st with ⟨e1,_⟩ | ⟨r,_,e2⟩
  · rw [e1] at h2;obtain⟨rfl,rfl⟩:=pend_none h2;exact⟨⟨p',by rw [qN,h.steps];exact h1,by omega,by omega⟩,h.rng.append (fin_rng h.rngS).1⟩
  · omega
theorem bLw{rec:Nat→List dN→Stk→Nat→qH}{kk:Nat}(hrec: ∀{k out st o P c},kk<k→StA toks k0 k out st o P c→o≤32→rec k out st o=(l,flt)→uY l (toks.length-k0))(hok:isOk flt=true):
    ∀(o:Nat) {k:Nat} {out:List dN} {st:Stk} {p:fO} {P:List fO} {c:Nat},kk≤k→StB toks k0 k out st o p P c→nI toks e rec o k out st=(l,flt)→uY l (toks.length-k0):=by
  have rest: ∀(o:Nat) {k:Nat} {out:List dN} {st:Stk} {p:fO} {P:List fO} {c:Nat},kk≤k→StB toks k0 k out st o p P c→sS toks e rec o k out st=(l,flt)→uY l (toks.length-k0):=by
    intro o k out st p P c hkk h hr;unfold sS at hr;split at hr
    · split at hr
      · cases hr;rw [fX (by decide)] at hok;cases hok
      · rename_i h0;cases hr;obtain rfl:o=0:=by omega
        exact h.done
    · rename_i h4;split at hr
      · cases hr;rw [fX (by decide)] at hok;cases hok
      · split at hr
        · rename_i hp;have:=dR toks k e true;exact hrec (by omega) (h.verb hp (iP h4)) (by have:=h.nest;have:=h.opens;omega) hr
        · rename_i hp;cases hr;exact absurd hok hp
  intro o
  induction o with
  | zero=>exact fun hkk h hr=>rest 0 hkk h hr
  | succ o ih=>
    intro k out st p P c hkk h hr;rw [nI] at hr;split at hr
    · rename_i hc;obtain⟨p',P',c',h'⟩:=h.close (iP (by rw [hc.1];decide));exact ih (by omega) h' hr
    · exact rest _ hkk h hr
theorem go_ok(ht: ∀t∈toks,bJm t)(h256:toks.length≤256)(hok:isOk flt=true): ∀(f:Nat) {k:Nat} {out:List dN} {st:Stk} {o:Nat} {P:List fO} {c:Nat},toks.length+1≤f+k→StA toks k0 k out st o P c→o≤32→iX toks e f k out st o=(l,flt)→uY l (toks.length-k0)
  | 0,k,out,st,o,P,c,hf,h,_,_=>by have:=h.le;omega
  | f+1,k,out,st,o,P,c,hf,h,ho,hg=>by
    have hrec: ∀(k':Nat),k<k'→ ∀{out st o P c},StA toks k0 k' out st o P c→o≤32→iX toks e f k' out st o=(l,flt)→uY l (toks.length-k0):=fun k' hk'=>go_ok ht h256 hok f (by omega);rw [iX] at hg;split at hg
    · rename_i hv;split at hg
      · rename_i hp;have:=dR toks k e false;exact hrec _ (by omega) (h.verb hp (iP hv.2.1)) ho hg
      · rename_i hp;cases hg;exact absurd hok hp
    · split at hg
      · rename_i hb;split at hg
        · cases hg;rw [fX (by decide)] at hok;cases hok
        · rename_i h32;have hk:=iP (toks:=toks) (k:=k) (by rw [hb.1];decide);refine hrec (k+1) (by omega) (P:=P) (c:=c+1) ⟨h.steps,.brk h.pend,by have:=h.cost;omega,by rw [iJ,h.opens],h.rng,fun x hx=>h.rngS x (by simpa using hx),hk⟩ (by omega) hg
      · split at hg
        · rename_i h2;have hn:=mB h2;have hl:=nums_le toks k;have hk:=iP (toks:=toks) (k:=k) (by rw [h2];decide)
          have hst:iL P (sD toks k)=some (⟨(fW toks k).map fS,0,(fW toks k).length,true⟩::P):=by
            have hne:fW toks k≠[]:=by rw [hn];simp
            have h3: ¬256<(fW toks k).length:=by omega
            simp [iL,sD,operandS,hne,h3]
          have hB:=h.operand (m:=(fW toks k).length) hst rfl rfl (Nat.le_refl _) ho (fun n hn=>nums_mem ht hn) (by omega);exact bLw (kk:=k) (fun hk'=>hrec _ hk') hok o (by omega) hB hg
        · split at hg
          · rename_i hnm;have hk:=iP (toks:=toks) (k:=k) (by rw [hnm.1];decide);have hst:iL P (lA toks k)=some (⟨[(bQ toks k).word],0,1,true⟩::P):=by simp [iL,lA,operandS,hnm.2]
            have hB:=h.operand (m:=1) hst rfl rfl (Nat.le_refl _) ho (fun n hn=>by simp [lA] at hn) (by omega);exact bLw (kk:=k) (fun hk'=>hrec _ hk') hok o (by omega) hB hg
          · split at hg
            · cases hg;rw [fX (by decide)] at hok;cases hok
            · cases hg;rw [fX (by decide)] at hok;cases hok
end
end Go.Proofs.YtbgdphbebhjpiaaGreatDoor
namespace Go.Proofs.YtbgdphbebhjpiaaGreatDoor
open Go.RowKit
theorem bEy: ∀(f i:Nat) (s:Bs) (out:List Tok),(∀t∈out,bJm t)→ ∀t∈(lexGo f i s out).1,bJm t
  | 0,_,_,out,h=>h
  | _+1,_,[],out,h=>h
  | f+1,i,b::r,out,h=>by
    unfold lexGo;split
    · exact bEy f _ _ _ h
    · split
      · exact bEy f _ _ _ h
      · split
        · exact fun t ht=>by simp at ht
        · rename_i ht;refine bEy f _ _ _ fun t hm=>?_
          rcases List.mem_append.1 hm with hm | hm
          · exact h t hm
          · rw [List.mem_singleton.1 hm];have h1:=bCj ht;obtain⟨_,h2,h3⟩:=bKo ht;exact⟨h1.num,h1.word,h2,h3⟩
theorem tkOk(s:Bs): ∀t∈(lexP s).1,bJm t:=by
  unfold lexP;split
  · exact fun t ht=>by simp at ht
  · exact bEy _ _ _ _ fun t ht=>by simp at ht
theorem expr_ok{toks:List TokV}{e:Int}{k:Nat}(ht: ∀t∈toks,bJm t)(h256:toks.length≤256)(hk:k≤toks.length)(hok:isOk (iK toks e k).2=true):uY (iK toks e k).1 (toks.length-k):=
  go_ok (k0:=k) (e:=e) (l:=(iK toks e k).1) (flt:=(iK toks e k).2) ht h256 hok (toks.length+1) (k:=k) (o:=0) (P:=[]) (c:=0) (by omega) ⟨rfl,.nil,by omega,rfl,fun x hx=>by simp at hx,fun x hx=>by simp at hx,hk⟩ (by omega) rfl
def InOk (x:dX):Prop:=dW x.name=true∧x.sides.length≤4∧ ∀d∈x.sides,bCg d∧Rng d.n
def LnOk (l:lK):Prop:=dW l.name=true∧uY l.items 254
def LastOk(l:lK):Prop:=l.name=[]∧uY l.items 255
theorem uY.mono{l:List dN}{a b:Nat}(h:uY l a)(hab:a≤b):uY l b:=by
  obtain⟨⟨p,h1,h2,h3⟩,h4⟩:=h;exact⟨⟨p,h1,by omega,h3⟩,h4⟩
theorem uY.tok{l:List dN}{a:Nat}(h:uY l a):tokS l≤a:=by
  obtain⟨⟨p,h1,h2,h3⟩,h4⟩:=h;unfold tokS;rw [h1];exact h2
theorem uY.expr{l:List dN}{a:Nat}(h:uY l a): ∃t,gM l a=some t:=by
  obtain⟨⟨p,h1,h2,h3⟩,h4⟩:=h;have:=zD h1;simp at this;refine⟨joinSp p.words,?_⟩;unfold gM;rw [if_neg (by omega),h1];simp only;rw [if_neg (by omega)]
def LinesOk(ls:List lK)(over:Bool):Prop:=(over=false∧ ∀l∈ls,LnOk l)∨(over=true∧ ∃L z,ls=L++[z]∧(∀l∈L,LnOk l)∧LastOk z)
structure PSt (p:Prog) (n:Nat) (over:Bool):Prop where
  ins: ∀x∈p.inputs,InOk x
  lns:LinesOk p.lines over
  num:p.inputs.length+p.lines.length≤n
  le:n≤64
theorem bHg: ∀(toks:List TokV) (acc:List mP),(∀t∈toks,bJm t)→acc.length≤4→isOk (kJ toks acc).2=true→ ∃ds,(kJ toks acc).1=acc++ds∧ds.length=toks.length∧(acc++ds).length≤4∧ ∀d∈ds,bCg d∧Rng d.n
  | [],acc,_,ha,_=>⟨[],by simp [kJ],rfl,by simpa using ha,by simp⟩
  | t::r,acc,ht,ha,h=>by
    rw [kJ] at h⊢;split at h
    · rw [fX (by decide)] at h;cases h
    · rename_i hk;rw [if_neg hk];split at h
      · rw [fX (by decide)] at h;cases h
      · rename_i h4;rw [if_neg h4];obtain⟨ds,h1,h2,h3,h5⟩:=bHg r (acc++[⟨t.word,t.n⟩]) (fun x hx=>ht x (by simp [hx])) (by simp;omega) h;refine⟨⟨t.word,t.n⟩::ds,by rw [h1];simp,by simp [h2],by simpa using h3,fun d hd=>?_⟩
        rcases List.mem_cons.1 hd with rfl | hd
        · have hto:=ht t (by simp);refine⟨⟨?_⟩,hto.rng⟩
          by_cases h2:t.kind=2
          · exact .inl (hto.num h2)
          · have: ¬(t.kind≠1∨dW t.word=false):=fun hh=>hk ⟨h2,hh⟩;simp only [not_or,ne_eq,Classical.not_not,Bool.not_eq_false] at this;exact .inr ⟨hto.word this.1,this.2⟩
        · exact h5 d hd
theorem input_conv{own:List TokV}{e:Int}(h0:own≠[])(ht: ∀t∈own,bJm t)(hok:isOk (jJ own e).2=true):InOk (jJ own e).1∧(jJ own e).1.sides.length+2=own.length:=by
  have hpos:0<own.length:=List.length_pos_iff.2 h0;unfold jJ at hok⊢;split at hok
  · rw [fX (by decide)] at hok;cases hok
  · rename_i h1;rw [if_neg h1];split at hok
    · rw [fX (by decide)] at hok;cases hok
    · rename_i h2;rw [if_neg h2];simp only [not_or,ne_eq,Classical.not_not,Bool.not_eq_false] at h2;obtain⟨ds,s1,s2,s3,s4⟩:=bHg (own.drop 2) [] (fun t hm=>ht t (List.mem_of_mem_drop hm)) (by simp) hok;rw [List.nil_append] at s1 s3;refine⟨⟨h2.2,by rw [s1];exact s3,by rw [s1];exact s4⟩,?_⟩;rw [s1,s2,List.length_drop];omega
theorem into_conv{own:List TokV}{e:Int}{p:Prog}{n:Nat}{over:Bool}(h0:own≠[])(ht: ∀t∈own,bJm t)(h:PSt p n over)(hok:isOk (intoP own e p n over).2=true):PSt (intoP own e p n over).1 (n+1) (nC (intoP own e p n over).1)∧zC (intoP own e p n over).1≤zC p+own.length+1:=by
  have hpos:0<own.length:=List.length_pos_iff.2 h0;obtain⟨ins,lns⟩:=p;obtain⟨h1,h2,h3,h4⟩:=h;unfold intoP at hok⊢;split at hok
  · rw [fX (by decide)] at hok;cases hok
  · rename_i c1;rw [if_neg c1];split at hok
    · rw [fX (by decide)] at hok;cases hok
    · rename_i c2;rw [if_neg c2];split at hok
      · rw [fX (by decide)] at hok;cases hok
      · rename_i c3;rw [if_neg c3];simp only [not_or,Bool.not_eq_true,not_and,ne_eq,Classical.not_not] at c3;obtain⟨rfl,c3⟩:=c3
        have hL: ∀l∈lns,LnOk l:=by
          rcases h2 with ⟨_,h⟩ | ⟨h,_⟩
          · exact h
          · cases h
        split at hok
        · rename_i c4;rw [if_pos c4];have hl:lns=[]:=c3 c4;subst hl;obtain⟨i1,i2⟩:=input_conv h0 ht hok;refine⟨⟨fun x hx=>?_,.inl ⟨rfl,fun l hl=>by simp at hl⟩,by simp at h3⊢;omega,by omega⟩,?_⟩
          · rcases List.mem_append.1 hx with hx | hx
            · exact h1 x hx
            · rw [List.mem_singleton.1 hx];exact i1
          · simp only [zC,List.map_append,List.sum_append,List.map_cons,List.map_nil,List.sum_cons,List.sum_nil,costI];omega
        · rename_i c4;rw [if_neg c4];split at hok
          · rename_i c5;rw [if_pos c5];have hx:uY (iK own e 1).1 (own.length-1):=expr_ok ht (by omega) hpos hok;have htk:=hx.tok;refine⟨⟨h1,.inr ⟨by rw [wS];rfl,lns,_,rfl,hL,rfl,hx.mono (by omega)⟩,by simp only [List.length_append,List.length_singleton] at h3⊢;omega,by omega⟩,?_⟩;simp only [zC,List.map_append,List.sum_append,List.map_cons,List.map_nil,List.sum_cons,List.sum_nil,costL,rW,if_true];omega
          · rename_i c5;rw [if_neg c5];split at hok
            · rw [fX (by decide)] at hok;cases hok
            · rename_i c6;rw [if_neg c6];simp only [not_or,ne_eq,Classical.not_not,Bool.not_eq_false] at c6;split at hok
              · rw [fX (by decide)] at hok;cases hok
              · rename_i c7;rw [if_neg c7];simp only [not_or,ne_eq,Classical.not_not] at c7;have hk:=iP (toks:=own) (k:=1) (by rw [c7.1];decide);have hx:uY (iK own e 2).1 (own.length-2):=expr_ok ht (by omega) (by omega) hok;have htk:=hx.tok;have hne:=(name_ne c6.2).1
                have hov:nC ⟨ins,lns++[(rW own e (bQ own 0).word 2).1]⟩=false:=by
                  rw [wS]
                  simpa [rW] using hne
                refine⟨⟨h1,.inl ⟨hov,fun l hl=>?_⟩,by simp only [List.length_append,List.length_singleton] at h3⊢;omega,by omega⟩,?_⟩
                · rcases List.mem_append.1 hl with hl | hl
                  · exact hL l hl
                  · rw [List.mem_singleton.1 hl];exact⟨c6.2,hx.mono (by omega)⟩
                · simp only [zC,List.map_append,List.sum_append,List.map_cons,List.map_nil,List.sum_cons,List.sum_nil,costL,rW,hne,if_false];omega
theorem sF{len:Int}{tot:Nat}: ∀(f:Nat) {toks:List TokV} {p q:Prog} {n:Nat} {over:Bool} {flt:Flt},toks.length+1≤f→(∀t∈toks,bJm t)→PSt p n over→zC p+toks.length≤tot+(if toks=[] then 1 else 0)→qM len f toks p n over=(q,flt)→isOk flt=true→PSt q 64 true∧zC q≤tot+1
  | 0,toks,_,_,_,_,_,hf,_,_,_,_,_=>by omega
  | f+1,toks,p,q,n,over,flt,hf,ht,hp,hc,h,hok=>by
    rw [qM] at h
    by_cases h0:toks=[]
    · rw [if_pos h0] at h;rw [if_pos h0] at hc;split at h
      · rename_i ho;cases h;subst ho;have:toks.length=0:=by rw [h0];rfl
        exact⟨⟨hp.ins,hp.lns,by have:=hp.num;have:=hp.le;omega,by omega⟩,by omega⟩
      · cases h;rw [fX (by decide)] at hok;cases hok
    · rw [if_neg h0] at h;rw [if_neg h0] at hc;have hpos:0<toks.length:=List.length_pos_iff.2 h0;split at h
      · refine sF f (by rw [List.length_drop];omega) (fun t hm=>ht t (List.mem_of_mem_drop hm)) hp ?_ h hok;rw [List.length_drop];split<;>omega
      · rename_i hon;split at h
        · rename_i hi;have hsub: ∀t∈ownP toks,bJm t:=fun t hm=>ht t (by rw [←zA] at hm;exact List.mem_of_mem_take hm);obtain⟨a,b⟩:=into_conv hon hsub hp hi;have hle:=bGk toks;refine sF f (by rw [List.length_drop];omega) (fun t hm=>ht t (List.mem_of_mem_drop hm)) a ?_ h hok;rw [List.length_drop];split
          · omega
          · rename_i hd;have:(toks.drop ((ownP toks).length+1)).length≠0:=fun e=>hd (List.eq_nil_of_length_eq_zero e);rw [List.length_drop] at this;omega
        · rename_i hi;cases h;exact absurd hok hi
theorem parse_conv{text:Bs}{p:Prog}{flt:Flt}(h:gI text=(p,flt))(hok:isOk flt=true):PSt p 64 true∧zC p≤(lexP text).1.length+1:=by
  unfold gI at h;split at h
  · refine sF _ (Nat.le_refl _) (tkOk text) ⟨fun x hx=>by simp at hx,.inl ⟨rfl,fun l hl=>by simp at hl⟩,by simp,by omega⟩ ?_ h hok;simp [zC]
  · rename_i hl;cases h;exact absurd hok hl
theorem yR: ∀(ds:List mP) (acc:Bs),(∀d∈ds,bCg d)→ ∃t,kC ds acc=some t
  | [],acc,_=>⟨acc,rfl⟩
  | d::ds,acc,h=>by
    rw [kC];split
    · exact yR ds _ fun x hx=>h x (by simp [hx])
    · rename_i he;rw [if_pos ((h d (by simp)).ok.resolve_left he)];exact yR ds _ fun x hx=>h x (by simp [hx])
theorem bDg: ∀(xs:List dX) (o:Bs),(∀x∈xs,InOk x)→ ∃o',iO xs o=(o',true)
  | [],o,_=>⟨o,rfl⟩
  | x::xs,o,h=>by
    obtain⟨h1,h2,h3⟩:=h x (by simp);obtain⟨t,ht⟩:=yR x.sides x.name fun d hd=>(h3 d hd).1
    have hi:mJ x=some t:=by
      unfold mJ;rw [if_neg (by rw [h1];simp;omega),ht]
    rw [iO,hi];exact bDg xs _ fun y hy=>h y (by simp [hy])
theorem bGv{z:lK}(hz:LastOk z): ∀(L:List lK) (o:Bs),(∀l∈L,LnOk l)→ ∃o',fK (L++[z]) o=(o',true)
  | [],o,_=>by
    obtain⟨t,ht⟩:=hz.2.expr;refine⟨o++(([111,117,116,32]++t)++[10]),?_⟩;show fK [z] o=_;simp only [fK];rw [ht];simp only [hz.1,ne_eq,not_true_eq_false,if_false]
  | l::L,o,h=>by
    obtain⟨h1,h2⟩:=h l (by simp);obtain⟨t,ht⟩:=h2.expr;obtain⟨o',ho⟩:=bGv hz L (o++(((l.name++[58,32])++t)++[10])) fun y hy=>h y (by simp [hy]);refine⟨o',?_⟩
    obtain⟨m,M,hM⟩: ∃m M,L++[z]=m::M:=by
      cases L with
      | nil=>exact⟨z,[],rfl⟩
      | cons m M=>exact⟨m,M++[z],rfl⟩
    rw [List.cons_append];rw [hM] at ho⊢
    have:fK (l::m::M) o=match gM l.items 254 with
        | none=>(o,false)
        | some t=>if dW l.name=false then (o,false) else fK (m::M) (o++(((l.name++[58,32])++t)++[10])):=rfl
    rw [this,ht];simp only;rw [if_neg (by rw [h1];simp)];exact ho
theorem PSt.lines_ne{p:Prog}{n:Nat}(h:PSt p n true):p.lines≠[]:=by
  rcases h.lns with ⟨h,_⟩ | ⟨_,L,z,h,_⟩
  · cases h
  · rw [h];simp
theorem PSt.right{p:Prog}(h:PSt p 64 true):(dS p).2=true:=by
  unfold dS;rw [if_neg]
  · obtain⟨o,ho⟩:=bDg p.inputs [] h.ins;rw [ho]
    rcases h.lns with ⟨h,_⟩ | ⟨_,L,z,hl,hL,hz⟩
    · cases h
    · obtain⟨o',ho'⟩:=bGv hz L o hL;simp only [hl,ho']
  · have:=h.num;rintro(h' | h')
    · exact h.lines_ne h'
    · omega
theorem PSt.rng{p:Prog}{n:Nat}(h:PSt p n true):RngP p:=by
  refine⟨fun x hx d hd=>((h.ins x hx).2.2 d hd).2,fun l hl=>?_⟩
  rcases h.lns with ⟨h,_⟩ | ⟨_,L,z,e,hL,hz⟩
  · cases h
  · rw [e] at hl
    rcases List.mem_append.1 hl with hl | hl
    · exact(hL l hl).2.2
    · rw [List.mem_singleton.1 hl];exact hz.2.2
theorem steps_un: ∀(l:List dN) (st:List fO),fU (gL l) st=fU l st
  | [],_=>rfl
  | x::l,st=>by
    show(match iL st x with
      | none=>none
      | some st'=>fU (gL l) st')=_
    rw [fU]
    cases iL st x with
    | none=>rfl
    | some s=>exact steps_un l s
theorem expr_un(l:List dN)(m:Nat):gM (gL l) m=gM l m:=by
  unfold gM;rw [steps_un];simp [gL]
theorem bKy: ∀(xs:List dX) (o:Bs),iO (xs.map dX.un) o=iO xs o
  | [],_=>rfl
  | x::xs,o=>by
    rw [List.map_cons,iO,iO]
    show(match mJ x with
      | none=>(o,false)
      | some t=>iO (xs.map dX.un) (o++(([105,110,32]++t)++[10])))=_
    cases mJ x with
    | none=>rfl
    | some t=>exact bKy xs _
theorem lines_un: ∀(ls:List lK) (o:Bs),fK (ls.map lK.un) o=fK ls o
  | [],_=>rfl
  | [l],o=>by
    show fK [l.un] o=_;simp only [fK]
    show(match gM (gL l.items) 255 with
      | none=>(o,false)
      | some t=>_)=_
    rw [expr_un];rfl
  | l::m::ls,o=>by
    show(match gM (gL l.items) 254 with
        | none=>(o,false)
        | some t=>if dW l.name=false then (o,false) else fK ((m::ls).map lK.un) (o++(((l.name++[58,32])++t)++[10])))=match gM l.items 254 with
        | none=>(o,false)
        | some t=>if dW l.name=false then (o,false) else fK (m::ls) (o++(((l.name++[58,32])++t)++[10]))
    rw [expr_un]
    cases gM l.items 254 with
    | none=>rfl
    | some t=>
      simp only;split
      · rfl
      · exact lines_un (m::ls) _
theorem yN(p:Prog):dS p.un=dS p:=by
  unfold dS Prog.un;simp only [List.map_eq_nil_iff,List.length_map,bKy,lines_un]
theorem pU{f:Flt}:isOk f=true↔f=(0,0):=by
  constructor
  · intro h;simp only [isOk,mW,Bool.and_eq_true,beq_iff_eq] at h;exact Prod.ext h.1 h.2
  · rintro rfl;rfl
theorem xH{text:Bs}(h:(gI text).2=(0,0)):(dS (gI text).1).2=true∧RngP (gI text).1:=by
  have:=parse_conv (text:=text) (p:=(gI text).1) (flt:=(gI text).2) rfl (pU.2 h);exact⟨this.1.right,this.1.rng⟩
end Go.Proofs.YtbgdphbebhjpiaaGreatDoor
namespace Go.Proofs.YtbgdphbebhjpiaaGreatDoor
open Go.RowKit
end Go.Proofs.YtbgdphbebhjpiaaGreatDoor
