/- Texts of one proof, one behind the other: TwoLex, ParseB, ParseC. -/
import Derived.Test.YtbgdphbebhjpiaaGreatDoorM5
namespace Go.Proofs.YtbgdphbebhjpiaaGreatDoor
open Go.RowKit
theorem bAd{p:UInt8→Bool}{c:UInt8}{x:Bs}(hc:p c=false): ∀s:Bs,runB p (s++c::x)=runB p s
  | []=>by simp [runB,hc]
  | b::s=>by rw [List.cons_append,runB,runB,bAd hc s]
theorem bLg{p:UInt8→Bool}: ∀{s:Bs},(∀b∈s,p b=true)→runB p s=s.length
  | [],_=>rfl
  | b::s,h=>by rw [runB,if_pos (h b (by simp)),bLg fun x hx=>h x (by simp [hx])];rfl
theorem bAy{s x:Bs}{k:Nat}(h:k≤s.length):(s++x).take k=s.take k:=List.take_append_of_le_length h
theorem numTok_sep{b c:UInt8}{r x:Bs}(hc:dG c=false):gK b (r++c::x)=gK b r:=by
  unfold gK;dsimp only
  by_cases hb:(b==95)=true
  · simp only [hb,if_true,bAd hc];rw [bAy (iU _ _)]
  · simp only [hb,Bool.false_eq_true,if_false];rw [←List.cons_append,bAd hc,bAy (iU _ _)]
theorem signP_sep{b c:UInt8}{r x:Bs}(hc:c≠61):signP (b::(r++c::x))=signP (b::r):=by
  cases r with
  | nil=>simp [signP,hc]
  | cons d r=>rfl
theorem signP_len(b:UInt8)(r:Bs):signP (b::r)≤(b::r).length:=by
  simp only [signP];split
  · rename_i h
    cases r with
    | nil=>simp at h
    | cons d r=>simp
  · split<;>simp
theorem bGx{b c:UInt8}{r x:Bs}(hw:jG c=false)(hd:dG c=false)(hc:c≠61):fA (b::(r++c::x))=fA (b::r):=by
  have e:runB jG (b::(r++c::x))=runB jG (b::r):=bAd hw (b::r);have e2:(b::(r++c::x)).take (runB jG (b::r))=(b::r).take (runB jG (b::r)):=bAy (iU jG (b::r));have e3:(b::(r++c::x)).take (signP (b::r))=(b::r).take (signP (b::r)):=bAy (signP_len b r);simp only [fA,e,e2,numTok_sep hd,signP_sep hc,e3]
theorem Lx.bl{b:UInt8}{rest:Bs}(hb:iS b=true):Lx [b] [] rest:=fun i out=>⟨[],rfl,by
  show lexGo (b::rest).length i (b::rest) out=_;rw [iR,if_pos hb,List.append_nil]
  rfl⟩
theorem Lx.note{t rest:Bs}(hs: ∀b∈t,b≠10)(hr:rest=[]∨ ∃r,rest=10::r):Lx (35::t) [] rest:=fun i out=>⟨[],rfl,by
  have h1: ∀b∈(35::t:Bs),(b !=10)=true:=fun b hb=>by
    rcases List.mem_cons.1 hb with rfl | hb
    · decide
    · simpa using hs b hb
  have hk:runB (· !=10) (35::(t++rest))=(35::t).length:=by
    rcases hr with rfl | ⟨r,rfl⟩
    · rw [List.append_nil];exact bLg h1
    · exact bAg (p:=(· !=10)) (by decide) (35::t) h1
  rw [List.cons_append,iR,if_neg (by decide),if_pos (by decide),hk,List.append_nil]
  rw [←List.cons_append,List.drop_left]⟩
theorem Lx.fails{s:Bs}{T:List Tk}{rest:Bs}(h:Lx s T rest)(k: ∀i out,isOk (lexGo rest.length i rest out).2=false)(i:Nat)(out:List Tok):isOk (lexGo (s++rest).length i (s++rest) out).2=false:=by
  obtain⟨L,_,e⟩:=h i out;rw [e];exact k _ _
def bCu (x y a:Bs):Prop:=
  (∃T,Lx a T (10::x)∧Lx a T (41::y))∨
  (∃T s R,Lx a T (10::x)∧a++41::y=s++R∧(R=[]∨ ∃r,R=10::r)∧Lx s T R)∨
  (∀i out,isOk (lexGo (a++10::x).length i (a++10::x) out).2=false)
theorem bCu.step{x y s a:Bs}{T:List Tk}(h1:Lx s T (a++10::x))(h2:Lx s T (a++41::y))(h:bCu x y a):bCu x y (s++a):=by
  rcases h with ⟨U,k1,k2⟩ | ⟨U,u,R,k1,k2,k3,k4⟩ | h
  · exact .inl ⟨T++U,h1.append k1,h2.append k2⟩
  · refine .inr (.inl ⟨T++U,s++u,R,h1.append k1,by rw [List.append_assoc,k2,List.append_assoc],k3,Lx.append ?_ k4⟩);rw [←k2];exact h2
  · refine .inr (.inr fun i out=>?_);rw [List.append_assoc];exact h1.fails h i out
theorem bJq{t:Bs}: ∃s a,t=s++a∧(∀b∈s,b≠10)∧(a=[]∨ ∃r,a=10::r):=by
  induction t with
  | nil=>exact⟨[],[],rfl,by simp,.inl rfl⟩
  | cons b t ih=>
    by_cases hb:b=10
    · exact⟨[],b::t,rfl,by simp,.inr ⟨t,by rw [hb]⟩⟩
    · obtain⟨s,a,rfl,h1,h2⟩:=ih;exact⟨b::s,a,rfl,fun c hc=>by rcases List.mem_cons.1 hc with rfl | hc;exact hb;exact h1 c hc,h2⟩
theorem tok_lx{b c:UInt8}{r x:Bs}{k v:Int}{wd:Bs}{m:Nat}(hw:jG c=false)(hd:dG c=false)(hc:c≠61)(ht:fA (b::r)= .ok (k,wd,v,m))(hb:iS b=false)(h35:(b==35)=false)(hm:m≤(b::r).length)(h1:1≤m):
    Lx ((b::r).take m) [⟨k,wd,v⟩] ((b::r).drop m++c::x):=by
  obtain⟨m,rfl⟩: ∃q,m=q+1:=⟨m-1,by omega⟩
  refine Lx.tok ?_ hb h35;show fA ((b::r).take (m+1)++((b::r).drop (m+1)++c::x))=_;rw [←List.append_assoc,List.take_append_drop,List.cons_append,bGx hw hd hc,ht];have:((b::r).take (m+1)).length=m+1:=by rw [List.length_take];omega
  rw [List.take_succ_cons] at this;rw [this]
theorem bFk(x y:Bs): ∀(n:Nat) (a:Bs),a.length≤n→bCu x y a
  | _,[],_=> .inl ⟨[],Lx.nil,Lx.nil⟩
  | 0,b::r,h=>by simp at h
  | n+1,b::r,h=>by
    simp only [List.length_cons] at h
    by_cases hb:iS b=true
    · exact bCu.step (s:=[b]) (Lx.bl hb) (Lx.bl hb) (bFk x y n r (by omega))
    · have hb:iS b=false:=by simpa using hb
      by_cases h35:b=35
      · subst h35;obtain⟨s,a,rfl,h1,h2⟩:=bJq (t:=r)
        rcases h2 with rfl | ⟨a,rfl⟩
        · rw [List.append_nil];obtain⟨s',R,e,h3,h4⟩:=bJq (t:=(41::y:Bs));exact .inr (.inl ⟨[],35::(s++s'),R,Lx.note h1 (.inr ⟨x,rfl⟩),by rw [e];simp,h4,Lx.note (fun c hc=>(List.mem_append.1 hc).elim (h1 c) (h3 c)) h4⟩)
        · exact bCu.step (s:=35::s) (a:=10::a) (Lx.note h1 (.inr ⟨a++10::x,rfl⟩)) (Lx.note h1 (.inr ⟨a++41::y,rfl⟩)) (bFk x y n (10::a) (by simp at h⊢;omega))
      · have h35:(b==35)=false:=by simpa using h35
        cases ht:fA (b::r) with
        | error e=>
          refine .inr (.inr fun i out=>?_);rw [List.cons_append,iR,hb,if_neg (by simp),h35,if_neg (by simp),bGx (by decide) (by decide) (by decide),ht];exact fX (bAs ht)
        | ok q=>
          obtain⟨k,wd,v,m⟩:=q;obtain⟨m1,m2⟩:1≤m∧m≤(b::r).length:=pE ht;have hs:bCu x y ((b::r).drop m):=bFk x y n _ (by rw [List.length_drop,List.length_cons];omega);have:=bCu.step (tok_lx (c:=10) (by decide) (by decide) (by decide) ht hb h35 m2 m1) (tok_lx (c:=41) (by decide) (by decide) (by decide) ht hb h35 m2 m1) hs
          rwa [List.take_append_drop] at this
theorem lex_one: ∀(n:Nat) (a:Bs),a.length≤n→(∃T,Lx a T [])∨ ∀i out,isOk (lexGo a.length i a out).2=false
  | _,[],_=> .inl ⟨[],Lx.nil⟩
  | 0,b::r,h=>by simp at h
  | n+1,b::r,h=>by
    simp only [List.length_cons] at h
    have key: ∀{s a:Bs} {T:List Tk},b::r=s++a→Lx s T a→a.length≤n→(∃T,Lx (b::r) T [])∨ ∀i out,isOk (lexGo (b::r).length i (b::r) out).2=false:=fun{s a T} e h1 hl=>by
      rw [e]
      rcases lex_one n a hl with ⟨U,k⟩ | k
      · exact .inl ⟨T++U,Lx.append (by rw [List.append_nil];exact h1) k⟩
      · exact .inr (h1.fails k)
    by_cases hb:iS b=true
    · exact key (s:=[b]) rfl (Lx.bl hb) (by omega)
    · have hb:iS b=false:=by simpa using hb
      by_cases h35:b=35
      · subst h35;obtain⟨s,a,rfl,h1,h2⟩:=bJq (t:=r);exact key (s:=35::s) (a:=a) rfl (Lx.note h1 h2) (by simp at h;omega)
      · have h35:(b==35)=false:=by simpa using h35
        cases ht:fA (b::r) with
        | error e=>
          refine .inr fun i out=>?_;rw [iR,hb,if_neg (by simp),h35,if_neg (by simp),ht];exact fX (bAs ht)
        | ok q=>
          obtain⟨k,wd,v,m⟩:=q;obtain⟨m1,m2⟩:1≤m∧m≤(b::r).length:=pE ht;refine key (s:=(b::r).take m) (a:=(b::r).drop m) (List.take_append_drop ..).symm (T:=[⟨k,wd,v⟩]) ?_ (by rw [List.length_drop,List.length_cons];omega)
          obtain⟨m,rfl⟩: ∃q,m=q+1:=⟨m-1,by omega⟩
          refine Lx.tok ?_ hb h35;show fA ((b::r).take (m+1)++(b::r).drop (m+1))=_;rw [List.take_append_drop,ht];have:((b::r).take (m+1)).length=m+1:=by rw [List.length_take];omega
          rw [List.take_succ_cons] at this;rw [this]
def unS (st:Stk):Stk:=st.map (Option.map dN.un)
theorem fin_un: ∀{a b:Stk},unS a=unS b→gL (jA a).1=gL (jA b).1∧unS (jA a).2=unS (jA b).2
  | [],[],_=>⟨rfl,rfl⟩
  | none::a,none::b,h=>⟨rfl,h⟩
  | some x::a,some y::b,h=>by
    simp only [unS,List.map_cons,Option.map_some,List.cons.injEq,Option.some.injEq] at h;obtain⟨h1,h2⟩:=fin_un (a:=a) (b:=b) h.2;refine⟨?_,h2⟩;simp only [jA,gL,List.map_cons,h.1] at h1⊢;rw [h1]
  | [],_::_,h=>by simp [unS] at h
  | _::_,[],h=>by simp [unS] at h
  | none::a,some y::b,h=>by simp [unS] at h
  | some x::a,none::b,h=>by simp [unS] at h
theorem zR: ∀{a b:Stk},unS a=unS b→iJ a=iJ b
  | [],[],_=>rfl
  | none::a,none::b,h=>by
    simp only [unS,List.map_cons,List.cons.injEq] at h;rw [iJ,iJ,zR h.2]
  | some x::a,some y::b,h=>by
    simp only [unS,List.map_cons,List.cons.injEq] at h;rw [iJ,iJ,zR h.2]
  | [],_::_,h=>by simp [unS] at h
  | _::_,[],h=>by simp [unS] at h
  | none::a,some y::b,h=>by simp [unS] at h
  | some x::a,none::b,h=>by simp [unS] at h
theorem fin_base: ∀{a base:Stk},0<iJ a→jA (a++base)=((jA a).1,(jA a).2++base)
  | [],_,h=>by simp [iJ] at h
  | none::a,_,_=>rfl
  | some x::a,base,h=>by rw [List.cons_append,jA,fin_base (a:=a) h];rfl
theorem fin_flat: ∀{a:Stk},iJ a=0→ ∃S,a=S.map some∧(jA a).1=S
  | [],_=>⟨[],rfl,rfl⟩
  | none::a,h=>by simp [iJ] at h
  | some x::a,h=>by
    obtain⟨S,h1,h2⟩:=fin_flat (a:=a) h;exact⟨x::S,by rw [h1];rfl,by rw [jA,h2]⟩
section
variable {toks1 toks2 : List TokV} {k1 k2 : Nat} {e1 e2 : Int} {t : Tk} {T R : List Tk} {left : Bool}
theorem nums_two(hR: ∀u∈R.head?,u.kind≠2): ∀{T:List Tk} {k1 k2:Nat},fP toks1 k1 T→fP toks2 k2 (T++R)→ ∃A B,T=A++B∧A.length=(fW toks1 k1).length∧fW toks1 k1=fW toks2 k2
  | [],k1,k2,h1,h2=>⟨[],[],rfl,by rw [pZ (by rw [h1.nil.1];decide)];rfl,by rw [pZ (by rw [h1.nil.1];decide),pZ (fP.kindR (R:=R) h2 (by decide) hR)]⟩
  | t::T,k1,k2,h1,h2=>by
    have h2:fP toks2 k2 (t::(T++R)):=h2
    by_cases hk:t.kind=2
    · obtain⟨A,B,e,hl,hn⟩:=nums_two hR h1.next h2.next
      refine⟨t::A,B,by rw [e];rfl,?_,?_⟩
      · rw [mB (by rw [h1.kind];exact hk),List.length_cons,List.length_cons,hl]
      · rw [mB (toks:=toks1) (k:=k1) (by rw [h1.kind];exact hk),mB (toks:=toks2) (k:=k2) (by rw [h2.kind];exact hk),hn,h1.num,h2.num]
    · exact⟨[],t::T,rfl,by rw [pZ (by rw [h1.kind];exact hk)];rfl,by rw [pZ (by rw [h1.kind];exact hk),pZ (by rw [h2.kind];exact hk)]⟩
def phI (w:Bs)(c:Bool)(w2:Bs)(left:Bool):dN×Bool:=
  if c=true then (if 17<gO w∨(w2==[46])≠left then (⟨if left then 4 else 3,0,gO w,[],[]⟩,false)
    else (⟨if w2=[47] then 5 else if w2=[92] then 6 else 7,0,gO w,[],[]⟩,!(gO w==0)))
  else (⟨if left then 4 else 3,0,gG w left,[],[]⟩,!(gG w left==0))
def oR (t:TokV):Bool:=t.kind==3&&(t.word==[47] || t.word==[92] || t.word==[46])
theorem ok_if{a:Int}{c:Int}:isOk (if c=0 then (a,43) else (0,0))= !(c==0):=by
  by_cases h:c=0
  · rw [if_pos h,zO,h];rfl
  · rw [if_neg h,bFm]
    simpa using h
theorem bMq(toks:List TokV)(k:Nat)(e:Int)(left:Bool):((bU toks k e left).it.un,isOk (bU toks k e left).flt)=phI (bQ toks k).word (oR (bQ toks (k+1))) (bQ toks (k+1)).word left∧
    (bU toks k e left).next=k+if oR (bQ toks (k+1))=true then 2 else 1:=by
  unfold bU phI
  by_cases h:(bQ toks (k+1)).kind=3∧((bQ toks (k+1)).word=[47]∨(bQ toks (k+1)).word=[92]∨(bQ toks (k+1)).word=[46])
  · have hm:oR (bQ toks (k+1))=true:=by
      unfold oR;simp only [Bool.and_eq_true,Bool.or_eq_true,beq_iff_eq];exact⟨h.1,by rcases h.2 with h | h | h<;>simp [h]⟩
    rw [if_pos h,hm,if_pos rfl,if_pos rfl];split
    · exact⟨by rw [zO];rfl,rfl⟩
    · refine⟨?_,rfl⟩;simp only [Phr.it,dN.un,ok_if]
  · have hm:oR (bQ toks (k+1))=false:=by
      rw [Bool.eq_false_iff];intro hm;unfold oR at hm;simp only [Bool.and_eq_true,Bool.or_eq_true,beq_iff_eq] at hm;exact h ⟨hm.1,by rcases hm.2 with (h | h) | h<;>simp [h]⟩
    rw [if_neg h,hm];refine⟨?_,rfl⟩;rw [if_neg (show ¬(false=true) by simp)];simp only [Phr.it,dN.un,ok_if]
theorem markB_tk{t:TokV}{u:Tk}(h:t.tk=u)(hm: ¬Mark u):oR t=false:=by
  rw [Bool.eq_false_iff];intro hb;unfold oR at hb;simp only [Bool.and_eq_true,Bool.or_eq_true,beq_iff_eq] at hb;subst h;exact hm ⟨hb.1,by rcases hb.2 with (h | h) | h<;>simp [TokV.tk,h]⟩
theorem bHi(h1:fP toks1 k1 (t::T))(h2:fP toks2 k2 (t::(T++R)))(hR: ∀u∈R.head?,¬Mark u)(e1 e2:Int)(left:Bool):
    (bU toks1 k1 e1 left).it.un=(bU toks2 k2 e2 left).it.un∧isOk (bU toks1 k1 e1 left).flt=isOk (bU toks2 k2 e2 left).flt∧
    ∃A B d,t::T=A++B∧A.length=d∧1≤d∧(bU toks1 k1 e1 left).next=k1+d∧(bU toks2 k2 e2 left).next=k2+d:=by
  obtain⟨a1,b1⟩:=bMq toks1 k1 e1 left;obtain⟨a2,b2⟩:=bMq toks2 k2 e2 left;rw [h1.word] at a1;rw [h2.word] at a2
  have key:(oR (bQ toks1 (k1+1))=false∧oR (bQ toks2 (k2+1))=false)∨(oR (bQ toks1 (k1+1))=oR (bQ toks2 (k2+1))∧(bQ toks1 (k1+1)).word=(bQ toks2 (k2+1)).word∧T≠[]):=by
    cases T with
    | nil=>
      refine .inl ⟨by rw [h1.next.nil.1];rfl,?_⟩;have f2:fP toks2 (k2+1) R:=h2.next
      cases R with
      | nil=>rw [f2.nil.1];rfl
      | cons u R=>exact markB_tk f2.peek (hR u rfl)
    | cons u T=>
      have f1:=h1.next
      have f2:fP toks2 (k2+1) (u::(T++R)):=h2.next
      exact .inr ⟨by unfold oR;rw [f1.kind,f1.word,f2.kind,f2.word],by rw [f1.word,f2.word],by simp⟩
  have e:phI t.word (oR (bQ toks1 (k1+1))) (bQ toks1 (k1+1)).word left=phI t.word (oR (bQ toks2 (k2+1))) (bQ toks2 (k2+1)).word left:=by
    rcases key with ⟨m1,m2⟩ | ⟨m,w,_⟩
    · rw [m1,m2];rfl
    · rw [m,w]
  have em:oR (bQ toks1 (k1+1))=oR (bQ toks2 (k2+1)):=by
    rcases key with ⟨m1,m2⟩ | ⟨m,_,_⟩
    · rw [m1,m2]
    · exact m
  have ea:=a1.trans (e.trans a2.symm);injection ea with ea eb
  refine⟨ea,eb,?_⟩;rw [b1,b2,em]
  cases hm:oR (bQ toks2 (k2+1)) with
  | false=>exact⟨[t],T,1,rfl,rfl,Nat.le_refl _,rfl,rfl⟩
  | true=>
    rcases key with ⟨_,m2⟩ | ⟨_,_,hT⟩
    · rw [hm] at m2;cases m2
    · cases T with
      | nil=>exact absurd rfl hT
      | cons u T=>exact⟨[t,u],T,2,rfl,rfl,by omega,rfl,rfl⟩
end
theorem fP.app{toks:List TokV}{k:Nat}{A B:List Tk}{T:List Tk}(h:fP toks k T)(e:T=A++B):fP toks (k+A.length) B:=by
  subst e;exact fP.skip A h
section
variable {toks1 toks2 : List TokV} {e1 e2 : Int} {r2 : qH} {R : List Tk} {B C I : List dN} {base : Stk} {ob : Nat}
def Meets (toks2:List TokV)(e2:Int)(r2:qH)(B C I:List dN)(base:Stk)(ob k:Nat):Prop:=
  isOk r2.2=false∨ ∃out' S I',I=C++I'∧gL (out'++S)=gL I'∧tQ toks2 e2 r2 k (B++out') (S.map some++base) ob
def SimE (toks1:List TokV)(e1:Int)(toks2:List TokV)(e2:Int)(r2:qH)(R:List Tk)(B C I:List dN)(base:Stk)(ob f:Nat):Prop:=
  ∀(k1:Nat) (out1:List dN) (st1:Stk) (o:Nat) (T:List Tk) (k2:Nat) (out2:List dN) (st2:Stk),fP toks1 k1 T→fP toks2 k2 (T++R)→rR T→iJ st1=o→gL out1=gL out2→unS st1=unS st2→
    iX toks1 e1 f k1 (C++out1) st1 o=(I,(0,0))→T.length<f→xX toks2 e2 r2 k2 (B++out2) (st2++base) (o+ob)→Meets toks2 e2 r2 B C I base ob (k2+T.length)
theorem bBq{a:Int}{c:Int}{I:List dN}(hc:c≠0)(h:(([],(a,c)):qH)=(I,(0,0))):False:=by
  injection h with _ h
  injection h with _ h
  exact hc h
theorem sim_b(hR: ∀u∈R.head?,u.kind≠2∧ ¬Mark u){f:Nat}(ih:SimE toks1 e1 toks2 e2 r2 R B C I base ob f): ∀(o k1:Nat) (out1:List dN) (st1:Stk) (T:List Tk) (k2:Nat) (out2:List dN) (st2:Stk),fP toks1 k1 T→fP toks2 k2 (T++R)→rR T→iJ st1=o→
    gL out1=gL out2→unS st1=unS st2→nI toks1 e1 (iX toks1 e1 f) o k1 (C++out1) st1=(I,(0,0))→T.length≤f→tQ toks2 e2 r2 k2 (B++out2) (st2++base) (o+ob)→Meets toks2 e2 r2 B C I base ob (k2+T.length)
  | o,k1,out1,st1,[],k2,out2,st2,h1,_,_,ho,hu,hs,hg,_,hB=>by
    have hp:=h1.nil.1
    have hg:sS toks1 e1 (iX toks1 e1 f) o k1 (C++out1) st1=(I,(0,0)):=by
      cases o with
      | zero=>exact hg
      | succ o=>rw [nI,if_neg (by rw [hp];simp)] at hg;exact hg
    rw [sS,if_pos (by rw [hp])] at hg
    by_cases h0:0<o
    · rw [if_pos h0] at hg;exact(bBq (by decide) hg).elim
    · rw [if_neg h0] at hg;injection hg with hI _
      have h0:o=0:=by omega
      subst h0;obtain⟨S,e1,e2⟩:=fin_flat (a:=st2) (by rw [←zR hs,ho]);refine .inr ⟨out2,S,out1++(jA st1).1,by rw [←hI,List.append_assoc],?_,?_⟩
      · rw [iB,iB,hu,(fin_un hs).1,e2]
      · rw [←e1]
        simpa using hB
  | o,k1,out1,st1,t::T,k2,out2,st2,h1,h2,hn,ho,hu,hs,hg,hf,hB=>by
    have h2:fP toks2 k2 (t::(T++R)):=h2;have h4:t.kind≠4:=hn t (by simp);have hn':rR T:=fun u hu=>hn u (by simp [hu]);simp only [List.length_cons] at hf
    by_cases hc:0<o∧t.kind=3∧t.word=[41]
    · obtain⟨o,rfl⟩: ∃q,o=q+1:=⟨o-1,by omega⟩
      rw [nI,if_pos (by rw [h1.kind,h1.word];exact hc.2)] at hg;have hb:=bFl hB (by omega) (by rw [h2.kind];exact hc.2.1) (by rw [h2.word];exact hc.2.2);have ho2:0<iJ st2:=by rw [←zR hs];omega
      rw [fin_base ho2,show o+1+ob-1=o+ob from by omega] at hb;simp only at hb
      rcases wG st1 with ⟨_,k⟩ | ⟨r1,k,l⟩
      · omega
      rcases wG st2 with ⟨_,k'⟩ | ⟨r2',k',l'⟩
      · omega
      rw [k,List.append_assoc] at hg;rw [k',List.cons_append,List.tail_cons,List.append_assoc] at hb;obtain⟨u1,u2⟩:=fin_un hs;have:=sim_b hR ih o (k1+1) _ _ T (k2+1) _ _ h1.next h2.next hn' (by rw [List.tail_cons];omega) (by rw [iB,iB,hu,u1]) (by rw [k,k'] at u2;simpa [unS] using u2) hg (by omega) hb
      rw [List.length_cons,show k2+(T.length+1)=k2+1+T.length from by omega];exact this
    · have hg:sS toks1 e1 (iX toks1 e1 f) o k1 (C++out1) st1=(I,(0,0)):=by
        cases o with
        | zero=>exact hg
        | succ o=>rw [nI,if_neg (by rw [h1.kind,h1.word];exact fun h=>hc ⟨by omega,h⟩)] at hg;exact hg
      rw [sS,if_neg (by rw [h1.kind];exact h4)] at hg;split at hg
      · exact(bBq (by decide) hg).elim
      · rename_i hv;simp only [h1.kind,h1.word,not_or,Bool.not_eq_false] at hv;obtain⟨p1,p2,A,T',d,p3,p4,p5,p6,p7⟩:=bHi h1 h2 (fun u hu=>(hR u hu).2) e1 e2 true;have hr:=pG hB (.inr (.inr (by rw [h2.word];intro hw;rw [hw,close_verb] at hv;exact absurd hv.2 (by simp)))) (by rw [h2.kind];exact h4) (by rw [h2.kind];exact hv.1) (by rw [h2.word];exact hv.2);split at hg
        · rename_i hok;have hE:=hr.1 (by rw [←p2];exact hok);rw [p6] at hg;rw [p7,←List.cons_append] at hE;have f1:fP toks1 (k1+d) T':=by rw [←p4];exact fP.app h1 p3
          have f2:fP toks2 (k2+d) (T'++R):=by rw [←p4];exact fP.app (T:=(t::T)++R) h2 (by rw [p3,List.append_assoc])
          have hl:(t::T).length=d+T'.length:=by rw [p3,List.length_append,p4]
          have:=ih (k1+d) out1 (some (bU toks1 k1 e1 true).it::st1) o T' (k2+d) out2 (some (bU toks2 k2 e2 true).it::st2) f1 f2 (fun u hu=>hn u (by rw [p3];exact List.mem_append_right _ hu)) ho hu (by simp only [unS,List.map_cons,Option.map_some] at hs⊢;rw [p1,hs]) hg (by simp at hl;omega) hE;rw [hl,←Nat.add_assoc];exact this
        · rename_i hok;injection hg with _ hg
          rw [hg] at hok;exact absurd bFm hok
theorem sim_e(hR: ∀u∈R.head?,u.kind≠2∧ ¬Mark u): ∀f,SimE toks1 e1 toks2 e2 r2 R B C I base ob f
  | 0=>fun _ _ _ _ _ _ _ _ _ _ _ _ _ _ _ h _=>absurd h (Nat.not_lt_zero _)
  | f+1=>fun k1 out1 st1 o T k2 out2 st2 h1 h2 hn ho hu hs hg hf hE=>by
    have ih:=sim_e hR f
    cases T with
    | nil=>
      have hp:=h1.nil.1;rw [iX,if_neg (by rw [hp];simp),if_neg (by rw [hp];simp),if_neg (by rw [hp];simp),if_neg (by rw [hp];simp),if_neg (by rw [hp];simp)] at hg;exact(bBq (by decide) hg).elim
    | cons t T=>
      have h2:fP toks2 k2 (t::(T++R)):=h2;have h4:t.kind≠4:=hn t (by simp);have hn':rR T:=fun u hu=>hn u (by simp [hu]);simp only [List.length_cons] at hf;rw [iX] at hg;simp only [h1.kind,h1.word] at hg;split at hg
      · rename_i hv;obtain⟨p1,p2,A,T',d,p3,p4,p5,p6,p7⟩:=bHi h1 h2 (fun u hu=>(hR u hu).2) e1 e2 false;have hr:=e_verb hE (by rw [h2.kind];exact hv.1) (by rw [h2.kind];exact h4) (by rw [h2.word];exact hv.2.2);split at hg
        · rename_i hok;have hE:=hr.1 (by rw [←p2];exact hok);rw [p6] at hg;rw [p7,←List.cons_append] at hE;have f1:fP toks1 (k1+d) T':=by rw [←p4];exact fP.app h1 p3
          have f2:fP toks2 (k2+d) (T'++R):=by rw [←p4];exact fP.app (T:=(t::T)++R) h2 (by rw [p3,List.append_assoc])
          have hl:(t::T).length=d+T'.length:=by rw [p3,List.length_append,p4]
          have:=ih (k1+d) out1 (some (bU toks1 k1 e1 false).it::st1) o T' (k2+d) out2 (some (bU toks2 k2 e2 false).it::st2) f1 f2 (fun u hu=>hn u (by rw [p3];exact List.mem_append_right _ hu)) ho hu (by simp only [unS,List.map_cons,Option.map_some] at hs⊢;rw [p1,hs]) hg (by simp at hl;omega) hE;rw [hl,←Nat.add_assoc];exact this
        · rename_i hok;injection hg with _ hg
          rw [hg] at hok;exact absurd bFm hok
      · rename_i hv;split at hg
        · rename_i hop;have hr:=bCb hE (by rw [h2.kind];exact hop.1) (by rw [h2.word];exact hop.2);split at hg
          · exact(bBq (by decide) hg).elim
          · by_cases h32:o+ob=32
            · refine .inl ?_;rw [hr.2 h32];exact fX (by decide)
            · have hE:=hr.1 h32;rw [←List.cons_append,show o+ob+1=o+1+ob from by omega] at hE;have:=ih (k1+1) out1 (none::st1) (o+1) T (k2+1) out2 (none::st2) h1.next h2.next hn' (by rw [iJ,ho]) hu (by simp only [unS,List.map_cons] at hs⊢;rw [hs]) hg (by omega) hE
              rw [List.length_cons,show k2+(T.length+1)=k2+1+T.length from by omega];exact this
        · split at hg
          · rename_i hk2;obtain⟨A,T',e,hl,hnn⟩:=nums_two (fun u hu=>(hR u hu).1) h1 (k2:=k2) (toks2:=toks2) h2;have hB:=e_num hE (by rw [h2.kind];exact hk2);rw [←hnn,←hl] at hB;rw [←hl,List.append_assoc] at hg;have h1l:1≤A.length:=by rw [hl,mB (by rw [h1.kind];exact hk2)];simp
            have f1:fP toks1 (k1+A.length) T':=fP.app h1 e;have f2:fP toks2 (k2+A.length) (T'++R):=fP.app (T:=(t::T)++R) h2 (by rw [e,List.append_assoc]);have hll:(t::T).length=A.length+T'.length:=by rw [e,List.length_append]
            rw [List.append_assoc] at hB;have:=sim_b hR ih o (k1+A.length) _ st1 T' (k2+A.length) (out2++[sD toks2 k2]) st2 f1 f2 (fun u hu=>hn u (by rw [e];exact List.mem_append_right _ hu)) ho (by rw [iB,iB,hu];simp [gL,sD,dN.un,hnn]) hs hg (by simp at hll;omega) hB;rw [hll,←Nat.add_assoc];exact this
          · rename_i hk2;split at hg
            · rename_i hnm;have hB:=e_name hE (by rw [h2.kind];exact hnm.1) (by rw [h2.word];exact hnm.2);rw [List.append_assoc] at hB hg;have:=sim_b hR ih o (k1+1) _ st1 T (k2+1) (out2++[lA toks2 k2]) st2 h1.next h2.next hn' ho (by rw [iB,iB,hu];simp [gL,lA,dN.un,h1.word,h2.word]) hs hg (by omega) hB
              rw [List.length_cons,show k2+(T.length+1)=k2+1+T.length from by omega];exact this
            · split at hg
              · exact(bBq (by decide) hg).elim
              · exact(bBq (by decide) hg).elim
end
end Go.Proofs.YtbgdphbebhjpiaaGreatDoor
namespace Go.Proofs.YtbgdphbebhjpiaaGreatDoor
open Go.RowKit
def rO (x:InputV):Fact:=bIy.sl (.slice x.sides.addr x.sides.list.length x.sides.cap) x.sides.list
def iN (l:List InputV):Fact:=Fact.each l rO
def bJh (x:LineV):Fact:=(lL.sl (.slice x.items.addr x.items.list.length x.items.cap) x.items.list).and (mI x.items.list)
def kL (l:List LineV):Fact:=Fact.each l bJh
theorem bGh{F:List Fact}{l:List InputV}{x:InputV}(h:Has F (iN l))(hx:Has F (rO x)):Has F (iN (l++[x])):=Has.each_snoc h hx
theorem bLh{F:List Fact}{l:List LineV}{x:LineV}(h:Has F (kL l))(hx:Has F (bJh x)):Has F (kL (l++[x])):=Has.each_snoc h hx
section
variable {toks : List TokV} {e : Int} {k : Nat} {acc : List jH}
theorem tC(hk:k<toks.length):toks.drop k=bQ toks k::toks.drop (k+1)∧(bQ toks k).at_=atP toks k e:=by
  have h:toks[k]?=some toks[k]:=List.getElem?_eq_getElem hk;rw [qX h,zB h];exact⟨List.drop_eq_getElem_cons hk,rfl⟩
theorem bNl(hk:k<toks.length)(h2:(bQ toks k).kind≠2)(hn:(bQ toks k).kind≠1∨dW (bQ toks k).word=false){a:List mP}:kJ (toks.drop k) a=(a,(atP toks k e,41)):=by
  rw [(tC (e:=e) hk).1,kJ,if_pos ⟨h2,hn⟩,(tC (e:=e) hk).2]
theorem sides_ok(hn:(bQ toks k).kind=2∨(bQ toks k).kind=1∧dW (bQ toks k).word=true): ¬((bQ toks k).kind≠2∧((bQ toks k).kind≠1∨dW (bQ toks k).word=false)):=by
  rintro⟨h1,h2⟩
  rcases hn with hn | ⟨a,b⟩
  · exact h1 hn
  · rcases h2 with h2 | h2
    · exact h2 a
    · rw [b] at h2;cases h2
theorem bIs(hk:k<toks.length)(hn:(bQ toks k).kind=2∨(bQ toks k).kind=1∧dW (bQ toks k).word=true){a:List mP}(h4:a.length=4):kJ (toks.drop k) a=(a,(atP toks k e,45)):=by
  rw [(tC (e:=e) hk).1,kJ,if_neg (sides_ok hn),if_pos h4,(tC (e:=e) hk).2]
theorem bIl(hk:k<toks.length)(hn:(bQ toks k).kind=2∨(bQ toks k).kind=1∧dW (bQ toks k).word=true){a:List mP}(h4:a.length≠4):kJ (toks.drop k) a=kJ (toks.drop (k+1)) (a++[⟨(bQ toks k).word,(bQ toks k).n⟩]):=by
  rw [(tC (e:=0) hk).1,kJ,if_neg (sides_ok hn),if_neg h4]
theorem sides_end(hk:toks.length≤k){a:List mP}:kJ (toks.drop k) a=(a,(0,0)):=by
  rw [List.drop_of_length_le hk];rfl
variable {p : Prog} {n : Nat} {over : Bool}
theorem bBd(hn:n=64):intoP toks e p n over=(p,(atP toks 0 e,45)):=by rw [intoP,if_pos hn]
variable (hn : n ≠ 64)
include hn
theorem bGq(hl:256<toks.length):intoP toks e p n over=(p,(atP toks 256 e,45)):=by rw [intoP,if_neg hn,if_pos hl]
variable (hl : ¬ 256 < toks.length)
include hl
theorem uL(h:over=true∨isW (bQ toks 0) [105,110]=true∧p.lines≠[]):intoP toks e p n over=(p,(atP toks 0 e,40)):=by rw [intoP,if_neg hn,if_neg hl,if_pos h]
variable (ho : over = false)
include ho
theorem i_in(hi:isW (bQ toks 0) [105,110]=true)(h0:p.lines=[]):intoP toks e p n over=(⟨p.inputs++[(jJ toks e).1],p.lines⟩,(jJ toks e).2):=by
  rw [intoP,if_neg hn,if_neg hl,if_neg (by rw [ho,h0];simp),if_pos hi]
variable (hi : isW (bQ toks 0) [105, 110] = false)
include hi
theorem i_out(hu:isW (bQ toks 0) [111,117,116]=true):intoP toks e p n over=(⟨p.inputs,p.lines++[(rW toks e [] 1).1]⟩,(rW toks e [] 1).2):=by
  rw [intoP,if_neg hn,if_neg hl,if_neg (by rw [ho,hi];simp),if_neg (by rw [hi];simp),if_pos hu]
variable (hu : isW (bQ toks 0) [111, 117, 116] = false)
include hu
theorem i_none(h:(bQ toks 0).kind≠1∨dW (bQ toks 0).word=false):intoP toks e p n over=(p,(atP toks 0 e,40)):=by
  rw [intoP,if_neg hn,if_neg hl,if_neg (by rw [ho,hi];simp),if_neg (by rw [hi];simp),if_neg (by rw [hu];simp),if_pos h]
variable (h1 : (bQ toks 0).kind = 1) (hm : dW (bQ toks 0).word = true)
include h1 hm
theorem i_want(h:(bQ toks 1).kind≠3∨(bQ toks 1).word≠[58]):intoP toks e p n over=(p,(atP toks 1 e,42)):=by
  rw [intoP,if_neg hn,if_neg hl,if_neg (by rw [ho,hi];simp),if_neg (by rw [hi];simp),if_neg (by rw [hu];simp),if_neg (by rw [h1,hm];simp),if_pos h]
theorem i_line(h3:(bQ toks 1).kind=3)(hw:(bQ toks 1).word=[58]):intoP toks e p n over=(⟨p.inputs,p.lines++[(rW toks e (bQ toks 0).word 2).1]⟩,(rW toks e (bQ toks 0).word 2).2):=by
  rw [intoP,if_neg hn,if_neg hl,if_neg (by rw [ho,hi];simp),if_neg (by rw [hi];simp),if_neg (by rw [hu];simp),if_neg (by rw [h1,hm];simp),if_neg (by rw [h3,hw];simp)]
end
theorem bEz{toks:List TokV}{e:Int}{p:Prog}{n:Nat}{over:Bool}(h:isOk (intoP toks e p n over).2=true):n≠64∧(intoP toks e p n over).1.inputs.length+(intoP toks e p n over).1.lines.length≤p.inputs.length+p.lines.length+1:=by
  refine⟨fun hn=>?_,?_⟩
  · rw [bBd hn] at h;simp [isOk,mW] at h
  · unfold intoP
    repeat' split
    all_goals (first | (simp;done) | (simp;omega))
theorem isW_ne{t:TokV}{w:Bs}(h:t.kind≠1):isW t w=false:=by simp [isW,h]
theorem isW_is{t:TokV}{w:Bs}(h:t.kind=1)(hw:t.word=w):isW t w=true:=by simp [isW,h,hw]
theorem isW_no{t:TokV}{w:Bs}(hw:t.word≠w):isW t w=false:=by simp [isW,hw]
theorem xF{i:List dX}{l:List LineV}(h: ¬0<l.length):false=nC ⟨i,l.map LineV.ln⟩:=by
  have:l=[]:=List.eq_nil_of_length_eq_zero (by omega);subst this;rfl
theorem xE{i:List dX}{l:List LineV}{x:LineV}(h:l[l.length-1]?=some x):(x.name==[])=nC ⟨i,l.map LineV.ln⟩:=by
  unfold nC;dsimp only;rw [List.getLast?_map,List.getLast?_eq_getElem?,h];rfl
theorem bFn{toks:List TokV}{n:Nat}(hn:n=(ownP toks).length)(h:toks.length≤n):toks.drop n=toks.drop ((ownP toks).length+1):=by
  rw [List.drop_of_length_le h,List.drop_of_length_le (by omega)]
theorem xZ{α β:Type}{f:α→β}{l:List α}(h:0<l.length):l.map f≠[]:=fun e=>by
  have:l=[]:=List.map_eq_nil_iff.1 e;subst this;simp at h
theorem map_nil{α β:Type}{f:α→β}{l:List α}(h: ¬0<l.length):l.map f=[]:=by
  have:l=[]:=List.eq_nil_of_length_eq_zero (by omega);subst this;rfl
def progFct(x:ProgV):Fact:=((jT.sl (.slice x.inputs.addr x.inputs.list.length x.inputs.cap) x.inputs.list).and (iN x.inputs.list)).and ((nR.sl (.slice x.lines.addr x.lines.list.length x.lines.cap) x.lines.list).and (kL x.lines.list))
theorem xB: ∀(f i:Nat) (s:Bs) (out:List Tok),(lexGo f i s out).1.length≤out.length+s.length
  | 0,_,_,out=>by simp [lexGo]
  | _+1,_,[],out=>by simp [lexGo]
  | f+1,i,b::r,out=>by
    unfold lexGo;split
    · have:=xB f (i+1) r out;simp only [List.length_cons];omega
    · split
      · have:=xB f (i+runB (· !=10) (b::r)) ((b::r).drop (runB (· !=10) (b::r))) out;rw [List.length_drop] at this;omega
      · split
        · simp
        · rename_i k wd v m ht;have h1:=xB f (i+m) ((b::r).drop m) (out++[⟨k,i,wd,v⟩]);have h2:=pE ht;simp only [List.length_append,List.length_drop,List.length_cons,List.length_nil] at h1 h2⊢;omega
theorem lex_count(s:Bs):(lexP s).1.length≤65536:=by
  unfold lexP;split
  · simp
  · have:=xB s.length 0 s [];simp only [List.length_nil] at this;omega
theorem bFb{toks:List TokV}(h: ∀t∈toks,zL t): ∀t∈ownP toks,zL t:=fun t ht=>h t (List.mem_of_mem_take (by rw [zA];exact ht))
theorem p_start{text:Bs}{r:Prog×Flt}(hR:gI text=r)(h:isOk (lexP text).2=true):sU r text.length (lexP text).1 ⟨[],[]⟩ 0 false:=⟨_,Nat.le_refl _,by rw [←hR,gI,if_pos h]⟩
theorem p_lexed{text:Bs}{r:Prog×Flt}(hR:gI text=r)(h:isOk (lexP text).2=false):r=(⟨[],[]⟩,(lexP text).2):=by rw [←hR,gI,if_neg (by rw [h];simp)]
theorem sI{α:Type}{l:List α}(h:0<l.length):l≠[]:=List.length_pos_iff.1 h
theorem bFh{α:Type}{l:List α}(h:((l.length:Nat):Int)=0):l=[]:=List.eq_nil_of_length_eq_zero (by omega)
theorem jO:(Tryz.prog.info? 61).bind (·.zero)=some (.agg #[.string (bs []),.int .i64 0,.slice none 0 0]):=by kernel_rfl
theorem sJ(s0:ByteArray)(z1:Int):Tryz.prog.built 61 [(1,.int .i64 z1),(0,.string s0)]=some #[.string s0,.int .i64 z1,.slice none 0 0]:=by kernel_rfl
theorem nQ(s0:ByteArray)(z1:Int):Tryz.prog.built 63 [(0,.string s0),(1,.int .i64 z1)]=some #[.string s0,.int .i64 z1]:=by kernel_rfl
theorem oI(z1:Int):Tryz.prog.built 49 [(1,.int .i64 z1)]=some #[.string (bs []),.int .i64 z1,.slice none 0 0]:=by kernel_rfl
theorem qI:(Tryz.prog.info? 49).bind (·.zero)=some (.agg #[.string (bs []),.int .i64 0,.slice none 0 0]):=by kernel_rfl
set_option maxRecDepth 100000 in
theorem bGd(bl:Nat)(A:Option Addr)(c:Nat)(toks:List TokV)(k0:Nat)(e:Int)(h0:0<toks.length)(hl:toks.length≤1000)(hw: ∀k,(bQ toks k).word.length≤65536):dH Tryz.prog 75 [.pointer (some ⟨bl,0,none⟩)] [.obj bl (.cells [.slice A toks.length c,.int .i64 (k0:Nat),.int .i64 e].toArray 102)] [lC.sl (.slice A toks.length c) toks,iA] (fun(x:InputV×Nat)=> .tuple #[.agg #[.string (bs x.1.name),.int .i64 x.1.at_,.slice x.1.sides.addr x.1.sides.list.length x.1.sides.cap],.agg #[.int .i64 (jJ toks e).2.1,.int .i64 (jJ toks e).2.2]]) (fun(x:InputV×Nat)=>[.obj bl (.cells [.slice A toks.length c,.int .i64 (x.2:Nat),.int .i64 e].toArray 102)]) (fun(x:InputV×Nat)=>[rO x.1,Fact.pure (x.1.inp=(jJ toks e).1)]):=by
  have hT:=fH;generalize hR:jJ toks e=r;refine cQ Tryz.func75 rfl Tryz.ntmps75 rfl ?_;intro β hM;refine sr<|cE rfl rfl rfl rfl jO rfl fun b1=>?_;refine cE rfl rfl rfl rfl yC rfl fun b2=>?_;refine nn<|sr<|sp3 hT ?_;refine sto hT kT2 ?_;refine nn<|sr<|sp hT ?_;refine bO Tryz.func134 (at_spec bl A c toks (1) e) rfl rfl (.cons .head .nil) ⟨Has.of mT0,trivial⟩ fun _=>?_;refine sp hT ?_;refine bO Tryz.func73 (iD bl A c toks (1) e) rfl rfl (.cons .head .nil) ⟨Has.of mT0,trivial⟩ fun _=>?_;refine sp hT ?_;refine ss (bY rfl rfl (sJ _ _)) ?_;refine cE rfl rfl rfl rfl jO rfl fun b3=>?_;refine sto hT .head ?_;refine nn<|bA<|bA<|cU _ _ [(true,0),(true,1),(true,2),(true,3),(true,4),(true,5),(true,6),(true,7),(true,8),(true,9)] cY (by decide+kernel) (.cons .head (.cons .head (.cons .head (.cons .head .nil)))) bF.self ?_;refine puM hT ?_;refine puM hT ?_;refine puM hT ?_;refine stM rfl (ldO hT (dB kT1)) ?_;refine puM hT ?_;refine puM hT ?_;refine puM hT ?_;refine stM rfl (ldO hT (bL kT1)) ?_;refine puM hT ?_;refine puM hT ?_;refine cK<|bB<|bH rfl (fun hc24=>?_) (fun hc24=>?_)
  · have hc24:=eq_of_beq hc24;refine bA<|cU _ _ [(true,0),(true,1),(false,2),(false,3),(false,4)] cY (by decide+kernel) (.cons .head (.cons .head .nil)) bF.self ?_;refine stM rfl (ldN hT (bL .head)) ?_;refine puM hT ?_;refine cC (o:=_) rfl ?_;refine bO Tryz.func74 (cV bl A c toks (1) e _) rfl rfl (.cons kT1 .nil) ⟨Has.of mT0,trivial⟩ fun _=>?_;refine cB (.cons kT1 (.cons .head .nil)) (bF.drop 0) ?_;refine cC (o:=_) rfl ?_;refine sto hT kT3 ?_;refine cB (.cons kT2 (.cons kT1 .nil)) (bF.drop 0) ?_;refine cC (o:=_) rfl ?_;refine sto hT kT3 ?_;refine cB (.cons kT3 (.cons kT2 .nil)) (bF.drop 0) ?_;refine cK<|bB<|bG<|bC ?_;have hr:=hR.symm.trans (by rw [jJ,if_pos (by omega)]);subst hr;exact bM (⟨(bQ toks 1).word,atP toks 1 e,⟨none,0,[]⟩⟩,_) rfl (bN hT (bL kT1) rfl rfl rfl rfl) (bN hT (bL .head) rfl rfl rfl rfl) (.cons kT2 .nil) ⟨dO,Has.pure rfl,trivial⟩ rfl
  have hc24:=beq_eq_false_iff_ne.1 hc24;refine bK<|bB<|bA<|sr<|sp hT ?_;refine bO Tryz.func73 (iD bl A c toks (1) e) rfl rfl (.cons kT1 .nil) ⟨Has.of mT0,trivial⟩ fun _=>?_;refine sp3 hT ?_;refine cF (fun hg32=>?_) (fun hg32=>?_)
  · have hg32:=bne_iff_ne.1 hg32;refine sk4 ?_;refine sp hT ?_;refine nn<|cI rfl rfl ?_;refine bA<|cU _ _ [(true,0),(true,1),(false,2),(false,3),(false,4)] cY (by decide+kernel) (.cons .head (.cons .head .nil)) bF.self ?_;refine stM rfl (ldN hT (bL kT1)) ?_;refine puM hT ?_;refine cC (o:=_) rfl ?_;refine bO Tryz.func74 (cV bl A c toks (1) e _) rfl rfl (.cons .head .nil) ⟨Has.of mT0,trivial⟩ fun _=>?_;refine cB (.cons .head (.cons .head .nil)) (bF.drop 0) ?_;refine cC (o:=_) rfl ?_;refine sto hT kT3 ?_;refine cB (.cons kT1 (.cons kT1 .nil)) (bF.drop 0) ?_;refine cC (o:=_) rfl ?_;refine sto hT kT3 ?_;refine cB (.cons kT2 (.cons kT2 .nil)) (bF.drop 0) ?_;refine cK<|bB<|bG<|bC ?_;have hr:=hR.symm.trans (by rw [jJ,if_neg (by omega),if_pos (by first | exact .inl (by assumption) | exact .inr (by assumption))]);subst hr;exact bM (⟨(bQ toks 1).word,atP toks 1 e,⟨none,0,[]⟩⟩,_) rfl (bN hT (bL kT1) rfl rfl rfl rfl) (bN hT (bL .head) rfl rfl rfl rfl) (.cons kT2 .nil) ⟨dO,Has.pure rfl,trivial⟩ rfl
  have hg32:=bne_eq_false_iff_eq.1 hg32;refine sp hT ?_;refine ss (ldO hT (bL kT1)) ?_;refine bO Tryz.func76 (mD _ (Nat.le_trans (hw _) (by decide))) rfl rfl .nil ⟨Has.of mT1,trivial⟩ fun _=>?_;refine sp2 hT ?_;refine nn<|bH rfl (fun hc37=>?_) (fun hc37=>?_)
  · have hc37:=gC hc37;refine bA<|cU _ _ [(true,0),(true,1),(false,2),(false,3),(false,4)] cY (by decide+kernel) (.cons .head (.cons .head .nil)) bF.self ?_;refine stM rfl (ldN hT (bL kT1)) ?_;refine puM hT ?_;refine cC (o:=_) rfl ?_;refine bO Tryz.func74 (cV bl A c toks (1) e _) rfl rfl (.cons .head .nil) ⟨Has.of mT0,trivial⟩ fun _=>?_;refine cB (.cons .head (.cons .head .nil)) (bF.drop 0) ?_;refine cC (o:=_) rfl ?_;refine sto hT kT3 ?_;refine cB (.cons kT1 (.cons kT1 .nil)) (bF.drop 0) ?_;refine cC (o:=_) rfl ?_;refine sto hT kT3 ?_;refine cB (.cons kT2 (.cons kT2 .nil)) (bF.drop 0) ?_;refine cK<|bB<|bG<|bC ?_;have hr:=hR.symm.trans (by rw [jJ,if_neg (by omega),if_pos (by first | exact .inl (by assumption) | exact .inr (by assumption))]);subst hr;exact bM (⟨(bQ toks 1).word,atP toks 1 e,⟨none,0,[]⟩⟩,_) rfl (bN hT (bL kT1) rfl rfl rfl rfl) (bN hT (bL .head) rfl rfl rfl rfl) (.cons kT2 .nil) ⟨dO,Has.pure rfl,trivial⟩ rfl
  have hc37:=fN hc37;refine bK<|bB<|bA<|sr<|sp3 hT ?_;refine sto hT .head ?_;refine nn<|bT<|dQ (t:=63) bIy ?_;refine dD (ι:=Nat×List jH×Option Addr×Nat) [(0,_),(2,_),(3,_),(4,_)] ⟨rfl,rfl,rfl,rfl,trivial⟩ (fun _=>[]) (fun⟨k,sides,S,c2⟩=>[.obj bl (.cells [.slice A toks.length c,.int .i64 (k:Nat),.int .i64 e].toArray 102),.obj b3 (.cells [.string (bs (bQ toks 1).word),.int .i64 (atP toks 1 e),.slice S sides.length c2].toArray 61),bIy.row (.slice S sides.length c2) 63 sides]) (fun⟨k,sides,S,c2⟩=>[Fact.pure (kJ (toks.drop k) (sides.map jH.sd)=kJ (toks.drop 2) []∧k≤toks.length∧sides.length≤4)]) (fun⟨k,sides,S,c2⟩=>toks.length-k) (2,[],none,0) trivial (.cons kT1 (.cons kT1 (.cons .head .nil))) ⟨Has.pure (⟨rfl,iP (toks:=toks) (k:=1) (by omega),by simp⟩),trivial⟩ ?_;rintro⟨k,sides,S,c2⟩;dsimp only;refine cD (Has.of mT0) fun hinv8=>?_;refine bA<|bA<|cU _ _ [(true,0),(true,1),(true,2),(true,3),(true,4),(true,5),(true,6),(true,7),(true,8),(true,9)] cY (by decide+kernel) (.cons .head (.cons .head (.cons .head (.cons .head (.cons .head .nil))))) bF.self ?_;refine puM hT ?_;refine puM hT ?_;refine puM hT ?_;refine stM rfl (ldO hT (dB .head)) ?_;refine puM hT ?_;refine puM hT ?_;refine puM hT ?_;refine stM rfl (ldO hT (bL .head)) ?_;refine puM hT ?_;refine puM hT ?_;refine cK<|bB<|bH rfl (fun hc53=>?_) (fun hc53=>?_)
  · have hc53:=of_decide_eq_true hc53;refine bK<|bB<|bA<|bT<|sr<|sp hT ?_;refine bO Tryz.func73 (iD bl A c toks (k) e) rfl rfl (.cons .head .nil) ⟨Has.of mT1,trivial⟩ fun _=>?_;refine cE rfl rfl rfl rfl wC rfl fun b4=>?_;refine sto hT .head ?_;refine nn<|bA<|sr<|sp hT ?_;refine ss (ldO hT (bL .head)) ?_;refine sp2 hT ?_;refine cF (fun hg66=>?_) (fun hg66=>?_)
    · have hg66:=bne_iff_ne.1 hg66;refine sp hT ?_;refine ss (ldO hT (bL .head)) ?_;refine sp2 hT ?_;refine cF (fun hg70=>?_) (fun hg70=>?_)
      · have hg70:=bne_iff_ne.1 hg70;refine sk4 ?_;refine sp2 hT ?_;refine nn<|cI rfl rfl ?_;refine bA<|cU _ _ [(true,0),(true,1),(false,2),(false,3),(false,4)] cY (by decide+kernel) (.cons .head (.cons .head (.cons .head (.cons .head .nil)))) bF.self ?_;refine stM rfl (ldN hT (bL kT2)) ?_;refine puM hT ?_;refine cC (o:=_) rfl ?_;refine bO Tryz.func74 (cV bl A c toks (k) e _) rfl rfl (.cons kT1 .nil) ⟨Has.of mT1,trivial⟩ fun _=>?_;refine cB (.cons kT1 (.cons .head (.cons .head (.cons .head .nil)))) (bF.drop 0) ?_;refine cC (o:=_) rfl ?_;refine sto hT kT5 ?_;refine cB (.cons kT2 (.cons kT1 (.cons kT1 (.cons kT1 .nil)))) (bF.drop 0) ?_;refine cC (o:=_) rfl ?_;refine sto hT kT5 ?_;refine cB (.cons kT3 (.cons kT2 (.cons kT2 (.cons kT2 .nil)))) (bF.drop 0) ?_;refine cK<|bB<|bG<|bC<|bI<|bC<|bC<|bI<|bC ?_;have hr:=hR.symm.trans (by rw [jJ,if_neg (by omega),if_neg (by rintro(h | h)<;>simp_all),←hinv8.1,bNl (e:=e) (by omega) (by assumption) (by first | exact .inl (by assumption) | exact .inr (by assumption))]);subst hr;refine bX kT5 ?_;exact bM (⟨(bQ toks 1).word,atP toks 1 e,⟨_,_,sides⟩⟩,_) rfl (bN hT (bL kT1) rfl rfl rfl rfl) (bN hT (bL .head) rfl rfl rfl rfl) (.cons kT2 .nil) ⟨Has.of mT0,Has.pure rfl,trivial⟩ rfl
      have hg70:=bne_eq_false_iff_eq.1 hg70;refine sp hT ?_;refine ss (ldO hT (fE .head)) ?_;refine bO Tryz.func76 (mD _ (Nat.le_trans (hw _) (by decide))) rfl rfl .nil ⟨Has.of mT2,trivial⟩ fun _=>?_;refine sp3 hT ?_;refine nn<|bH rfl (fun hc76=>?_) (fun hc76=>?_)
      · have hc76:=gC hc76;refine bA<|cU _ _ [(true,0),(true,1),(false,2),(false,3),(false,4)] cY (by decide+kernel) (.cons .head (.cons .head (.cons .head (.cons .head .nil)))) bF.self ?_;refine stM rfl (ldN hT (bL kT2)) ?_;refine puM hT ?_;refine cC (o:=_) rfl ?_;refine bO Tryz.func74 (cV bl A c toks (k) e _) rfl rfl (.cons kT1 .nil) ⟨Has.of mT1,trivial⟩ fun _=>?_;refine cB (.cons kT1 (.cons .head (.cons .head (.cons .head .nil)))) (bF.drop 0) ?_;refine cC (o:=_) rfl ?_;refine sto hT kT5 ?_;refine cB (.cons kT2 (.cons kT1 (.cons kT1 (.cons kT1 .nil)))) (bF.drop 0) ?_;refine cC (o:=_) rfl ?_;refine sto hT kT5 ?_;refine cB (.cons kT3 (.cons kT2 (.cons kT2 (.cons kT2 .nil)))) (bF.drop 0) ?_;refine cK<|bB<|bG<|bC<|bI<|bC<|bC<|bI<|bC ?_;have hr:=hR.symm.trans (by rw [jJ,if_neg (by omega),if_neg (by rintro(h | h)<;>simp_all),←hinv8.1,bNl (e:=e) (by omega) (by assumption) (by first | exact .inl (by assumption) | exact .inr (by assumption))]);subst hr;refine bX kT5 ?_;exact bM (⟨(bQ toks 1).word,atP toks 1 e,⟨_,_,sides⟩⟩,_) rfl (bN hT (bL kT1) rfl rfl rfl rfl) (bN hT (bL .head) rfl rfl rfl rfl) (.cons kT2 .nil) ⟨Has.of mT0,Has.pure rfl,trivial⟩ rfl
      have hc76:=fN hc76;refine bK<|bB<|bA<|sr<|sp hT ?_;refine ss (ldO hT (fE kT2)) ?_;refine sp2 hT ?_;refine nn<|bH rfl (fun hc83=>?_) (fun hc83=>?_)
      · have hc83:=eq_of_beq hc83;refine bA<|cU _ _ [(true,0),(true,1),(false,2),(false,3),(false,4)] cY (by decide+kernel) (.cons .head (.cons .head (.cons .head (.cons .head .nil)))) bF.self ?_;refine stM rfl (ldN hT (bL kT2)) ?_;refine puM hT ?_;refine cC (o:=_) rfl ?_;refine bO Tryz.func74 (cV bl A c toks (k) e _) rfl rfl (.cons kT1 .nil) ⟨Has.of mT1,trivial⟩ fun _=>?_;refine cB (.cons kT1 (.cons .head (.cons .head (.cons .head .nil)))) (bF.drop 0) ?_;refine cC (o:=_) rfl ?_;refine sto hT kT5 ?_;refine cB (.cons kT2 (.cons kT1 (.cons kT1 (.cons kT1 .nil)))) (bF.drop 0) ?_;refine cC (o:=_) rfl ?_;refine sto hT kT5 ?_;refine cB (.cons kT3 (.cons kT2 (.cons kT2 (.cons kT2 .nil)))) (bF.drop 0) ?_;refine cK<|bB<|bG<|bC<|bI<|bC<|bC<|bI<|bC ?_;have hr:=hR.symm.trans (by rw [jJ,if_neg (by omega),if_neg (by rintro(h | h)<;>simp_all),←hinv8.1,bIs (e:=e) (by omega) (by first | exact .inl (by assumption) | exact .inr ⟨by assumption,by assumption⟩) (by simp;omega)]);subst hr;refine bX kT5 ?_;exact bM (⟨(bQ toks 1).word,atP toks 1 e,⟨_,_,sides⟩⟩,_) rfl (bN hT (bL kT1) rfl rfl rfl rfl) (bN hT (bL .head) rfl rfl rfl rfl) (.cons kT2 .nil) ⟨Has.of mT0,Has.pure rfl,trivial⟩ rfl
      have hc83:=beq_eq_false_iff_ne.1 hc83;refine bK<|bB<|bE<|sp hT ?_;refine ss (ldO hT (fE kT2)) ?_;refine sp hT ?_;refine ss (ldO hT (fE .head)) ?_;refine sp hT ?_;refine ss (ldO hT (tS .head)) ?_;refine ss (bY rfl rfl (nQ _ _)) ?_;refine bEb (m:=⟨_,_⟩) rfl rfl rfl rfl rfl fun b5=>?_;refine bDf kT4 (dF .head rfl) rfl rfl rfl rfl rfl rfl rfl (by simp only [List.length_singleton];omega) fun A6 c7=>?_;refine sp hT ?_;refine sto hT kT4 ?_;refine dU<|cA<|bB<|bE<|sp3 hT ?_;refine ss (ldO hT (dB kT4)) ?_;refine sp hT ?_;refine bP (z':=(((k+1):Nat):Int)) (cL (by omega) (by omega)) ?_;refine sp2 hT ?_;refine sto hT kT4 ?_;refine nn ?_;exact cP (k+1,sides++[⟨(bQ toks k).word,(bQ toks k).n⟩],_,_) (by dsimp only;omega) trivial ⟨rfl,rfl,rfl,rfl,trivial⟩ (.cons .head (.cons .head (.cons .head (.cons kT2 (.cons kT2 .nil))))) ⟨Has.pure (⟨by rw [←hinv8.1,List.map_append];exact(bIl (by omega) (by first | exact .inl (by assumption) | exact .inr ⟨by assumption,by assumption⟩) (by simp;omega)).symm,by dsimp only;omega,by simp;omega⟩),trivial⟩ (bF.drop 1)
    have hg66:=bne_eq_false_iff_eq.1 hg66;refine sk4 ?_;refine sk4 ?_;refine sk ?_;refine sp hT ?_;refine nn<|cN rfl rfl ?_;refine bK<|bB<|bA<|sr<|sp hT ?_;refine ss (ldO hT (fE kT2)) ?_;refine sp2 hT ?_;refine nn<|bH rfl (fun hc83=>?_) (fun hc83=>?_)
    · have hc83:=eq_of_beq hc83;refine bA<|cU _ _ [(true,0),(true,1),(false,2),(false,3),(false,4)] cY (by decide+kernel) (.cons .head (.cons .head (.cons .head (.cons .head .nil)))) bF.self ?_;refine stM rfl (ldN hT (bL kT2)) ?_;refine puM hT ?_;refine cC (o:=_) rfl ?_;refine bO Tryz.func74 (cV bl A c toks (k) e _) rfl rfl (.cons kT1 .nil) ⟨Has.of mT1,trivial⟩ fun _=>?_;refine cB (.cons kT1 (.cons .head (.cons .head (.cons .head .nil)))) (bF.drop 0) ?_;refine cC (o:=_) rfl ?_;refine sto hT kT5 ?_;refine cB (.cons kT2 (.cons kT1 (.cons kT1 (.cons kT1 .nil)))) (bF.drop 0) ?_;refine cC (o:=_) rfl ?_;refine sto hT kT5 ?_;refine cB (.cons kT3 (.cons kT2 (.cons kT2 (.cons kT2 .nil)))) (bF.drop 0) ?_;refine cK<|bB<|bG<|bC<|bI<|bC<|bC<|bI<|bC ?_;have hr:=hR.symm.trans (by rw [jJ,if_neg (by omega),if_neg (by rintro(h | h)<;>simp_all),←hinv8.1,bIs (e:=e) (by omega) (by first | exact .inl (by assumption) | exact .inr ⟨by assumption,by assumption⟩) (by simp;omega)]);subst hr;refine bX kT5 ?_;exact bM (⟨(bQ toks 1).word,atP toks 1 e,⟨_,_,sides⟩⟩,_) rfl (bN hT (bL kT1) rfl rfl rfl rfl) (bN hT (bL .head) rfl rfl rfl rfl) (.cons kT2 .nil) ⟨Has.of mT0,Has.pure rfl,trivial⟩ rfl
    have hc83:=beq_eq_false_iff_ne.1 hc83;refine bK<|bB<|bE<|sp hT ?_;refine ss (ldO hT (fE kT2)) ?_;refine sp hT ?_;refine ss (ldO hT (fE .head)) ?_;refine sp hT ?_;refine ss (ldO hT (tS .head)) ?_;refine ss (bY rfl rfl (nQ _ _)) ?_;refine bEb (m:=⟨_,_⟩) rfl rfl rfl rfl rfl fun b8=>?_;refine bDf kT4 (dF .head rfl) rfl rfl rfl rfl rfl rfl rfl (by simp only [List.length_singleton];omega) fun A9 c10=>?_;refine sp hT ?_;refine sto hT kT4 ?_;refine dU<|cA<|bB<|bE<|sp3 hT ?_;refine ss (ldO hT (dB kT4)) ?_;refine sp hT ?_;refine bP (z':=(((k+1):Nat):Int)) (cL (by omega) (by omega)) ?_;refine sp2 hT ?_;refine sto hT kT4 ?_;refine nn ?_;exact cP (k+1,sides++[⟨(bQ toks k).word,(bQ toks k).n⟩],_,_) (by dsimp only;omega) trivial ⟨rfl,rfl,rfl,rfl,trivial⟩ (.cons .head (.cons .head (.cons .head (.cons kT2 (.cons kT2 .nil))))) ⟨Has.pure (⟨by rw [←hinv8.1,List.map_append];exact(bIl (by omega) (by first | exact .inl (by assumption) | exact .inr ⟨by assumption,by assumption⟩) (by simp;omega)).symm,by dsimp only;omega,by simp;omega⟩),trivial⟩ (bF.drop 1)
  have hc53:=Int.not_lt.1 (of_decide_eq_false hc53);refine cW<|cM<|cM<|cX<|bB<|sr<|ss (ldN hT (bL kT1)) ?_;refine ss (bY rfl rfl (vU)) ?_;refine sto hT kT4 ?_;refine sto hT kT4 ?_;refine nn<|bG ?_;have hr:=hR.symm.trans (by rw [jJ,if_neg (by omega),if_neg (by rintro(h | h)<;>simp_all),←hinv8.1,sides_end (by omega)]);subst hr;refine bX kT4 ?_;exact bM (⟨(bQ toks 1).word,atP toks 1 e,⟨_,_,sides⟩⟩,_) rfl (bN hT (bL kT1) rfl rfl rfl rfl) (bN hT (bL .head) rfl rfl rfl rfl) (.cons kT2 .nil) ⟨Has.of mT0,Has.pure rfl,trivial⟩ rfl
set_option maxRecDepth 100000 in
theorem wX(bl:Nat)(A:Option Addr)(c:Nat)(toks:List TokV)(e:Int)(bp:Nat)(I:Option Addr)(ci:Nat)(ins:List InputV)(J:Option Addr)(cj:Nat)(lns:List LineV)(n:Nat)(over:Bool)(h0:0<toks.length)(hn:n≤64)(hil:ins.length+lns.length≤n)(hw: ∀k,(bQ toks k).word.length≤65536):dH Tryz.prog 38 [.pointer (some ⟨bl,0,none⟩),.pointer (some ⟨bp,0,none⟩),.int .i64 (n:Nat),.bool over] [.obj bl (.cells [.slice A toks.length c,.int .i64 (0:Nat),.int .i64 e].toArray 102),.obj bp (.cells [.slice I ins.length ci,.slice J lns.length cj].toArray 25),jT.row (.slice I ins.length ci) 61 ins,nR.row (.slice J lns.length cj) 49 lns] [lC.sl (.slice A toks.length c) toks,iA,iN ins,kL lns] (fun(_:List InputV×List LineV×(Option Addr×Nat)×(Option Addr×Nat)×Nat)=> .agg #[.int .i64 (intoP toks e ⟨ins.map InputV.inp,lns.map LineV.ln⟩ n over).2.1,.int .i64 (intoP toks e ⟨ins.map InputV.inp,lns.map LineV.ln⟩ n over).2.2]) (fun(x:List InputV×List LineV×(Option Addr×Nat)×(Option Addr×Nat)×Nat)=>[.obj bl (.cells [.slice A toks.length c,.int .i64 (x.2.2.2.2:Nat),.int .i64 e].toArray 102),.obj bp (.cells [.slice x.2.2.1.1 x.1.length x.2.2.1.2,.slice x.2.2.2.1.1 x.2.1.length x.2.2.2.1.2].toArray 25),jT.row (.slice x.2.2.1.1 x.1.length x.2.2.1.2) 61 x.1,nR.row (.slice x.2.2.2.1.1 x.2.1.length x.2.2.2.1.2) 49 x.2.1]) (fun(x:List InputV×List LineV×(Option Addr×Nat)×(Option Addr×Nat)×Nat)=>[iN x.1,kL x.2.1,Fact.pure ((⟨x.1.map InputV.inp,x.2.1.map LineV.ln⟩:Prog)=(intoP toks e ⟨ins.map InputV.inp,lns.map LineV.ln⟩ n over).1)]):=by
  have hT:=fH;generalize hR:intoP toks e ⟨ins.map InputV.inp,lns.map LineV.ln⟩ n over=r;refine cQ Tryz.func38 rfl Tryz.ntmps38 rfl ?_;intro β hM;refine sr<|cE rfl rfl rfl rfl yC rfl fun b1=>?_;refine nn<|sr<|sp hT ?_;refine bO Tryz.func73 (iD bl A c toks (0) e) rfl rfl (.cons kT1 .nil) ⟨Has.of mT0,trivial⟩ fun _=>?_;refine cE rfl rfl rfl rfl wC rfl fun b2=>?_;refine sto hT .head ?_;refine nn<|bA<|cU _ _ [(true,0),(true,1),(true,2),(true,3),(true,4),(true,5),(true,6),(true,7),(true,8),(true,9),(true,10),(true,11),(true,12),(true,13),(true,14),(true,15),(true,16),(true,17)] cY (by decide+kernel) (.cons .head (.cons .head (.cons .head (.cons .head (.cons .head (.cons .head .nil)))))) bF.self ?_;refine puM hT ?_;refine stM rfl (ldO hT (bL .head)) ?_;refine puM hT ?_;refine puM hT ?_;refine cF (fun hg20=>?_) (fun hg20=>?_)
  · have hg20:=eq_of_beq hg20;refine puM hT ?_;refine stM rfl (ldO hT (fE .head)) ?_;refine puM hT ?_;refine puM hT ?_;refine puM hT ?_;refine stM rfl (ldO hT (bL .head)) ?_;refine puM hT ?_;refine cH (t':=true) (by rw [hg20];rfl) ?_;refine puM hT ?_;refine puM hT ?_;refine stM rfl (ldO hT (fE .head)) ?_;refine puM hT ?_;refine puM hT ?_;refine puM hT ?_;refine cF (fun hg10=>?_) (fun hg10=>?_)
    · have hg10:(bQ toks (0)).word=([105,110]:Bs):=eq_of_beq hg10;have hin:=isW_is (t:=bQ toks 0) (w:=[105,110]) (by assumption) (by assumption);refine puM hT ?_;refine cF (fun hg11=>?_) (fun hg11=>?_)
      · have hg11:(bQ toks (0)).word=([111,117,116]:Bs):=eq_of_beq hg11;have hout:=isW_is (t:=bQ toks 0) (w:=[111,117,116]) (by assumption) (by assumption);refine cK<|bB<|bA<|bT<|sr<|sp3 hT ?_;refine nn<|bH rfl (fun hc33=>?_) (fun hc33=>?_)
        · have hc33:=eq_of_beq hc33;refine sr<|sp hT ?_;refine bO Tryz.func74 (cV bl A c toks (0) e _) rfl rfl (.cons kT1 .nil) ⟨Has.of mT0,trivial⟩ fun _=>?_;refine sto hT kT2 ?_;refine nn<|bG<|bI<|bC ?_;have hr:=hR.symm.trans (bBd (by omega));subst hr;exact bR (ins,lns,(_,_),(_,_),_) rfl (bN hT (bL .head) rfl rfl rfl rfl) (.cons kT1 (.cons kT2 (.cons kT2 (.cons kT2 .nil)))) ⟨(Has.of mT2),(Has.of mT3),Has.pure (rfl),trivial⟩ rfl
        have hc33:=beq_eq_false_iff_ne.1 hc33;refine sr<|sp3 hT ?_;refine ss (ldO hT (bL kT1)) ?_;refine sp3 hT ?_;refine nn<|bH rfl (fun hc38=>?_) (fun hc38=>?_)
        · have hc38:=of_decide_eq_true hc38;refine sr<|sp3 hT ?_;refine sto hT kT1 ?_;refine nn<|sr<|sp hT ?_;refine bO Tryz.func74 (cV bl A c toks (256) e _) rfl rfl (.cons .head .nil) ⟨Has.of mT0,trivial⟩ fun _=>?_;refine sto hT kT2 ?_;refine nn<|bG<|bI<|bC ?_;have hr:=hR.symm.trans (bGq (by omega) (by omega));subst hr;exact bR (ins,lns,(_,_),(_,_),_) rfl (bN hT (bL .head) rfl rfl rfl rfl) (.cons kT1 (.cons kT2 (.cons kT2 (.cons kT2 .nil)))) ⟨(Has.of mT2),(Has.of mT3),Has.pure (rfl),trivial⟩ rfl
        have hc38:=Int.not_lt.1 (of_decide_eq_false hc38);refine sr<|sp2 hT ?_;refine cF (fun hg52=>?_) (fun hg52=>?_)
        · refine sk4 ?_;refine sk4 ?_;refine sk ?_;refine sp2 hT ?_;refine nn<|cI rfl rfl ?_;refine sr<|sp hT ?_;refine bO Tryz.func74 (cV bl A c toks (0) e _) rfl rfl (.cons kT1 .nil) ⟨Has.of mT0,trivial⟩ fun _=>?_;refine sto hT kT2 ?_;refine nn<|bG<|bI<|bC ?_;have hr:=hR.symm.trans (uL (by omega) (by omega) (by first | exact .inl (by assumption) | exact .inr ⟨hin,xZ (by omega)⟩));subst hr;exact bR (ins,lns,(_,_),(_,_),_) rfl (bN hT (bL .head) rfl rfl rfl rfl) (.cons kT1 (.cons kT2 (.cons kT2 (.cons kT2 .nil)))) ⟨(Has.of mT2),(Has.of mT3),Has.pure (rfl),trivial⟩ rfl
        refine sp4 hT ?_;refine sp hT ?_;refine ss (ldO hT (dB kT3)) ?_;refine sp4 hT ?_;refine sp hT ?_;refine nn<|bH rfl (fun hc50=>?_) (fun hc50=>?_)
        · have hc50:=of_decide_eq_true hc50;refine sr<|sp hT ?_;refine bO Tryz.func74 (cV bl A c toks (0) e _) rfl rfl (.cons kT1 .nil) ⟨Has.of mT0,trivial⟩ fun _=>?_;refine sto hT kT2 ?_;refine nn<|bG<|bI<|bC ?_;have hr:=hR.symm.trans (uL (by omega) (by omega) (by first | exact .inl (by assumption) | exact .inr ⟨hin,xZ (by omega)⟩));subst hr;exact bR (ins,lns,(_,_),(_,_),_) rfl (bN hT (bL .head) rfl rfl rfl rfl) (.cons kT1 (.cons kT2 (.cons kT2 (.cons kT2 .nil)))) ⟨(Has.of mT2),(Has.of mT3),Has.pure (rfl),trivial⟩ rfl
        have hc50:=Int.not_lt.1 (of_decide_eq_false hc50);refine sr<|sp2 hT ?_;refine nn<|cI rfl rfl ?_;refine sr<|cE rfl rfl rfl rfl jO rfl fun b3=>?_;refine nn<|sr<|sp hT ?_;refine bO Tryz.func75 (bGd bl A c toks 0 e h0 (by omega) hw) rfl rfl (.cons kT2 .nil) ⟨(Has.of mT0),(Has.of mT1),trivial⟩ fun⟨x4,k5⟩=>?_;refine cD (Has.of mT1) fun hx=>?_;dsimp only at hx;refine bV (iN (ins++[x4])) (bGh (Has.of mT4) (Has.of mT0)) ?_;refine sp3 hT ?_;refine sto hT kT1 ?_;refine sto hT kT3 ?_;refine nn<|bA<|qP 10 _ _ [(true,0),(true,1),(true,2),(true,3),(true,4),(true,5),(false,6),(false,7),(true,8),(true,9)] cY (by decide+kernel) (.cons .head (.cons .head (.cons .head (.cons .head (.cons .head (.cons kT1 .nil)))))) bF.self ?_;refine puL hT ?_;refine puL hT ?_;refine puL hT ?_;refine puL hT ?_;refine stL rfl (ldO hT (bL kT4)) ?_;refine stL rfl (ldN hT (bL kT1)) ?_;refine jK (o:=_) rfl ?_;refine bAh (m:=x4) rfl rfl rfl rfl rfl fun b6=>?_;refine jL (.cons kT1 (.cons kT1 (.cons kT1 (.cons kT1 (.cons kT1 (.cons kT2 .nil)))))) (bF.drop 0) ?_;refine jK (o:=_) rfl ?_;refine zJ kT6 (dF .head rfl) rfl rfl rfl rfl rfl rfl rfl (by simp only [List.length_singleton];omega) fun A7 c8=>?_;refine jL (.cons kT2 (.cons kT2 (.cons kT2 (.cons kT2 (.cons kT2 (.cons kT2 .nil)))))) (bF.drop 0) ?_;refine puL hT ?_;refine puL hT ?_;refine lF (o:=_) rfl ?_;refine sto hT kT6 ?_;refine nH<|bB<|sr<|ss (ldN hT (bL kT3)) ?_;refine sto hT kT3 ?_;refine nn<|bG<|bI<|bC ?_;have hr:=hR.symm.trans (i_in (by omega) (by omega) (by assumption) hin (map_nil (by omega)));subst hr;exact bR ((ins++[x4]),lns,(_,_),(_,_),_) rfl (bN hT (bL .head) rfl rfl rfl rfl) (.cons kT5 (.cons kT1 (.cons kT1 (.cons kT4 .nil)))) ⟨(Has.of mT0),(Has.of mT6),Has.pure (by rw [List.map_append,←hx];rfl),trivial⟩ rfl
      have hg11:(bQ toks (0)).word≠([111,117,116]:Bs):=fun h=>absurd (beq_iff_eq.2 h) (by rw [show((bQ toks (0)).word==([111,117,116]:Bs))=false from hg11];simp);have hout:=isW_no (t:=bQ toks 0) (w:=[111,117,116]) (by assumption);refine cK<|bB<|bA<|bT<|sr<|sp3 hT ?_;refine nn<|bH rfl (fun hc33=>?_) (fun hc33=>?_)
      · have hc33:=eq_of_beq hc33;refine sr<|sp hT ?_;refine bO Tryz.func74 (cV bl A c toks (0) e _) rfl rfl (.cons kT1 .nil) ⟨Has.of mT0,trivial⟩ fun _=>?_;refine sto hT kT2 ?_;refine nn<|bG<|bI<|bC ?_;have hr:=hR.symm.trans (bBd (by omega));subst hr;exact bR (ins,lns,(_,_),(_,_),_) rfl (bN hT (bL .head) rfl rfl rfl rfl) (.cons kT1 (.cons kT2 (.cons kT2 (.cons kT2 .nil)))) ⟨(Has.of mT2),(Has.of mT3),Has.pure (rfl),trivial⟩ rfl
      have hc33:=beq_eq_false_iff_ne.1 hc33;refine sr<|sp3 hT ?_;refine ss (ldO hT (bL kT1)) ?_;refine sp3 hT ?_;refine nn<|bH rfl (fun hc38=>?_) (fun hc38=>?_)
      · have hc38:=of_decide_eq_true hc38;refine sr<|sp3 hT ?_;refine sto hT kT1 ?_;refine nn<|sr<|sp hT ?_;refine bO Tryz.func74 (cV bl A c toks (256) e _) rfl rfl (.cons .head .nil) ⟨Has.of mT0,trivial⟩ fun _=>?_;refine sto hT kT2 ?_;refine nn<|bG<|bI<|bC ?_;have hr:=hR.symm.trans (bGq (by omega) (by omega));subst hr;exact bR (ins,lns,(_,_),(_,_),_) rfl (bN hT (bL .head) rfl rfl rfl rfl) (.cons kT1 (.cons kT2 (.cons kT2 (.cons kT2 .nil)))) ⟨(Has.of mT2),(Has.of mT3),Has.pure (rfl),trivial⟩ rfl
      have hc38:=Int.not_lt.1 (of_decide_eq_false hc38);refine sr<|sp2 hT ?_;refine cF (fun hg52=>?_) (fun hg52=>?_)
      · refine sk4 ?_;refine sk4 ?_;refine sk ?_;refine sp2 hT ?_;refine nn<|cI rfl rfl ?_;refine sr<|sp hT ?_;refine bO Tryz.func74 (cV bl A c toks (0) e _) rfl rfl (.cons kT1 .nil) ⟨Has.of mT0,trivial⟩ fun _=>?_;refine sto hT kT2 ?_;refine nn<|bG<|bI<|bC ?_;have hr:=hR.symm.trans (uL (by omega) (by omega) (by first | exact .inl (by assumption) | exact .inr ⟨hin,xZ (by omega)⟩));subst hr;exact bR (ins,lns,(_,_),(_,_),_) rfl (bN hT (bL .head) rfl rfl rfl rfl) (.cons kT1 (.cons kT2 (.cons kT2 (.cons kT2 .nil)))) ⟨(Has.of mT2),(Has.of mT3),Has.pure (rfl),trivial⟩ rfl
      refine sp4 hT ?_;refine sp hT ?_;refine ss (ldO hT (dB kT3)) ?_;refine sp4 hT ?_;refine sp hT ?_;refine nn<|bH rfl (fun hc50=>?_) (fun hc50=>?_)
      · have hc50:=of_decide_eq_true hc50;refine sr<|sp hT ?_;refine bO Tryz.func74 (cV bl A c toks (0) e _) rfl rfl (.cons kT1 .nil) ⟨Has.of mT0,trivial⟩ fun _=>?_;refine sto hT kT2 ?_;refine nn<|bG<|bI<|bC ?_;have hr:=hR.symm.trans (uL (by omega) (by omega) (by first | exact .inl (by assumption) | exact .inr ⟨hin,xZ (by omega)⟩));subst hr;exact bR (ins,lns,(_,_),(_,_),_) rfl (bN hT (bL .head) rfl rfl rfl rfl) (.cons kT1 (.cons kT2 (.cons kT2 (.cons kT2 .nil)))) ⟨(Has.of mT2),(Has.of mT3),Has.pure (rfl),trivial⟩ rfl
      have hc50:=Int.not_lt.1 (of_decide_eq_false hc50);refine sr<|sp2 hT ?_;refine nn<|cI rfl rfl ?_;refine sr<|cE rfl rfl rfl rfl jO rfl fun b9=>?_;refine nn<|sr<|sp hT ?_;refine bO Tryz.func75 (bGd bl A c toks 0 e h0 (by omega) hw) rfl rfl (.cons kT2 .nil) ⟨(Has.of mT0),(Has.of mT1),trivial⟩ fun⟨x10,k11⟩=>?_;refine cD (Has.of mT1) fun hx=>?_;dsimp only at hx;refine bV (iN (ins++[x10])) (bGh (Has.of mT4) (Has.of mT0)) ?_;refine sp3 hT ?_;refine sto hT kT1 ?_;refine sto hT kT3 ?_;refine nn<|bA<|qP 10 _ _ [(true,0),(true,1),(true,2),(true,3),(true,4),(true,5),(false,6),(false,7),(true,8),(true,9)] cY (by decide+kernel) (.cons .head (.cons .head (.cons .head (.cons .head (.cons .head (.cons kT1 .nil)))))) bF.self ?_;refine puL hT ?_;refine puL hT ?_;refine puL hT ?_;refine puL hT ?_;refine stL rfl (ldO hT (bL kT4)) ?_;refine stL rfl (ldN hT (bL kT1)) ?_;refine jK (o:=_) rfl ?_;refine bAh (m:=x10) rfl rfl rfl rfl rfl fun b12=>?_;refine jL (.cons kT1 (.cons kT1 (.cons kT1 (.cons kT1 (.cons kT1 (.cons kT2 .nil)))))) (bF.drop 0) ?_;refine jK (o:=_) rfl ?_;refine zJ kT6 (dF .head rfl) rfl rfl rfl rfl rfl rfl rfl (by simp only [List.length_singleton];omega) fun A13 c14=>?_;refine jL (.cons kT2 (.cons kT2 (.cons kT2 (.cons kT2 (.cons kT2 (.cons kT2 .nil)))))) (bF.drop 0) ?_;refine puL hT ?_;refine puL hT ?_;refine lF (o:=_) rfl ?_;refine sto hT kT6 ?_;refine nH<|bB<|sr<|ss (ldN hT (bL kT3)) ?_;refine sto hT kT3 ?_;refine nn<|bG<|bI<|bC ?_;have hr:=hR.symm.trans (i_in (by omega) (by omega) (by assumption) hin (map_nil (by omega)));subst hr;exact bR ((ins++[x10]),lns,(_,_),(_,_),_) rfl (bN hT (bL .head) rfl rfl rfl rfl) (.cons kT5 (.cons kT1 (.cons kT1 (.cons kT4 .nil)))) ⟨(Has.of mT0),(Has.of mT6),Has.pure (by rw [List.map_append,←hx];rfl),trivial⟩ rfl
    have hg10:(bQ toks (0)).word≠([105,110]:Bs):=fun h=>absurd (beq_iff_eq.2 h) (by rw [show((bQ toks (0)).word==([105,110]:Bs))=false from hg10];simp);have hin:=isW_no (t:=bQ toks 0) (w:=[105,110]) (by assumption);refine puM hT ?_;refine cF (fun hg11=>?_) (fun hg11=>?_)
    · have hg11:(bQ toks (0)).word=([111,117,116]:Bs):=eq_of_beq hg11;have hout:=isW_is (t:=bQ toks 0) (w:=[111,117,116]) (by assumption) (by assumption);refine cK<|bB<|bA<|bT<|sr<|sp3 hT ?_;refine nn<|bH rfl (fun hc33=>?_) (fun hc33=>?_)
      · have hc33:=eq_of_beq hc33;refine sr<|sp hT ?_;refine bO Tryz.func74 (cV bl A c toks (0) e _) rfl rfl (.cons kT1 .nil) ⟨Has.of mT0,trivial⟩ fun _=>?_;refine sto hT kT2 ?_;refine nn<|bG<|bI<|bC ?_;have hr:=hR.symm.trans (bBd (by omega));subst hr;exact bR (ins,lns,(_,_),(_,_),_) rfl (bN hT (bL .head) rfl rfl rfl rfl) (.cons kT1 (.cons kT2 (.cons kT2 (.cons kT2 .nil)))) ⟨(Has.of mT2),(Has.of mT3),Has.pure (rfl),trivial⟩ rfl
      have hc33:=beq_eq_false_iff_ne.1 hc33;refine sr<|sp3 hT ?_;refine ss (ldO hT (bL kT1)) ?_;refine sp3 hT ?_;refine nn<|bH rfl (fun hc38=>?_) (fun hc38=>?_)
      · have hc38:=of_decide_eq_true hc38;refine sr<|sp3 hT ?_;refine sto hT kT1 ?_;refine nn<|sr<|sp hT ?_;refine bO Tryz.func74 (cV bl A c toks (256) e _) rfl rfl (.cons .head .nil) ⟨Has.of mT0,trivial⟩ fun _=>?_;refine sto hT kT2 ?_;refine nn<|bG<|bI<|bC ?_;have hr:=hR.symm.trans (bGq (by omega) (by omega));subst hr;exact bR (ins,lns,(_,_),(_,_),_) rfl (bN hT (bL .head) rfl rfl rfl rfl) (.cons kT1 (.cons kT2 (.cons kT2 (.cons kT2 .nil)))) ⟨(Has.of mT2),(Has.of mT3),Has.pure (rfl),trivial⟩ rfl
      have hc38:=Int.not_lt.1 (of_decide_eq_false hc38);refine sr<|sp2 hT ?_;refine cF (fun hg52=>?_) (fun hg52=>?_)
      · refine sk4 ?_;refine sk4 ?_;refine sk ?_;refine sp2 hT ?_;refine nn<|cI rfl rfl ?_;refine sr<|sp hT ?_;refine bO Tryz.func74 (cV bl A c toks (0) e _) rfl rfl (.cons kT1 .nil) ⟨Has.of mT0,trivial⟩ fun _=>?_;refine sto hT kT2 ?_;refine nn<|bG<|bI<|bC ?_;have hr:=hR.symm.trans (uL (by omega) (by omega) (by first | exact .inl (by assumption) | exact .inr ⟨hin,xZ (by omega)⟩));subst hr;exact bR (ins,lns,(_,_),(_,_),_) rfl (bN hT (bL .head) rfl rfl rfl rfl) (.cons kT1 (.cons kT2 (.cons kT2 (.cons kT2 .nil)))) ⟨(Has.of mT2),(Has.of mT3),Has.pure (rfl),trivial⟩ rfl
      refine sp2 hT ?_;refine sk4 ?_;refine sk2 ?_;refine sp3 hT ?_;refine nn<|cN rfl rfl ?_;refine sr<|sp2 hT ?_;refine nn<|cN rfl rfl ?_;refine sr<|sp3 hT ?_;refine sk4 ?_;refine sk4 ?_;refine sk ?_;refine sp2 hT ?_;refine nn<|cN rfl rfl ?_;refine bK<|cA<|bB<|sr<|sp hT ?_;refine ss (ldO hT (dB .head)) ?_;refine ss (bY rfl rfl (oI _)) ?_;refine cE rfl rfl rfl rfl qI rfl fun b15=>?_;refine sto hT .head ?_;refine nn<|sr<|sp3 hT ?_;refine sto hT kT2 ?_;refine nn<|bA<|sr<|sp2 hT ?_;refine nn<|cN rfl rfl ?_;refine bK<|bB<|sr<|sp hT ?_;refine bO Tryz.func77 (bNg bl A c toks (1) e (by omega) (by omega) hw) rfl rfl (.cons .head .nil) ⟨(Has.of mT0),(Has.of mT1),trivial⟩ fun⟨C16,e17,its18,k19⟩=>?_;refine cD (Has.of mT2) fun hits=>?_;dsimp only at hits;refine bV (kL (lns++[(⟨[],(bQ toks 0).at_,⟨C16,e17,its18⟩⟩:LineV)])) (bLh (Has.of mT6) (Has.and (Has.of mT0) (Has.of mT1))) ?_;refine sp4 hT ?_;refine sto hT kT1 ?_;refine sto hT kT3 ?_;refine nn<|bA<|qP 10 _ _ [(true,0),(true,1),(true,2),(true,3),(true,4),(true,5),(false,6),(false,7),(true,8),(true,9)] cY (by decide+kernel) (.cons .head (.cons .head (.cons .head (.cons .head (.cons .head (.cons .head .nil)))))) bF.self ?_;refine puL hT ?_;refine puL hT ?_;refine puL hT ?_;refine puL hT ?_;refine stL rfl (ldO hT (dB kT4)) ?_;refine stL rfl (ldN hT (bL kT1)) ?_;refine jK (o:=_) rfl ?_;refine bDd (m:=(⟨[],(bQ toks 0).at_,⟨C16,e17,its18⟩⟩:LineV)) rfl rfl rfl rfl rfl fun b20=>?_;refine jL (.cons kT1 (.cons kT1 (.cons kT1 (.cons kT1 (.cons kT1 (.cons kT1 .nil)))))) (bF.drop 0) ?_;refine jK (o:=_) rfl ?_;refine bCv kT7 (dF .head rfl) rfl rfl rfl rfl rfl rfl rfl (by simp only [List.length_singleton];omega) fun A21 c22=>?_;refine jL (.cons kT2 (.cons kT2 (.cons kT2 (.cons kT2 (.cons kT2 (.cons kT2 .nil)))))) (bF.drop 0) ?_;refine puL hT ?_;refine puL hT ?_;refine lF (o:=_) rfl ?_;refine sto hT kT6 ?_;refine nH<|bB<|sr<|ss (ldN hT (bL kT3)) ?_;refine sto hT kT3 ?_;refine nn<|bG ?_;have hr:=hR.symm.trans (i_out (by omega) (by omega) (by assumption) hin hout);subst hr;exact bR (ins,(lns++[(⟨[],(bQ toks 0).at_,⟨C16,e17,its18⟩⟩:LineV)]),(_,_),(_,_),_) rfl (bN hT (bL .head) rfl rfl rfl rfl) (.cons kT5 (.cons kT1 (.cons kT5 (.cons kT1 .nil)))) ⟨(Has.of mT6),(Has.of mT0),Has.pure (by rw [List.map_append,rW,←hits];rfl),trivial⟩ rfl
    have hg11:(bQ toks (0)).word≠([111,117,116]:Bs):=fun h=>absurd (beq_iff_eq.2 h) (by rw [show((bQ toks (0)).word==([111,117,116]:Bs))=false from hg11];simp);have hout:=isW_no (t:=bQ toks 0) (w:=[111,117,116]) (by assumption);refine cK<|bB<|bA<|bT<|sr<|sp3 hT ?_;refine nn<|bH rfl (fun hc33=>?_) (fun hc33=>?_)
    · have hc33:=eq_of_beq hc33;refine sr<|sp hT ?_;refine bO Tryz.func74 (cV bl A c toks (0) e _) rfl rfl (.cons kT1 .nil) ⟨Has.of mT0,trivial⟩ fun _=>?_;refine sto hT kT2 ?_;refine nn<|bG<|bI<|bC ?_;have hr:=hR.symm.trans (bBd (by omega));subst hr;exact bR (ins,lns,(_,_),(_,_),_) rfl (bN hT (bL .head) rfl rfl rfl rfl) (.cons kT1 (.cons kT2 (.cons kT2 (.cons kT2 .nil)))) ⟨(Has.of mT2),(Has.of mT3),Has.pure (rfl),trivial⟩ rfl
    have hc33:=beq_eq_false_iff_ne.1 hc33;refine sr<|sp3 hT ?_;refine ss (ldO hT (bL kT1)) ?_;refine sp3 hT ?_;refine nn<|bH rfl (fun hc38=>?_) (fun hc38=>?_)
    · have hc38:=of_decide_eq_true hc38;refine sr<|sp3 hT ?_;refine sto hT kT1 ?_;refine nn<|sr<|sp hT ?_;refine bO Tryz.func74 (cV bl A c toks (256) e _) rfl rfl (.cons .head .nil) ⟨Has.of mT0,trivial⟩ fun _=>?_;refine sto hT kT2 ?_;refine nn<|bG<|bI<|bC ?_;have hr:=hR.symm.trans (bGq (by omega) (by omega));subst hr;exact bR (ins,lns,(_,_),(_,_),_) rfl (bN hT (bL .head) rfl rfl rfl rfl) (.cons kT1 (.cons kT2 (.cons kT2 (.cons kT2 .nil)))) ⟨(Has.of mT2),(Has.of mT3),Has.pure (rfl),trivial⟩ rfl
    have hc38:=Int.not_lt.1 (of_decide_eq_false hc38);refine sr<|sp2 hT ?_;refine cF (fun hg52=>?_) (fun hg52=>?_)
    · refine sk4 ?_;refine sk4 ?_;refine sk ?_;refine sp2 hT ?_;refine nn<|cI rfl rfl ?_;refine sr<|sp hT ?_;refine bO Tryz.func74 (cV bl A c toks (0) e _) rfl rfl (.cons kT1 .nil) ⟨Has.of mT0,trivial⟩ fun _=>?_;refine sto hT kT2 ?_;refine nn<|bG<|bI<|bC ?_;have hr:=hR.symm.trans (uL (by omega) (by omega) (by first | exact .inl (by assumption) | exact .inr ⟨hin,xZ (by omega)⟩));subst hr;exact bR (ins,lns,(_,_),(_,_),_) rfl (bN hT (bL .head) rfl rfl rfl rfl) (.cons kT1 (.cons kT2 (.cons kT2 (.cons kT2 .nil)))) ⟨(Has.of mT2),(Has.of mT3),Has.pure (rfl),trivial⟩ rfl
    refine sp2 hT ?_;refine sk4 ?_;refine sk2 ?_;refine sp3 hT ?_;refine nn<|cN rfl rfl ?_;refine sr<|sp2 hT ?_;refine nn<|cN rfl rfl ?_;refine sr<|sp4 hT ?_;refine ss (ldO hT (bL .head)) ?_;refine sp hT ?_;refine cH (t':=false) ((congrArg not (show((bQ toks (0)).kind==1)=true from (by rw [hg20];rfl)):(!_)=_)) ?_;refine sp2 hT ?_;refine ss (ldO hT (fE .head)) ?_;refine bO Tryz.func76 (mD _ (Nat.le_trans (hw _) (by decide))) rfl rfl .nil ⟨Has.of mT1,trivial⟩ fun _=>?_;refine sp4 hT ?_;refine nn<|bH rfl (fun hc83=>?_) (fun hc83=>?_)
    · have hc83:=gC hc83;refine sr<|sp hT ?_;refine bO Tryz.func74 (cV bl A c toks (0) e _) rfl rfl (.cons kT1 .nil) ⟨Has.of mT0,trivial⟩ fun _=>?_;refine sto hT kT2 ?_;refine nn<|bG<|bI<|bC ?_;have hr:=hR.symm.trans (i_none (by omega) (by omega) (by assumption) hin hout (by first | exact .inl (by assumption) | exact .inr (by assumption)));subst hr;exact bR (ins,lns,(_,_),(_,_),_) rfl (bN hT (bL .head) rfl rfl rfl rfl) (.cons kT1 (.cons kT2 (.cons kT2 (.cons kT2 .nil)))) ⟨(Has.of mT2),(Has.of mT3),Has.pure (rfl),trivial⟩ rfl
    have hc83:=fN hc83;refine bK<|cA<|bB<|sr<|sp hT ?_;refine ss (ldO hT (dB .head)) ?_;refine ss (bY rfl rfl (oI _)) ?_;refine cE rfl rfl rfl rfl qI rfl fun b23=>?_;refine sto hT .head ?_;refine nn<|sr<|sp3 hT ?_;refine sto hT kT2 ?_;refine nn<|bA<|sr<|sp2 hT ?_;refine nn<|cI rfl rfl ?_;refine sr<|sp hT ?_;refine ss (ldO hT (fE kT2)) ?_;refine sp hT ?_;refine sto hT kT1 ?_;refine nn<|bA<|sr<|sp hT ?_;refine bO Tryz.func73 (iD bl A c toks (1) e) rfl rfl (.cons kT1 .nil) ⟨Has.of mT0,trivial⟩ fun _=>?_;refine cE rfl rfl rfl rfl wC rfl fun b24=>?_;refine sto hT .head ?_;refine nn<|sr<|sp hT ?_;refine ss (ldO hT (bL .head)) ?_;refine sp2 hT ?_;refine cF (fun hg115=>?_) (fun hg115=>?_)
    · have hg115:=bne_iff_ne.1 hg115;refine sk3 ?_;refine sp hT ?_;refine nn<|cI rfl rfl ?_;refine sr<|sp hT ?_;refine bO Tryz.func74 (cV bl A c toks (1) e _) rfl rfl (.cons kT1 .nil) ⟨Has.of mT0,trivial⟩ fun _=>?_;refine sto hT kT4 ?_;refine nn<|bG<|bC<|bC ?_;have hr:=hR.symm.trans (i_want (by omega) (by omega) (by assumption) hin hout (by assumption) (by assumption) (by first | exact .inl (by assumption) | exact .inr (by assumption)));subst hr;exact bR (ins,lns,(_,_),(_,_),_) rfl (bN hT (bL .head) rfl rfl rfl rfl) (.cons kT1 (.cons kT4 (.cons kT4 (.cons kT4 .nil)))) ⟨(Has.of mT2),(Has.of mT3),Has.pure (rfl),trivial⟩ rfl
    have hg115:=bne_eq_false_iff_eq.1 hg115;refine sp hT ?_;refine ss (ldO hT (fE .head)) ?_;refine sp2 hT ?_;refine nn<|bH rfl (fun hc119=>?_) (fun hc119=>?_)
    · have hc119:(bQ toks (1)).word≠([58]:Bs):=fun h=>by rw [h] at hc119;first | (simp at hc119;done) | exact absurd hc119 (by decide)
      refine sr<|sp hT ?_;refine bO Tryz.func74 (cV bl A c toks (1) e _) rfl rfl (.cons kT1 .nil) ⟨Has.of mT0,trivial⟩ fun _=>?_;refine sto hT kT4 ?_;refine nn<|bG<|bC<|bC ?_;have hr:=hR.symm.trans (i_want (by omega) (by omega) (by assumption) hin hout (by assumption) (by assumption) (by first | exact .inl (by assumption) | exact .inr (by assumption)));subst hr;exact bR (ins,lns,(_,_),(_,_),_) rfl (bN hT (bL .head) rfl rfl rfl rfl) (.cons kT1 (.cons kT4 (.cons kT4 (.cons kT4 .nil)))) ⟨(Has.of mT2),(Has.of mT3),Has.pure (rfl),trivial⟩ rfl
    have hc119:(bQ toks (1)).word=([58]:Bs):=eq_of_beq (fN hc119);refine bK<|bB<|bE<|sp3 hT ?_;refine sto hT kT1 ?_;refine nn<|sr<|sp hT ?_;refine bO Tryz.func77 (bNg bl A c toks (2) e (by have:=iP (toks:=toks) (k:=1) (by omega);omega) (by omega) hw) rfl rfl (.cons .head .nil) ⟨(Has.of mT0),(Has.of mT1),trivial⟩ fun⟨C25,e26,its27,k28⟩=>?_;refine cD (Has.of mT2) fun hits=>?_;dsimp only at hits;refine bV (kL (lns++[(⟨(bQ toks 0).word,(bQ toks 0).at_,⟨C25,e26,its27⟩⟩:LineV)])) (bLh (Has.of mT6) (Has.and (Has.of mT0) (Has.of mT1))) ?_;refine sp4 hT ?_;refine sto hT kT2 ?_;refine sto hT kT4 ?_;refine nn<|bA<|qP 10 _ _ [(true,0),(true,1),(true,2),(true,3),(true,4),(true,5),(false,6),(false,7),(true,8),(true,9)] cY (by decide+kernel) (.cons .head (.cons .head (.cons .head (.cons .head (.cons .head (.cons .head (.cons .head .nil))))))) bF.self ?_;refine puL hT ?_;refine puL hT ?_;refine puL hT ?_;refine puL hT ?_;refine stL rfl (ldO hT (dB kT5)) ?_;refine stL rfl (ldN hT (bL kT1)) ?_;refine jK (o:=_) rfl ?_;refine bDd (m:=(⟨(bQ toks 0).word,(bQ toks 0).at_,⟨C25,e26,its27⟩⟩:LineV)) rfl rfl rfl rfl rfl fun b29=>?_;refine jL (.cons kT1 (.cons kT1 (.cons kT1 (.cons kT1 (.cons kT1 (.cons kT1 (.cons kT1 .nil))))))) (bF.drop 0) ?_;refine jK (o:=_) rfl ?_;refine bCv kT8 (dF .head rfl) rfl rfl rfl rfl rfl rfl rfl (by simp only [List.length_singleton];omega) fun A30 c31=>?_;refine jL (.cons kT2 (.cons kT2 (.cons kT2 (.cons kT2 (.cons kT2 (.cons kT2 (.cons kT2 .nil))))))) (bF.drop 0) ?_;refine puL hT ?_;refine puL hT ?_;refine lF (o:=_) rfl ?_;refine sto hT kT7 ?_;refine nH<|bB<|sr<|ss (ldN hT (bL kT3)) ?_;refine sto hT kT3 ?_;refine nn<|bG ?_;have hr:=hR.symm.trans (i_line (by omega) (by omega) (by assumption) hin hout (by assumption) (by assumption) (by assumption) (by assumption));subst hr;exact bR (ins,(lns++[(⟨(bQ toks 0).word,(bQ toks 0).at_,⟨C25,e26,its27⟩⟩:LineV)]),(_,_),(_,_),_) rfl (bN hT (bL .head) rfl rfl rfl rfl) (.cons kT5 (.cons kT1 (.cons kT6 (.cons kT1 .nil)))) ⟨(Has.of mT6),(Has.of mT0),Has.pure (by rw [List.map_append,rW,←hits];rfl),trivial⟩ rfl
  have hg20:=beq_eq_false_iff_ne.1 hg20;refine cG rfl rfl rfl rfl ?_;refine cG rfl rfl rfl rfl ?_;refine cG rfl rfl rfl rfl ?_;refine puM hT ?_;refine puM hT ?_;refine stM rfl (ldO hT (bL .head)) ?_;refine puM hT ?_;refine cH (t':=false) (beq_eq_false_iff_ne.2 hg20) ?_;refine puM hT ?_;refine cG rfl rfl rfl rfl ?_;refine cG rfl rfl rfl rfl ?_;refine cG rfl rfl rfl rfl ?_;refine puM hT ?_;refine puM hT ?_;refine puM hT ?_;refine cK<|bB<|bA<|bT<|bA ?_;have hin:=isW_ne (t:=bQ toks 0) (w:=[105,110]) (by assumption);have hout:=isW_ne (t:=bQ toks 0) (w:=[111,117,116]) (by assumption);refine bE<|sp3 hT ?_;refine nn<|bH rfl (fun hc33=>?_) (fun hc33=>?_)
  · have hc33:=eq_of_beq hc33;refine sr<|sp hT ?_;refine bO Tryz.func74 (cV bl A c toks (0) e _) rfl rfl (.cons kT1 .nil) ⟨Has.of mT0,trivial⟩ fun _=>?_;refine sto hT kT2 ?_;refine nn<|bG<|bI<|bC ?_;have hr:=hR.symm.trans (bBd (by omega));subst hr;exact bR (ins,lns,(_,_),(_,_),_) rfl (bN hT (bL .head) rfl rfl rfl rfl) (.cons kT1 (.cons kT2 (.cons kT2 (.cons kT2 .nil)))) ⟨(Has.of mT2),(Has.of mT3),Has.pure (rfl),trivial⟩ rfl
  have hc33:=beq_eq_false_iff_ne.1 hc33;refine sr<|sp3 hT ?_;refine ss (ldO hT (bL kT1)) ?_;refine sp3 hT ?_;refine nn<|bH rfl (fun hc38=>?_) (fun hc38=>?_)
  · have hc38:=of_decide_eq_true hc38;refine sr<|sp3 hT ?_;refine sto hT kT1 ?_;refine nn<|sr<|sp hT ?_;refine bO Tryz.func74 (cV bl A c toks (256) e _) rfl rfl (.cons .head .nil) ⟨Has.of mT0,trivial⟩ fun _=>?_;refine sto hT kT2 ?_;refine nn<|bG<|bI<|bC ?_;have hr:=hR.symm.trans (bGq (by omega) (by omega));subst hr;exact bR (ins,lns,(_,_),(_,_),_) rfl (bN hT (bL .head) rfl rfl rfl rfl) (.cons kT1 (.cons kT2 (.cons kT2 (.cons kT2 .nil)))) ⟨(Has.of mT2),(Has.of mT3),Has.pure (rfl),trivial⟩ rfl
  have hc38:=Int.not_lt.1 (of_decide_eq_false hc38);refine sr<|sp2 hT ?_;refine cF (fun hg52=>?_) (fun hg52=>?_)
  · refine sk4 ?_;refine sk4 ?_;refine sk ?_;refine sp2 hT ?_;refine nn<|cI rfl rfl ?_;refine sr<|sp hT ?_;refine bO Tryz.func74 (cV bl A c toks (0) e _) rfl rfl (.cons kT1 .nil) ⟨Has.of mT0,trivial⟩ fun _=>?_;refine sto hT kT2 ?_;refine nn<|bG<|bI<|bC ?_;have hr:=hR.symm.trans (uL (by omega) (by omega) (by first | exact .inl (by assumption) | exact .inr ⟨hin,xZ (by omega)⟩));subst hr;exact bR (ins,lns,(_,_),(_,_),_) rfl (bN hT (bL .head) rfl rfl rfl rfl) (.cons kT1 (.cons kT2 (.cons kT2 (.cons kT2 .nil)))) ⟨(Has.of mT2),(Has.of mT3),Has.pure (rfl),trivial⟩ rfl
  refine sp2 hT ?_;refine sk4 ?_;refine sk2 ?_;refine sp3 hT ?_;refine nn<|cN rfl rfl ?_;refine sr<|sp2 hT ?_;refine nn<|cN rfl rfl ?_;refine sr<|sp4 hT ?_;refine ss (ldO hT (bL .head)) ?_;refine sp hT ?_;refine cH (t':=true) ((congrArg not (show((bQ toks (0)).kind==1)=false from (beq_eq_false_iff_ne.2 hg20)):(!_)=_)) ?_;refine sp hT ?_;refine sk4 ?_;refine sp3 hT ?_;refine nn<|cI rfl rfl ?_;refine sr<|sp hT ?_;refine bO Tryz.func74 (cV bl A c toks (0) e _) rfl rfl (.cons kT1 .nil) ⟨Has.of mT0,trivial⟩ fun _=>?_;refine sto hT kT2 ?_;refine nn<|bG<|bI<|bC ?_;have hr:=hR.symm.trans (i_none (by omega) (by omega) (by assumption) hin hout (by first | exact .inl (by assumption) | exact .inr (by assumption)));subst hr;exact bR (ins,lns,(_,_),(_,_),_) rfl (bN hT (bL .head) rfl rfl rfl rfl) (.cons kT1 (.cons kT2 (.cons kT2 (.cons kT2 .nil)))) ⟨(Has.of mT2),(Has.of mT3),Has.pure (rfl),trivial⟩ rfl
end Go.Proofs.YtbgdphbebhjpiaaGreatDoor
namespace Go.Proofs.YtbgdphbebhjpiaaGreatDoor
open Go.RowKit
section
variable {F : List Fact} {A : Option Addr} {c k : Nat} {toks : List TokV}
theorem own_fact(h:Has F (lC.sl (.slice A toks.length c) toks)):Has F (lC.sl (.slice A (ownP toks).length c) (ownP toks)):=by
  have:=kG h (bGk toks)
  rwa [zA] at this
theorem wW(h:Has F (lC.sl (.slice A toks.length c) toks))(hc:toks.length≤c)(hk:k≤toks.length):Has F (lC.sl (.slice (jP A k lC.size c) (toks.drop k).length (c-k)) (toks.drop k)):=by
  have:=lS h hc hk
  rwa [←List.length_drop] at this
end
theorem oE:(Tryz.prog.info? 25).bind (·.zero)=some (.agg #[.slice none 0 0,.slice none 0 0]):=by kernel_rfl
theorem gF:Tryz.prog.built 25 []=some #[.slice none 0 0,.slice none 0 0]:=by kernel_rfl
theorem sG(z2:Int):Tryz.prog.built 102 [(2,.int .i64 z2)]=some #[.slice none 0 0,.int .i64 0,.int .i64 z2]:=by kernel_rfl
set_option maxRecDepth 100000 in
theorem yJ(text:Bs)(hs:text.length≤140737488355328):dH Tryz.prog 18 [.string (bs text)] [] [iA] (fun(x:ProgV)=> .tuple #[.agg #[.slice x.inputs.addr x.inputs.list.length x.inputs.cap,.slice x.lines.addr x.lines.list.length x.lines.cap],.agg #[.int .i64 (gI text).2.1,.int .i64 (gI text).2.2]]) (fun _=>[]) (fun(x:ProgV)=>[progFct x,Fact.pure (x.pr=(gI text).1)]):=by
  have hT:=fH;generalize hR:gI text=r;refine cQ Tryz.func18 rfl Tryz.ntmps18 rfl ?_;intro β hM;refine sr<|cE rfl rfl rfl rfl oE rfl fun b1=>?_;refine cE rfl rfl rfl rfl yC rfl fun b2=>?_;refine nn<|sr<|sp hT ?_;refine bO Tryz.func37 (bGf text (by omega)) rfl rfl .nil ⟨Has.of mT0,trivial⟩ fun⟨A3,c4⟩=>?_;refine sp3 hT ?_;refine cE rfl rfl rfl rfl yC rfl fun b5=>?_;refine sp hT ?_;refine sto hT .head ?_;refine nn<|bA<|sr<|ss (ldN hT (bL .head)) ?_;refine ss (bY rfl rfl (vU)) ?_;refine ss (fD ⟨(lexP text).2.1,(lexP text).2.2⟩ ⟨0,0⟩ rfl rfl rfl) ?_;refine nn<|bH rfl (fun hc18=>?_) (fun hc18=>?_)
  · have hc18:=gC hc18;refine bA<|cU _ _ [(true,0),(true,1),(false,2),(false,3)] cY (by decide+kernel) (.cons .head .nil) bF.self ?_;refine stM rfl (bY rfl rfl (gF)) ?_;refine stM rfl (ldN hT (bL .head)) ?_;refine cC (o:=_) rfl ?_;refine sto hT kT2 ?_;refine cB (.cons kT1 .nil) (bF.drop 0) ?_;refine cC (o:=_) rfl ?_;refine sto hT kT2 ?_;refine cB (.cons kT2 .nil) (bF.drop 0) ?_;refine cK<|bB<|bG<|bC ?_;have hr:=p_lexed hR hc18;subst hr;exact bM (⟨⟨none,0,[]⟩,⟨none,0,[]⟩⟩:ProgV) rfl (bN hT (bL kT1) rfl rfl rfl rfl) (bN hT (bL .head) rfl rfl rfl rfl) .nil ⟨Has.and (Has.and dO Has.each_nil) (Has.and dO Has.each_nil),Has.pure rfl,trivial⟩ rfl
  have hc18:=fN hc18;refine bK<|bB<|bA ?_;have hp:=p_start hR hc18;refine bE<|cE rfl rfl rfl rfl oE rfl fun b6=>?_;refine nn<|sr<|sp2 hT ?_;refine nn<|bA<|bT ?_;have hlc:=lex_count text;refine cD (Has.of mT1) fun hcap=>?_;refine dQ (t:=61) jT ?_;refine dQ (t:=49) nR ?_;refine bV (iN []) (Has.each_nil) ?_;refine bV (kL []) (Has.each_nil) ?_;refine dD (ι:=List TokV×Option Addr×Nat×List InputV×List LineV×Option Addr×Nat×Option Addr×Nat×Nat×Bool×Int×Int) [(0,_),(2,_),(3,_),(5,_),(6,_)] ⟨rfl,rfl,rfl,rfl,rfl,trivial⟩ (fun⟨toks,A,c,ins,lns,I,ci,J,cj,n,ov,f1,f2⟩=>[(4,.slice A toks.length c),(7,.int .i64 (n:Nat)),(8,.bool ov)]) (fun⟨toks,A,c,ins,lns,I,ci,J,cj,n,ov,f1,f2⟩=>[.obj b6 (.cells [.slice I ins.length ci,.slice J lns.length cj].toArray 25),jT.row (.slice I ins.length ci) 61 ins,nR.row (.slice J lns.length cj) 49 lns,.obj b5 (.cells [.int .i64 f1,.int .i64 f2].toArray 36)]) (fun⟨toks,A,c,ins,lns,I,ci,J,cj,n,ov,f1,f2⟩=>[Fact.pure (sU r text.length toks ⟨ins.map InputV.inp,lns.map LineV.ln⟩ n ov∧(∀t∈toks,zL t)∧toks.length≤c∧toks.length≤65536∧n≤64∧ins.length+lns.length≤n),lC.sl (.slice A toks.length c) toks,iN ins,kL lns]) (fun⟨toks,A,c,ins,lns,I,ci,J,cj,n,ov,f1,f2⟩=>toks.length) ((lexP text).1,A3,c4,[],[],none,0,none,0,0,false,(lexP text).2.1,(lexP text).2.2) ⟨rfl,rfl,rfl,trivial⟩ (.cons kT2 (.cons kT1 (.cons .head (.cons .head .nil)))) ⟨Has.pure (⟨hp,lex_ok text,hcap,hlc,by omega,by simp⟩),Has.of mT2,Has.of mT1,Has.of mT0,trivial⟩ ?_;rintro⟨toks,A,c,ins,lns,I,ci,J,cj,n,ov,f1,f2⟩;dsimp only;refine cD (Has.of mT0) fun hinv6=>?_;refine bA<|sr<|sp3 hT ?_;refine nn<|bH rfl (fun hc23=>?_) (fun hc23=>?_)
  · have hc23:=of_decide_eq_true hc23;refine bK<|bB<|bT<|sr<|sp2 hT ?_;refine bP (z':=((text.length:Nat):Int)) rfl ?_;refine ss (bY rfl rfl (sG _)) ?_;refine fL rfl rfl rfl rfl rfl rfl fun b7=>?_;refine sp hT ?_;refine nn<|sr<|sp hT ?_;refine nn<|bA<|bT<|dD (ι:=Nat) [(0,_),(2,_),(3,_),(4,_),(5,_),(6,_),(7,_),(8,_),(9,_)] ⟨rfl,rfl,rfl,rfl,rfl,rfl,rfl,rfl,rfl,trivial⟩ (fun j=>[(10,.int .i64 (j:Nat))]) (fun _=>[]) (fun j=>[Fact.pure (j≤(ownP toks).length)]) (fun j=>toks.length-j) 0 ⟨rfl,trivial⟩ .nil ⟨Has.pure (by omega),trivial⟩ ?_;rintro j;refine cD (Has.of mT0) fun hinv9=>?_;refine bA<|sr<|sp4 hT ?_;refine sp hT ?_;refine cF (fun hg32=>?_) (fun hg32=>?_)
    · have hg32:=of_decide_eq_true hg32;refine sp2 hT ?_
      obtain⟨x8,hx9⟩: ∃x,toks[j]?=some x:=⟨_,List.getElem?_eq_getElem (by omega)⟩
      refine ss (bS hT (k:=j) (bJ (Has.of mT2)) rfl rfl rfl rfl rfl rfl rfl (by omega)) ?_;refine sp hT ?_;refine ss (bZ hT (cR.knows (bJ (Has.of mT2)) (k:=j) (x:=x8) hx9 0) rfl rfl rfl rfl rfl) ?_;refine sp2 hT ?_;refine nn<|bH rfl (fun hc39=>?_) (fun hc39=>?_)
      · have hc39:=bne_iff_ne.1 hc39;refine bK<|bB<|bT<|bE<|sp2 hT ?_;refine bP (z':=(((j+1):Nat):Int)) (cL (by omega) (by omega)) ?_;refine sp hT ?_;refine dU<|cA<|bB ?_;exact cP (j+1) (by omega) ⟨rfl,trivial⟩ ⟨rfl,rfl,rfl,rfl,rfl,rfl,rfl,rfl,rfl,trivial⟩ (.cons .head (.cons .head (.cons .head (.cons .head (.cons .head (.cons .head (.cons .head .nil))))))) ⟨Has.pure (own_more hinv9 (by assumption) (by assumption)),trivial⟩ (bF.drop 1)
      have hc39:=bne_eq_false_iff_eq.1 hc39;refine cW<|cM<|cM<|cX<|bB<|bA ?_;have hj:=own_stop hinv9 (by first | exact .inl (by omega) | exact .inr ⟨_,by assumption,by assumption⟩);subst hj;have hol:=bGk toks;refine bE<|sp3 hT ?_;refine ss (qR hT (k:=(ownP toks).length) rfl rfl rfl rfl rfl rfl (by omega)) ?_;refine sp2 hT ?_;refine sto hT .head ?_;refine nn<|bA<|bA<|bV (lC.sl (.slice A (ownP toks).length c) (ownP toks)) (own_fact (Has.of mT2)) ?_;refine bE<|sp4 hT ?_;refine nn<|bH rfl (fun hc51=>?_) (fun hc51=>?_)
      · have hc51:=of_decide_eq_true hc51;refine sr<|sp3 hT ?_;refine ss (bS hT (k:=(ownP toks).length) (bJ (Has.of mT3)) rfl rfl rfl rfl rfl rfl rfl (by omega)) ?_;refine sp hT ?_;refine ss (bZ hT (cR.knows (bJ (Has.of mT3)) (k:=(ownP toks).length) (x:=x8) hx9 1) rfl rfl rfl rfl rfl) ?_;refine sp2 hT ?_;refine sto hT .head ?_;refine nn<|bE<|sp2 hT ?_;refine bP (z':=((((ownP toks).length+1):Nat):Int)) (cL (by omega) (by omega)) ?_;refine sp hT ?_;refine nn<|sr<|sp2 hT ?_;refine ss (gN hT (k:=((ownP toks).length+1)) rfl rfl rfl rfl rfl rfl (by omega)) ?_;refine vE (v':= .slice (jP A ((ownP toks).length+1) lC.size c) (toks.drop ((ownP toks).length+1)).length (c-((ownP toks).length+1))) (by rw [List.length_drop];rfl) ?_;refine sp hT ?_;refine nn<|bA<|bA<|bV (lC.sl (.slice (jP A ((ownP toks).length+1) lC.size c) (toks.drop ((ownP toks).length+1)).length (c-((ownP toks).length+1))) (toks.drop ((ownP toks).length+1))) (wW (Has.of mT3) hinv6.2.2.1 (by omega)) ?_;refine bE<|sp3 hT ?_;refine ss (ldO hT (bL .head)) ?_;refine sp2 hT ?_;refine nn<|bH rfl (fun hc70=>?_) (fun hc70=>?_)
        · have hc70:=eq_of_beq hc70;have hon:=bFh hc70;have hsk:sU r text.length (toks.drop ((ownP toks).length+1)) ⟨ins.map InputV.inp,lns.map LineV.ln⟩ n ov:=by have:=p_skip hinv6.1 (sI (by omega)) hon;rw [hon];exact this
          refine cW<|cM<|cX<|bB ?_;exact cP (toks.drop ((ownP toks).length+1),_,_,ins,lns,_,_,_,_,n,_,_,_) (by dsimp only;rw [List.length_drop];omega) ⟨rfl,rfl,rfl,trivial⟩ ⟨rfl,rfl,rfl,rfl,rfl,trivial⟩ (.cons kT1 (.cons kT1 (.cons kT1 (.cons kT1 (.cons kT1 (.cons kT1 .nil)))))) ⟨Has.pure (⟨hsk,fun t ht=>hinv6.2.1 t (List.mem_of_mem_drop ht),by dsimp only;rw [List.length_drop];omega,by dsimp only;rw [List.length_drop];omega,hinv6.2.2.2.2.1,hinv6.2.2.2.2.2⟩),Has.of mT0,Has.of mT5,Has.of mT6,trivial⟩ (bF.drop 7)
        have hc70:=beq_eq_false_iff_ne.1 hc70;refine bK<|bB<|bA<|sr<|sp3 hT ?_;have hon:0<(ownP toks).length:=by omega
        refine bO Tryz.func38 (wX _ A c (ownP toks) _ _ I ci ins J cj lns n ov hon hinv6.2.2.2.2.1 hinv6.2.2.2.2.2 (wR (bFb hinv6.2.1))) rfl rfl (.cons .head (.cons .head (.cons .head (.cons .head .nil)))) ⟨(Has.of mT1),(Has.of bEq),(Has.of mT5),(Has.of mT6),trivial⟩ fun⟨ins10,lns11,⟨I12,ci13⟩,⟨J14,cj15⟩,k16⟩=>?_;refine cD (Has.of mT2) fun hq=>?_;dsimp only at hq;have hE:x8.at_=endP toks text.length:=(zB hx9).symm;have hpl:=yA (q:=⟨ins10.map InputV.inp,lns11.map LineV.ln⟩) (f:=(intoP (ownP toks) x8.at_ ⟨ins.map InputV.inp,lns.map LineV.ln⟩ n ov).2) hinv6.1 (sI (by omega)) (sI hon) (by rw [←hE];exact Prod.ext hq.symm rfl);refine sto hT kT4 ?_;refine nn<|sr<|ss (ldN hT (bL .head)) ?_;refine ss (bY rfl rfl (vU)) ?_;refine ss (fD ⟨(intoP (ownP toks) x8.at_ ⟨ins.map InputV.inp,lns.map LineV.ln⟩ n ov).2.1,(intoP (ownP toks) x8.at_ ⟨ins.map InputV.inp,lns.map LineV.ln⟩ n ov).2.2⟩ ⟨0,0⟩ rfl rfl rfl) ?_;refine nn<|bH rfl (fun hc77=>?_) (fun hc77=>?_)
        · have hc77:=gC hc77;refine bA<|cU _ _ [(true,0),(true,1),(false,2),(false,3)] cY (by decide+kernel) (.cons .head (.cons .head (.cons .head (.cons .head (.cons .head .nil))))) bF.self ?_;refine stM rfl (bY rfl rfl (gF)) ?_;refine stM rfl (ldN hT (bL .head)) ?_;refine cC (o:=_) rfl ?_;refine sto hT kT6 ?_;refine cB (.cons kT1 (.cons kT1 (.cons kT1 (.cons kT1 (.cons kT1 .nil))))) (bF.drop 0) ?_;refine cC (o:=_) rfl ?_;refine sto hT kT6 ?_;refine cB (.cons kT2 (.cons kT2 (.cons kT2 (.cons kT2 (.cons kT2 .nil))))) (bF.drop 0) ?_;refine cK<|bB<|bG<|bC<|bI<|bC<|bI<|bC ?_;have hr:=hpl.2 hc77;subst hr;exact bM (⟨⟨none,0,[]⟩,⟨none,0,[]⟩⟩:ProgV) rfl (bN hT (bL kT1) rfl rfl rfl rfl) (bN hT (bL .head) rfl rfl rfl rfl) .nil ⟨Has.and (Has.and dO Has.each_nil) (Has.and dO Has.each_nil),Has.pure rfl,trivial⟩ rfl
        have hc77:=fN hc77;refine bK<|bB<|bA ?_;have hp2:=hpl.1 hc77;have hio:=bEz hc77;have hlen:ins10.length+lns11.length≤n+1:=by have:=hio.2;rw [←hq] at this;dsimp only at this;simp only [List.length_map] at this;omega
        refine bE<|sp2 hT ?_;refine bP (z':=(((n+1):Nat):Int)) (cL (by omega) (by omega)) ?_;refine sp hT ?_;refine nn<|bE<|sp hT ?_;refine ss (ldO hT (dB kT2)) ?_;refine sp hT ?_;refine bP (z':=((lns11.length:Nat):Int)) (rfl) ?_;refine sp2 hT ?_;refine cF (fun hg86=>?_) (fun hg86=>?_)
        · have hg86:=of_decide_eq_true hg86;refine sp hT ?_;refine ss (ldO hT (dB kT2)) ?_;refine sp hT ?_;refine ss (ldO hT (dB kT2)) ?_;refine sp hT ?_;refine bP (z':=((lns11.length:Nat):Int)) (rfl) ?_;refine sp hT ?_;refine bP (z':=(((lns11.length-1):Nat):Int)) (cL (by omega) (by omega)) ?_
          obtain⟨x17,hx18⟩: ∃x,lns11[(lns11.length-1)]?=some x:=⟨_,List.getElem?_eq_getElem (show lns11.length-1<lns11.length from by omega)⟩
          refine ss (bS hT (k:=(lns11.length-1)) (cJ kT4) rfl rfl rfl rfl rfl rfl rfl (show lns11.length-1<lns11.length from by omega)) ?_;refine sp hT ?_;refine ss (bZ hT (cR.knows (cJ kT4) (k:=(lns11.length-1)) (x:=x17) hx18 0) rfl rfl rfl rfl rfl) ?_;refine sp3 hT ?_;refine cH (t':=nC ⟨ins10.map InputV.inp,lns11.map LineV.ln⟩) (xE (by assumption)) ?_;refine dU<|cA<|bB ?_;exact cP (toks.drop ((ownP toks).length+1),_,_,ins10,lns11,_,_,_,_,(n+1),_,_,_) (by dsimp only;rw [List.length_drop];omega) ⟨rfl,rfl,rfl,trivial⟩ ⟨rfl,rfl,rfl,rfl,rfl,trivial⟩ (.cons kT2 (.cons kT2 (.cons kT2 (.cons .head (.cons kT1 (.cons kT1 .nil)))))) ⟨Has.pure (⟨hp2,fun t ht=>hinv6.2.1 t (List.mem_of_mem_drop ht),by dsimp only;rw [List.length_drop];omega,by dsimp only;rw [List.length_drop];omega,by have:=hio.1;dsimp only;omega,by dsimp only;omega⟩),Has.of mT3,Has.of mT0,Has.of mT1,trivial⟩ (bF.drop 10)
        have hg86:=Int.not_lt.1 (of_decide_eq_false hg86);refine sk4 ?_;refine sk4 ?_;refine sk2 ?_;refine sp2 hT ?_;refine cH (t':=nC ⟨ins10.map InputV.inp,lns11.map LineV.ln⟩) (xF (by omega)) ?_;refine dU<|cA<|bB ?_;exact cP (toks.drop ((ownP toks).length+1),_,_,ins10,lns11,_,_,_,_,(n+1),_,_,_) (by dsimp only;rw [List.length_drop];omega) ⟨rfl,rfl,rfl,trivial⟩ ⟨rfl,rfl,rfl,rfl,rfl,trivial⟩ (.cons kT2 (.cons kT2 (.cons kT2 (.cons .head (.cons kT1 (.cons kT1 .nil)))))) ⟨Has.pure (⟨hp2,fun t ht=>hinv6.2.1 t (List.mem_of_mem_drop ht),by dsimp only;rw [List.length_drop];omega,by dsimp only;rw [List.length_drop];omega,by have:=hio.1;dsimp only;omega,by dsimp only;omega⟩),Has.of mT3,Has.of mT0,Has.of mT1,trivial⟩ (bF.drop 10)
      have hc51:=Int.not_lt.1 (of_decide_eq_false hc51);refine bK<|bB<|sr<|sp2 hT ?_;refine ss (gN hT (k:=(ownP toks).length) rfl rfl rfl rfl rfl rfl (by omega)) ?_;refine vE (v':= .slice (jP A (ownP toks).length lC.size c) (toks.drop (ownP toks).length).length (c-(ownP toks).length)) (by rw [List.length_drop];rfl) ?_;refine sp hT ?_;refine nn<|bA<|bA<|bV (lC.sl (.slice (jP A (ownP toks).length lC.size c) (toks.drop (ownP toks).length).length (c-(ownP toks).length)) (toks.drop (ownP toks).length)) (wW (Has.of mT3) hinv6.2.2.1 (by omega)) ?_;refine bE<|sp3 hT ?_;refine ss (ldO hT (bL .head)) ?_;refine sp2 hT ?_;refine nn<|bH rfl (fun hc70=>?_) (fun hc70=>?_)
      · have hc70:=eq_of_beq hc70;have hon:=bFh hc70;exact absurd hc70 (by omega)
      have hc70:=beq_eq_false_iff_ne.1 hc70;refine bK<|bB<|bA<|sr<|sp3 hT ?_;have hon:0<(ownP toks).length:=by omega
      refine bO Tryz.func38 (wX _ A c (ownP toks) _ _ I ci ins J cj lns n ov hon hinv6.2.2.2.2.1 hinv6.2.2.2.2.2 (wR (bFb hinv6.2.1))) rfl rfl (.cons .head (.cons .head (.cons .head (.cons .head .nil)))) ⟨(Has.of mT1),(Has.of bEq),(Has.of mT5),(Has.of mT6),trivial⟩ fun⟨ins19,lns20,⟨I21,ci22⟩,⟨J23,cj24⟩,k25⟩=>?_;refine cD (Has.of mT2) fun hq=>?_;dsimp only at hq;have hE:((text.length:Nat):Int)=endP toks text.length:=(bJo (by omega)).symm;have hpl:=yA (q:=⟨ins19.map InputV.inp,lns20.map LineV.ln⟩) (f:=(intoP (ownP toks) ((text.length:Nat):Int) ⟨ins.map InputV.inp,lns.map LineV.ln⟩ n ov).2) hinv6.1 (sI (by omega)) (sI hon) (by rw [←hE];exact Prod.ext hq.symm rfl);refine sto hT kT4 ?_;refine nn<|sr<|ss (ldN hT (bL .head)) ?_;refine ss (bY rfl rfl (vU)) ?_;refine ss (fD ⟨(intoP (ownP toks) ((text.length:Nat):Int) ⟨ins.map InputV.inp,lns.map LineV.ln⟩ n ov).2.1,(intoP (ownP toks) ((text.length:Nat):Int) ⟨ins.map InputV.inp,lns.map LineV.ln⟩ n ov).2.2⟩ ⟨0,0⟩ rfl rfl rfl) ?_;refine nn<|bH rfl (fun hc77=>?_) (fun hc77=>?_)
      · have hc77:=gC hc77;refine bA<|cU _ _ [(true,0),(true,1),(false,2),(false,3)] cY (by decide+kernel) (.cons .head (.cons .head (.cons .head (.cons .head (.cons .head .nil))))) bF.self ?_;refine stM rfl (bY rfl rfl (gF)) ?_;refine stM rfl (ldN hT (bL .head)) ?_;refine cC (o:=_) rfl ?_;refine sto hT kT6 ?_;refine cB (.cons kT1 (.cons kT1 (.cons kT1 (.cons kT1 (.cons kT1 .nil))))) (bF.drop 0) ?_;refine cC (o:=_) rfl ?_;refine sto hT kT6 ?_;refine cB (.cons kT2 (.cons kT2 (.cons kT2 (.cons kT2 (.cons kT2 .nil))))) (bF.drop 0) ?_;refine cK<|bB<|bG<|bC<|bI<|bC<|bI<|bC ?_;have hr:=hpl.2 hc77;subst hr;exact bM (⟨⟨none,0,[]⟩,⟨none,0,[]⟩⟩:ProgV) rfl (bN hT (bL kT1) rfl rfl rfl rfl) (bN hT (bL .head) rfl rfl rfl rfl) .nil ⟨Has.and (Has.and dO Has.each_nil) (Has.and dO Has.each_nil),Has.pure rfl,trivial⟩ rfl
      have hc77:=fN hc77;refine bK<|bB<|bA ?_;have hp2:=hpl.1 hc77;have hio:=bEz hc77;have hlen:ins19.length+lns20.length≤n+1:=by have:=hio.2;rw [←hq] at this;dsimp only at this;simp only [List.length_map] at this;omega
      refine bE<|sp2 hT ?_;refine bP (z':=(((n+1):Nat):Int)) (cL (by omega) (by omega)) ?_;refine sp hT ?_;refine nn<|bE<|sp hT ?_;refine ss (ldO hT (dB kT2)) ?_;refine sp hT ?_;refine bP (z':=((lns20.length:Nat):Int)) (rfl) ?_;refine sp2 hT ?_;refine cF (fun hg86=>?_) (fun hg86=>?_)
      · have hg86:=of_decide_eq_true hg86;refine sp hT ?_;refine ss (ldO hT (dB kT2)) ?_;refine sp hT ?_;refine ss (ldO hT (dB kT2)) ?_;refine sp hT ?_;refine bP (z':=((lns20.length:Nat):Int)) (rfl) ?_;refine sp hT ?_;refine bP (z':=(((lns20.length-1):Nat):Int)) (cL (by omega) (by omega)) ?_
        obtain⟨x26,hx27⟩: ∃x,lns20[(lns20.length-1)]?=some x:=⟨_,List.getElem?_eq_getElem (show lns20.length-1<lns20.length from by omega)⟩
        refine ss (bS hT (k:=(lns20.length-1)) (cJ kT4) rfl rfl rfl rfl rfl rfl rfl (show lns20.length-1<lns20.length from by omega)) ?_;refine sp hT ?_;refine ss (bZ hT (cR.knows (cJ kT4) (k:=(lns20.length-1)) (x:=x26) hx27 0) rfl rfl rfl rfl rfl) ?_;refine sp3 hT ?_;refine cH (t':=nC ⟨ins19.map InputV.inp,lns20.map LineV.ln⟩) (xE (by assumption)) ?_;refine dU<|cA<|bB ?_;exact cP (toks.drop (ownP toks).length,_,_,ins19,lns20,_,_,_,_,(n+1),_,_,_) (by dsimp only;rw [List.length_drop];omega) ⟨rfl,rfl,rfl,trivial⟩ ⟨rfl,rfl,rfl,rfl,rfl,trivial⟩ (.cons kT2 (.cons kT2 (.cons kT2 (.cons .head (.cons kT1 (.cons kT1 .nil)))))) ⟨Has.pure (⟨by dsimp only;rw [bFn (toks:=toks) rfl (by omega)];exact hp2,fun t ht=>hinv6.2.1 t (List.mem_of_mem_drop ht),by dsimp only;rw [List.length_drop];omega,by dsimp only;rw [List.length_drop];omega,by have:=hio.1;dsimp only;omega,by dsimp only;omega⟩),Has.of mT3,Has.of mT0,Has.of mT1,trivial⟩ (bF.drop 10)
      have hg86:=Int.not_lt.1 (of_decide_eq_false hg86);refine sk4 ?_;refine sk4 ?_;refine sk2 ?_;refine sp2 hT ?_;refine cH (t':=nC ⟨ins19.map InputV.inp,lns20.map LineV.ln⟩) (xF (by omega)) ?_;refine dU<|cA<|bB ?_;exact cP (toks.drop (ownP toks).length,_,_,ins19,lns20,_,_,_,_,(n+1),_,_,_) (by dsimp only;rw [List.length_drop];omega) ⟨rfl,rfl,rfl,trivial⟩ ⟨rfl,rfl,rfl,rfl,rfl,trivial⟩ (.cons kT2 (.cons kT2 (.cons kT2 (.cons .head (.cons kT1 (.cons kT1 .nil)))))) ⟨Has.pure (⟨by dsimp only;rw [bFn (toks:=toks) rfl (by omega)];exact hp2,fun t ht=>hinv6.2.1 t (List.mem_of_mem_drop ht),by dsimp only;rw [List.length_drop];omega,by dsimp only;rw [List.length_drop];omega,by have:=hio.1;dsimp only;omega,by dsimp only;omega⟩),Has.of mT3,Has.of mT0,Has.of mT1,trivial⟩ (bF.drop 10)
    have hg32:=Int.not_lt.1 (of_decide_eq_false hg32);refine sk4 ?_;refine sk2 ?_;refine sp hT ?_;refine nn<|cN rfl rfl ?_;refine cW<|cM<|cM<|cX<|bB<|bA ?_;have hj:=own_stop hinv9 (by first | exact .inl (by omega) | exact .inr ⟨_,by assumption,by assumption⟩);subst hj;have hol:=bGk toks;refine bE<|sp3 hT ?_;refine ss (qR hT (k:=(ownP toks).length) rfl rfl rfl rfl rfl rfl (by omega)) ?_;refine sp2 hT ?_;refine sto hT .head ?_;refine nn<|bA<|bA<|bV (lC.sl (.slice A (ownP toks).length c) (ownP toks)) (own_fact (Has.of mT2)) ?_;refine bE<|sp4 hT ?_;refine nn<|bH rfl (fun hc51=>?_) (fun hc51=>?_)
    · have hc51:=of_decide_eq_true hc51;refine sr<|sp3 hT ?_
      obtain⟨x28,hx29⟩: ∃x,toks[(ownP toks).length]?=some x:=⟨_,List.getElem?_eq_getElem (by omega)⟩
      refine ss (bS hT (k:=(ownP toks).length) (bJ (Has.of mT3)) rfl rfl rfl rfl rfl rfl rfl (by omega)) ?_;refine sp hT ?_;refine ss (bZ hT (cR.knows (bJ (Has.of mT3)) (k:=(ownP toks).length) (x:=x28) hx29 1) rfl rfl rfl rfl rfl) ?_;refine sp2 hT ?_;refine sto hT .head ?_;refine nn<|bE<|sp2 hT ?_;refine bP (z':=((((ownP toks).length+1):Nat):Int)) (cL (by omega) (by omega)) ?_;refine sp hT ?_;refine nn<|sr<|sp2 hT ?_;refine ss (gN hT (k:=((ownP toks).length+1)) rfl rfl rfl rfl rfl rfl (by omega)) ?_;refine vE (v':= .slice (jP A ((ownP toks).length+1) lC.size c) (toks.drop ((ownP toks).length+1)).length (c-((ownP toks).length+1))) (by rw [List.length_drop];rfl) ?_;refine sp hT ?_;refine nn<|bA<|bA<|bV (lC.sl (.slice (jP A ((ownP toks).length+1) lC.size c) (toks.drop ((ownP toks).length+1)).length (c-((ownP toks).length+1))) (toks.drop ((ownP toks).length+1))) (wW (Has.of mT3) hinv6.2.2.1 (by omega)) ?_;refine bE<|sp3 hT ?_;refine ss (ldO hT (bL .head)) ?_;refine sp2 hT ?_;refine nn<|bH rfl (fun hc70=>?_) (fun hc70=>?_)
      · have hc70:=eq_of_beq hc70;have hon:=bFh hc70;have hsk:sU r text.length (toks.drop ((ownP toks).length+1)) ⟨ins.map InputV.inp,lns.map LineV.ln⟩ n ov:=by have:=p_skip hinv6.1 (sI (by omega)) hon;rw [hon];exact this
        refine cW<|cM<|cX<|bB ?_;exact cP (toks.drop ((ownP toks).length+1),_,_,ins,lns,_,_,_,_,n,_,_,_) (by dsimp only;rw [List.length_drop];omega) ⟨rfl,rfl,rfl,trivial⟩ ⟨rfl,rfl,rfl,rfl,rfl,trivial⟩ (.cons kT1 (.cons kT1 (.cons kT1 (.cons kT1 (.cons kT1 (.cons kT1 .nil)))))) ⟨Has.pure (⟨hsk,fun t ht=>hinv6.2.1 t (List.mem_of_mem_drop ht),by dsimp only;rw [List.length_drop];omega,by dsimp only;rw [List.length_drop];omega,hinv6.2.2.2.2.1,hinv6.2.2.2.2.2⟩),Has.of mT0,Has.of mT5,Has.of mT6,trivial⟩ (bF.drop 7)
      have hc70:=beq_eq_false_iff_ne.1 hc70;refine bK<|bB<|bA<|sr<|sp3 hT ?_;have hon:0<(ownP toks).length:=by omega
      refine bO Tryz.func38 (wX _ A c (ownP toks) _ _ I ci ins J cj lns n ov hon hinv6.2.2.2.2.1 hinv6.2.2.2.2.2 (wR (bFb hinv6.2.1))) rfl rfl (.cons .head (.cons .head (.cons .head (.cons .head .nil)))) ⟨(Has.of mT1),(Has.of bEq),(Has.of mT5),(Has.of mT6),trivial⟩ fun⟨ins30,lns31,⟨I32,ci33⟩,⟨J34,cj35⟩,k36⟩=>?_;refine cD (Has.of mT2) fun hq=>?_;dsimp only at hq;have hE:x28.at_=endP toks text.length:=(zB hx29).symm;have hpl:=yA (q:=⟨ins30.map InputV.inp,lns31.map LineV.ln⟩) (f:=(intoP (ownP toks) x28.at_ ⟨ins.map InputV.inp,lns.map LineV.ln⟩ n ov).2) hinv6.1 (sI (by omega)) (sI hon) (by rw [←hE];exact Prod.ext hq.symm rfl);refine sto hT kT4 ?_;refine nn<|sr<|ss (ldN hT (bL .head)) ?_;refine ss (bY rfl rfl (vU)) ?_;refine ss (fD ⟨(intoP (ownP toks) x28.at_ ⟨ins.map InputV.inp,lns.map LineV.ln⟩ n ov).2.1,(intoP (ownP toks) x28.at_ ⟨ins.map InputV.inp,lns.map LineV.ln⟩ n ov).2.2⟩ ⟨0,0⟩ rfl rfl rfl) ?_;refine nn<|bH rfl (fun hc77=>?_) (fun hc77=>?_)
      · have hc77:=gC hc77;refine bA<|cU _ _ [(true,0),(true,1),(false,2),(false,3)] cY (by decide+kernel) (.cons .head (.cons .head (.cons .head (.cons .head (.cons .head .nil))))) bF.self ?_;refine stM rfl (bY rfl rfl (gF)) ?_;refine stM rfl (ldN hT (bL .head)) ?_;refine cC (o:=_) rfl ?_;refine sto hT kT6 ?_;refine cB (.cons kT1 (.cons kT1 (.cons kT1 (.cons kT1 (.cons kT1 .nil))))) (bF.drop 0) ?_;refine cC (o:=_) rfl ?_;refine sto hT kT6 ?_;refine cB (.cons kT2 (.cons kT2 (.cons kT2 (.cons kT2 (.cons kT2 .nil))))) (bF.drop 0) ?_;refine cK<|bB<|bG<|bC<|bI<|bC<|bI<|bC ?_;have hr:=hpl.2 hc77;subst hr;exact bM (⟨⟨none,0,[]⟩,⟨none,0,[]⟩⟩:ProgV) rfl (bN hT (bL kT1) rfl rfl rfl rfl) (bN hT (bL .head) rfl rfl rfl rfl) .nil ⟨Has.and (Has.and dO Has.each_nil) (Has.and dO Has.each_nil),Has.pure rfl,trivial⟩ rfl
      have hc77:=fN hc77;refine bK<|bB<|bA ?_;have hp2:=hpl.1 hc77;have hio:=bEz hc77;have hlen:ins30.length+lns31.length≤n+1:=by have:=hio.2;rw [←hq] at this;dsimp only at this;simp only [List.length_map] at this;omega
      refine bE<|sp2 hT ?_;refine bP (z':=(((n+1):Nat):Int)) (cL (by omega) (by omega)) ?_;refine sp hT ?_;refine nn<|bE<|sp hT ?_;refine ss (ldO hT (dB kT2)) ?_;refine sp hT ?_;refine bP (z':=((lns31.length:Nat):Int)) (rfl) ?_;refine sp2 hT ?_;refine cF (fun hg86=>?_) (fun hg86=>?_)
      · have hg86:=of_decide_eq_true hg86;refine sp hT ?_;refine ss (ldO hT (dB kT2)) ?_;refine sp hT ?_;refine ss (ldO hT (dB kT2)) ?_;refine sp hT ?_;refine bP (z':=((lns31.length:Nat):Int)) (rfl) ?_;refine sp hT ?_;refine bP (z':=(((lns31.length-1):Nat):Int)) (cL (by omega) (by omega)) ?_
        obtain⟨x37,hx38⟩: ∃x,lns31[(lns31.length-1)]?=some x:=⟨_,List.getElem?_eq_getElem (show lns31.length-1<lns31.length from by omega)⟩
        refine ss (bS hT (k:=(lns31.length-1)) (cJ kT4) rfl rfl rfl rfl rfl rfl rfl (show lns31.length-1<lns31.length from by omega)) ?_;refine sp hT ?_;refine ss (bZ hT (cR.knows (cJ kT4) (k:=(lns31.length-1)) (x:=x37) hx38 0) rfl rfl rfl rfl rfl) ?_;refine sp3 hT ?_;refine cH (t':=nC ⟨ins30.map InputV.inp,lns31.map LineV.ln⟩) (xE (by assumption)) ?_;refine dU<|cA<|bB ?_;exact cP (toks.drop ((ownP toks).length+1),_,_,ins30,lns31,_,_,_,_,(n+1),_,_,_) (by dsimp only;rw [List.length_drop];omega) ⟨rfl,rfl,rfl,trivial⟩ ⟨rfl,rfl,rfl,rfl,rfl,trivial⟩ (.cons kT2 (.cons kT2 (.cons kT2 (.cons .head (.cons kT1 (.cons kT1 .nil)))))) ⟨Has.pure (⟨hp2,fun t ht=>hinv6.2.1 t (List.mem_of_mem_drop ht),by dsimp only;rw [List.length_drop];omega,by dsimp only;rw [List.length_drop];omega,by have:=hio.1;dsimp only;omega,by dsimp only;omega⟩),Has.of mT3,Has.of mT0,Has.of mT1,trivial⟩ (bF.drop 10)
      have hg86:=Int.not_lt.1 (of_decide_eq_false hg86);refine sk4 ?_;refine sk4 ?_;refine sk2 ?_;refine sp2 hT ?_;refine cH (t':=nC ⟨ins30.map InputV.inp,lns31.map LineV.ln⟩) (xF (by omega)) ?_;refine dU<|cA<|bB ?_;exact cP (toks.drop ((ownP toks).length+1),_,_,ins30,lns31,_,_,_,_,(n+1),_,_,_) (by dsimp only;rw [List.length_drop];omega) ⟨rfl,rfl,rfl,trivial⟩ ⟨rfl,rfl,rfl,rfl,rfl,trivial⟩ (.cons kT2 (.cons kT2 (.cons kT2 (.cons .head (.cons kT1 (.cons kT1 .nil)))))) ⟨Has.pure (⟨hp2,fun t ht=>hinv6.2.1 t (List.mem_of_mem_drop ht),by dsimp only;rw [List.length_drop];omega,by dsimp only;rw [List.length_drop];omega,by have:=hio.1;dsimp only;omega,by dsimp only;omega⟩),Has.of mT3,Has.of mT0,Has.of mT1,trivial⟩ (bF.drop 10)
    have hc51:=Int.not_lt.1 (of_decide_eq_false hc51);refine bK<|bB<|sr<|sp2 hT ?_;refine ss (gN hT (k:=(ownP toks).length) rfl rfl rfl rfl rfl rfl (by omega)) ?_;refine vE (v':= .slice (jP A (ownP toks).length lC.size c) (toks.drop (ownP toks).length).length (c-(ownP toks).length)) (by rw [List.length_drop];rfl) ?_;refine sp hT ?_;refine nn<|bA<|bA<|bV (lC.sl (.slice (jP A (ownP toks).length lC.size c) (toks.drop (ownP toks).length).length (c-(ownP toks).length)) (toks.drop (ownP toks).length)) (wW (Has.of mT3) hinv6.2.2.1 (by omega)) ?_;refine bE<|sp3 hT ?_;refine ss (ldO hT (bL .head)) ?_;refine sp2 hT ?_;refine nn<|bH rfl (fun hc70=>?_) (fun hc70=>?_)
    · have hc70:=eq_of_beq hc70;have hon:=bFh hc70;exact absurd hc70 (by omega)
    have hc70:=beq_eq_false_iff_ne.1 hc70;refine bK<|bB<|bA<|sr<|sp3 hT ?_;have hon:0<(ownP toks).length:=by omega
    refine bO Tryz.func38 (wX _ A c (ownP toks) _ _ I ci ins J cj lns n ov hon hinv6.2.2.2.2.1 hinv6.2.2.2.2.2 (wR (bFb hinv6.2.1))) rfl rfl (.cons .head (.cons .head (.cons .head (.cons .head .nil)))) ⟨(Has.of mT1),(Has.of bEq),(Has.of mT5),(Has.of mT6),trivial⟩ fun⟨ins39,lns40,⟨I41,ci42⟩,⟨J43,cj44⟩,k45⟩=>?_;refine cD (Has.of mT2) fun hq=>?_;dsimp only at hq;have hE:((text.length:Nat):Int)=endP toks text.length:=(bJo (by omega)).symm;have hpl:=yA (q:=⟨ins39.map InputV.inp,lns40.map LineV.ln⟩) (f:=(intoP (ownP toks) ((text.length:Nat):Int) ⟨ins.map InputV.inp,lns.map LineV.ln⟩ n ov).2) hinv6.1 (sI (by omega)) (sI hon) (by rw [←hE];exact Prod.ext hq.symm rfl);refine sto hT kT4 ?_;refine nn<|sr<|ss (ldN hT (bL .head)) ?_;refine ss (bY rfl rfl (vU)) ?_;refine ss (fD ⟨(intoP (ownP toks) ((text.length:Nat):Int) ⟨ins.map InputV.inp,lns.map LineV.ln⟩ n ov).2.1,(intoP (ownP toks) ((text.length:Nat):Int) ⟨ins.map InputV.inp,lns.map LineV.ln⟩ n ov).2.2⟩ ⟨0,0⟩ rfl rfl rfl) ?_;refine nn<|bH rfl (fun hc77=>?_) (fun hc77=>?_)
    · have hc77:=gC hc77;refine bA<|cU _ _ [(true,0),(true,1),(false,2),(false,3)] cY (by decide+kernel) (.cons .head (.cons .head (.cons .head (.cons .head (.cons .head .nil))))) bF.self ?_;refine stM rfl (bY rfl rfl (gF)) ?_;refine stM rfl (ldN hT (bL .head)) ?_;refine cC (o:=_) rfl ?_;refine sto hT kT6 ?_;refine cB (.cons kT1 (.cons kT1 (.cons kT1 (.cons kT1 (.cons kT1 .nil))))) (bF.drop 0) ?_;refine cC (o:=_) rfl ?_;refine sto hT kT6 ?_;refine cB (.cons kT2 (.cons kT2 (.cons kT2 (.cons kT2 (.cons kT2 .nil))))) (bF.drop 0) ?_;refine cK<|bB<|bG<|bC<|bI<|bC<|bI<|bC ?_;have hr:=hpl.2 hc77;subst hr;exact bM (⟨⟨none,0,[]⟩,⟨none,0,[]⟩⟩:ProgV) rfl (bN hT (bL kT1) rfl rfl rfl rfl) (bN hT (bL .head) rfl rfl rfl rfl) .nil ⟨Has.and (Has.and dO Has.each_nil) (Has.and dO Has.each_nil),Has.pure rfl,trivial⟩ rfl
    have hc77:=fN hc77;refine bK<|bB<|bA ?_;have hp2:=hpl.1 hc77;have hio:=bEz hc77;have hlen:ins39.length+lns40.length≤n+1:=by have:=hio.2;rw [←hq] at this;dsimp only at this;simp only [List.length_map] at this;omega
    refine bE<|sp2 hT ?_;refine bP (z':=(((n+1):Nat):Int)) (cL (by omega) (by omega)) ?_;refine sp hT ?_;refine nn<|bE<|sp hT ?_;refine ss (ldO hT (dB kT2)) ?_;refine sp hT ?_;refine bP (z':=((lns40.length:Nat):Int)) (rfl) ?_;refine sp2 hT ?_;refine cF (fun hg86=>?_) (fun hg86=>?_)
    · have hg86:=of_decide_eq_true hg86;refine sp hT ?_;refine ss (ldO hT (dB kT2)) ?_;refine sp hT ?_;refine ss (ldO hT (dB kT2)) ?_;refine sp hT ?_;refine bP (z':=((lns40.length:Nat):Int)) (rfl) ?_;refine sp hT ?_;refine bP (z':=(((lns40.length-1):Nat):Int)) (cL (by omega) (by omega)) ?_
      obtain⟨x46,hx47⟩: ∃x,lns40[(lns40.length-1)]?=some x:=⟨_,List.getElem?_eq_getElem (show lns40.length-1<lns40.length from by omega)⟩
      refine ss (bS hT (k:=(lns40.length-1)) (cJ kT4) rfl rfl rfl rfl rfl rfl rfl (show lns40.length-1<lns40.length from by omega)) ?_;refine sp hT ?_;refine ss (bZ hT (cR.knows (cJ kT4) (k:=(lns40.length-1)) (x:=x46) hx47 0) rfl rfl rfl rfl rfl) ?_;refine sp3 hT ?_;refine cH (t':=nC ⟨ins39.map InputV.inp,lns40.map LineV.ln⟩) (xE (by assumption)) ?_;refine dU<|cA<|bB ?_;exact cP (toks.drop (ownP toks).length,_,_,ins39,lns40,_,_,_,_,(n+1),_,_,_) (by dsimp only;rw [List.length_drop];omega) ⟨rfl,rfl,rfl,trivial⟩ ⟨rfl,rfl,rfl,rfl,rfl,trivial⟩ (.cons kT2 (.cons kT2 (.cons kT2 (.cons .head (.cons kT1 (.cons kT1 .nil)))))) ⟨Has.pure (⟨by dsimp only;rw [bFn (toks:=toks) rfl (by omega)];exact hp2,fun t ht=>hinv6.2.1 t (List.mem_of_mem_drop ht),by dsimp only;rw [List.length_drop];omega,by dsimp only;rw [List.length_drop];omega,by have:=hio.1;dsimp only;omega,by dsimp only;omega⟩),Has.of mT3,Has.of mT0,Has.of mT1,trivial⟩ (bF.drop 10)
    have hg86:=Int.not_lt.1 (of_decide_eq_false hg86);refine sk4 ?_;refine sk4 ?_;refine sk2 ?_;refine sp2 hT ?_;refine cH (t':=nC ⟨ins39.map InputV.inp,lns40.map LineV.ln⟩) (xF (by omega)) ?_;refine dU<|cA<|bB ?_;exact cP (toks.drop (ownP toks).length,_,_,ins39,lns40,_,_,_,_,(n+1),_,_,_) (by dsimp only;rw [List.length_drop];omega) ⟨rfl,rfl,rfl,trivial⟩ ⟨rfl,rfl,rfl,rfl,rfl,trivial⟩ (.cons kT2 (.cons kT2 (.cons kT2 (.cons .head (.cons kT1 (.cons kT1 .nil)))))) ⟨Has.pure (⟨by dsimp only;rw [bFn (toks:=toks) rfl (by omega)];exact hp2,fun t ht=>hinv6.2.1 t (List.mem_of_mem_drop ht),by dsimp only;rw [List.length_drop];omega,by dsimp only;rw [List.length_drop];omega,by have:=hio.1;dsimp only;omega,by dsimp only;omega⟩),Has.of mT3,Has.of mT0,Has.of mT1,trivial⟩ (bF.drop 10)
  have hc23:=Int.not_lt.1 (of_decide_eq_false hc23);refine cW<|cM<|cM<|cX<|bB<|bA<|sr<|sp2 hT ?_;refine nn<|bH rfl (fun hc99=>?_) (fun hc99=>?_)
  · have hc99:=gC hc99;refine sr<|ss (bY rfl rfl (gF)) ?_;refine sp2 hT ?_;refine bP (z':=((text.length:Nat):Int)) rfl ?_;refine ss (bY rfl rfl (tZ _ _)) ?_;refine sto hT kT5 ?_;refine sto hT kT5 ?_;refine nn<|bG<|bC ?_;have hr:=by have:=p_end hinv6.1 (List.eq_nil_of_length_eq_zero (by omega));rw [if_neg (by simp [*])] at this;exact this
    subst hr;exact bM (⟨⟨none,0,[]⟩,⟨none,0,[]⟩⟩:ProgV) rfl (bN hT (bL kT1) rfl rfl rfl rfl) (bN hT (bL .head) rfl rfl rfl rfl) .nil ⟨Has.and (Has.and dO Has.each_nil) (Has.and dO Has.each_nil),Has.pure rfl,trivial⟩ rfl
  have hc99:=fN hc99;refine bK<|bB<|sr<|ss (ldN hT (bL .head)) ?_;refine ss (bY rfl rfl (vU)) ?_;refine sto hT kT5 ?_;refine sto hT kT5 ?_;refine nn<|bG ?_;have hr:=p_end hinv6.1 (List.eq_nil_of_length_eq_zero (by omega));rw [if_pos (by assumption)] at hr;subst hr;refine bX kT3 ?_;refine bX kT3 ?_;exact bM (⟨⟨_,_,ins⟩,⟨_,_,lns⟩⟩:ProgV) rfl (bN hT (bL kT1) rfl rfl rfl rfl) (bN hT (bL .head) rfl rfl rfl rfl) .nil ⟨Has.and (Has.and (Has.of mT1) (Has.of mT4)) (Has.and (Has.of mT0) (Has.of mT5)),Has.pure rfl,trivial⟩ rfl
end Go.Proofs.YtbgdphbebhjpiaaGreatDoor
