/- Texts of one proof, one behind the other: TysC, LawC, TwoLex, NamesP. -/
import Derived.Test.YtbgdphbebhjpiaaGreatDoorM10
import Derived.Test.YtbgdphbebhjpiaaGreatDoorM15
import Derived.Test.YtbgdphbebhjpiaaGreatDoorM14
import Derived.Test.YtbgdphbebhjpiaaGreatDoorM6
namespace Go.Proofs.YtbgdphbebhjpiaaGreatDoor
open Go.RowKit Go.ChangeShapes Go.WideShapes
structure CaseV where
  p:ProgV
  dims:(Sl Int)
  ins:(Sl bEr)
  deriving Inhabited
end Go.Proofs.YtbgdphbebhjpiaaGreatDoor
namespace Go.Proofs.YtbgdphbebhjpiaaGreatDoor
open Go.RowKit
structure CaseOk (x:CaseV):Prop where
  ok:tT x.p
  l1:x.p.inputs.list.length≤140737488355328
  l2:x.p.lines.list.length≤2932031007403
  dims:x.dims.list.length≤17592186044416
  ins:x.ins.list.length≤2932031007403
  arr: ∀a∈x.ins.list,a.sides.list.length≤17592186044416∧a.data.list.length≤17592186044416
  items: ∀l∈x.p.lines.list,l.items.list.length≤2199023255552
  cap:x.p.lines.list.length≤x.p.lines.cap
theorem CaseOk.hI{x:CaseV}(h:CaseOk x): ∀a∈x.ins.list,a.sides.list.length≤140737488355328:=fun a ha=>Nat.le_trans (h.arr a ha).1 (by decide)
end Go.Proofs.YtbgdphbebhjpiaaGreatDoor
namespace Go.Proofs.YtbgdphbebhjpiaaGreatDoor
open Go.RowKit
theorem zT{p:UInt8→Bool}{c:UInt8}{x:Bs}(hc:p c=false): ∀s:Bs,runB p (s++c::x)=runB p s
  | []=>by simp [runB,hc]
  | b::s=>by rw [List.cons_append,runB,runB,zT hc s]
theorem bLg{p:UInt8→Bool}: ∀{s:Bs},(∀b∈s,p b=true)→runB p s=s.length
  | [],_=>rfl
  | b::s,h=>by rw [runB,if_pos (h b (by simp)),bLg fun x hx=>h x (by simp [hx])];rfl
theorem bAz{s x:Bs}{k:Nat}(h:k≤s.length):(s++x).take k=s.take k:=List.take_append_of_le_length h
theorem numTok_sep{b c:UInt8}{r x:Bs}(hc:dH c=false):gU b (r++c::x)=gU b r:=by
  unfold gU;dsimp only
  by_cases hb:(b==95)=true
  · simp only [hb,if_true,zT hc];rw [bAz (jC _ _)]
  · simp only [hb,Bool.false_eq_true,if_false];rw [←List.cons_append,zT hc,bAz (jC _ _)]
theorem signP_sep{b c:UInt8}{r x:Bs}(hc:c≠61):signP (b::(r++c::x))=signP (b::r):=by
  cases r with
  | nil=>simp [signP,hc]
  | cons d r=>rfl
theorem signP_len(b:UInt8)(r:Bs):signP (b::r)≤(b::r).length:=by
  simp only [signP];split
  · rename_i h
    cases r with
    | nil=>simp at h
    | cons d r=>simp
  · split<;>simp
theorem uA{b c:UInt8}{r x:Bs}(hw:jQ c=false)(hd:dH c=false)(hc:c≠61):fL (b::(r++c::x))=fL (b::r):=by
  have e:runB jQ (b::(r++c::x))=runB jQ (b::r):=zT hw (b::r);have e2:(b::(r++c::x)).take (runB jQ (b::r))=(b::r).take (runB jQ (b::r)):=bAz (jC jQ (b::r));have e3:(b::(r++c::x)).take (signP (b::r))=(b::r).take (signP (b::r)):=bAz (signP_len b r);simp only [fL,e,e2,numTok_sep hd,signP_sep hc,e3]
theorem Lx.bl{b:UInt8}{rest:Bs}(hb:iQ b=true):Lx [b] [] rest:=fun i out=>⟨[],rfl,by
  show lexGo (b::rest).length i (b::rest) out=_;rw [gY,if_pos hb,List.append_nil]
  rfl⟩
theorem Lx.note{t rest:Bs}(hs: ∀b∈t,b≠10)(hr:rest=[]∨ ∃r,rest=10::r):Lx (35::t) [] rest:=fun i out=>⟨[],rfl,by
  have h1: ∀b∈(35::t:Bs),(b !=10)=true:=fun b hb=>by
    rcases List.mem_cons.1 hb with rfl | hb
    · decide
    · simpa using hs b hb
  have hk:runB (· !=10) (35::(t++rest))=(35::t).length:=by
    rcases hr with rfl | ⟨r,rfl⟩
    · rw [List.append_nil];exact bLg h1
    · exact bJs (p:=(· !=10)) (by decide) (35::t) h1
  rw [List.cons_append,gY,if_neg (by decide),if_pos (by decide),hk,List.append_nil]
  rw [←List.cons_append,List.drop_left]⟩
theorem Lx.fails{s:Bs}{T:List Tk}{rest:Bs}(h:Lx s T rest)(k: ∀i out,isOk (lexGo rest.length i rest out).2=false)(i:Nat)(out:List Tok):isOk (lexGo (s++rest).length i (s++rest) out).2=false:=by
  obtain⟨L,_,e⟩:=h i out;rw [e];exact k _ _
def bDi (x y a:Bs):Prop:=
  (∃T,Lx a T (10::x)∧Lx a T (41::y))∨
  (∃T s R,Lx a T (10::x)∧a++41::y=s++R∧(R=[]∨ ∃r,R=10::r)∧Lx s T R)∨
  (∀i out,isOk (lexGo (a++10::x).length i (a++10::x) out).2=false)
theorem bDi.step{x y s a:Bs}{T:List Tk}(h1:Lx s T (a++10::x))(h2:Lx s T (a++41::y))(h:bDi x y a):bDi x y (s++a):=by
  rcases h with ⟨U,k1,k2⟩ | ⟨U,u,R,k1,k2,k3,k4⟩ | h
  · exact .inl ⟨T++U,h1.append k1,h2.append k2⟩
  · refine .inr (.inl ⟨T++U,s++u,R,h1.append k1,by rw [List.append_assoc,k2,List.append_assoc],k3,Lx.append ?_ k4⟩);rw [←k2];exact h2
  · refine .inr (.inr fun i out=>?_);rw [List.append_assoc];exact h1.fails h i out
theorem zX{t:Bs}: ∃s a,t=s++a∧(∀b∈s,b≠10)∧(a=[]∨ ∃r,a=10::r):=by
  induction t with
  | nil=>exact⟨[],[],rfl,by simp,.inl rfl⟩
  | cons b t ih=>
    by_cases hb:b=10
    · exact⟨[],b::t,rfl,by simp,.inr ⟨t,by rw [hb]⟩⟩
    · obtain⟨s,a,rfl,h1,h2⟩:=ih;exact⟨b::s,a,rfl,fun c hc=>by rcases List.mem_cons.1 hc with rfl | hc;exact hb;exact h1 c hc,h2⟩
theorem tok_lx{b c:UInt8}{r x:Bs}{k v:Int}{wd:Bs}{m:Nat}(hw:jQ c=false)(hd:dH c=false)(hc:c≠61)(ht:fL (b::r)= .ok (k,wd,v,m))(hb:iQ b=false)(h35:(b==35)=false)(hm:m≤(b::r).length)(h1:1≤m):
    Lx ((b::r).take m) [⟨k,wd,v⟩] ((b::r).drop m++c::x):=by
  obtain⟨m,rfl⟩: ∃q,m=q+1:=⟨m-1,by omega⟩
  refine Lx.tok ?_ hb h35;show fL ((b::r).take (m+1)++((b::r).drop (m+1)++c::x))=_;rw [←List.append_assoc,List.take_append_drop,List.cons_append,uA hw hd hc,ht];have:((b::r).take (m+1)).length=m+1:=by rw [List.length_take];omega
  rw [List.take_succ_cons] at this;rw [this]
theorem bFf(x y:Bs): ∀(n:Nat) (a:Bs),a.length≤n→bDi x y a
  | _,[],_=> .inl ⟨[],Lx.nil,Lx.nil⟩
  | 0,b::r,h=>by simp at h
  | n+1,b::r,h=>by
    simp only [List.length_cons] at h
    by_cases hb:iQ b=true
    · exact bDi.step (s:=[b]) (Lx.bl hb) (Lx.bl hb) (bFf x y n r (by omega))
    · have hb:iQ b=false:=by simpa using hb
      by_cases h35:b=35
      · subst h35;obtain⟨s,a,rfl,h1,h2⟩:=zX (t:=r)
        rcases h2 with rfl | ⟨a,rfl⟩
        · rw [List.append_nil];obtain⟨s',R,e,h3,h4⟩:=zX (t:=(41::y:Bs));exact .inr (.inl ⟨[],35::(s++s'),R,Lx.note h1 (.inr ⟨x,rfl⟩),by rw [e];simp,h4,Lx.note (fun c hc=>(List.mem_append.1 hc).elim (h1 c) (h3 c)) h4⟩)
        · exact bDi.step (s:=35::s) (a:=10::a) (Lx.note h1 (.inr ⟨a++10::x,rfl⟩)) (Lx.note h1 (.inr ⟨a++41::y,rfl⟩)) (bFf x y n (10::a) (by simp at h⊢;omega))
      · have h35:(b==35)=false:=by simpa using h35
        cases ht:fL (b::r) with
        | error e=>
          refine .inr (.inr fun i out=>?_);rw [List.cons_append,gY,hb,if_neg (by simp),h35,if_neg (by simp),uA (by decide) (by decide) (by decide),ht];exact fW (vF ht)
        | ok q=>
          obtain⟨k,wd,v,m⟩:=q;obtain⟨m1,m2⟩:1≤m∧m≤(b::r).length:=nD ht;have hs:bDi x y ((b::r).drop m):=bFf x y n _ (by rw [List.length_drop,List.length_cons];omega);have:=bDi.step (tok_lx (c:=10) (by decide) (by decide) (by decide) ht hb h35 m2 m1) (tok_lx (c:=41) (by decide) (by decide) (by decide) ht hb h35 m2 m1) hs
          rwa [List.take_append_drop] at this
theorem lex_one: ∀(n:Nat) (a:Bs),a.length≤n→(∃T,Lx a T [])∨ ∀i out,isOk (lexGo a.length i a out).2=false
  | _,[],_=> .inl ⟨[],Lx.nil⟩
  | 0,b::r,h=>by simp at h
  | n+1,b::r,h=>by
    simp only [List.length_cons] at h
    have key: ∀{s a:Bs} {T:List Tk},b::r=s++a→Lx s T a→a.length≤n→(∃T,Lx (b::r) T [])∨ ∀i out,isOk (lexGo (b::r).length i (b::r) out).2=false:=fun{s a T} e h1 hl=>by
      rw [e]
      rcases lex_one n a hl with ⟨U,k⟩ | k
      · exact .inl ⟨T++U,Lx.append (by rw [List.append_nil];exact h1) k⟩
      · exact .inr (h1.fails k)
    by_cases hb:iQ b=true
    · exact key (s:=[b]) rfl (Lx.bl hb) (by omega)
    · have hb:iQ b=false:=by simpa using hb
      by_cases h35:b=35
      · subst h35;obtain⟨s,a,rfl,h1,h2⟩:=zX (t:=r);exact key (s:=35::s) (a:=a) rfl (Lx.note h1 h2) (by simp at h;omega)
      · have h35:(b==35)=false:=by simpa using h35
        cases ht:fL (b::r) with
        | error e=>
          refine .inr fun i out=>?_;rw [gY,hb,if_neg (by simp),h35,if_neg (by simp),ht];exact fW (vF ht)
        | ok q=>
          obtain⟨k,wd,v,m⟩:=q;obtain⟨m1,m2⟩:1≤m∧m≤(b::r).length:=nD ht;refine key (s:=(b::r).take m) (a:=(b::r).drop m) (List.take_append_drop ..).symm (T:=[⟨k,wd,v⟩]) ?_ (by rw [List.length_drop,List.length_cons];omega)
          obtain⟨m,rfl⟩: ∃q,m=q+1:=⟨m-1,by omega⟩
          refine Lx.tok ?_ hb h35;show fL ((b::r).take (m+1)++(b::r).drop (m+1))=_;rw [List.take_append_drop,ht];have:((b::r).take (m+1)).length=m+1:=by rw [List.length_take];omega
          rw [List.take_succ_cons] at this;rw [this]
def unS (st:Stk):Stk:=st.map (Option.map dJ.un)
theorem fin_un: ∀{a b:Stk},unS a=unS b→gO (jG a).1=gO (jG b).1∧unS (jG a).2=unS (jG b).2
  | [],[],_=>⟨rfl,rfl⟩
  | none::a,none::b,h=>⟨rfl,h⟩
  | some x::a,some y::b,h=>by
    simp only [unS,List.map_cons,Option.map_some,List.cons.injEq,Option.some.injEq] at h;obtain⟨h1,h2⟩:=fin_un (a:=a) (b:=b) h.2;refine⟨?_,h2⟩;simp only [jG,gO,List.map_cons,h.1] at h1⊢;rw [h1]
  | [],_::_,h=>by simp [unS] at h
  | _::_,[],h=>by simp [unS] at h
  | none::a,some y::b,h=>by simp [unS] at h
  | some x::a,none::b,h=>by simp [unS] at h
theorem bAj: ∀{a b:Stk},unS a=unS b→iM a=iM b
  | [],[],_=>rfl
  | none::a,none::b,h=>by
    simp only [unS,List.map_cons,List.cons.injEq] at h;rw [iM,iM,bAj h.2]
  | some x::a,some y::b,h=>by
    simp only [unS,List.map_cons,List.cons.injEq] at h;rw [iM,iM,bAj h.2]
  | [],_::_,h=>by simp [unS] at h
  | _::_,[],h=>by simp [unS] at h
  | none::a,some y::b,h=>by simp [unS] at h
  | some x::a,none::b,h=>by simp [unS] at h
theorem fin_base: ∀{a base:Stk},0<iM a→jG (a++base)=((jG a).1,(jG a).2++base)
  | [],_,h=>by simp [iM] at h
  | none::a,_,_=>rfl
  | some x::a,base,h=>by rw [List.cons_append,jG,fin_base (a:=a) h];rfl
theorem fin_flat: ∀{a:Stk},iM a=0→ ∃S,a=S.map some∧(jG a).1=S
  | [],_=>⟨[],rfl,rfl⟩
  | none::a,h=>by simp [iM] at h
  | some x::a,h=>by
    obtain⟨S,h1,h2⟩:=fin_flat (a:=a) h;exact⟨x::S,by rw [h1];rfl,by rw [jG,h2]⟩
section
variable {toks1 toks2 : List TokV} {k1 k2 : Nat} {e1 e2 : Int} {t : Tk} {T R : List Tk} {left : Bool}
theorem nums_two(hR: ∀u∈R.head?,u.kind≠2): ∀{T:List Tk} {k1 k2:Nat},fU toks1 k1 T→fU toks2 k2 (T++R)→ ∃A B,T=A++B∧A.length=(fY toks1 k1).length∧fY toks1 k1=fY toks2 k2
  | [],k1,k2,h1,h2=>⟨[],[],rfl,by rw [pL (by rw [h1.nil.1];decide)];rfl,by rw [pL (by rw [h1.nil.1];decide),pL (fU.kindR (R:=R) h2 (by decide) hR)]⟩
  | t::T,k1,k2,h1,h2=>by
    have h2:fU toks2 k2 (t::(T++R)):=h2
    by_cases hk:t.kind=2
    · obtain⟨A,B,e,hl,hn⟩:=nums_two hR h1.next h2.next
      refine⟨t::A,B,by rw [e];rfl,?_,?_⟩
      · rw [lX (by rw [h1.kind];exact hk),List.length_cons,List.length_cons,hl]
      · rw [lX (toks:=toks1) (k:=k1) (by rw [h1.kind];exact hk),lX (toks:=toks2) (k:=k2) (by rw [h2.kind];exact hk),hn,h1.num,h2.num]
    · exact⟨[],t::T,rfl,by rw [pL (by rw [h1.kind];exact hk)];rfl,by rw [pL (by rw [h1.kind];exact hk),pL (by rw [h2.kind];exact hk)]⟩
def phI (w:Bs)(c:Bool)(w2:Bs)(left:Bool):dJ×Bool:=
  if c=true then (if 17<gS w∨(w2==[46])≠left then (⟨if left then 4 else 3,0,gS w,[],[]⟩,false)
    else (⟨if w2=[47] then 5 else if w2=[92] then 6 else 7,0,gS w,[],[]⟩,!(gS w==0)))
  else (⟨if left then 4 else 3,0,gF w left,[],[]⟩,!(gF w left==0))
def oI (t:TokV):Bool:=t.kind==3&&(t.word==[47] || t.word==[92] || t.word==[46])
theorem ok_if{a:Int}{c:Int}:isOk (if c=0 then (a,43) else (0,0))= !(c==0):=by
  by_cases h:c=0
  · rw [if_pos h,bBh,h];rfl
  · rw [if_neg h,bFq]
    simpa using h
theorem bLu(toks:List TokV)(k:Nat)(e:Int)(left:Bool):((bQ toks k e left).it.un,isOk (bQ toks k e left).flt)=phI (bP toks k).word (oI (bP toks (k+1))) (bP toks (k+1)).word left∧
    (bQ toks k e left).next=k+if oI (bP toks (k+1))=true then 2 else 1:=by
  unfold bQ phI
  by_cases h:(bP toks (k+1)).kind=3∧((bP toks (k+1)).word=[47]∨(bP toks (k+1)).word=[92]∨(bP toks (k+1)).word=[46])
  · have hm:oI (bP toks (k+1))=true:=by
      unfold oI;simp only [Bool.and_eq_true,Bool.or_eq_true,beq_iff_eq];exact⟨h.1,by rcases h.2 with h | h | h<;>simp [h]⟩
    rw [if_pos h,hm,if_pos rfl,if_pos rfl];split
    · exact⟨by rw [bBh];rfl,rfl⟩
    · refine⟨?_,rfl⟩;simp only [Phr.it,dJ.un,ok_if]
  · have hm:oI (bP toks (k+1))=false:=by
      rw [Bool.eq_false_iff];intro hm;unfold oI at hm;simp only [Bool.and_eq_true,Bool.or_eq_true,beq_iff_eq] at hm;exact h ⟨hm.1,by rcases hm.2 with (h | h) | h<;>simp [h]⟩
    rw [if_neg h,hm];refine⟨?_,rfl⟩;rw [if_neg (show ¬(false=true) by simp)];simp only [Phr.it,dJ.un,ok_if]
theorem markB_tk{t:TokV}{u:Tk}(h:t.tk=u)(hm: ¬Mark u):oI t=false:=by
  rw [Bool.eq_false_iff];intro hb;unfold oI at hb;simp only [Bool.and_eq_true,Bool.or_eq_true,beq_iff_eq] at hb;subst h;exact hm ⟨hb.1,by rcases hb.2 with (h | h) | h<;>simp [TokV.tk,h]⟩
theorem bHm(h1:fU toks1 k1 (t::T))(h2:fU toks2 k2 (t::(T++R)))(hR: ∀u∈R.head?,¬Mark u)(e1 e2:Int)(left:Bool):
    (bQ toks1 k1 e1 left).it.un=(bQ toks2 k2 e2 left).it.un∧isOk (bQ toks1 k1 e1 left).flt=isOk (bQ toks2 k2 e2 left).flt∧
    ∃A B d,t::T=A++B∧A.length=d∧1≤d∧(bQ toks1 k1 e1 left).next=k1+d∧(bQ toks2 k2 e2 left).next=k2+d:=by
  obtain⟨a1,b1⟩:=bLu toks1 k1 e1 left;obtain⟨a2,b2⟩:=bLu toks2 k2 e2 left;rw [h1.word] at a1;rw [h2.word] at a2
  have key:(oI (bP toks1 (k1+1))=false∧oI (bP toks2 (k2+1))=false)∨(oI (bP toks1 (k1+1))=oI (bP toks2 (k2+1))∧(bP toks1 (k1+1)).word=(bP toks2 (k2+1)).word∧T≠[]):=by
    cases T with
    | nil=>
      refine .inl ⟨by rw [h1.next.nil.1];rfl,?_⟩;have f2:fU toks2 (k2+1) R:=h2.next
      cases R with
      | nil=>rw [f2.nil.1];rfl
      | cons u R=>exact markB_tk f2.peek (hR u rfl)
    | cons u T=>
      have f1:=h1.next
      have f2:fU toks2 (k2+1) (u::(T++R)):=h2.next
      exact .inr ⟨by unfold oI;rw [f1.kind,f1.word,f2.kind,f2.word],by rw [f1.word,f2.word],by simp⟩
  have e:phI t.word (oI (bP toks1 (k1+1))) (bP toks1 (k1+1)).word left=phI t.word (oI (bP toks2 (k2+1))) (bP toks2 (k2+1)).word left:=by
    rcases key with ⟨m1,m2⟩ | ⟨m,w,_⟩
    · rw [m1,m2];rfl
    · rw [m,w]
  have em:oI (bP toks1 (k1+1))=oI (bP toks2 (k2+1)):=by
    rcases key with ⟨m1,m2⟩ | ⟨m,_,_⟩
    · rw [m1,m2]
    · exact m
  have ea:=a1.trans (e.trans a2.symm);injection ea with ea eb
  refine⟨ea,eb,?_⟩;rw [b1,b2,em]
  cases hm:oI (bP toks2 (k2+1)) with
  | false=>exact⟨[t],T,1,rfl,rfl,Nat.le_refl _,rfl,rfl⟩
  | true=>
    rcases key with ⟨_,m2⟩ | ⟨_,_,hT⟩
    · rw [hm] at m2;cases m2
    · cases T with
      | nil=>exact absurd rfl hT
      | cons u T=>exact⟨[t,u],T,2,rfl,rfl,by omega,rfl,rfl⟩
end
theorem fU.app{toks:List TokV}{k:Nat}{A B:List Tk}{T:List Tk}(h:fU toks k T)(e:T=A++B):fU toks (k+A.length) B:=by
  subst e;exact fU.skip A h
section
variable {toks1 toks2 : List TokV} {e1 e2 : Int} {r2 : qF} {R : List Tk} {B C I : List dJ} {base : Stk} {ob : Nat}
def Meets (toks2:List TokV)(e2:Int)(r2:qF)(B C I:List dJ)(base:Stk)(ob k:Nat):Prop:=
  isOk r2.2=false∨ ∃out' S I',I=C++I'∧gO (out'++S)=gO I'∧uG toks2 e2 r2 k (B++out') (S.map some++base) ob
def SimE (toks1:List TokV)(e1:Int)(toks2:List TokV)(e2:Int)(r2:qF)(R:List Tk)(B C I:List dJ)(base:Stk)(ob f:Nat):Prop:=
  ∀(k1:Nat) (out1:List dJ) (st1:Stk) (o:Nat) (T:List Tk) (k2:Nat) (out2:List dJ) (st2:Stk),fU toks1 k1 T→fU toks2 k2 (T++R)→tB T→iM st1=o→gO out1=gO out2→unS st1=unS st2→
    jF toks1 e1 f k1 (C++out1) st1 o=(I,(0,0))→T.length<f→yW toks2 e2 r2 k2 (B++out2) (st2++base) (o+ob)→Meets toks2 e2 r2 B C I base ob (k2+T.length)
theorem bBt{a:Int}{c:Int}{I:List dJ}(hc:c≠0)(h:(([],(a,c)):qF)=(I,(0,0))):False:=by
  injection h with _ h
  injection h with _ h
  exact hc h
theorem sim_b(hR: ∀u∈R.head?,u.kind≠2∧ ¬Mark u){f:Nat}(ih:SimE toks1 e1 toks2 e2 r2 R B C I base ob f): ∀(o k1:Nat) (out1:List dJ) (st1:Stk) (T:List Tk) (k2:Nat) (out2:List dJ) (st2:Stk),fU toks1 k1 T→fU toks2 k2 (T++R)→tB T→iM st1=o→
    gO out1=gO out2→unS st1=unS st2→mY toks1 e1 (jF toks1 e1 f) o k1 (C++out1) st1=(I,(0,0))→T.length≤f→uG toks2 e2 r2 k2 (B++out2) (st2++base) (o+ob)→Meets toks2 e2 r2 B C I base ob (k2+T.length)
  | o,k1,out1,st1,[],k2,out2,st2,h1,_,_,ho,hu,hs,hg,_,hB=>by
    have hp:=h1.nil.1
    have hg:sX toks1 e1 (jF toks1 e1 f) o k1 (C++out1) st1=(I,(0,0)):=by
      cases o with
      | zero=>exact hg
      | succ o=>rw [mY,if_neg (by rw [hp];simp)] at hg;exact hg
    rw [sX,if_pos (by rw [hp])] at hg
    by_cases h0:0<o
    · rw [if_pos h0] at hg;exact(bBt (by decide) hg).elim
    · rw [if_neg h0] at hg;injection hg with hI _
      have h0:o=0:=by omega
      subst h0;obtain⟨S,e1,e2⟩:=fin_flat (a:=st2) (by rw [←bAj hs,ho]);refine .inr ⟨out2,S,out1++(jG st1).1,by rw [←hI,List.append_assoc],?_,?_⟩
      · rw [iB,iB,hu,(fin_un hs).1,e2]
      · rw [←e1]
        simpa using hB
  | o,k1,out1,st1,t::T,k2,out2,st2,h1,h2,hn,ho,hu,hs,hg,hf,hB=>by
    have h2:fU toks2 k2 (t::(T++R)):=h2;have h4:t.kind≠4:=hn t (by simp);have hn':tB T:=fun u hu=>hn u (by simp [hu]);simp only [List.length_cons] at hf
    by_cases hc:0<o∧t.kind=3∧t.word=[41]
    · obtain⟨o,rfl⟩: ∃q,o=q+1:=⟨o-1,by omega⟩
      rw [mY,if_pos (by rw [h1.kind,h1.word];exact hc.2)] at hg;have hb:=bFh hB (by omega) (by rw [h2.kind];exact hc.2.1) (by rw [h2.word];exact hc.2.2);have ho2:0<iM st2:=by rw [←bAj hs];omega
      rw [fin_base ho2,show o+1+ob-1=o+ob from by omega] at hb;simp only at hb
      rcases wG st1 with ⟨_,k⟩ | ⟨r1,k,l⟩
      · omega
      rcases wG st2 with ⟨_,k'⟩ | ⟨r2',k',l'⟩
      · omega
      rw [k,List.append_assoc] at hg;rw [k',List.cons_append,List.tail_cons,List.append_assoc] at hb;obtain⟨u1,u2⟩:=fin_un hs;have:=sim_b hR ih o (k1+1) _ _ T (k2+1) _ _ h1.next h2.next hn' (by rw [List.tail_cons];omega) (by rw [iB,iB,hu,u1]) (by rw [k,k'] at u2;simpa [unS] using u2) hg (by omega) hb
      rw [List.length_cons,show k2+(T.length+1)=k2+1+T.length from by omega];exact this
    · have hg:sX toks1 e1 (jF toks1 e1 f) o k1 (C++out1) st1=(I,(0,0)):=by
        cases o with
        | zero=>exact hg
        | succ o=>rw [mY,if_neg (by rw [h1.kind,h1.word];exact fun h=>hc ⟨by omega,h⟩)] at hg;exact hg
      rw [sX,if_neg (by rw [h1.kind];exact h4)] at hg;split at hg
      · exact(bBt (by decide) hg).elim
      · rename_i hv;simp only [h1.kind,h1.word,not_or,Bool.not_eq_false] at hv;obtain⟨p1,p2,A,T',d,p3,p4,p5,p6,p7⟩:=bHm h1 h2 (fun u hu=>(hR u hu).2) e1 e2 true;have hr:=oW hB (.inr (.inr (by rw [h2.word];intro hw;rw [hw,close_verb] at hv;exact absurd hv.2 (by simp)))) (by rw [h2.kind];exact h4) (by rw [h2.kind];exact hv.1) (by rw [h2.word];exact hv.2);split at hg
        · rename_i hok;have hE:=hr.1 (by rw [←p2];exact hok);rw [p6] at hg;rw [p7,←List.cons_append] at hE;have f1:fU toks1 (k1+d) T':=by rw [←p4];exact fU.app h1 p3
          have f2:fU toks2 (k2+d) (T'++R):=by rw [←p4];exact fU.app (T:=(t::T)++R) h2 (by rw [p3,List.append_assoc])
          have hl:(t::T).length=d+T'.length:=by rw [p3,List.length_append,p4]
          have:=ih (k1+d) out1 (some (bQ toks1 k1 e1 true).it::st1) o T' (k2+d) out2 (some (bQ toks2 k2 e2 true).it::st2) f1 f2 (fun u hu=>hn u (by rw [p3];exact List.mem_append_right _ hu)) ho hu (by simp only [unS,List.map_cons,Option.map_some] at hs⊢;rw [p1,hs]) hg (by simp at hl;omega) hE;rw [hl,←Nat.add_assoc];exact this
        · rename_i hok;injection hg with _ hg
          rw [hg] at hok;exact absurd bFq hok
theorem sim_e(hR: ∀u∈R.head?,u.kind≠2∧ ¬Mark u): ∀f,SimE toks1 e1 toks2 e2 r2 R B C I base ob f
  | 0=>fun _ _ _ _ _ _ _ _ _ _ _ _ _ _ _ h _=>absurd h (Nat.not_lt_zero _)
  | f+1=>fun k1 out1 st1 o T k2 out2 st2 h1 h2 hn ho hu hs hg hf hE=>by
    have ih:=sim_e hR f
    cases T with
    | nil=>
      have hp:=h1.nil.1;rw [jF,if_neg (by rw [hp];simp),if_neg (by rw [hp];simp),if_neg (by rw [hp];simp),if_neg (by rw [hp];simp),if_neg (by rw [hp];simp)] at hg;exact(bBt (by decide) hg).elim
    | cons t T=>
      have h2:fU toks2 k2 (t::(T++R)):=h2;have h4:t.kind≠4:=hn t (by simp);have hn':tB T:=fun u hu=>hn u (by simp [hu]);simp only [List.length_cons] at hf;rw [jF] at hg;simp only [h1.kind,h1.word] at hg;split at hg
      · rename_i hv;obtain⟨p1,p2,A,T',d,p3,p4,p5,p6,p7⟩:=bHm h1 h2 (fun u hu=>(hR u hu).2) e1 e2 false;have hr:=e_verb hE (by rw [h2.kind];exact hv.1) (by rw [h2.kind];exact h4) (by rw [h2.word];exact hv.2.2);split at hg
        · rename_i hok;have hE:=hr.1 (by rw [←p2];exact hok);rw [p6] at hg;rw [p7,←List.cons_append] at hE;have f1:fU toks1 (k1+d) T':=by rw [←p4];exact fU.app h1 p3
          have f2:fU toks2 (k2+d) (T'++R):=by rw [←p4];exact fU.app (T:=(t::T)++R) h2 (by rw [p3,List.append_assoc])
          have hl:(t::T).length=d+T'.length:=by rw [p3,List.length_append,p4]
          have:=ih (k1+d) out1 (some (bQ toks1 k1 e1 false).it::st1) o T' (k2+d) out2 (some (bQ toks2 k2 e2 false).it::st2) f1 f2 (fun u hu=>hn u (by rw [p3];exact List.mem_append_right _ hu)) ho hu (by simp only [unS,List.map_cons,Option.map_some] at hs⊢;rw [p1,hs]) hg (by simp at hl;omega) hE;rw [hl,←Nat.add_assoc];exact this
        · rename_i hok;injection hg with _ hg
          rw [hg] at hok;exact absurd bFq hok
      · rename_i hv;split at hg
        · rename_i hop;have hr:=bCg hE (by rw [h2.kind];exact hop.1) (by rw [h2.word];exact hop.2);split at hg
          · exact(bBt (by decide) hg).elim
          · by_cases h32:o+ob=32
            · refine .inl ?_;rw [hr.2 h32];exact fW (by decide)
            · have hE:=hr.1 h32;rw [←List.cons_append,show o+ob+1=o+1+ob from by omega] at hE;have:=ih (k1+1) out1 (none::st1) (o+1) T (k2+1) out2 (none::st2) h1.next h2.next hn' (by rw [iM,ho]) hu (by simp only [unS,List.map_cons] at hs⊢;rw [hs]) hg (by omega) hE
              rw [List.length_cons,show k2+(T.length+1)=k2+1+T.length from by omega];exact this
        · split at hg
          · rename_i hk2;obtain⟨A,T',e,hl,hnn⟩:=nums_two (fun u hu=>(hR u hu).1) h1 (k2:=k2) (toks2:=toks2) h2;have hB:=e_num hE (by rw [h2.kind];exact hk2);rw [←hnn,←hl] at hB;rw [←hl,List.append_assoc] at hg;have h1l:1≤A.length:=by rw [hl,lX (by rw [h1.kind];exact hk2)];simp
            have f1:fU toks1 (k1+A.length) T':=fU.app h1 e;have f2:fU toks2 (k2+A.length) (T'++R):=fU.app (T:=(t::T)++R) h2 (by rw [e,List.append_assoc]);have hll:(t::T).length=A.length+T'.length:=by rw [e,List.length_append]
            rw [List.append_assoc] at hB;have:=sim_b hR ih o (k1+A.length) _ st1 T' (k2+A.length) (out2++[rX toks2 k2]) st2 f1 f2 (fun u hu=>hn u (by rw [e];exact List.mem_append_right _ hu)) ho (by rw [iB,iB,hu];simp [gO,rX,dJ.un,hnn]) hs hg (by simp at hll;omega) hB;rw [hll,←Nat.add_assoc];exact this
          · rename_i hk2;split at hg
            · rename_i hnm;have hB:=e_name hE (by rw [h2.kind];exact hnm.1) (by rw [h2.word];exact hnm.2);rw [List.append_assoc] at hB hg;have:=sim_b hR ih o (k1+1) _ st1 T (k2+1) (out2++[kZ toks2 k2]) st2 h1.next h2.next hn' ho (by rw [iB,iB,hu];simp [gO,kZ,dJ.un,h1.word,h2.word]) hs hg (by omega) hB
              rw [List.length_cons,show k2+(T.length+1)=k2+1+T.length from by omega];exact this
            · split at hg
              · exact(bBt (by decide) hg).elim
              · exact(bBt (by decide) hg).elim
end
end Go.Proofs.YtbgdphbebhjpiaaGreatDoor
namespace Go.Proofs.YtbgdphbebhjpiaaGreatDoor
open Go.RowKit
theorem own_all{toks:List TokV}(h:tB (toks.map TokV.tk)):ownP toks=toks:=by
  induction toks with
  | nil=>rfl
  | cons t r ih=>
    unfold ownP;rw [List.takeWhile_cons_of_pos (by have:=h t.tk (by simp);simpa [TokV.tk] using this)];exact congrArg (t:: ·) (ih fun u hu=>h u (List.mem_cons_of_mem _ hu))
theorem cut_nl: ∀T:List Tk,∃A B,T=A++B∧tB A∧(B=[]∨ ∃t B',B=t::B'∧t.kind=4)
  | []=>⟨[],[],rfl,fun _ h=>by simp at h,.inl rfl⟩
  | t::T=>by
    by_cases h:t.kind=4
    · exact⟨[],t::T,rfl,fun _ h=>by simp at h,.inr ⟨t,T,rfl,h⟩⟩
    · obtain⟨A,B,e,h1,h2⟩:=cut_nl T;exact⟨t::A,B,by rw [e];rfl,fun u hu=>by rcases List.mem_cons.1 hu with rfl | hu;exact h;exact h1 u hu,h2⟩
theorem own_split: ∀{T R:List Tk} {toks:List TokV},toks.map TokV.tk=T++R→tB T→(R=[]∨ ∃t R',R=t::R'∧t.kind=4)→(ownP toks).map TokV.tk=T
  | T,R,toks,h,hT,hR=>by
    rcases hR with rfl | ⟨t,R',rfl,h4⟩
    · rw [List.append_nil] at h;rw [own_all (by rw [h];exact hT)];exact h
    · induction T generalizing toks with
      | nil=>
        cases toks with
        | nil=>simp at h
        | cons x r=>
          simp only [List.map_cons,List.nil_append,List.cons.injEq] at h;unfold ownP
          rw [List.takeWhile_cons_of_neg (by have:x.kind=t.kind:=by rw [←h.1];rfl
                                             simp [this,h4])]
          rfl
      | cons u T ih=>
        cases toks with
        | nil=>simp at h
        | cons x r=>
          simp only [List.map_cons,List.cons_append,List.cons.injEq] at h
          have hx:x.kind≠4:=by
            have:=hT u (by simp);rw [←h.1] at this;exact this
          unfold ownP;rw [List.takeWhile_cons_of_pos (by simpa using hx),List.map_cons,h.1];exact congrArg (u:: ·) (ih r (fun v hv=>hT v (by simp [hv])) h.2)
section
variable {p P q : Prog} {len : Int} {toks : List TokV} {n : Nat} {over : Bool} {T R : List Tk}
theorem isOk_eq{f:Flt}(h:isOk f=true):f=(0,0):=bAn.1 h
theorem zG(h:pQ (p,(0,0)) len toks P n over)(ht:toks.map TokV.tk=T++R)(hT:tB T)(hne:T≠[])(hR:R=[]∨ ∃t R',R=t::R'∧t.kind=4):
    ∃own e q toks',own.map TokV.tk=T∧intoP own e P n over=(q,(0,0))∧pQ (p,(0,0)) len toks' q (n+1) (iG q)∧toks'.map TokV.tk=R.drop 1:=by
  have ho:=own_split ht hT hR
  have h0:toks≠[]:=by
    rintro rfl;simp at ht;exact hne ht.1
  have hon:ownP toks≠[]:=by
    intro e;rw [e] at ho;exact hne ho.symm
  cases hi:intoP (ownP toks) (endP toks len) P n over with
  | mk q f=>
    obtain⟨a,b⟩:=vN h h0 hon hi
    cases hf:isOk f with
    | false=>
      have:=b hf;injection this with _ this
      rw [←this] at hf;cases hf
    | true=>
      rw [isOk_eq hf] at hi;refine⟨_,_,q,_,ho,hi,a hf,?_⟩
      have hl:(ownP toks).length=T.length:=by
        have:=congrArg List.length ho
        simpa using this
      rw [hl,List.map_drop,ht,List.drop_append,List.drop_of_length_le (by omega)];simp
theorem bFs: ∀(m:Nat) {toks:List TokV},toks.length≤m→pQ (p,(0,0)) len toks P n true→p=P
  | m,[],_,h=>by
    have:=p_end h rfl;rw [if_pos rfl] at this;injection this
  | 0,t::toks,hm,_=>by simp at hm
  | m+1,t::toks,hm,h=>by
    by_cases hon:ownP (t::toks)=[]
    · exact bFs m (by simp at hm⊢;omega) (bHd h (by simp) hon)
    · exfalso
      obtain⟨q,f,hi,hf⟩: ∃q f,intoP (ownP (t::toks)) (endP (t::toks) len) P n true=(q,f)∧isOk f=false:=by
        unfold intoP;split
        · exact⟨_,_,rfl,fW (by decide)⟩
        · split
          · exact⟨_,_,rfl,fW (by decide)⟩
          · rw [if_pos (.inl rfl)];exact⟨_,_,rfl,fW (by decide)⟩
      have:=(vN h (by simp) hon hi).2 hf;injection this with _ this
      rw [←this] at hf;cases hf
variable {own : List TokV} {e : Int} {ins : List gG} {lns : List kL}
theorem into_named{nm:Bs}(hb:dS nm=true)(ho:own.map TokV.tk=WT nm::⟨3,[58],0⟩::T)(h:intoP own e ⟨ins,lns⟩ n false=(q,(0,0))):
    fU own 2 T∧(hZ own e 2).2=(0,0)∧ ∃a,q=⟨ins,lns++[⟨nm,a,(hZ own e 2).1⟩]⟩:=by
  obtain⟨n1,n2,n3⟩:=name_ne hb;have f0:fU own 0 _:=bLd ho;have i0:isW (bP own 0) [105,110]=false:=by rw [isW_of f0];simp [WT,n2]
  have i1:isW (bP own 0) [111,117,116]=false:=by rw [isW_of f0];simp [WT,n3]
  have f1:=f0.next
  refine⟨f1.next,?_⟩;unfold intoP at h;split at h
  · injection h with _ h
    injection h with _ h
    cases h
  · split at h
    · injection h with _ h
      injection h with _ h
      cases h
    · rw [if_neg (by rw [i0];simp),i0,if_neg (by simp),i1,if_neg (by simp),if_neg (by rw [f0.kind,f0.word];show ¬((1:Int)≠1∨dS nm=false);simp [hb]),if_neg (by rw [f1.kind,f1.word];simp),f0.word] at h;injection h with h1 h2
      exact⟨h2,_,h1.symm⟩
theorem bIs(ho:own.map TokV.tk=WT [111,117,116]::T)(h:intoP own e ⟨ins,lns⟩ n false=(q,(0,0))):
    fU own 1 T∧(hZ own e 1).2=(0,0)∧ ∃a,q=⟨ins,lns++[⟨[],a,(hZ own e 1).1⟩]⟩:=by
  have f0:fU own 0 _:=bLd ho;have i0:isW (bP own 0) [105,110]=false:=by rw [isW_of f0];rfl
  have i1:isW (bP own 0) [111,117,116]=true:=by rw [isW_of f0];rfl
  refine⟨f0.next,?_⟩;unfold intoP at h;split at h
  · injection h with _ h
    injection h with _ h
    cases h
  · split at h
    · injection h with _ h
      injection h with _ h
      cases h
    · simp only [i0,Bool.false_eq_true,false_and,or_self,if_false] at h;injection h with h1 h2
      exact⟨h2,_,h1.symm⟩
end
section
variable {toks1 toks2 : List TokV} {e1 e2 : Int} {k1 k2 : Nat} {T R : List Tk}
theorem open_fails(h1:fU toks1 k1 T)(hn:tB T)(ho:(hZ toks1 e1 k1).2=(0,0))(h2:fU toks2 k2 (OpenT::T)):(hZ toks2 e2 k2).2≠(0,0):=by
  intro hok;have hE:=(bCg (zP (e:=e2) h2.1) h2.kind h2.word).1 (by decide);have hs:=sim_e (toks1:=toks1) (toks2:=toks2) (e1:=e1) (e2:=e2) (r2:=hZ toks2 e2 k2) (R:=[]) (B:=[]) (C:=[]) (I:=(hZ toks1 e1 k1).1) (base:=[none]) (ob:=1) (by simp) (toks1.length+1)
    k1 [] [] 0 T (k2+1) [] [] h1 (by rw [List.append_nil];exact h2.next) hn rfl rfl rfl (by rw [←ho];rfl) (by have:=congrArg List.length h1.2;simp at this;omega) hE
  rcases hs with hs | ⟨out',S,I',_,_,hB⟩
  · rw [hok] at hs;cases hs
  · have hend:fU toks2 (k2+1+T.length) []:=fU.skip T (by rw [List.append_nil];exact h2.next);have:=bJh hB (by rw [hend.nil.1]) (by decide);rw [this] at hok;injection hok with _ hok
    cases hok
theorem name_fin(S:List dJ):jG (S.map some++[none])=(S,[none]):=by rw [wU];simp [jG]
theorem two_reads{toks3:List TokV}{e3:Int}{k3:Nat}{A B:List Tk}{nm:Bs}(hb:dS nm=true)(h1:fU toks1 k1 A)(hA:tB A)(ho1:(hZ toks1 e1 k1).2=(0,0))
    (h2:fU toks2 k2 (WT nm::B)) (hB:tB B) (ho2:(hZ toks2 e2 k2).2=(0,0))
    (h3:fU toks3 k3 (OpenT::(A++CloseT::B))) (ho3:(hZ toks3 e3 k3).2=(0,0)):
    ∃x V,(hZ toks2 e2 k2).1=x::V∧x.un=⟨2,0,0,nm,[]⟩∧gO (hZ toks3 e3 k3).1=gO (hZ toks1 e1 k1).1++gO V:=by
  have hE:=(bCg (zP (e:=e3) h3.1) h3.kind h3.word).1 (by decide);have hs:=sim_e (toks1:=toks1) (toks2:=toks3) (e1:=e1) (e2:=e3) (r2:=hZ toks3 e3 k3) (R:=CloseT::B) (B:=[]) (C:=[]) (I:=(hZ toks1 e1 k1).1) (base:=[none]) (ob:=1)
    (by intro u hu;simp only [List.head?_cons,Option.mem_def,Option.some.injEq] at hu;subst hu;exact⟨by decide,by unfold Mark CloseT;simp⟩) (toks1.length+1)
    k1 [] [] 0 A (k3+1) [] [] h1 h3.next hA rfl rfl rfl (by rw [←ho1];rfl) (by have:=congrArg List.length h1.2;simp at this;omega) hE
  rcases hs with hs | ⟨out',S,I',hI,hu,hBi⟩
  · rw [ho3] at hs;cases hs
  · rw [List.nil_append] at hI;have hc:fU toks3 (k3+1+A.length) (CloseT::B):=fU.skip A h3.next
    have hcl:=bFh hBi (by decide) hc.kind hc.word;rw [name_fin] at hcl;simp only [List.nil_append,List.tail_cons,Nat.sub_self] at hcl;have hn:=e_name (zP (e:=e2) h2.1) (by rw [h2.kind];rfl) (by rw [h2.word];exact hb);obtain⟨hk,f,hf,hg⟩:=hn;have hBl:=congrArg List.length h2.next.2
    simp only [List.length_map,List.length_drop] at hBl;have hs2:=sim_b (toks1:=toks2) (toks2:=toks3) (e1:=e2) (e2:=e3) (r2:=hZ toks3 e3 k3) (R:=[]) (B:=out'++S) (C:=[kZ toks2 k2]) (I:=(hZ toks2 e2 k2).1) (base:=[]) (ob:=0) (by simp) (sim_e (by simp) f) 0 (k2+1) [] [] B
      (k3+1+A.length+1) [] [] h2.next (by rw [List.append_nil];exact hc.next) hB rfl rfl rfl (by rw [List.append_nil,←ho2];exact hg) (by omega) (by rw [List.append_nil];exact hcl)
    rcases hs2 with hs2 | ⟨out2,S2,V,hI2,hu2,hB2⟩
    · rw [ho3] at hs2;cases hs2
    · have hend:fU toks3 (k3+1+A.length+1+B.length) []:=fU.skip B (by rw [List.append_nil];exact hc.next);have hr:=r_end hB2 (by rw [hend.nil.1]) (by decide);rw [wU] at hr;refine⟨kZ toks2 k2,V,hI2,by simp [kZ,dJ.un,h2.word,WT],?_⟩;rw [hr];simp only [jG,List.append_nil];rw [List.append_assoc,iB,hu,hu2,hI]
end
def ColonT:Tk:=⟨3,[58],0⟩
theorem lx_outO{r:Bs}:Lx [111,117,116,32,40] [WT [111,117,116],OpenT] r:=
  Lx.append (a:=[111,117,116,32]) (A:=[WT [111,117,116]]) (b:=[40]) (Lx.gap (s:=[111,117,116]) (bFb out_word (by decide))) (sign_lx (by decide))
theorem lex_of{t:Bs}(h:(fG t).2=(0,0)):isOk (lexP t).2=true:=by
  unfold fG at h;split at h
  · assumption
  · rename_i k;simp only at h;rw [h] at k;exact absurd bFq k
theorem lex_go{t:Bs}(h:isOk (lexP t).2=true):t.length≤65536∧isOk (lexGo t.length 0 t []).2=true:=by
  unfold lexP at h;split at h
  · exact absurd h (by rw [fW (by decide)];simp)
  · exact⟨by omega,h⟩
theorem over_out{ins:List gG}{lns:List kL}{a:Int}{I:List dJ}:iG ⟨ins,lns++[⟨[],a,I⟩]⟩=true:=by rw [xC];rfl
theorem Lx.fin{s r:Bs}{T U:List Tk}(h:Lx s T r)(k:Lx r U []):Lx (s++r) (T++U) []:=Lx.append (by rw [List.append_nil];exact h) k
def Brk (R:List Tk):Prop:=R=[]∨ ∃t R',R=t::R'∧t.kind=4
theorem nonl2{t u:Tk}{T:List Tk}(h1:t.kind≠4)(h2:u.kind≠4)(h:tB T):tB (t::u::T):=fun x hx=>by
  rcases List.mem_cons.1 hx with rfl | hx
  · exact h1
  · rcases List.mem_cons.1 hx with rfl | hx
    · exact h2
    · exact h x hx
end Go.Proofs.YtbgdphbebhjpiaaGreatDoor
