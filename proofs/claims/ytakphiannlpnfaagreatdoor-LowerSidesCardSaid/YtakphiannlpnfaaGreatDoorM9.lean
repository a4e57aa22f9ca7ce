/- Texts of one proof, one behind the other: ExprS, DocS, AlikeP, BackO, WordP, ArrP, ArrL. -/
import Derived.Test.YtakphiannlpnfaaGreatDoorM2
import Derived.Test.YtakphiannlpnfaaGreatDoorM8
import Derived.Test.YtakphiannlpnfaaGreatDoorM7
import Derived.Test.YtakphiannlpnfaaGreatDoorM1
namespace Go.Proofs.YtakphiannlpnfaaGreatDoor
open Go.RowKit Go.Proofs.Tryz
set_option maxRecDepth 100000
def bMy (p:PieceV):bH:=mJ.row (.slice p.words.addr p.words.list.length p.words.cap) 9 p.words.list
def bHc (st:List PieceV):List bH:=st.map bMy
theorem maxN(a b:Nat):(if (b:Int)>(a:Int) then (b:Int) else (a:Int))=((max a b:Nat):Int):=by
 split<;>omega
def wsz (l:List Bs):Nat:=(l.map fun w=>w.length+1).sum
theorem bJz(a b:List Bs):wsz (a++b)=wsz a+wsz b:=by simp [wsz]
theorem jN(w:Bs)(r:List Bs):wsz (w::r)=w.length+1+wsz r:=by simp [wsz]
theorem bIh{l:List Bs}{w:Bs}{i:Nat}(h:l[i]?=some w):w.length+1≤wsz l:=by
 induction l generalizing i with
 | nil=>simp at h
 | cons x r ih=>
  rw [jN]
  cases i with
  | zero=>simp at h;subst h;omega
  | succ i=>have:=ih (i:=i) ab2;omega
theorem wsz_set{l:List Bs}{w v:Bs}{i:Nat}(h:l[i]?=some w):wsz (l.set i v)+w.length=wsz l+v.length:=by
 induction l generalizing i with
 | nil=>simp at h
 | cons x r ih=>
  cases i with
  | zero=>simp at h;subst h;simp only [List.set_cons_zero,jN];omega
  | succ i=>have:=ih (i:=i) ab2;simp only [List.set_cons_succ,jN];omega
theorem bLn: ∀l:List Bs,(joinSp l).length≤wsz l
 | []=>by simp [joinSp]
 | [w]=>by simp [joinSp,wsz]
 | w::x::r=>by
  have:=bLn (x::r);rw [tQ w o6,jN];simp;omega
def OkP (p:PieceV):Prop:=p.words.list≠[]∧wsz p.words.list≤40*p.tokens
theorem brk_set{l:List Bs}{w0 x:Bs}(h0:l[0]?=some w0)(hx:(l.set 0 ([40]++w0))[l.length-1]?=some x):(l.set 0 ([40]++w0)).set (l.length-1) (x++[41])=brk l:=by
 cases l with
 | nil=>simp at h0
 | cons w r=>
  simp at h0;subst h0
  have key: ∀(a:Bs) (r:List Bs) (x:Bs),(a::r)[r.length]?=some x→(a::r).set r.length (x++[41])=brkEnd (a::r):=by
   intro a r
   induction r generalizing a with
   | nil=>intro x h;simp at h;subst h;rfl
   | cons b r ih=>
    intro x h;have:=ih b x ab2;show a::((b::r).set r.length (x++[41]))=a::brkEnd (b::r);rw [this]
  simp only [List.set_cons_zero,List.length_cons,Nat.add_sub_cancel] at hx⊢;exact key _ _ _ hx
structure tX (l:List cR) (st:List PieceV) (i:Nat):Prop where
 steps:fO (l.drop i) (st.map PieceV.pc)=fO l []
 le:i≤l.length
 sum:(st.map (·.tokens)).sum≤300*i
 nest: ∀p∈st,p.nest≤i
 ok: ∀p∈st,OkP p
theorem tX.start(l:List cR):tX l [] 0:=⟨rfl,n0,o6,fun p hp=>by simp at hp,fun p hp=>by simp at hp⟩
section
variable {l : List cR} {st st' : List PieceV} {i : Nat} {x : cR} {r : Option Bs} {most : Nat}
theorem x_long{l:List cR}(h:most<l.length):gQ l most=none:=by rw [gQ,if_pos h]
theorem tX.next(h:tX l st i)(hx:l[i]?=some x){c:List dV}(hs:hU (st.map PieceV.pc) x=some c):fO (l.drop (i+1)) c=fO l []:=by
 have:=h.steps;rw [iQ hx,fO,hs] at this;exact this
theorem tX.fail(h:tX l st i)(hx:l[i]?=some x)(hs:hU (st.map PieceV.pc) x=none):gQ l most=none:=by
 have:=h.steps;rw [iQ hx,fO,hs] at this;unfold gQ;rw [←this];split<;>rfl
theorem tX.done(h:tX l st i)(hi:l.length≤i)(hm: ¬most<l.length):gQ l most=match st.map PieceV.pc with
  | [p]=>if most<p.tokens∨32<p.nest then none else some (joinSp p.words)
  | _=>none:=by
 have:=h.steps;rw [List.drop_of_length_le hi,fO] at this;unfold gQ;rw [if_neg hm,←this];split<;>rename_i h1
 ·injection h1 with h1
  rw [h1]
 ·split
  ·rename_i p hp;exact absurd (congrArg some hp) (h1 p)
  ·rfl
end
theorem uS{s:Bs}(h:dA s=true):s.length≤16:=by
 unfold dA bEl at h;simp only [Bool.and_eq_true] at h;obtain⟨_,_,_,_,h⟩:=h
 cases hl:(fT s).1 with
 | nil=>rw [hl] at h;cases h
 | cons t r=>
  cases r with
  | nil=>
   rw [hl] at h;simp only [Bool.and_eq_true,beq_iff_eq] at h;rw [←h.2];exact(lex_ok s t (by rw [hl];simp)).word
  | cons _ _=>rw [hl] at h;cases h
theorem sum_spell{l:List Int}(hz: ∀z∈l,-9223372036854775808≤z∧z≤9223372036854775807):wsz (l.map fN)≤22*l.length:=by
 induction l with
 | nil=>simp [wsz]
 | cons z r ih=>
  have h1:=hz z o6;have:=qG h1.1 h1.2;have:=ih fun y hy=>hz y ae3;rw [List.map_cons,jN];simp only [List.length_cons];omega
theorem bAy{x:cR}{q:dV}(hz: ∀z∈x.nums,-9223372036854775808≤z∧z≤9223372036854775807)(h:operandS x=some q):q.words≠[]∧wsz q.words≤40*q.tokens∧q.tokens≤256∧q.nest=0:=by
 unfold operandS at h;split at h
 ·split at h
  ·rename_i hn;injection h with h
   subst h;have:=uS hn.2.2;refine⟨o6,?_,o6,rfl⟩;simp [wsz];omega
  ·cases h
 ·split at h
  ·cases h
  ·rename_i hn;injection h with h
   subst h;have h0:x.nums≠[]:=fun e=>hn (.inr (.inr (.inl e)));have h1: ¬256<x.nums.length:=fun e=>hn (.inr (.inr (.inr e)));have:=sum_spell hz;refine⟨by simpa using h0,?_,by simp;omega,rfl⟩;simp only;omega
section
variable {l : List cR} {st : List PieceV} {i : Nat} {x : cR} {p : PieceV}
theorem vN(ho:x.how=1∨x.how=2){c:List dV}:hU c x=(operandS x).map (· ::c):=by rw [hU,if_pos ho]
theorem tX.operand(h:tX l st i)(hx:l[i]?=some x)(ho:x.how=1∨x.how=2)(hz: ∀z∈x.nums,-9223372036854775808≤z∧z≤9223372036854775807)(hq:operandS x=some p.pc):tX l (p::st) (i+1):=by
 obtain⟨h1,h2,h3,h4⟩:=bAy hz hq;have hl:=(List.getElem?_eq_some_iff.1 hx).1;refine⟨h.next hx (by rw [vN ho,hq];rfl),hl,?_,fun y hy=>?_,fun y hy=>?_⟩
 ·have:=h.sum;have h3:p.tokens≤256:=h3;simp only [List.map_cons,List.sum_cons];omega
 ·rcases List.mem_cons.1 hy with rfl | hy
  ·have h4:y.nest=0:=h4;omega
  ·have:=h.nest y hy;omega
 ·rcases List.mem_cons.1 hy with rfl | hy
  ·exact⟨h1,h2⟩
  ·exact h.ok y hy
theorem hZ{c:List dV}(ho: ¬(x.how=1∨x.how=2))(hb:x.how<3∨7<x.how∨x.nums≠[]∨x.name≠[]∨(verbS x).1=[]):hU c x=none:=by rw [hU,if_neg ho,if_pos hb]
theorem gT{c:List dV}(ho: ¬(x.how=1∨x.how=2))(hs:c.length<if wZ x.how then 2 else 1):hU c x=none:=by
 rw [hU,if_neg ho];split
 ·rfl
 ·unfold pP;split
  ·rename_i ht;rw [ht] at hs
   match c,hs with
   | [],_=>rfl
   | [_],_=>rfl
   | _::_::_,hs=>simp at hs;omega
  ·rename_i ht;rw [if_neg ht] at hs
   match c,hs with
   | [],_=>rfl
   | _::_,hs=>simp at hs
theorem kF{c:List dV}(h3:3≤x.how)(h7:x.how≤7)(hn:x.nums=[])(hm:x.name=[])(hv:(verbS x).1≠[]):hU c x=pP x c:=by
 rw [hU,if_neg n0,if_neg];rintro(h | h | h | h | h)
 ·omega
 ·omega
 ·exact h hn
 ·exact h hm
 ·exact hv h
theorem bCh(x:cR):(verbS x).1.length≤6∧(verbS x).2≤2∧((verbS x).1≠[]→1≤(verbS x).2):=by
 have h1:=bEt false x.fn;have h2:=bEt true x.fn;have h3:=bPn x.how;unfold verbS;split
 ·exact⟨by simp;omega,o6,fun _=>by simp⟩
 ·split
  ·exact⟨by simp;omega,o6,fun _=>by simp⟩
  ·split
   ·exact⟨o6,o6,fun h=>absurd rfl h⟩
   ·exact⟨by simp;omega,o6,fun _=>by simp⟩
theorem tX.one(h:tX l (p::st) i)(hx:l[i]?=some x)(hs:hU ((p::st).map PieceV.pc) x=pP x ((p::st).map PieceV.pc))(ht:wZ x.how=false)(hv:(verbS x).1≠[]){A:Option Addr}{c:Nat}:
  tX l (⟨⟨A,c,[(verbS x).1]++p.words.list⟩,p.nest,p.tokens+(verbS x).2,false⟩::st) (i+1):=by
 have hl:=(List.getElem?_eq_some_iff.1 hx).1;obtain⟨h1,h2,h3⟩:=bCh x;refine⟨h.next hx (by rw [hs];unfold pP;rw [ht];rfl),hl,?_,fun y hy=>?_,fun y hy=>?_⟩
 ·have:=h.sum;simp only [List.map_cons,List.sum_cons] at this⊢;omega
 ·rcases List.mem_cons.1 hy with rfl | hy
  ·have:=h.nest p o6;dsimp only;omega
  ·have:=h.nest y ae3;omega
 ·rcases List.mem_cons.1 hy with rfl | hy
  ·have:=(h.ok p o6).2;have h3:=h3 hv;refine⟨o6,?_⟩;simp only [List.singleton_append,jN];omega
  ·exact h.ok y ae3
theorem left_ok{q:PieceV}(h:OkP q):(leftS q.pc).words≠[]∧wsz (leftS q.pc).words≤40*(leftS q.pc).tokens∧(leftS q.pc).tokens≤q.tokens+2∧(leftS q.pc).nest≤q.nest+1:=by
 obtain⟨h1,h2⟩:=h;unfold leftS;split
 ·exact⟨h1,h2,by show q.tokens≤_;omega,by show q.nest≤_;omega⟩
 ·refine⟨brk_ne h1,?_,Nat.le_refl _,Nat.le_refl _⟩
  have key: ∀l:List Bs,l≠[]→wsz (brkEnd l)=wsz l+1:=by
   intro l
   induction l with
   | nil=>intro h;exact absurd rfl h
   | cons w r ih=>
    intro _
    cases r with
    | nil=>simp [brkEnd,wsz]
    | cons x r=>
     show wsz (w::brkEnd (x::r))=_;rw [jN,ih o6];simp only [jN];omega
  have hb:wsz (brk q.words.list)=wsz q.words.list+2:=by
   cases hq:q.words.list with
   | nil=>exact absurd hq h1
   | cons w r=>
    show wsz (brkEnd _)=_;rw [key _ o6,jN,jN];simp;omega
  show wsz (brk q.words.list)≤40*(q.tokens+2);omega
theorem tX.two{q:PieceV}(h:tX l (p::q::st) i)(hx:l[i]?=some x)(hs:hU ((p::q::st).map PieceV.pc) x=pP x ((p::q::st).map PieceV.pc))(ht:wZ x.how=true)(hv:(verbS x).1≠[]){A:Option Addr}{c:Nat}{ws:List Bs}{n t:Nat}
  (hw:ws=(leftS q.pc).words) (hn:n=(leftS q.pc).nest) (hk:t=(leftS q.pc).tokens):
  tX l (⟨⟨A,c,ws++([(verbS x).1]++p.words.list)⟩,max p.nest n,p.tokens+(verbS x).2+t,false⟩::st) (i+1):=by
 subst hw hn hk;have hl:=(List.getElem?_eq_some_iff.1 hx).1;obtain⟨h1,h2,h3⟩:=bCh x;obtain⟨k1,k2,k3,k4⟩:=left_ok (h.ok q o6);refine⟨h.next hx (by rw [hs];unfold pP;rw [ht];rfl),hl,?_,fun y hy=>?_,fun y hy=>?_⟩
 ·have:=h.sum;simp only [List.map_cons,List.sum_cons] at this⊢;omega
 ·rcases List.mem_cons.1 hy with rfl | hy
  ·have:=h.nest p o6;have:=h.nest q o6;dsimp only;omega
  ·have:=h.nest y ae3;omega
 ·rcases List.mem_cons.1 hy with rfl | hy
  ·have:=(h.ok p o6).2;have h3:=h3 hv;refine⟨o6,?_⟩;simp only [List.singleton_append,bJz,jN];omega
  ·exact h.ok y ae3
end
theorem rev_one{x:PieceV}{r:List PieceV}:(x::r).reverse[(r.length+1)-1]?=some x:=by simp
theorem bId{x y:PieceV}{r:List PieceV}:(x::y::r).reverse[(r.length+2)-1]?=some x∧(x::y::r).reverse[(r.length+2)-2]?=some y:=by
 constructor
 ·simp
 ·simp
theorem rev_cut1{x:PieceV}{r:List PieceV}:(x::r).reverse.take ((r.length+1)-1)=r.reverse:=by simp
theorem qN{x y:PieceV}{r:List PieceV}:(x::y::r).reverse.take ((r.length+2)-2)=r.reverse:=by simp
theorem one_of{l:List PieceV}(h:l.length=1): ∃p,l=[p]:=by
 match l,h with
 | [p],_=>exact⟨p,rfl⟩
theorem cons_of{l:List PieceV}(h:1≤l.length): ∃p r,l=p::r:=by
 match l,h with
 | p::r,_=>exact⟨p,r,rfl⟩
theorem cons2_of{l:List PieceV}(h:2≤l.length): ∃p q r,l=p::q::r:=by
 match l,h with
 | p::q::r,_=>exact⟨p,q,r,rfl⟩
theorem join_eq: ∀l:List Bs,Lib.join l [32]=joinSp l
 | []=>rfl
 | [w]=>by simp [Lib.join,joinSp]
 | w::x::r=>by
  rw [tQ w o6,←join_eq (x::r)];simp [Lib.join]
theorem join_spec(A:Option Addr)(c:Nat)(l:List Bs)(hc:l.length≤c)(hl:(joinSp l).length≤140737488355328)(hn:l.length≤140737488355328):
  cP prog 130 [.slice A l.length c,.string (bs [32])] [] [mJ.sl (.slice A l.length c) l] (fun _:Unit=> .string (bs (joinSp l))) (fun _=>[]) (fun _=>[]):=
 lI fun S w hS k=>by
  obtain⟨A',c',e,h⟩:=k _ (.head _);injection e with e1 e2 e3
  subst e1 e3
  cases l with
  | nil=>
   refine(Tryz.strings_Join_none A c (bs [32]) w).mono ?_;rintro e w' ⟨rfl,rfl⟩;exact⟨rfl,Below.refl _ _⟩
  | cons x r=>
   obtain⟨b,o,cs,e1,hb,_,_⟩:=h 0 x rfl;subst e1;have e0:((x::r).map bs).length=(x::r).length:=List.length_map _
   have e4:((x::r).map bs).map (·.data.toList)=x::r:=by
    rw [List.map_map];exact List.map_id _
   have hj:=Tryz.strings_Join b o c ((x::r).map bs) (bs [32]) w (fun j y hy=>?_) (hS b hb) (by rw [e0];exact hn) (by rw [e0];exact hc) (by rw [e4,bs_data,join_eq];exact hl)
   ·rw [e0,e4,bs_data,join_eq] at hj;exact hj
   ·rw [List.getElem?_map] at hy
    cases hz:(x::r)[j]? with
    | none=>rw [hz] at hy;cases hy
    | some z=>
     rw [hz] at hy;simp at hy;subst hy;obtain⟨b',o',cs,e1,_,h3,h4⟩:=h j z hz;injection e1 with e1
     injection e1 with e1 e2
     subst e1 e2;have h4:cs=mJ.cells z:=h4;subst h4;have:=h3 0 (.string (bs z)) rfl
     have e:o+j*(Enc.flat mJ.size mJ.cells).size+0=o+j:=by
      show o+j*1+0=o+j;omega
     rwa [e] at this
theorem rW(l:List Bs):l.length≤wsz l:=by
 induction l with
 | nil=>simp
 | cons w r ih=>rw [jN,List.length_cons];omega
theorem lK{x:ItemV}(h:(0:Int)<((x.nums.list.length:Nat):Int)):x.it.nums≠[]:=fun e=>by
 have:x.nums.list=[]:=e;rw [this] at h;simp at h
theorem nN{x:ItemV}(h: ¬(0:Int)<((x.nums.list.length:Nat):Int)):x.it.nums=[]:=List.eq_nil_of_length_eq_zero (show x.nums.list.length=0 by omega)
theorem twoT{k:Int}(h:k=4∨k=7):wZ k=true:=by
 rcases h with rfl | rfl<;>rfl
theorem twoN{k:Int}(h:k≠4)(h':k≠7):wZ k=false:=by simp [wZ,h,h']
theorem not_one{st:List PieceV}{most:Nat}(h:st.length≠1):(match st.map PieceV.pc with
  | [p]=>if most<p.tokens∨32<p.nest then none else some (joinSp p.words)
  | _=>none)=none:=by
 match st,h with
 | [],_=>rfl
 | [_],h=>exact absurd rfl h
 | _::_::_,_=>rfl
theorem rY{α:Type}{o:Option α}(h:o.isSome=false):o=none:=by
 cases o with
 | none=>rfl
 | some x=>cases h
theorem tX.len{l:List cR}{st:List PieceV}{i:Nat}(h:tX l st i):st.length≤300*i:=by
 refine Nat.le_trans ?_ h.sum;have ho:=h.ok;clear h
 induction st with
 | nil=>simp
 | cons p r ih=>
  have:=ih fun y hy=>ho y ae3;obtain⟨h1,h2⟩:=ho p o6
  have h3:1≤wsz p.words.list:=by
   cases hp:p.words.list with
   | nil=>exact absurd hp h1
   | cons w t=>rw [jN];omega
  simp only [List.length_cons,List.map_cons,List.sum_cons];omega
theorem nU{x:ItemV}{st:List PieceV}(h:x.how=4∨x.how=7)(hs:st.length<2):(st.map PieceV.pc).length<if wZ x.it.how then 2 else 1:=by
 rw [show wZ x.it.how=true from twoT h,List.length_map];exact hs
theorem oB{x:ItemV}{st:List PieceV}(h:x.how≠4)(h':x.how≠7)(hs:st.length<1):(st.map PieceV.pc).length<if wZ x.it.how then 2 else 1:=by
 rw [show wZ x.it.how=false from twoN h h',List.length_map];exact hs
set_option maxHeartbeats 1000000 in
theorem bLo(b r1 r2:Nat)(p:Value)(G:Option Addr)(m c:Nat)(A:Option Addr)(ci:Nat)(items:List ItemV)(most:Nat)(hm:most≤256)(hit: ∀it∈items,it.name.length≤140737488355328∧ ∀z∈it.nums.list,-9223372036854775808≤z∧z≤9223372036854775807):cP prog 95 [.pointer (some ⟨b,0,none⟩),.slice A items.length ci,.int .i64 (most:Nat)] [.obj b (.cells [.map (some r1),.map (some r2),p,.slice G m c].toArray 154)] [mapF r1 .u8 (rG false),mapF r2 .u8 (rG true),iF,lC.sl (.slice A items.length ci) items,mK items] (fun(_:Unit)=> .tuple #[.string (bs ((gQ (items.map ItemV.it) most).getD [])),.bool (gQ (items.map ItemV.it) most).isSome]) (fun(_:Unit)=>[.obj b (.cells [.map (some r1),.map (some r2),p,.slice G m c].toArray 154)]) (fun _=>[]):=by
 have hT:=jH;generalize hR:gQ (items.map ItemV.it) most=r;refine k6 func95 ntmps95 ?_;intro β hM;refine g15 ?_;refine dO (fun hc21=>?_) fun hc21=>?_
 ·refine g8 ?_;have hr:=hR.symm.trans (x_long aa4);subst hr;exact rs2 () trivial
 refine g16 ?_;refine cH (t:=221) bEq ?_;refine at_loop (ι:=Nat×List PieceV×Option Addr×Nat) (fun⟨i,st,B,e⟩=>[(0,.pointer (some ⟨b,0,none⟩)),(2,.int .i64 (most:Nat)),(8,.slice B st.reverse.length e),(22,.slice A items.length ci),(23,.int .i64 (items.length:Nat)),(24,.int .i64 (i:Nat))]) (fun⟨i,st,B,e⟩=> .obj b (.cells [.map (some r1),.map (some r2),p,.slice G m c].toArray 154)::bEq.row (.slice B st.reverse.length e) 221 st.reverse::bHc st) (fun⟨i,st,B,e⟩=>[Fact.pure (tX (items.map ItemV.it) st i),mapF r1 .u8 (rG false),mapF r2 .u8 (rG true),iF,lC.sl (.slice A items.length ci) items,mK items]) (fun⟨i,st,B,e⟩=>items.length-i) (0,[],none,0) ⟨rfl,rfl,rfl,rfl,rfl,rfl,j1⟩ (.c1 (.cons .head Sel.self)) ⟨j2 (tX.start _),d7,d8,d9,e6,e7,j1⟩ ?_;rintro⟨i,st,B,e⟩;dsimp only;refine bC d7 fun hinv5=>?_;have hil:=hinv5.le;simp only [List.length_map] at hil;have hsum:=hinv5.sum;have hstl:=hinv5.len;refine g6 ?_;refine dO (fun hc25=>?_) fun hc25=>?_
 ·refine g6 ?_;obtain⟨x1,hx2⟩:=gx items i;refine ss (ixs i) ?_;refine ss (lS hx2 0) ?_;refine j5 mZ fun b3=>?_;refine g5 ?_;have hx0:(items.map ItemV.it)[i]?=some x1.it:=by rw [List.getElem?_map,hx2];rfl
  have hxi:=hit x1 (j3 hx2);have hvl:=bCh x1.it;refine g5 ?_;refine mV (fun hg31=>?_) fun hg31=>?_
  ·refine g10 ?_;refine bB (numF x1) (Has.each e8 (j3 hx2)) ?_;refine j4 func128 (bDu x1 hxi.1 hxi.2) ⟨d7,e7,j1⟩ fun p4=>?_;refine bC d7 fun hpu=>?_;refine g3 ?_;refine j5 mF fun b5=>?_;refine g11 ?_;refine jB (fun hc42=>?_) fun hc42=>?_
   ·refine g14 ?_;have hr:=hR.symm.trans (hinv5.fail hx0 af1);subst hr;exact rs2 () trivial
   refine g3 ?_;obtain⟨q,hq⟩: ∃q,operandS x1.it=some q:=Option.isSome_iff_exists.1 (by simpa using hc42);have hpc:=hpu q hq;rw [←hpc] at hq;refine g3 ?_;refine gM (m:=p4) rfl rfl rfl rfl rfl fun b6=>?_;refine gO kT5 (cA .head rfl) rfl rfl rfl rfl rfl rfl rfl r9 fun A7 c8=>?_;rw [←List.reverse_cons];refine g9 ?_;refine inc (i+1) ?_;refine g3 ?_;exact mW (i+1,p4::st,_,_) w9 ⟨rfl,rfl,rfl,rfl,rfl,rfl,j1⟩ (.c5 (.c0 (.c2 (Sel.skip (Sel.skip (Sel.skip Sel.self)))))) ⟨j2 (hinv5.operand hx0 o5 hxi.2 hq),e6,e7,e8,e9,f4,j1⟩
  refine g6 ?_;refine fG (fun hc35=>?_) fun hc35=>?_
  ·refine g3 ?_;refine bB (numF x1) (Has.each e8 (j3 hx2)) ?_;refine j4 func128 (bDu x1 hxi.1 hxi.2) ⟨d7,e7,j1⟩ fun p9=>?_;refine bC d7 fun hpu=>?_;refine g3 ?_;refine j5 mF fun b10=>?_;refine g11 ?_;refine jB (fun hc42=>?_) fun hc42=>?_
   ·refine g14 ?_;have hr:=hR.symm.trans (hinv5.fail hx0 af1);subst hr;exact rs2 () trivial
   refine g3 ?_;obtain⟨q,hq⟩: ∃q,operandS x1.it=some q:=Option.isSome_iff_exists.1 (by simpa using hc42);have hpc:=hpu q hq;rw [←hpc] at hq;refine g3 ?_;refine gM (m:=p9) rfl rfl rfl rfl rfl fun b11=>?_;refine gO kT5 (cA .head rfl) rfl rfl rfl rfl rfl rfl rfl r9 fun A12 c13=>?_;rw [←List.reverse_cons];refine g9 ?_;refine inc (i+1) ?_;refine g3 ?_;exact mW (i+1,p9::st,_,_) w9 ⟨rfl,rfl,rfl,rfl,rfl,rfl,j1⟩ (.c5 (.c0 (.c2 (Sel.skip (Sel.skip (Sel.skip Sel.self)))))) ⟨j2 (hinv5.operand hx0 o5 hxi.2 hq),e6,e7,e8,e9,f4,j1⟩
  refine g14 ?_;refine mV (fun hg50=>?_) fun hg50=>?_
  ·refine g18 ?_;refine lL (fun hg58=>?_) fun hg58=>?_
   ·refine g37 ?_;have hr:=hR.symm.trans (hinv5.fail hx0 n9);subst hr;exact rs2 () trivial
   refine g5 ?_;refine lL (fun hg63=>?_) fun hg63=>?_
   ·refine g32 ?_;have hr:=hR.symm.trans (hinv5.fail hx0 n9);subst hr;exact rs2 () trivial
   refine g6 ?_;refine lL (fun hg69=>?_) fun hg69=>?_
   ·refine g26 ?_;have hr:=hR.symm.trans (hinv5.fail hx0 n9);subst hr;exact rs2 () trivial
   refine g5 ?_;refine dM (fun hg74=>?_) (fun hg74=>?_)
   ·have hg74:x1.name≠([]:Bs):=fun h=>by rw [h] at hg74;first | (simp at hg74;done) | exact absurd hg74 o9
    refine g21 ?_;have hr:=hR.symm.trans (hinv5.fail hx0 n9);subst hr;exact rs2 () trivial
   have hg74:x1.name=([]:Bs):=eq_of_beq (bKh hg74);refine g2 ?_;refine cO (z':=((st.length:Nat):Int)) (congrArg Nat.cast List.length_reverse) ?_;refine g5 ?_;refine dO (fun hc79=>?_) fun hc79=>?_
   ·refine g13 ?_;have hr:=hR.symm.trans (hinv5.fail hx0 n9);subst hr;exact rs2 () trivial
   refine g6 ?_;refine bD func129 (bAo b r1 r2 p G m c x1) rfl rfl (.c1 .nil) ⟨d8,d9,j1⟩ fun _=>?_;refine g14 ?_;refine iW (fun hc87=>?_) fun hc87=>?_
   ·have hc87:(verbS x1.it).1=([]:Bs):=eq_of_beq hc87;refine g13 ?_;have hr:=hR.symm.trans (hinv5.fail hx0 (hZ q8 (.inr (.inr (.inr (.inr ‹_›))))));subst hr;exact rs2 () trivial
   have hc87:(verbS x1.it).1≠([]:Bs):=fun h=>absurd (beq_iff_eq.2 h) ad5;refine g3 ?_;obtain⟨p1,q1,st,rfl⟩:=cons2_of (l:=st) n0;have hk2:=hinv5.ok q1 o6;have hn2:=hinv5.nest q1 o6;have hk1:=hinv5.ok p1 o6;have hn1:=hinv5.nest p1 o6;simp only [List.map_cons,List.sum_cons] at hsum;simp only [List.length_cons] at hstl;have hw1:=rW p1.words.list;have hk1b:=hk1.2;have hw2:=rW q1.words.list;have hk2b:=hk2.2;rw [show bHc (p1::q1::st)=bMy p1::bMy q1::bHc st from rfl];refine g4 ?_;refine cO (z':=(((st.length+2):Nat):Int)) o6 ?_;refine one ?_;refine inc ((st.length+2)-1) ?_;refine ss (cJ hT (k:=((st.length+2)-1)) (cM kT2) rfl rfl rfl rfl rfl rfl rfl ac5) ?_;refine ss (dX hT (dP.knows (cM kT2) (k:=((st.length+2)-1)) (x:=p1) bId.1 0) rfl rfl rfl rfl rfl) ?_;refine j5 mF fun b14=>?_;refine g9 ?_;refine inc (p1.tokens+(verbS x1.it).2) ?_;refine g13 ?_;refine jL (m:=(verbS x1.it).1) rfl rfl rfl rfl rfl fun b15=>?_;refine bP (E:=mJ) (xs:=[(verbS x1.it).1]) .head p8 ?_;refine g2 ?_;refine lE .head (cM kT5) rfl rfl rfl rfl rfl rfl rfl q9 fun A16 c17=>?_;refine g9 ?_;refine bM (t':=true) o9 ?_;refine g8 ?_;refine cO (z':=(((st.length+2):Nat):Int)) o6 ?_;refine one ?_;refine inc ((st.length+2)-2) ?_;refine ss (cJ hT (k:=((st.length+2)-2)) (cM kT4) rfl rfl rfl rfl rfl rfl rfl ac5) ?_;refine ss (dX hT (dP.knows (cM kT4) (k:=((st.length+2)-2)) (x:=q1) bId.2 0) rfl rfl rfl rfl rfl) ?_;refine j5 mF fun b18=>?_;refine g11 ?_;refine jB (fun hc116=>?_) fun hc116=>?_
   ·refine cK ?_;have hq0:=List.length_pos_iff.2 hk2.1;refine nS 8 _ _ [(true,0),(true,1),(true,2),(true,3),(true,4),(true,5),(true,6),(true,7)] bZ o3 (.c0 (.c0 (.c0 (.c0 (.c0 (.c0 (.c0 (.cons .head Sel.self)))))))) bA.self ?_;refine g4 ?_;obtain⟨x19,hx20⟩:=gx q1.words.list 0;refine stL rfl (ixs 0) ?_;refine stL rfl (dW hx20 0) ?_;have hm0:=bIh hx20;refine stL rfl (iU rfl rfl rfl q7) ?_;refine stL rfl (ixs 0) ?_;refine one ?_;refine fX hT (k:=0) (fo:=0) (y':=(([40]:Bs)++x19)) kT7 rfl rfl rfl rfl rfl rfl rfl rfl rfl hx20 rfl ?_;refine g9 ?_;refine cO (z':=((q1.words.list.length:Nat):Int)) (rfl) ?_;refine one ?_;refine inc (q1.words.list.length-1) ?_;obtain⟨x21,hx22⟩:=gx (q1.words.list.set 0 (([40]:Bs)++x19)) (q1.words.list.length-1) q9;refine ss (cJ hT (k:=(q1.words.list.length-1)) (cM .head) rfl rfl rfl rfl rfl o6 rfl q9) ?_;refine ss (dW hx22 0) ?_;have hm1:=bIh hx22;have hm2:=wsz_set (v:=[40]++x19) hx20;simp only [List.length_append,List.length_cons,List.length_nil] at hm2;refine ss (iU rfl rfl rfl q7) ?_;refine ss (cJ hT (k:=(q1.words.list.length-1)) (cM .head) rfl rfl rfl rfl rfl o6 rfl q9) ?_;refine fX hT (k:=(q1.words.list.length-1)) (fo:=0) (y':=(x21++([41]:Bs))) .head rfl rfl rfl rfl rfl rfl rfl rfl rfl hx22 rfl ?_;refine g7 ?_;refine inc (q1.nest+1) ?_;refine g8 ?_;refine inc (q1.tokens+2) ?_;refine g5 ?_;have hbr:=brk_set hx20 hx22;refine g5 ?_;refine lE kT1 (cM kT3) rfl rfl rfl rfl rfl rfl rfl q9 fun A23 c24=>?_;refine g11 ?_;refine inc ((p1.tokens+(verbS x1.it).2)+(q1.tokens+2)) ?_;refine g10 ?_;refine cO (z':=(((max p1.nest (q1.nest+1)):Nat):Int)) (maxN _ _) ?_;refine g4 ?_;refine lJ _ _ (.fl 0 (.fl 1 (.fl 2 (.fl 3 (.fl 4 (.fl 6 (.two 5 7 (.op 7 (.op 8 (.fl 9 .nil))) (.op 5 (.op 8 (.fl 9 .nil)))))))))) bZ o3 (.c0 (.c0 (.c0 (.c0 (.c0 (.c0 (.c1 (Sel.skip Sel.self)))))))) bA.self ?_;refine g3 ?_;refine cO (z':=(((st.length+2):Nat):Int)) o6 ?_;refine g2 ?_;refine inc ((st.length+2)-2) ?_;refine one ?_;refine jE (o:=_) (o':=_) rfl rfl ?_ ?_
    ·refine gZ hT (k:=((st.length+2)-2)) kT6 rfl rfl rfl rfl rfl rfl rfl rfl rfl w6 ?_;rw [qN];refine gS (.c1 (.c1 (.c1 (.c1 (.c1 (.c1 (.c1 (Sel.skip Sel.self)))))))) (bA.drop 0) ?_;refine one ?_;refine gM (m:=(⟨⟨A23,c24,((q1.words.list.set 0 (([40]:Bs)++x19)).set (q1.words.list.length-1) (x21++([41]:Bs)))++([(verbS x1.it).1]++p1.words.list)⟩,max p1.nest (q1.nest+1),p1.tokens+(verbS x1.it).2+(q1.tokens+2),false⟩:PieceV)) rfl rfl rfl rfl rfl fun b25=>?_;refine gS (.c2 (.c2 (.c2 (.c2 (.c2 (.c2 (.c2 (Sel.skip (Sel.skip Sel.self))))))))) (bA.drop 0) ?_;refine one ?_;refine gO kT1 (cA .head rfl) rfl rfl rfl rfl rfl rfl rfl r9 fun A26 c27=>?_;rw [←List.reverse_cons];refine gS (.c2 (.c2 (.c2 (.c2 (.c2 (.c2 (.c2 (Sel.skip (Sel.skip Sel.self))))))))) (bA.drop 0) ?_;refine g6 ?_;refine inc (i+1) ?_;refine g3 ?_;exact mW (i+1,(⟨⟨A23,c24,((q1.words.list.set 0 (([40]:Bs)++x19)).set (q1.words.list.length-1) (x21++([41]:Bs)))++([(verbS x1.it).1]++p1.words.list)⟩,max p1.nest (q1.nest+1),p1.tokens+(verbS x1.it).2+(q1.tokens+2),false⟩:PieceV)::st,_,_) w9 ⟨rfl,rfl,rfl,rfl,rfl,rfl,j1⟩ (.c6 (.c0 (.c2 (Sel.skip (Sel.skip (Sel.skip (Sel.skip (Sel.skip (Sel.skip Sel.self))))))))) ⟨j2 (hinv5.two hx0 (kF ac1 ac2 (nN n0) ‹_› ‹_›) (twoT o5) ‹_› aa1 s8 s8),d8,d9,e6,e7,e8,j1⟩
    refine gM (m:=(⟨⟨A23,c24,((q1.words.list.set 0 (([40]:Bs)++x19)).set (q1.words.list.length-1) (x21++([41]:Bs)))++([(verbS x1.it).1]++p1.words.list)⟩,max p1.nest (q1.nest+1),p1.tokens+(verbS x1.it).2+(q1.tokens+2),false⟩:PieceV)) rfl rfl rfl rfl rfl fun b28=>?_;refine gS (.c1 (.c1 (.c1 (.c1 (.c1 (.c1 (.c2 (Sel.skip (Sel.skip Sel.self))))))))) (bA.drop 0) ?_;refine one ?_;refine gZ hT (k:=((st.length+2)-2)) kT7 rfl rfl rfl rfl rfl rfl rfl rfl rfl w6 ?_;rw [qN];refine gS (.c2 (.c2 (.c2 (.c2 (.c2 (.c2 (.c2 (Sel.skip (Sel.skip Sel.self))))))))) (bA.drop 0) ?_;refine one ?_;refine gO .head (cA kT1 rfl) rfl rfl rfl rfl rfl rfl rfl r9 fun A29 c30=>?_;rw [←List.reverse_cons];refine gS (.c2 (.c2 (.c2 (.c2 (.c2 (.c2 (.c2 (Sel.skip (Sel.skip Sel.self))))))))) (bA.drop 0) ?_;refine g6 ?_;refine inc (i+1) ?_;refine g3 ?_;exact mW (i+1,(⟨⟨A23,c24,((q1.words.list.set 0 (([40]:Bs)++x19)).set (q1.words.list.length-1) (x21++([41]:Bs)))++([(verbS x1.it).1]++p1.words.list)⟩,max p1.nest (q1.nest+1),p1.tokens+(verbS x1.it).2+(q1.tokens+2),false⟩:PieceV)::st,_,_) w9 ⟨rfl,rfl,rfl,rfl,rfl,rfl,j1⟩ (.c6 (.c0 (.c2 (Sel.skip (Sel.skip (Sel.skip (Sel.skip (Sel.skip (Sel.skip Sel.self))))))))) ⟨j2 (hinv5.two hx0 (kF ac1 ac2 (nN n0) ‹_› ‹_›) (twoT o5) ‹_› aa1 s8 s8),d8,d9,e6,e7,e8,j1⟩
   refine g8 ?_;refine lE kT7 (cM kT2) rfl rfl rfl rfl rfl rfl rfl q9 fun A31 c32=>?_;refine g11 ?_;refine inc ((p1.tokens+(verbS x1.it).2)+q1.tokens) ?_;refine g10 ?_;refine cO (z':=(((max p1.nest q1.nest):Nat):Int)) (maxN _ _) ?_;refine g4 ?_;refine lJ _ _ (.fl 0 (.fl 1 (.fl 2 (.fl 3 (.fl 4 (.fl 6 (.two 5 7 (.op 7 (.op 8 (.fl 9 .nil))) (.op 5 (.op 8 (.fl 9 .nil)))))))))) bZ o3 (.c0 (.c0 (.c0 (.c0 (.c0 (.c0 (.c1 (Sel.skip Sel.self)))))))) bA.self ?_;refine g3 ?_;refine cO (z':=(((st.length+2):Nat):Int)) o6 ?_;refine g2 ?_;refine inc ((st.length+2)-2) ?_;refine one ?_;refine jE (o:=_) (o':=_) rfl rfl ?_ ?_
   ·refine gZ hT (k:=((st.length+2)-2)) kT6 rfl rfl rfl rfl rfl rfl rfl rfl rfl w6 ?_;rw [qN];refine gS (.c1 (.c1 (.c1 (.c1 (.c1 (.c1 (.c1 (Sel.skip Sel.self)))))))) (bA.drop 0) ?_;refine one ?_;refine gM (m:=(⟨⟨A31,c32,q1.words.list++([(verbS x1.it).1]++p1.words.list)⟩,max p1.nest q1.nest,p1.tokens+(verbS x1.it).2+q1.tokens,false⟩:PieceV)) rfl rfl rfl rfl rfl fun b33=>?_;refine gS (.c2 (.c2 (.c2 (.c2 (.c2 (.c2 (.c2 (Sel.skip (Sel.skip Sel.self))))))))) (bA.drop 0) ?_;refine one ?_;refine gO kT1 (cA .head rfl) rfl rfl rfl rfl rfl rfl rfl r9 fun A34 c35=>?_;rw [←List.reverse_cons];refine gS (.c2 (.c2 (.c2 (.c2 (.c2 (.c2 (.c2 (Sel.skip (Sel.skip Sel.self))))))))) (bA.drop 0) ?_;refine g6 ?_;refine inc (i+1) ?_;refine g3 ?_;exact mW (i+1,(⟨⟨A31,c32,q1.words.list++([(verbS x1.it).1]++p1.words.list)⟩,max p1.nest q1.nest,p1.tokens+(verbS x1.it).2+q1.tokens,false⟩:PieceV)::st,_,_) w9 ⟨rfl,rfl,rfl,rfl,rfl,rfl,j1⟩ (.c6 (.c0 (.c2 (Sel.skip (Sel.skip (Sel.skip (Sel.skip (Sel.skip (Sel.skip Sel.self))))))))) ⟨j2 (hinv5.two hx0 (kF ac1 ac2 (nN n0) ‹_› ‹_›) (twoT o5) ‹_› t6 t6 t6),d8,d9,e6,e7,e8,j1⟩
   refine gM (m:=(⟨⟨A31,c32,q1.words.list++([(verbS x1.it).1]++p1.words.list)⟩,max p1.nest q1.nest,p1.tokens+(verbS x1.it).2+q1.tokens,false⟩:PieceV)) rfl rfl rfl rfl rfl fun b36=>?_;refine gS (.c1 (.c1 (.c1 (.c1 (.c1 (.c1 (.c2 (Sel.skip (Sel.skip Sel.self))))))))) (bA.drop 0) ?_;refine one ?_;refine gZ hT (k:=((st.length+2)-2)) kT7 rfl rfl rfl rfl rfl rfl rfl rfl rfl w6 ?_;rw [qN];refine gS (.c2 (.c2 (.c2 (.c2 (.c2 (.c2 (.c2 (Sel.skip (Sel.skip Sel.self))))))))) (bA.drop 0) ?_;refine one ?_;refine gO .head (cA kT1 rfl) rfl rfl rfl rfl rfl rfl rfl r9 fun A37 c38=>?_;rw [←List.reverse_cons];refine gS (.c2 (.c2 (.c2 (.c2 (.c2 (.c2 (.c2 (Sel.skip (Sel.skip Sel.self))))))))) (bA.drop 0) ?_;refine g6 ?_;refine inc (i+1) ?_;refine g3 ?_;exact mW (i+1,(⟨⟨A31,c32,q1.words.list++([(verbS x1.it).1]++p1.words.list)⟩,max p1.nest q1.nest,p1.tokens+(verbS x1.it).2+q1.tokens,false⟩:PieceV)::st,_,_) w9 ⟨rfl,rfl,rfl,rfl,rfl,rfl,j1⟩ (.c6 (.c0 (.c2 (Sel.skip (Sel.skip (Sel.skip (Sel.skip (Sel.skip (Sel.skip Sel.self))))))))) ⟨j2 (hinv5.two hx0 (kF ac1 ac2 (nN n0) ‹_› ‹_›) (twoT o5) ‹_› t6 t6 t6),d8,d9,e6,e7,e8,j1⟩
  refine g6 ?_;refine fG (fun hc54=>?_) fun hc54=>?_
  ·refine g11 ?_;refine lL (fun hg58=>?_) fun hg58=>?_
   ·refine g37 ?_;have hr:=hR.symm.trans (hinv5.fail hx0 n9);subst hr;exact rs2 () trivial
   refine g5 ?_;refine lL (fun hg63=>?_) fun hg63=>?_
   ·refine g32 ?_;have hr:=hR.symm.trans (hinv5.fail hx0 n9);subst hr;exact rs2 () trivial
   refine g6 ?_;refine lL (fun hg69=>?_) fun hg69=>?_
   ·refine g26 ?_;have hr:=hR.symm.trans (hinv5.fail hx0 n9);subst hr;exact rs2 () trivial
   refine g5 ?_;refine dM (fun hg74=>?_) (fun hg74=>?_)
   ·have hg74:x1.name≠([]:Bs):=fun h=>by rw [h] at hg74;first | (simp at hg74;done) | exact absurd hg74 o9
    refine g21 ?_;have hr:=hR.symm.trans (hinv5.fail hx0 n9);subst hr;exact rs2 () trivial
   have hg74:x1.name=([]:Bs):=eq_of_beq (bKh hg74);refine g2 ?_;refine cO (z':=((st.length:Nat):Int)) (congrArg Nat.cast List.length_reverse) ?_;refine g5 ?_;refine dO (fun hc79=>?_) fun hc79=>?_
   ·refine g13 ?_;have hr:=hR.symm.trans (hinv5.fail hx0 n9);subst hr;exact rs2 () trivial
   refine g6 ?_;refine bD func129 (bAo b r1 r2 p G m c x1) rfl rfl (.c1 .nil) ⟨d8,d9,j1⟩ fun _=>?_;refine g14 ?_;refine iW (fun hc87=>?_) fun hc87=>?_
   ·have hc87:(verbS x1.it).1=([]:Bs):=eq_of_beq hc87;refine g13 ?_;have hr:=hR.symm.trans (hinv5.fail hx0 (hZ q8 (.inr (.inr (.inr (.inr ‹_›))))));subst hr;exact rs2 () trivial
   have hc87:(verbS x1.it).1≠([]:Bs):=fun h=>absurd (beq_iff_eq.2 h) ad5;refine g3 ?_;obtain⟨p1,q1,st,rfl⟩:=cons2_of (l:=st) n0;have hk2:=hinv5.ok q1 o6;have hn2:=hinv5.nest q1 o6;have hk1:=hinv5.ok p1 o6;have hn1:=hinv5.nest p1 o6;simp only [List.map_cons,List.sum_cons] at hsum;simp only [List.length_cons] at hstl;have hw1:=rW p1.words.list;have hk1b:=hk1.2;have hw2:=rW q1.words.list;have hk2b:=hk2.2;rw [show bHc (p1::q1::st)=bMy p1::bMy q1::bHc st from rfl];refine g4 ?_;refine cO (z':=(((st.length+2):Nat):Int)) o6 ?_;refine one ?_;refine inc ((st.length+2)-1) ?_;refine ss (cJ hT (k:=((st.length+2)-1)) (cM kT2) rfl rfl rfl rfl rfl rfl rfl ac5) ?_;refine ss (dX hT (dP.knows (cM kT2) (k:=((st.length+2)-1)) (x:=p1) bId.1 0) rfl rfl rfl rfl rfl) ?_;refine j5 mF fun b39=>?_;refine g9 ?_;refine inc (p1.tokens+(verbS x1.it).2) ?_;refine g13 ?_;refine jL (m:=(verbS x1.it).1) rfl rfl rfl rfl rfl fun b40=>?_;refine bP (E:=mJ) (xs:=[(verbS x1.it).1]) .head p8 ?_;refine g2 ?_;refine lE .head (cM kT5) rfl rfl rfl rfl rfl rfl rfl q9 fun A41 c42=>?_;refine g9 ?_;refine bM (t':=true) o9 ?_;refine g8 ?_;refine cO (z':=(((st.length+2):Nat):Int)) o6 ?_;refine one ?_;refine inc ((st.length+2)-2) ?_;refine ss (cJ hT (k:=((st.length+2)-2)) (cM kT4) rfl rfl rfl rfl rfl rfl rfl ac5) ?_;refine ss (dX hT (dP.knows (cM kT4) (k:=((st.length+2)-2)) (x:=q1) bId.2 0) rfl rfl rfl rfl rfl) ?_;refine j5 mF fun b43=>?_;refine g11 ?_;refine jB (fun hc116=>?_) fun hc116=>?_
   ·refine cK ?_;have hq0:=List.length_pos_iff.2 hk2.1;refine nS 8 _ _ [(true,0),(true,1),(true,2),(true,3),(true,4),(true,5),(true,6),(true,7)] bZ o3 (.c0 (.c0 (.c0 (.c0 (.c0 (.c0 (.c0 (.cons .head Sel.self)))))))) bA.self ?_;refine g4 ?_;obtain⟨x44,hx45⟩:=gx q1.words.list 0;refine stL rfl (ixs 0) ?_;refine stL rfl (dW hx45 0) ?_;have hm0:=bIh hx45;refine stL rfl (iU rfl rfl rfl q7) ?_;refine stL rfl (ixs 0) ?_;refine one ?_;refine fX hT (k:=0) (fo:=0) (y':=(([40]:Bs)++x44)) kT7 rfl rfl rfl rfl rfl rfl rfl rfl rfl hx45 rfl ?_;refine g9 ?_;refine cO (z':=((q1.words.list.length:Nat):Int)) (rfl) ?_;refine one ?_;refine inc (q1.words.list.length-1) ?_;obtain⟨x46,hx47⟩:=gx (q1.words.list.set 0 (([40]:Bs)++x44)) (q1.words.list.length-1) q9;refine ss (cJ hT (k:=(q1.words.list.length-1)) (cM .head) rfl rfl rfl rfl rfl o6 rfl q9) ?_;refine ss (dW hx47 0) ?_;have hm1:=bIh hx47;have hm2:=wsz_set (v:=[40]++x44) hx45;simp only [List.length_append,List.length_cons,List.length_nil] at hm2;refine ss (iU rfl rfl rfl q7) ?_;refine ss (cJ hT (k:=(q1.words.list.length-1)) (cM .head) rfl rfl rfl rfl rfl o6 rfl q9) ?_;refine fX hT (k:=(q1.words.list.length-1)) (fo:=0) (y':=(x46++([41]:Bs))) .head rfl rfl rfl rfl rfl rfl rfl rfl rfl hx47 rfl ?_;refine g7 ?_;refine inc (q1.nest+1) ?_;refine g8 ?_;refine inc (q1.tokens+2) ?_;refine g5 ?_;have hbr:=brk_set hx45 hx47;refine g5 ?_;refine lE kT1 (cM kT3) rfl rfl rfl rfl rfl rfl rfl q9 fun A48 c49=>?_;refine g11 ?_;refine inc ((p1.tokens+(verbS x1.it).2)+(q1.tokens+2)) ?_;refine g10 ?_;refine cO (z':=(((max p1.nest (q1.nest+1)):Nat):Int)) (maxN _ _) ?_;refine g4 ?_;refine lJ _ _ (.fl 0 (.fl 1 (.fl 2 (.fl 3 (.fl 4 (.fl 6 (.two 5 7 (.op 7 (.op 8 (.fl 9 .nil))) (.op 5 (.op 8 (.fl 9 .nil)))))))))) bZ o3 (.c0 (.c0 (.c0 (.c0 (.c0 (.c0 (.c1 (Sel.skip Sel.self)))))))) bA.self ?_;refine g3 ?_;refine cO (z':=(((st.length+2):Nat):Int)) o6 ?_;refine g2 ?_;refine inc ((st.length+2)-2) ?_;refine one ?_;refine jE (o:=_) (o':=_) rfl rfl ?_ ?_
    ·refine gZ hT (k:=((st.length+2)-2)) kT6 rfl rfl rfl rfl rfl rfl rfl rfl rfl w6 ?_;rw [qN];refine gS (.c1 (.c1 (.c1 (.c1 (.c1 (.c1 (.c1 (Sel.skip Sel.self)))))))) (bA.drop 0) ?_;refine one ?_;refine gM (m:=(⟨⟨A48,c49,((q1.words.list.set 0 (([40]:Bs)++x44)).set (q1.words.list.length-1) (x46++([41]:Bs)))++([(verbS x1.it).1]++p1.words.list)⟩,max p1.nest (q1.nest+1),p1.tokens+(verbS x1.it).2+(q1.tokens+2),false⟩:PieceV)) rfl rfl rfl rfl rfl fun b50=>?_;refine gS (.c2 (.c2 (.c2 (.c2 (.c2 (.c2 (.c2 (Sel.skip (Sel.skip Sel.self))))))))) (bA.drop 0) ?_;refine one ?_;refine gO kT1 (cA .head rfl) rfl rfl rfl rfl rfl rfl rfl r9 fun A51 c52=>?_;rw [←List.reverse_cons];refine gS (.c2 (.c2 (.c2 (.c2 (.c2 (.c2 (.c2 (Sel.skip (Sel.skip Sel.self))))))))) (bA.drop 0) ?_;refine g6 ?_;refine inc (i+1) ?_;refine g3 ?_;exact mW (i+1,(⟨⟨A48,c49,((q1.words.list.set 0 (([40]:Bs)++x44)).set (q1.words.list.length-1) (x46++([41]:Bs)))++([(verbS x1.it).1]++p1.words.list)⟩,max p1.nest (q1.nest+1),p1.tokens+(verbS x1.it).2+(q1.tokens+2),false⟩:PieceV)::st,_,_) w9 ⟨rfl,rfl,rfl,rfl,rfl,rfl,j1⟩ (.c6 (.c0 (.c2 (Sel.skip (Sel.skip (Sel.skip (Sel.skip (Sel.skip (Sel.skip Sel.self))))))))) ⟨j2 (hinv5.two hx0 (kF ac1 ac2 (nN n0) ‹_› ‹_›) (twoT o5) ‹_› aa1 s8 s8),d8,d9,e6,e7,e8,j1⟩
    refine gM (m:=(⟨⟨A48,c49,((q1.words.list.set 0 (([40]:Bs)++x44)).set (q1.words.list.length-1) (x46++([41]:Bs)))++([(verbS x1.it).1]++p1.words.list)⟩,max p1.nest (q1.nest+1),p1.tokens+(verbS x1.it).2+(q1.tokens+2),false⟩:PieceV)) rfl rfl rfl rfl rfl fun b53=>?_;refine gS (.c1 (.c1 (.c1 (.c1 (.c1 (.c1 (.c2 (Sel.skip (Sel.skip Sel.self))))))))) (bA.drop 0) ?_;refine one ?_;refine gZ hT (k:=((st.length+2)-2)) kT7 rfl rfl rfl rfl rfl rfl rfl rfl rfl w6 ?_;rw [qN];refine gS (.c2 (.c2 (.c2 (.c2 (.c2 (.c2 (.c2 (Sel.skip (Sel.skip Sel.self))))))))) (bA.drop 0) ?_;refine one ?_;refine gO .head (cA kT1 rfl) rfl rfl rfl rfl rfl rfl rfl r9 fun A54 c55=>?_;rw [←List.reverse_cons];refine gS (.c2 (.c2 (.c2 (.c2 (.c2 (.c2 (.c2 (Sel.skip (Sel.skip Sel.self))))))))) (bA.drop 0) ?_;refine g6 ?_;refine inc (i+1) ?_;refine g3 ?_;exact mW (i+1,(⟨⟨A48,c49,((q1.words.list.set 0 (([40]:Bs)++x44)).set (q1.words.list.length-1) (x46++([41]:Bs)))++([(verbS x1.it).1]++p1.words.list)⟩,max p1.nest (q1.nest+1),p1.tokens+(verbS x1.it).2+(q1.tokens+2),false⟩:PieceV)::st,_,_) w9 ⟨rfl,rfl,rfl,rfl,rfl,rfl,j1⟩ (.c6 (.c0 (.c2 (Sel.skip (Sel.skip (Sel.skip (Sel.skip (Sel.skip (Sel.skip Sel.self))))))))) ⟨j2 (hinv5.two hx0 (kF ac1 ac2 (nN n0) ‹_› ‹_›) (twoT o5) ‹_› aa1 s8 s8),d8,d9,e6,e7,e8,j1⟩
   refine g8 ?_;refine lE kT7 (cM kT2) rfl rfl rfl rfl rfl rfl rfl q9 fun A56 c57=>?_;refine g11 ?_;refine inc ((p1.tokens+(verbS x1.it).2)+q1.tokens) ?_;refine g10 ?_;refine cO (z':=(((max p1.nest q1.nest):Nat):Int)) (maxN _ _) ?_;refine g4 ?_;refine lJ _ _ (.fl 0 (.fl 1 (.fl 2 (.fl 3 (.fl 4 (.fl 6 (.two 5 7 (.op 7 (.op 8 (.fl 9 .nil))) (.op 5 (.op 8 (.fl 9 .nil)))))))))) bZ o3 (.c0 (.c0 (.c0 (.c0 (.c0 (.c0 (.c1 (Sel.skip Sel.self)))))))) bA.self ?_;refine g3 ?_;refine cO (z':=(((st.length+2):Nat):Int)) o6 ?_;refine g2 ?_;refine inc ((st.length+2)-2) ?_;refine one ?_;refine jE (o:=_) (o':=_) rfl rfl ?_ ?_
   ·refine gZ hT (k:=((st.length+2)-2)) kT6 rfl rfl rfl rfl rfl rfl rfl rfl rfl w6 ?_;rw [qN];refine gS (.c1 (.c1 (.c1 (.c1 (.c1 (.c1 (.c1 (Sel.skip Sel.self)))))))) (bA.drop 0) ?_;refine one ?_;refine gM (m:=(⟨⟨A56,c57,q1.words.list++([(verbS x1.it).1]++p1.words.list)⟩,max p1.nest q1.nest,p1.tokens+(verbS x1.it).2+q1.tokens,false⟩:PieceV)) rfl rfl rfl rfl rfl fun b58=>?_;refine gS (.c2 (.c2 (.c2 (.c2 (.c2 (.c2 (.c2 (Sel.skip (Sel.skip Sel.self))))))))) (bA.drop 0) ?_;refine one ?_;refine gO kT1 (cA .head rfl) rfl rfl rfl rfl rfl rfl rfl r9 fun A59 c60=>?_;rw [←List.reverse_cons];refine gS (.c2 (.c2 (.c2 (.c2 (.c2 (.c2 (.c2 (Sel.skip (Sel.skip Sel.self))))))))) (bA.drop 0) ?_;refine g6 ?_;refine inc (i+1) ?_;refine g3 ?_;exact mW (i+1,(⟨⟨A56,c57,q1.words.list++([(verbS x1.it).1]++p1.words.list)⟩,max p1.nest q1.nest,p1.tokens+(verbS x1.it).2+q1.tokens,false⟩:PieceV)::st,_,_) w9 ⟨rfl,rfl,rfl,rfl,rfl,rfl,j1⟩ (.c6 (.c0 (.c2 (Sel.skip (Sel.skip (Sel.skip (Sel.skip (Sel.skip (Sel.skip Sel.self))))))))) ⟨j2 (hinv5.two hx0 (kF ac1 ac2 (nN n0) ‹_› ‹_›) (twoT o5) ‹_› t6 t6 t6),d8,d9,e6,e7,e8,j1⟩
   refine gM (m:=(⟨⟨A56,c57,q1.words.list++([(verbS x1.it).1]++p1.words.list)⟩,max p1.nest q1.nest,p1.tokens+(verbS x1.it).2+q1.tokens,false⟩:PieceV)) rfl rfl rfl rfl rfl fun b61=>?_;refine gS (.c1 (.c1 (.c1 (.c1 (.c1 (.c1 (.c2 (Sel.skip (Sel.skip Sel.self))))))))) (bA.drop 0) ?_;refine one ?_;refine gZ hT (k:=((st.length+2)-2)) kT7 rfl rfl rfl rfl rfl rfl rfl rfl rfl w6 ?_;rw [qN];refine gS (.c2 (.c2 (.c2 (.c2 (.c2 (.c2 (.c2 (Sel.skip (Sel.skip Sel.self))))))))) (bA.drop 0) ?_;refine one ?_;refine gO .head (cA kT1 rfl) rfl rfl rfl rfl rfl rfl rfl r9 fun A62 c63=>?_;rw [←List.reverse_cons];refine gS (.c2 (.c2 (.c2 (.c2 (.c2 (.c2 (.c2 (Sel.skip (Sel.skip Sel.self))))))))) (bA.drop 0) ?_;refine g6 ?_;refine inc (i+1) ?_;refine g3 ?_;exact mW (i+1,(⟨⟨A56,c57,q1.words.list++([(verbS x1.it).1]++p1.words.list)⟩,max p1.nest q1.nest,p1.tokens+(verbS x1.it).2+q1.tokens,false⟩:PieceV)::st,_,_) w9 ⟨rfl,rfl,rfl,rfl,rfl,rfl,j1⟩ (.c6 (.c0 (.c2 (Sel.skip (Sel.skip (Sel.skip (Sel.skip (Sel.skip (Sel.skip Sel.self))))))))) ⟨j2 (hinv5.two hx0 (kF ac1 ac2 (nN n0) ‹_› ‹_›) (twoT o5) ‹_› t6 t6 t6),d8,d9,e6,e7,e8,j1⟩
  refine g9 ?_;refine lL (fun hg58=>?_) fun hg58=>?_
  ·refine g37 ?_;have hr:=hR.symm.trans (hinv5.fail hx0 n9);subst hr;exact rs2 () trivial
  refine g5 ?_;refine lL (fun hg63=>?_) fun hg63=>?_
  ·refine g32 ?_;have hr:=hR.symm.trans (hinv5.fail hx0 n9);subst hr;exact rs2 () trivial
  refine g6 ?_;refine lL (fun hg69=>?_) fun hg69=>?_
  ·refine g26 ?_;have hr:=hR.symm.trans (hinv5.fail hx0 n9);subst hr;exact rs2 () trivial
  refine g5 ?_;refine dM (fun hg74=>?_) (fun hg74=>?_)
  ·have hg74:x1.name≠([]:Bs):=fun h=>by rw [h] at hg74;first | (simp at hg74;done) | exact absurd hg74 o9
   refine g21 ?_;have hr:=hR.symm.trans (hinv5.fail hx0 n9);subst hr;exact rs2 () trivial
  have hg74:x1.name=([]:Bs):=eq_of_beq (bKh hg74);refine g2 ?_;refine cO (z':=((st.length:Nat):Int)) (congrArg Nat.cast List.length_reverse) ?_;refine g5 ?_;refine dO (fun hc79=>?_) fun hc79=>?_
  ·refine g13 ?_;have hr:=hR.symm.trans (hinv5.fail hx0 n9);subst hr;exact rs2 () trivial
  refine g6 ?_;refine bD func129 (bAo b r1 r2 p G m c x1) rfl rfl (.c1 .nil) ⟨d8,d9,j1⟩ fun _=>?_;refine g14 ?_;refine iW (fun hc87=>?_) fun hc87=>?_
  ·have hc87:(verbS x1.it).1=([]:Bs):=eq_of_beq hc87;refine g13 ?_;have hr:=hR.symm.trans (hinv5.fail hx0 (hZ q8 (.inr (.inr (.inr (.inr ‹_›))))));subst hr;exact rs2 () trivial
  have hc87:(verbS x1.it).1≠([]:Bs):=fun h=>absurd (beq_iff_eq.2 h) ad5;refine g3 ?_;obtain⟨p1,st,rfl⟩:=cons_of (l:=st) n0;have hk1:=hinv5.ok p1 o6;have hn1:=hinv5.nest p1 o6;simp only [List.map_cons,List.sum_cons] at hsum;simp only [List.length_cons] at hstl;have hw1:=rW p1.words.list;have hk1b:=hk1.2;rw [show bHc (p1::st)=bMy p1::bHc st from rfl];refine g4 ?_;refine cO (z':=(((st.length+1):Nat):Int)) o6 ?_;refine one ?_;refine inc ((st.length+1)-1) ?_;refine ss (cJ hT (k:=((st.length+1)-1)) (cM kT2) rfl rfl rfl rfl rfl rfl rfl ac5) ?_;refine ss (lS rev_one 0) ?_;refine j5 mF fun b64=>?_;refine g9 ?_;refine inc (p1.tokens+(verbS x1.it).2) ?_;refine g13 ?_;refine jL (m:=(verbS x1.it).1) rfl rfl rfl rfl rfl fun b65=>?_;refine bP (E:=mJ) (xs:=[(verbS x1.it).1]) .head p8 ?_;refine g2 ?_;refine lE .head (cM kT5) rfl rfl rfl rfl rfl rfl rfl q9 fun A66 c67=>?_;refine g9 ?_;refine bM (t':=false) o9 ?_;refine g5 ?_;refine lJ _ _ (.fl 0 (.fl 1 (.fl 2 (.fl 3 (.fl 4 (.fl 6 (.two 5 7 (.op 7 (.op 8 (.fl 9 .nil))) (.op 5 (.op 8 (.fl 9 .nil)))))))))) bZ o3 (.c0 (.c0 (.c0 (.c0 (.c1 (Sel.skip Sel.self)))))) bA.self ?_;refine g3 ?_;refine cO (z':=(((st.length+1):Nat):Int)) o6 ?_;refine g2 ?_;refine inc ((st.length+1)-1) ?_;refine one ?_;refine jE (o:=_) (o':=_) rfl rfl ?_ ?_
  ·refine gZ hT (k:=((st.length+1)-1)) kT4 rfl rfl rfl rfl rfl rfl rfl rfl rfl w6 ?_;rw [rev_cut1];refine gS (.c1 (.c1 (.c1 (.c1 (.c1 (Sel.skip Sel.self)))))) (bA.drop 0) ?_;refine one ?_;refine gM (m:=(⟨⟨A66,c67,[(verbS x1.it).1]++p1.words.list⟩,p1.nest,p1.tokens+(verbS x1.it).2,false⟩:PieceV)) rfl rfl rfl rfl rfl fun b68=>?_;refine gS (.c2 (.c2 (.c2 (.c2 (.c2 (Sel.skip (Sel.skip Sel.self))))))) (bA.drop 0) ?_;refine one ?_;refine gO kT1 (cA .head rfl) rfl rfl rfl rfl rfl rfl rfl r9 fun A69 c70=>?_;rw [←List.reverse_cons];refine gS (.c2 (.c2 (.c2 (.c2 (.c2 (Sel.skip (Sel.skip Sel.self))))))) (bA.drop 0) ?_;refine g6 ?_;refine inc (i+1) ?_;refine g3 ?_;exact mW (i+1,(⟨⟨A66,c67,[(verbS x1.it).1]++p1.words.list⟩,p1.nest,p1.tokens+(verbS x1.it).2,false⟩:PieceV)::st,_,_) w9 ⟨rfl,rfl,rfl,rfl,rfl,rfl,j1⟩ (.c4 (.c0 (.c2 (Sel.skip (Sel.skip (Sel.skip (Sel.skip Sel.self))))))) ⟨j2 (hinv5.one hx0 (kF ac1 ac2 (nN n0) ‹_› ‹_›) (twoN ‹_› ‹_›) ‹_›),d8,d9,e6,e7,e8,j1⟩
  refine gM (m:=(⟨⟨A66,c67,[(verbS x1.it).1]++p1.words.list⟩,p1.nest,p1.tokens+(verbS x1.it).2,false⟩:PieceV)) rfl rfl rfl rfl rfl fun b71=>?_;refine gS (.c1 (.c1 (.c1 (.c1 (.c2 (Sel.skip (Sel.skip Sel.self))))))) (bA.drop 0) ?_;refine one ?_;refine gZ hT (k:=((st.length+1)-1)) kT5 rfl rfl rfl rfl rfl rfl rfl rfl rfl w6 ?_;rw [rev_cut1];refine gS (.c2 (.c2 (.c2 (.c2 (.c2 (Sel.skip (Sel.skip Sel.self))))))) (bA.drop 0) ?_;refine one ?_;refine gO .head (cA kT1 rfl) rfl rfl rfl rfl rfl rfl rfl r9 fun A72 c73=>?_;rw [←List.reverse_cons];refine gS (.c2 (.c2 (.c2 (.c2 (.c2 (Sel.skip (Sel.skip Sel.self))))))) (bA.drop 0) ?_;refine g6 ?_;refine inc (i+1) ?_;refine g3 ?_;exact mW (i+1,(⟨⟨A66,c67,[(verbS x1.it).1]++p1.words.list⟩,p1.nest,p1.tokens+(verbS x1.it).2,false⟩:PieceV)::st,_,_) w9 ⟨rfl,rfl,rfl,rfl,rfl,rfl,j1⟩ (.c4 (.c0 (.c2 (Sel.skip (Sel.skip (Sel.skip (Sel.skip Sel.self))))))) ⟨j2 (hinv5.one hx0 (kF ac1 ac2 (nN n0) ‹_› ‹_›) (twoN ‹_› ‹_›) ‹_›),d8,d9,e6,e7,e8,j1⟩
 refine g10 ?_;refine cO (z':=((st.length:Nat):Int)) (congrArg Nat.cast List.length_reverse) ?_;refine g2 ?_;refine bCk (fun hg174=>?_) fun hg174=>?_
 ·refine g25 ?_;have hr:=hR.symm.trans ((hinv5.done aa4 aa4).trans (not_one q9));subst hr;exact rs2 () trivial
 obtain⟨p,rfl⟩:=one_of (l:=st) n0;simp only [List.map_cons,List.map_nil,List.sum_cons,List.sum_nil] at hsum;rw [show bHc [p]=[bMy p] from rfl];refine one ?_;refine ss (cJ hT (k:=0) (cM kT1) rfl rfl rfl rfl rfl rfl rfl o6) ?_;refine one ?_;refine ss (j6 hT (dP.knows (cM kT1) (k:=0) (x:=p) rfl 2)) ?_;refine g4 ?_;refine lL (fun hg182=>?_) fun hg182=>?_
 ·refine g17 ?_;have hr:=hR.symm.trans ((hinv5.done aa4 aa4).trans (if_pos (show most<p.tokens∨32<p.nest by omega)));subst hr;exact rs2 () trivial
 refine one ?_;refine ss (cJ hT (k:=0) (cM kT1) rfl rfl rfl rfl rfl rfl rfl o6) ?_;refine one ?_;refine ss (j6 hT (dP.knows (cM kT1) (k:=0) (x:=p) rfl 1)) ?_;refine g4 ?_;refine dO (fun hc188=>?_) fun hc188=>?_
 ·refine g8 ?_;have hr:=hR.symm.trans ((hinv5.done aa4 aa4).trans (if_pos (show most<p.tokens∨32<p.nest by omega)));subst hr;exact rs2 () trivial
 refine g5 ?_;refine ss (cJ hT (k:=0) (cM kT1) rfl rfl rfl rfl rfl rfl rfl o6) ?_;refine one ?_;refine ss (j6 hT (dP.knows (cM kT1) (k:=0) (x:=p) rfl 0)) ?_;refine bV kT2 fun hcap=>bE kT2 ?_;have hjl:=bLn p.words.list;have hok:=hinv5.ok p o6;have hws:=rW p.words.list;have hok2:=hok.2;refine bD func130 (join_spec _ _ _ hcap n0 n0) rfl rfl .nil ⟨d7,j1⟩ fun _=>?_;refine g5 ?_;have hr:=hR.symm.trans ((hinv5.done aa4 aa4).trans (if_neg (show ¬(most<p.tokens∨32<p.nest) by omega)));subst hr;exact rs2 () trivial
theorem uU:dA []=false:=by decide+kernel
structure sZ (p:ProgV):Prop where
 input: ∀x∈p.inputs.list,x.name.length≤140737488355328∧ ∀d∈x.sides.list,d.name.length≤140737488355328∧ -9223372036854775808≤d.n∧d.n≤9223372036854775807
 line: ∀x∈p.lines.list,x.name.length≤140737488355328∧ ∀it∈x.items.list,it.name.length≤140737488355328∧ ∀z∈it.nums.list,-9223372036854775808≤z∧z≤9223372036854775807
def pA (p:gP)(i:Nat)(out:Bs):Bs×Bool:=match lZ (p.inputs.drop i) out with
 | (o,false)=>(o,false)
 | (o,true)=>fE p.lines o
section
variable {p : gP} {i : Nat} {out : Bs} {x : gE} {t : Bs}
theorem bAz(h:p.lines=[]∨64<p.inputs.length+p.lines.length):cU p=([],false):=by rw [cU,if_pos h]
theorem prog_start(h: ¬(p.lines=[]∨64<p.inputs.length+p.lines.length)):cU p=pA p 0 []:=by rw [cU,if_neg h];rfl
theorem zN(hx:p.inputs[i]?=some x)(hn:oS x=none):pA p i out=(out,false):=by rw [pA,iQ hx,lZ,hn]
theorem prog_step(hx:p.inputs[i]?=some x)(hn:oS x=some t):pA p i out=pA p (i+1) (out++(([105,110,32]++t)++[10])):=by rw [pA,iQ hx,lZ,hn];rfl
theorem prog_lines(hi:p.inputs.length≤i):pA p i out=fE (p.lines.drop 0) out:=by rw [pA,List.drop_of_length_le hi];rfl
end
section
variable {l : List lF} {i : Nat} {out : Bs} {x : lF} {t : Bs}
theorem bQh(hi:l.length≤i):fE (l.drop i) out=(out,true):=by rw [List.drop_of_length_le hi];rfl
theorem bBw(hx:l[i]?=some x)(hi:i+1=l.length):l.drop i=[x]:=by rw [iQ hx,List.drop_of_length_le n0]
theorem bAw(hx:l[i]?=some x)(hi:i+1<l.length): ∃y r,l.drop (i+1)=y::r∧l.drop i=x::y::r:=by
 have:l[i+1]?=some l[i+1]:=List.getElem?_eq_getElem hi;exact⟨_,_,iQ this,by rw [iQ hx,iQ this]⟩
theorem sL(hx:l[i]?=some x)(he:gQ x.items (if i+1=l.length then 255 else 254)=none):fE (l.drop i) out=(out,false):=by
 have hl:=(List.getElem?_eq_some_iff.1 hx).1
 by_cases hi:i+1=l.length
 ·rw [if_pos hi] at he;rw [bBw hx hi,fE,he]
 ·rw [if_neg hi] at he;obtain⟨y,r,_,h2⟩:=bAw hx n0;rw [h2,fE,he];exact fun h=>by cases h
theorem qZ(hx:l[i]?=some x)(hi:i+1=l.length)(hn:x.name≠[]){t:Bs}(he:gQ x.items 255=some t):fE (l.drop i) out=(out,false):=by
 rw [bBw hx hi,fE,he];simp [hn]
theorem mB(hx:l[i]?=some x)(hi:i+1<l.length)(hn:dA x.name=false){t:Bs}(he:gQ x.items 254=some t):fE (l.drop i) out=(out,false):=by
 obtain⟨y,r,_,h2⟩:=bAw hx hi;rw [h2,fE,he]
 ·simp [hn]
 ·exact fun h=>by cases h
theorem lines_out(hx:l[i]?=some x)(hi:i+1=l.length)(hn:x.name=[]){t:Bs}(he:gQ x.items 255=some t):fE (l.drop i) out=fE (l.drop (i+1)) (out++(([111,117,116,32]++t)++[10])):=by
 rw [bBw hx hi,fE,he,bQh n0];simp [hn]
theorem lines_step(hx:l[i]?=some x)(hi:i+1<l.length)(hn:dA x.name=true){t:Bs}(he:gQ x.items 254=some t):fE (l.drop i) out=fE (l.drop (i+1)) (out++(((x.name++[58,32])++t)++[10])):=by
 obtain⟨y,r,h1,h2⟩:=bAw hx hi;rw [h2,h1,fE,he]
 ·simp [hn]
 ·exact fun h=>by cases h
end
theorem step_okp{st st':List dV}{x:cR}(hz: ∀z∈x.nums,-9223372036854775808≤z∧z≤9223372036854775807)(ho: ∀p∈st,p.words≠[]∧wsz p.words≤40*p.tokens)(h:hU st x=some st'): ∀p∈st',p.words≠[]∧wsz p.words≤40*p.tokens:=by
 unfold hU at h;split at h
 ·cases hq:operandS x with
  | none=>rw [hq] at h;cases h
  | some q=>
   rw [hq] at h;injection h with h
   subst h;intro p hp
   rcases List.mem_cons.1 hp with rfl | hp
   ·exact⟨(bAy hz hq).1,(bAy hz hq).2.1⟩
   ·exact ho p hp
 ·split at h
  ·cases h
  ·rename_i hn;have hv:(verbS x).1≠[]:=fun e=>hn (.inr (.inr (.inr (.inr e))));obtain⟨v1,_,v3⟩:=bCh x;have v3:=v3 hv;unfold pP at h;split at h
   ·split at h
    ·rename_i p q r;injection h with h
     subst h;have hq:=ho q o6;obtain⟨k1,k2,_,_⟩:=left_ok (q:=⟨⟨none,0,q.words⟩,q.nest,q.tokens,q.plain⟩) hq;have k1:(leftS q).words≠[]:=k1;have k2:wsz (leftS q).words≤40*(leftS q).tokens:=k2;have hp:=ho p o6;intro y hy
     rcases List.mem_cons.1 hy with rfl | hy
     ·refine⟨o6,?_⟩;simp only [bJz,jN];omega
     ·exact ho y ae3
    ·cases h
   ·split at h
    ·rename_i p r;injection h with h
     subst h;have hp:=ho p o6;intro y hy
     rcases List.mem_cons.1 hy with rfl | hy
     ·refine⟨o6,?_⟩;simp only [jN];omega
     ·exact ho y ae3
    ·cases h
theorem bPq: ∀{l:List cR} {st st':List dV},(∀x∈l,∀z∈x.nums,-9223372036854775808≤z∧z≤9223372036854775807)→(∀p∈st,p.words≠[]∧wsz p.words≤40*p.tokens)→fO l st=some st'→ ∀p∈st',p.words≠[]∧wsz p.words≤40*p.tokens
 | [],st,st',_,ho,h=>by
  simp [fO] at h;subst h;exact ho
 | x::r,st,st',hz,ho,h=>by
  rw [fO] at h
  cases h1:hU st x with
  | none=>rw [h1] at h;cases h
  | some s1=>
   rw [h1] at h;exact bPq (fun y hy=>hz y ae3) (step_okp (hz x o6) ho h1) h
theorem bPz{l:List cR}{most:Nat}{t:Bs}(hz: ∀x∈l,∀z∈x.nums,-9223372036854775808≤z∧z≤9223372036854775807)(h:gQ l most=some t):t.length≤40*most:=by
 unfold gQ at h;split at h
 ·cases h
 ·split at h
  ·rename_i p hp;split at h
   ·cases h
   ·injection h with h
    subst h;have h1:=(bPq hz (fun p hp=>by simp at hp) hp p o6).2;have:=bLn p.words;omega
  ·cases h
section
variable {x : InputV} {j : Nat} {d : jG} {t : Bs}
theorem bOo(h:dA x.name=false∨4<x.sides.list.length):oS x.inp=none:=by
 rw [oS,if_pos (show dA x.inp.name=false∨4<x.inp.sides.length from h.imp id fun h=>by show 4<(x.sides.list.map jG.sd).length;rw [List.length_map];exact h)]
theorem input_start(h:dA x.name=true)(h4: ¬4<x.sides.list.length):oS x.inp=kV ((x.sides.list.map jG.sd).drop 0) x.name:=by
 rw [oS,if_neg]
 ·rfl
 ·rintro(h' | h')
  ·rw [show x.inp.name=x.name from rfl,h] at h';cases h'
  ·rw [show x.inp.sides=x.sides.list.map jG.sd from rfl,List.length_map] at h';exact h4 h'
theorem sd_at(hd:x.sides.list[j]?=some d):(x.sides.list.map jG.sd)[j]?=some d.sd:=by rw [List.getElem?_map,hd];rfl
theorem side_num(hd:x.sides.list[j]?=some d)(hn:d.name=[]):kV ((x.sides.list.map jG.sd).drop j) t=kV ((x.sides.list.map jG.sd).drop (j+1)) (t++([32]++fN d.n)):=by
 rw [iQ (sd_at hd),kV,if_pos (show d.sd.name=[] from hn)];rfl
theorem side_name(hd:x.sides.list[j]?=some d)(hn:d.name≠[])(h0:d.n=0)(hb:dA d.name=true):kV ((x.sides.list.map jG.sd).drop j) t=kV ((x.sides.list.map jG.sd).drop (j+1)) (t++([32]++d.name)):=by
 rw [iQ (sd_at hd),kV,if_neg (show ¬d.sd.name=[] from hn),if_pos (show d.sd.n=0∧dA d.sd.name=true from ⟨h0,hb⟩)];rfl
theorem side_bad(hd:x.sides.list[j]?=some d)(hn:d.name≠[])(h:d.n≠0∨dA d.name=false):kV ((x.sides.list.map jG.sd).drop j) t=none:=by
 rw [iQ (sd_at hd),kV,if_neg (show ¬d.sd.name=[] from hn),if_neg];rintro⟨h1,h2⟩
 rcases h with h | h
 ·exact h h1
 ·rw [show d.sd.name=d.name from rfl,h] at h2;cases h2
theorem sides_done(hj:x.sides.list.length≤j):kV ((x.sides.list.map jG.sd).drop j) t=some t:=by
 rw [List.drop_of_length_le (by rw [List.length_map];exact hj)];rfl
end
theorem qF{α β:Type}{f:α→β}{l:List α}{i:Nat}{x:α}(h:l[i]?=some x):(l.map f)[i]?=some (f x):=by rw [List.getElem?_map,h];rfl
theorem bQn{o:Option Bs}(h:o.isSome=true):o=some (o.getD []):=by
 cases o with
 | none=>cases h
 | some x=>rfl
theorem shower_built(r1 r2:Nat):prog.built 154 [(0,.map (some r1)),(1,.map (some r2))]=some #[.map (some r1),.map (some r2),.pointer none,.slice none 0 0]:=n7
theorem vP:(prog.info? 76).bind (·.zero)=some (.agg #[.string (bs []),.int .i64 0]):=n7
theorem bNu(b r1 r2:Nat)(P:ProgV)(hP:sZ P)(hl1:P.inputs.list.length≤140737488355328)(hl2:P.lines.list.length≤140737488355328):cP prog 55 [.pointer (some ⟨b,0,none⟩),.agg #[.slice P.inputs.addr P.inputs.list.length P.inputs.cap,.slice P.lines.addr P.lines.list.length P.lines.cap]] [.obj b (.cells [.map (some r1),.map (some r2),.pointer none,.slice none 0 0].toArray 154),oH.row (.slice none 0 0) 5 []] [mapF r1 .u8 (rG false),mapF r2 .u8 (rG true),iF,jR.sl (.slice P.inputs.addr P.inputs.list.length P.inputs.cap) P.inputs.list,iS P.inputs.list,oP.sl (.slice P.lines.addr P.lines.list.length P.lines.cap) P.lines.list,lU P.lines.list] (fun(_:(Option Addr×Nat)×Bool)=> .bool (cU P.pr).2) (fun(x:(Option Addr×Nat)×Bool)=>[.obj b (.cells [.map (some r1),.map (some r2),bOh x.2 b,.slice x.1.1 (cU P.pr).1.length x.1.2].toArray 154),oH.row (.slice x.1.1 (cU P.pr).1.length x.1.2) 5 (cU P.pr).1]) (fun(x:(Option Addr×Nat)×Bool)=>[Fact.pure ((cU P.pr).1=[]→x.1.1=none)]):=by
 have hT:=jH;have hpl:P.pr.lines.length=P.lines.list.length:=List.length_map _;have hpi:P.pr.inputs.length=P.inputs.list.length:=List.length_map _;generalize hR:cU P.pr=r;refine k6 func55 ntmps55 ?_;intro β hM;refine g2 ?_;refine j8 fun b1=>?_;refine g9 ?_;refine cO (z':=(((P.lines.list.length:Nat):Int)-1)) (bGw n0 n0) ?_;refine g9 ?_;refine lL (fun hg23=>?_) fun hg23=>?_
 ·refine g25 ?_;have hr:=hR.symm.trans (bAz ab0);subst hr;exact rs1 ((_,_),false) ⟨j2 (fun _=>rfl),j1⟩
 refine g6 ?_;refine lL (fun hg29=>?_) fun hg29=>?_
 ·refine g19 ?_;have hr:=hR.symm.trans (bAz ab0);subst hr;exact rs1 ((_,_),false) ⟨j2 (fun _=>rfl),j1⟩
 refine g7 ?_;refine inc (64-P.inputs.list.length) ?_;refine g4 ?_;refine dO (fun hc38=>?_) fun hc38=>?_
 ·refine g7 ?_;have hr:=hR.symm.trans (bAz ab0);subst hr;exact rs1 ((_,_),false) ⟨j2 (fun _=>rfl),j1⟩
 refine g12 ?_;refine cG (ι:=Nat×Bs×Bool×Option Addr×Nat) [(0,_),(3,_),(5,_),(40,_),(41,_)] ⟨rfl,rfl,rfl,rfl,rfl,j1⟩ (fun⟨i,out,u,G,c⟩=>[(42,.int .i64 (i:Nat))]) (fun⟨i,out,u,G,c⟩=>[.obj b (.cells [.map (some r1),.map (some r2),bOh u b,.slice G out.length c].toArray 154),oH.row (.slice G out.length c) 5 out]) (fun⟨i,out,u,G,c⟩=>[Fact.pure (i≤P.inputs.list.length∧cU P.pr=pA P.pr i out∧(out=[]→G=none)∧out.length≤1000*i)]) (fun⟨i,out,u,G,c⟩=>P.inputs.list.length-i) (0,[],false,none,0) ⟨rfl,j1⟩ (.c1 (.c1 .nil)) ⟨j2 (⟨n0,prog_start (by rintro(h | h);(have h:=congrArg List.length h;rw [hpl,List.length_nil] at h;omega);omega),fun _=>rfl,o6⟩),j1⟩ ?_;rintro⟨i,out,u,G,c⟩;dsimp only;refine bC d7 fun hinv5=>?_;refine g6 ?_;refine dO (fun hc43=>?_) fun hc43=>?_
 ·refine g6 ?_;obtain⟨x2,hx3⟩:=gx P.inputs.list i;refine ss (ixs i) ?_;refine ss (lS hx3 0) ?_;refine j5 jW fun b4=>?_;refine g5 ?_;have hxi:=hP.input x2 (j3 hx3);have hx0:P.pr.inputs[i]?=some x2.inp:=qF hx3;refine bB (pD x2) (Has.each e8 (j3 hx3)) ?_;refine g3 ?_;refine bD func63 (mY _ hxi.1) rfl rfl .nil ⟨e7,j1⟩ fun _=>?_;refine g2 ?_;refine k_nt (fun hg50=>?_) fun hg50=>?_
  ·refine g20 ?_;have hr:=hR.symm.trans (hinv5.2.1.trans (zN hx0 (bOo ab3)));subst hr;exact rs1 ((_,_),u) ⟨j2 (hinv5.2.2.1),j1⟩
  refine g7 ?_;refine dO (fun hc55=>?_) fun hc55=>?_
  ·refine g12 ?_;have hr:=hR.symm.trans (hinv5.2.1.trans (zN hx0 (bOo ab3)));subst hr;exact rs1 ((_,_),u) ⟨j2 (hinv5.2.2.1),j1⟩
  refine g19 ?_;refine cG (ι:=Nat×Bs) [(0,_),(3,_),(5,_),(40,_),(41,_),(42,_),(51,_),(52,_),(53,_),(54,_),(59,_),(60,_)] ⟨rfl,rfl,rfl,rfl,rfl,rfl,rfl,rfl,rfl,rfl,rfl,rfl,j1⟩ (fun⟨j,text⟩=>[(8,.string (bs text)),(61,.int .i64 (j:Nat))]) (fun _=>[]) (fun⟨j,text⟩=>[Fact.pure (j≤x2.sides.list.length∧kV ((x2.sides.list.map jG.sd).drop j) text=oS x2.inp∧text.length≤16+30*j)]) (fun⟨j,text⟩=>x2.sides.list.length-j) (0,x2.name) ⟨rfl,rfl,j1⟩ .nil ⟨j2 (⟨n0,(input_start ‹_› n0).symm,by have:=uS ‹dA x2.name=true›;omega⟩),j1⟩ ?_;rintro⟨j,text⟩;dsimp only;refine bC d7 fun hinv11=>?_;refine g6 ?_;refine dO (fun hc62=>?_) fun hc62=>?_
  ·refine g6 ?_;obtain⟨x5,hx6⟩:=gx x2.sides.list j;refine ss (ixs j) ?_;refine ss (lS hx6 0) ?_;refine j5 vP fun b7=>?_;refine g5 ?_;have hdn:=hxi.2 x5 (j3 hx6);refine g7 ?_;refine iW (fun hc65=>?_) fun hc65=>?_
   ·have hc65:x5.name=([]:Bs):=eq_of_beq hc65;refine g4 ?_;have hsp:=qG hdn.2.1 hdn.2.2;refine bD func93 (bCu _ hdn.2.1 hdn.2.2) rfl rfl .nil ⟨e8,j1⟩ fun _=>?_;refine ss (iU rfl rfl rfl q7) ?_;refine ss (iU rfl rfl rfl q7) ?_;refine g7 ?_;refine inc (j+1) ?_;refine g3 ?_;exact bk2 (j+1,_) ⟨j2 (⟨by dsimp only;omega,hinv11.2.1▸(side_num hx6 ‹_›).symm,by have:=qG hdn.2.1 hdn.2.2;simp;omega⟩),j1⟩
   have hc65:x5.name≠([]:Bs):=fun h=>absurd (beq_iff_eq.2 h) (by rw [show(x5.name==([]:Bs))=false from hc65];simp);refine g6 ?_;refine mV (fun hg79=>?_) fun hg79=>?_
   ·refine g2 ?_;refine bD func63 (mY _ hdn.1) rfl rfl .nil ⟨e8,j1⟩ fun _=>?_;refine g4 ?_;refine iW (fun hc75=>?_) fun hc75=>?_
    ·refine g4 ?_;refine ss (iU rfl rfl rfl q7) ?_;refine ss (iU rfl rfl rfl q7) ?_;refine g7 ?_;refine inc (j+1) ?_;refine g3 ?_;exact bk2 (j+1,_) ⟨j2 (⟨by dsimp only;omega,hinv11.2.1▸(side_name hx6 ‹_› ‹_› ‹_›).symm,by have:=uS ‹dA x5.name=true›;simp;omega⟩),j1⟩
    refine g17 ?_;have hr:=hR.symm.trans (hinv5.2.1.trans (zN hx0 (hinv11.2.1.symm.trans (side_bad hx6 ‹_› o5))));subst hr;exact rs1 ((_,_),u) ⟨j2 (hinv5.2.2.1),j1⟩
   refine g25 ?_;have hr:=hR.symm.trans (hinv5.2.1.trans (zN hx0 (hinv11.2.1.symm.trans (side_bad hx6 ‹_› o5))));subst hr;exact rs1 ((_,_),u) ⟨j2 (hinv5.2.2.1),j1⟩
  refine g5 ?_;have hin:=hinv11.2.1.symm.trans (sides_done n0);refine g3 ?_;refine bD func94 (bBs b r1 r2 u G c out ([105,110,32]:Bs) text q9) rfl rfl (.c1 (.c1 .nil)) j1 fun⟨G8,c9⟩=>?_;refine g5 ?_;refine inc (i+1) ?_;refine g3 ?_;exact dK (i+1,(out++((([105,110,32]:Bs)++text)++[10])),true,_,_) w9 ⟨rfl,j1⟩ ⟨rfl,rfl,rfl,rfl,rfl,j1⟩ (.c0 (.c0 (.c1 .nil))) ⟨j2 (⟨by dsimp only;omega,hinv5.2.1.trans (prog_step hx0 hin),fun h=>by simp at h,by simp;omega⟩),j1⟩ (bA.drop 3)
 refine g15 ?_;have hlin:=hinv5.2.1.trans (prog_lines n0);refine cG (ι:=Nat×Bs×Bool×Option Addr×Nat) [(0,_),(5,_),(95,_),(96,_)] ⟨rfl,rfl,rfl,rfl,j1⟩ (fun⟨i,out,u,G,c⟩=>[(97,.int .i64 (i:Nat))]) (fun⟨i,out,u,G,c⟩=>[.obj b (.cells [.map (some r1),.map (some r2),bOh u b,.slice G out.length c].toArray 154),oH.row (.slice G out.length c) 5 out]) (fun⟨i,out,u,G,c⟩=>[Fact.pure (i≤P.lines.list.length∧cU P.pr=fE (P.pr.lines.drop i) out∧(out=[]→G=none)∧out.length≤1000*64+20000*i)]) (fun⟨i,out,u,G,c⟩=>P.lines.list.length-i) (0,out,u,G,c) ⟨rfl,j1⟩ (.c0 (.c0 .nil)) ⟨j2 (⟨n0,hlin,hinv5.2.2.1,n0⟩),j1⟩ ?_;rintro⟨i,out,u,G,c⟩;dsimp only;refine bC d7 fun hinv22=>?_;refine g6 ?_;refine dO (fun hc98=>?_) fun hc98=>?_
 ·refine g7 ?_;obtain⟨x10,hx11⟩:=gx P.lines.list i;refine ss (ixs i) ?_;refine ss (lS hx11 0) ?_;refine j5 rJ fun b12=>?_;refine g5 ?_;have hli:=hP.line x10 (j3 hx11);have hx0:P.pr.lines[i]?=some x10.ln:=qF hx11;refine bB (bLq x10) (Has.each f5 (j3 hx11))<|bB (lC.sl (.slice x10.items.addr x10.items.list.length x10.items.cap) x10.items.list) (Has.left d7)<|bB (mK x10.items.list) (Has.right d8) ?_;have hz: ∀y∈(x10.items.list.map ItemV.it),∀z∈y.nums,-9223372036854775808≤z∧z≤9223372036854775807:=fun y hy z hzz=>by obtain⟨it,h1,rfl⟩:=List.mem_map.1 hy;exact(hli.2 it h1).2 z hzz
  refine g3 ?_;refine ss (iU rfl rfl rfl q7) ?_;refine g12 ?_;refine fG (fun hc107=>?_) fun hc107=>?_
  ·refine g11 ?_;refine bD func95 (bLo b r1 r2 (bOh u b) G out.length c _ _ x10.items.list 255 n0 hli.2) rfl rfl (.c1 .nil) ⟨e8,e9,f4,d8,d7,j1⟩ fun _=>?_;refine g13 ?_;refine k_nt (fun hg118=>?_) fun hg118=>?_
   ·refine g34 ?_;have hr:=hR.symm.trans (hinv22.2.1.trans (show fE (P.pr.lines.drop i) out=(out,false) from w8));subst hr;exact rs1 ((_,_),u) ⟨j2 (hinv22.2.2.1),j1⟩
   have hex:=bQn (by assumption:(gQ (x10.items.list.map ItemV.it) 255).isSome=true);have hexl:=bPz hz hex;refine g3 ?_;refine mV (fun hg121=>?_) fun hg121=>?_
   ·refine g3 ?_;refine dM (fun hg124=>?_) (fun hg124=>?_)
    ·have hg124:x10.name=([]:Bs):=eq_of_beq hg124;refine one ?_;refine bM (t':=false) o9 ?_;refine g6 ?_;refine lL (fun hg131=>?_) fun hg131=>?_
     ·omega
     refine g15 ?_;refine bD func94 (bBs b r1 r2 u G c out ([111,117,116,32]:Bs) ((gQ (x10.items.list.map ItemV.it) 255).getD []) q9) rfl rfl (.c0 (.c1 .nil)) j1 fun⟨G13,c14⟩=>?_;refine g5 ?_;refine inc (i+1) ?_;refine g3 ?_;exact dK (i+1,(out++((([111,117,116,32]:Bs)++((gQ (x10.items.list.map ItemV.it) 255).getD []))++[10])),true,_,_) w9 ⟨rfl,j1⟩ ⟨rfl,rfl,rfl,rfl,j1⟩ (.c0 (.c0 (.c1 .nil))) ⟨j2 (⟨by dsimp only;omega,hinv22.2.1.trans (lines_out hx0 n0 ‹_› hex),fun h=>by simp at h,by simp;omega⟩),j1⟩ (bA.drop 4)
    have hg124:x10.name≠([]:Bs):=fun h=>absurd (beq_iff_eq.2 h) ag7;refine one ?_;refine bM (t':=true) o9 ?_;refine g27 ?_;have hr:=hR.symm.trans (hinv22.2.1.trans (show fE (P.pr.lines.drop i) out=(out,false) from w8));subst hr;exact rs1 ((_,_),u) ⟨j2 (hinv22.2.2.1),j1⟩
   omega
  refine g8 ?_;refine bD func95 (bLo b r1 r2 (bOh u b) G out.length c _ _ x10.items.list 254 n0 hli.2) rfl rfl (.c1 .nil) ⟨e8,e9,f4,d8,d7,j1⟩ fun _=>?_;refine g13 ?_;refine k_nt (fun hg118=>?_) fun hg118=>?_
  ·refine g34 ?_;have hr:=hR.symm.trans (hinv22.2.1.trans (show fE (P.pr.lines.drop i) out=(out,false) from t8));subst hr;exact rs1 ((_,_),u) ⟨j2 (hinv22.2.2.1),j1⟩
  have hex:=bQn (by assumption:(gQ (x10.items.list.map ItemV.it) 254).isSome=true);have hexl:=bPz hz hex;refine g3 ?_;refine mV (fun hg121=>?_) fun hg121=>?_
  ·omega
  refine g3 ?_;refine dM (fun hg124=>?_) (fun hg124=>?_)
  ·have hg124:x10.name=([]:Bs):=eq_of_beq hg124;refine one ?_;refine bM (t':=true) o9 ?_;refine g27 ?_;have hr:=hR.symm.trans (hinv22.2.1.trans (show fE (P.pr.lines.drop i) out=(out,false) from t8));subst hr;exact rs1 ((_,_),u) ⟨j2 (hinv22.2.2.1),j1⟩
  have hg124:x10.name≠([]:Bs):=fun h=>absurd (beq_iff_eq.2 h) ag7;refine one ?_;refine bM (t':=false) o9 ?_;refine g6 ?_;refine lL (fun hg131=>?_) fun hg131=>?_
  ·refine g2 ?_;refine bD func63 (mY _ hli.1) rfl rfl .nil ⟨f4,j1⟩ fun _=>?_;refine g5 ?_;refine jB (fun hc137=>?_) fun hc137=>?_
   ·refine g12 ?_;have hr:=hR.symm.trans (hinv22.2.1.trans (show fE (P.pr.lines.drop i) out=(out,false) from t8));subst hr;exact rs1 ((_,_),u) ⟨j2 (hinv22.2.2.1),j1⟩
   refine g2 ?_;have hnl:=uS (by assumption:dA x10.name=true);refine g4 ?_;refine bD func94 (bBs b r1 r2 u G c out (x10.name++([58,32]:Bs)) ((gQ (x10.items.list.map ItemV.it) 254).getD []) q9) rfl rfl (.c0 (.c1 .nil)) j1 fun⟨G15,c16⟩=>?_;refine g5 ?_;refine inc (i+1) ?_;refine g3 ?_;exact dK (i+1,(out++(((x10.name++([58,32]:Bs))++((gQ (x10.items.list.map ItemV.it) 254).getD []))++[10])),true,_,_) w9 ⟨rfl,j1⟩ ⟨rfl,rfl,rfl,rfl,j1⟩ (.c0 (.c0 (.c1 .nil))) ⟨j2 (⟨by dsimp only;omega,hinv22.2.1.trans (lines_step hx0 n0 ‹_› hex),fun h=>by simp at h,by have:=uS ‹dA x10.name=true›;simp;omega⟩),j1⟩ (bA.drop 4)
  omega
 refine g11 ?_;have hr:=hR.symm.trans (hinv22.2.1.trans (bQh n0));subst hr;exact rs1 ((_,_),u) ⟨j2 (hinv22.2.2.1),j1⟩
theorem bstrN_spec(b r1 r2:Nat)(p:Value)(g c:Nat)(out:Bs)(h0:out≠[])(hc:out.length≤c):cP prog 56 [.pointer (some ⟨b,2,none⟩)] [.obj b (.cells [.map (some r1),.map (some r2),p,.slice (some ⟨g,0,none⟩) out.length c].toArray 154),oH.row (.slice (some ⟨g,0,none⟩) out.length c) 5 out] [] (fun(_:Unit)=> .string (bs out)) (fun _=>[]) (fun _=>[]):=by
 have hT:=jH;refine k6 func56 ntmps56 ?_;intro β hM;refine g6 ?_;refine bU _ _ [(true,0),(true,1),(true,2),(true,3),(true,4),(true,5),(true,6),(true,7),(true,8),(true,9),(false,10),(true,11)] bZ o3 (.c0 .nil) bA.self ?_;refine g4 ?_;refine stM rfl (bAd rfl rfl (.inr (by have:=List.length_pos_iff.2 h0;omega))) ?_;refine g6 ?_;refine bHr kT1 rfl rfl rfl rfl u8Ptr n7 rfl rfl rfl h0 ?_;refine g5 ?_;exact rs1 () trivial
theorem bstrE_spec(b r1 r2:Nat)(p:Value)(c:Nat):cP prog 56 [.pointer (some ⟨b,2,none⟩)] [.obj b (.cells [.map (some r1),.map (some r2),p,.slice none 0 c].toArray 154)] [] (fun(_:Unit)=> .string (bs [])) (fun _=>[]) (fun _=>[]):=by
 have hT:=jH;refine k6 func56 ntmps56 ?_;intro β hM;refine g6 ?_;refine bU _ _ [(true,0),(true,1),(true,2),(true,3),(true,4),(true,5),(true,6),(true,7),(true,8),(true,9),(true,10),(true,11)] bZ o3 (.c0 .nil) bA.self ?_;refine g4 ?_;refine stM rfl (bAd rfl rfl (.inl rfl)) ?_;refine g5 ?_;refine stM rfl (sti_noString rfl rfl rfl) ?_;refine g4 ?_;exact rs1 () trivial
theorem swrite_spec(P:ProgV)(hP:sZ P)(hl1:P.inputs.list.length≤140737488355328)(hl2:P.lines.list.length≤140737488355328):cP prog 27 [.agg #[.slice P.inputs.addr P.inputs.list.length P.inputs.cap,.slice P.lines.addr P.lines.list.length P.lines.cap]] [] [iF,jR.sl (.slice P.inputs.addr P.inputs.list.length P.inputs.cap) P.inputs.list,iS P.inputs.list,oP.sl (.slice P.lines.addr P.lines.list.length P.lines.cap) P.lines.list,lU P.lines.list] (fun(_:Unit)=> .tuple #[.string (bs (cU P.pr).1),.bool (cU P.pr).2]) (fun _=>[]) (fun _=>[]):=by
 have hT:=jH;refine k6 func27 ntmps27 ?_;intro β hM;refine g2 ?_;refine j8 fun b1=>?_;refine g6 ?_;refine j4 func54 (bLg false) ⟨d7,j1⟩ fun r2=>?_;refine j4 func54 (bLg true) ⟨d8,j1⟩ fun r3=>?_;refine ss (j9 (shower_built _ _)) ?_;refine j8 fun b4=>?_;refine g7 ?_;refine cH (t:=5) oH ?_;refine bD func55 (bNu b4 r2 r3 P hP hl1 hl2) rfl rfl (.c1 (.c0 .nil)) ⟨d8,d7,d9,e6,e7,e8,e9,j1⟩ fun⟨⟨G5,c6⟩,u7⟩=>?_;refine bC d7 fun hemp=>?_;dsimp only at hemp;refine g4 ?_
 rcases Decidable.em ((cU P.pr).1=[]) with h0 | h0
 ·skip
  refine g4 ?_;have hg:=hemp h0;subst hg;rw [h0];refine bD func56 (bstrE_spec b4 r2 r3 (bOh u7 b4) c6) rfl rfl (.c0 .nil) j1 fun _=>?_;refine g6 ?_;exact rs2 () j1 (he:=by first | rfl | rw [h0])
 skip
 refine g4 ?_;refine bV kT1 fun hcap=>?_;refine zB kT1 (List.length_pos_iff.2 h0) fun g hg=>?_;subst hg;refine bD func56 (bstrN_spec b4 r2 r3 (bOh u7 b4) g c6 (cU P.pr).1 h0 hcap) rfl rfl (.c0 (.c0 .nil)) j1 fun _=>?_;refine g6 ?_;exact rs2 () j1 (he:=by first | rfl | rw [h0])
theorem sRight_spec(P:ProgV)(hP:sZ P)(hl1:P.inputs.list.length≤140737488355328)(hl2:P.lines.list.length≤140737488355328):cP prog 21 [.agg #[.slice P.inputs.addr P.inputs.list.length P.inputs.cap,.slice P.lines.addr P.lines.list.length P.lines.cap]] [] [iF,jR.sl (.slice P.inputs.addr P.inputs.list.length P.inputs.cap) P.inputs.list,iS P.inputs.list,oP.sl (.slice P.lines.addr P.lines.list.length P.lines.cap) P.lines.list,lU P.lines.list] (fun(_:Unit)=> .bool (cU P.pr).2) (fun _=>[]) (fun _=>[]):=by
 have hT:=jH;refine k6 func21 ntmps21 ?_;intro β hM;refine g2 ?_;refine j8 fun b1=>?_;refine g6 ?_;refine j4 func27 (swrite_spec P hP hl1 hl2) ⟨d7,d8,d9,e6,e7,j1⟩ fun _=>?_;refine g14 ?_;exact rs1 () trivial
section
variable {α : Type} {f : α → α → Bool} {x y : α} {i : Nat}
theorem bOv{a b:List α}{k:Nat}(h:a.take k=b.take k)(hx:a[k]?=some x)(hy:b[k]?=some y)(e:x=y):a.take (k+1)=b.take (k+1):=by
 subst e;rw [List.take_add_one,List.take_add_one,h,hx,hy]
theorem take_all{a b:List α}{k:Nat}(h:a.take k=b.take k)(ha:a.length≤k)(hb:b.length≤k):a=b:=by
 rw [List.take_of_length_le ha,List.take_of_length_le hb] at h;exact h
theorem not_take{a b:List α}{k:Nat}(hx:a[k]?=some x)(hy:b[k]?=some y)(e:x≠y):a≠b:=by
 rintro rfl;rw [hx] at hy;exact e (Option.some.inj hy)
end
theorem step_bound{st st':List dV}{x:cR}(h:hU st x=some st'):x.name.length≤16∧x.nums.length≤256:=by
 unfold hU at h;split at h
 ·unfold operandS at h;split at h
  ·split at h
   ·rename_i hb;rw [hb.2.1];exact⟨(rX hb.2.2).len,o6⟩
   ·simp at h
  ·split at h
   ·simp at h
   ·rename_i hb;simp only [not_or,ne_eq,Classical.not_not,Nat.not_lt] at hb;rw [hb.2.1];exact⟨o6,hb.2.2.2⟩
 ·split at h
  ·cases h
  ·rename_i hb;simp only [not_or,ne_eq,Classical.not_not] at hb;rw [hb.2.2.1,hb.2.2.2.1];exact⟨o6,o6⟩
theorem bGy: ∀{l:List cR} {st st':List dV},fO l st=some st'→ ∀x∈l,x.name.length≤16∧x.nums.length≤256
 | [],_,_,_,x,hx=>by simp at hx
 | y::l,st,st',h,x,hx=>by
  rw [fO] at h
  cases h1:hU st y with
  | none=>rw [h1] at h;cases h
  | some s1=>
   rw [h1] at h
   rcases List.mem_cons.1 hx with rfl | hx
   ·exact step_bound h1
   ·exact bGy h x hx
theorem bLm{l:List cR}{m:Nat}{t:Bs}(h:gQ l m=some t):l.length≤m∧ ∀x∈l,x.name.length≤16∧x.nums.length≤256:=by
 unfold gQ at h;split at h
 ·cases h
 ·rename_i hl;split at h
  ·rename_i hq;exact⟨n0,bGy hq⟩
  ·cases h
theorem yN: ∀{ds:List qQ} {acc t:Bs},kV ds acc=some t→ ∀d∈ds,d.name.length≤16
 | [],_,_,_,d,hd=>by simp at hd
 | e::ds,acc,t,h,d,hd=>by
  rw [kV] at h;split at h
  ·rename_i he
   rcases List.mem_cons.1 hd with rfl | hd
   ·rw [he];simp
   ·exact yN h d hd
  ·split at h
   ·rename_i hb
    rcases List.mem_cons.1 hd with rfl | hd
    ·exact(rX hb.2).len
    ·exact yN h d hd
   ·cases h
theorem bDh: ∀{xs:List gE} {o o':Bs},lZ xs o=(o',true)→ ∀x∈xs,x.name.length≤16∧x.sides.length≤4∧ ∀d∈x.sides,d.name.length≤16
 | [],_,_,_,x,hx=>by simp at hx
 | y::xs,o,o',h,x,hx=>by
  rw [lZ] at h
  cases hi:oS y with
  | none=>rw [hi] at h;simp at h
  | some t=>
   rw [hi] at h;simp only at h
   rcases List.mem_cons.1 hx with rfl | hx
   ·unfold oS at hi;split at hi
    ·cases hi
    ·rename_i hb;simp only [not_or,Bool.not_eq_false,Nat.not_lt] at hb;exact⟨(rX hb.1).len,hb.2,yN hi⟩
   ·exact bDh h x hx
theorem bGv: ∀{ls:List lF} {o o':Bs},fE ls o=(o',true)→ ∀l∈ls,l.name.length≤16∧l.items.length≤255∧ ∀x∈l.items,x.name.length≤16∧x.nums.length≤256
 | [],_,_,_,l,hl=>by simp at hl
 | [m],o,o',h,l,hl=>by
  rw [List.mem_singleton.1 hl];simp only [fE] at h
  cases hx:gQ m.items 255 with
  | none=>rw [hx] at h;simp at h
  | some t=>
   rw [hx] at h;simp only at h;split at h
   ·simp at h
   ·rename_i hn;simp only [ne_eq,Classical.not_not] at hn;obtain⟨a,b⟩:=bLm hx;exact⟨by rw [hn];simp,a,b⟩
 | m::n::ls,o,o',h,l,hl=>by
  have h':(match gQ m.items 254 with
    | none=>(o,false)
    | some t=>if dA m.name=false then (o,false) else fE (n::ls) (o++(((m.name++[58,32])++t)++[10])))=(o',true):=h
  cases hx:gQ m.items 254 with
  | none=>rw [hx] at h';simp at h'
  | some t=>
   rw [hx] at h';simp only at h';split at h'
   ·simp at h'
   ·rename_i hb;simp only [Bool.not_eq_false] at hb
    rcases List.mem_cons.1 hl with rfl | hl
    ·obtain⟨a,b⟩:=bLm hx;exact⟨(rX hb).len,n0,b⟩
    ·exact bGv h' l hl
structure Fine (p:gP):Prop where
 ins:p.inputs.length≤64
 lns:p.lines.length≤64
 input: ∀x∈p.inputs,x.name.length≤16∧x.sides.length≤4∧ ∀d∈x.sides,d.name.length≤16
 line: ∀l∈p.lines,l.name.length≤16∧l.items.length≤255∧ ∀x∈l.items,x.name.length≤16∧x.nums.length≤256
theorem tD{p:gP}(h:(cU p).2=true):Fine p:=by
 unfold cU at h;split at h
 ·cases h
 ·rename_i hb;simp only [not_or,Nat.not_lt] at hb
  cases hi:lZ p.inputs [] with
  | mk o b=>
   rw [hi] at h
   cases b with
   | false=>cases h
   | true=>
    simp only at h;exact⟨n0,n0,bDh hi,bGv (o':=(fE p.lines o).1) (Prod.ext rfl h)⟩
section
variable {x : ProgV}
theorem tF{y:InputV}(h:y∈x.inputs.list):y.inp∈x.pr.inputs:=List.mem_map.2 ⟨y,h,rfl⟩
theorem mem_ln{y:LineV}(h:y∈x.lines.list):y.ln∈x.pr.lines:=List.mem_map.2 ⟨y,h,rfl⟩
theorem mem_sd{y:InputV}{d:jG}(h:d∈y.sides.list):d.sd∈y.inp.sides:=List.mem_map.2 ⟨d,h,rfl⟩
theorem mem_it{y:LineV}{d:ItemV}(h:d∈y.items.list):d.it∈y.ln.items:=List.mem_map.2 ⟨d,h,rfl⟩
theorem Fine.ok(h:Fine x.pr)(hr:RngP x.pr):sZ x∧x.inputs.list.length≤140737488355328∧x.lines.list.length≤140737488355328:=by
 have e1:x.pr.inputs.length=x.inputs.list.length:=List.length_map _;have e2:x.pr.lines.length=x.lines.list.length:=List.length_map _;have h1:=h.ins;have h2:=h.lns;refine⟨⟨fun y hy=>?_,fun y hy=>?_⟩,n0,n0⟩
 ·obtain⟨a,b,c⟩:=h.input _ (tF hy);refine⟨Nat.le_trans a o9,fun d hd=>⟨Nat.le_trans (c _ (mem_sd hd)) o9,?_⟩⟩;exact hr.ins _ (tF hy) _ (mem_sd hd)
 ·obtain⟨a,b,c⟩:=h.line _ (mem_ln hy);refine⟨Nat.le_trans a o9,fun d hd=>⟨Nat.le_trans (c _ (mem_it hd)).1 o9,?_⟩⟩;exact hr.lns _ (mem_ln hy) _ (mem_it hd)
end
theorem flt_of{f:Flt}(h:lX ⟨f.1,f.2⟩ ⟨0,0⟩=true):f=(0,0):=isOk_iff.1 h
theorem flt_not{f:Flt}(h:lX ⟨f.1,f.2⟩ ⟨0,0⟩=false):f≠(0,0):=fun e=>by rw [e] at h;cases h
abbrev w64(z:Int):Int:=IntKind.i64.wrap z
def takesW(f:Int)(two:Bool):Bool:=if f<1∨17<f then false else if f=16 then !two else two || decide (f≤7)
def restW (a b:Int):Int:=if a.tmod b≠0∧decide (a.tmod b<0)≠decide (b<0) then w64 (a.tmod b+b) else a.tmod b
def truthW(b:Bool):Int:=if b then 1 else 0
def big1 (a:Int):Bool:=decide (1<IntKind.u64.wrap a)
def refusesW(f a b:Int):Bool:=if f=4 then b==0 else if f=17 then decide (b<0) else if f=14∨f=15 then big1 a || big1 b else false
def raisedGo:Nat→Int→Int→Nat→Int
 | 0,p,_,_=>p
 | k+1,p,a,n=>if n=0 then p else raisedGo k (if n%2=1 then w64 (p*a) else p) (w64 (a*a)) (n/2)
def raisedW(a n:Int):Int:=raisedGo (n.toNat+1) 1 a n.toNat
def holdsW(f a b:Int):Bool:=if f=8 then a==b else if f=9 then a !=b else if f=10 then decide (a<b) else if f=11 then decide (a≤b) else if f=12 then decide (b≤a) else decide (b<a)
def andW (a b:Int):Int:=w64 ((BitVec.ofInt 64 a&&&BitVec.ofInt 64 b).toNat:Nat)
def orW (a b:Int):Int:=w64 ((BitVec.ofInt 64 a ||| BitVec.ofInt 64 b).toNat:Nat)
def xorW (a b:Int):Int:=w64 ((BitVec.ofInt 64 a^^^BitVec.ofInt 64 b).toNat:Nat)
def divW (a b:Int):Int:=if restW a b≠a.tmod b then w64 (w64 (a.tdiv b)-1) else w64 (a.tdiv b)
def minW (a b:Int):Int:=if b<a then b else a
def maxW (a b:Int):Int:=if b>a then b else a
def dyad0 (f a b:Int):Int:=
 if f=1 then w64 (a+b) else if f=2 then w64 (a-b) else if f=3 then w64 (a*b) else if f=4 then divW a b else if f=5 then (if a=0 then b else restW b a)
 else if f=6 then minW a b else if f=7 then maxW a b else if f=14 then andW a b else if f=15 then orW a b else if f=17 then raisedW a b else truthW (holdsW f a b)
def dyadW (f a b:Int):Int×Int:=if takesW f true=false then (0,10) else if refusesW f a b=true then (0,11) else (dyad0 f a b,0)
def monadW(f a:Int):Int×Int:=
 if takesW f false=false then (0,10) else if f=2 then (w64 (0-a),0) else if f=3 then (w64 (truthW (decide (0<a))-truthW (decide (a<0))),0) else if f=4 then dyadW f 1 a
 else if f=5 then (maxW a (w64 (0-a)),0) else if f=16 then (if big1 a=true then (0,11) else (xorW a 1,0)) else (a,0)
structure Arr where
 sides:List Int
 data:List Int
 deriving Inhabited,DecidableEq
def bNl (s:Int):Bool:=decide (s<0) || decide (65536<s)
def prodGo:List Int→Int→Int×Int
 | [],n=>(n,0)
 | s::r,n=>if 65536<w64 (n*s) then (0,61) else prodGo r (w64 (n*s))
def sizeA (s:List Int):Int×Int:=if 4<s.length∨s.any bNl=true then (0,61) else if s.contains 0=true then (0,0) else prodGo s 1
def rightA(a:Arr):Bool:=(sizeA a.sides).2==0&&(sizeA a.sides).1==(a.data.length:Int)
def mapM (f:Int):List Int→List Int×Int
 | []=>([],0)
 | n::r=>if (monadW f n).2≠0 then ([],(monadW f n).2) else if (mapM f r).2≠0 then ([],(mapM f r).2) else ((monadW f n).1::(mapM f r).1,0)
def tL:List Int→Int
 | []=>1
 | s::r=>s*tL r
theorem bDr: ∀(a b:List Int),tL (a++b)=tL a*tL b
 | [],b=>by simp [tL]
 | s::a,b=>by rw [List.cons_append,tL,tL,bDr a b,Int.mul_assoc]
theorem bAi: ∀(a:List Int),tL a.reverse=tL a
 | []=>rfl
 | s::a=>by
  rw [List.reverse_cons,bDr,bAi a,tL,tL,tL,Int.mul_one,Int.mul_comm]
structure SidesOk (s:List Int):Prop where
 len:s.length≤4
 rng: ∀x∈s,0≤x∧x≤65536
 prod:0≤tL s∧tL s≤65536
theorem SidesOk.reverse{s:List Int}(h:SidesOk s):SidesOk s.reverse:=⟨by simpa using h.len,fun x hx=>h.rng x (by simpa using hx),by rw [bAi];exact h.prod⟩
inductive rD:List Int→List Int→Prop
 | nil:rD [] []
 | cons {s k sides index}:0≤k→k<s→rD sides index→rD (s::sides) (k::index)
theorem rD.len{s k:List Int}(h:rD s k):k.length=s.length:=by induction h<;>simp_all
theorem rD.append{a b c d:List Int}(h:rD a b)(k:rD c d):rD (a++c) (b++d):=by
 induction h with
 | nil=>exact k
 | cons h0 h1 _ ih=>exact .cons h0 h1 ih
theorem rD.reverse{s k:List Int}(h:rD s k):rD s.reverse k.reverse:=by
 induction h with
 | nil=>exact .nil
 | cons h0 h1 _ ih=>
  rw [List.reverse_cons,List.reverse_cons];exact ih.append (.cons h0 h1 .nil)
end Go.Proofs.YtakphiannlpnfaaGreatDoor
