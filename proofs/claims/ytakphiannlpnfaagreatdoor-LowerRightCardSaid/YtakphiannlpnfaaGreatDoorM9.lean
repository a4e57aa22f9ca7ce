/- Texts of one proof, one behind the other: ExprS, DocS, AlikeP, BackO, WordP, ArrP, ArrL. -/
import Derived.Test.YtakphiannlpnfaaGreatDoorM2
import Derived.Test.YtakphiannlpnfaaGreatDoorM8
import Derived.Test.YtakphiannlpnfaaGreatDoorM7
import Derived.Test.YtakphiannlpnfaaGreatDoorM1
namespace Go.Proofs.YtakphiannlpnfaaGreatDoor
open Go.RowKit Go.Proofs.Tryz
set_option maxRecDepth 100000
def bRy (p:PieceV):bH:=nM.row (.slice p.words.addr p.words.list.length p.words.cap) 9 p.words.list
def bLg (st:List PieceV):List bH:=st.map bRy
theorem maxN(a b:Nat):(if (b:Int)>(a:Int) then (b:Int) else (a:Int))=((max a b:Nat):Int):=by
 split<;>omega
def wsz (l:List Bs):Nat:=(l.map fun w=>w.length+1).sum
theorem bPp(a b:List Bs):wsz (a++b)=wsz a+wsz b:=by simp [wsz]
theorem jT(w:Bs)(r:List Bs):wsz (w::r)=w.length+1+wsz r:=by simp [wsz]
theorem bMy{l:List Bs}{w:Bs}{i:Nat}(h:l[i]?=some w):w.length+1≤wsz l:=by
 induction l generalizing i with
 | nil=>simp at h
 | cons x r ih=>
  rw [jT]
  cases i with
  | zero=>simp at h;subst h;omega
  | succ i=>have:=ih (i:=i) ac1;omega
theorem wsz_set{l:List Bs}{w v:Bs}{i:Nat}(h:l[i]?=some w):wsz (l.set i v)+w.length=wsz l+v.length:=by
 induction l generalizing i with
 | nil=>simp at h
 | cons x r ih=>
  cases i with
  | zero=>simp at h;subst h;simp only [List.set_cons_zero,jT];omega
  | succ i=>have:=ih (i:=i) ac1;simp only [List.set_cons_succ,jT];omega
theorem bQi: ∀l:List Bs,(joinSp l).length≤wsz l
 | []=>by simp [joinSp]
 | [w]=>by simp [joinSp,wsz]
 | w::x::r=>by
  have:=bQi (x::r);rw [uZ w o6,jT];simp;omega
def OkP (p:PieceV):Prop:=p.words.list≠[]∧wsz p.words.list≤40*p.tokens
theorem brk_set{l:List Bs}{w0 x:Bs}(h0:l[0]?=some w0)(hx:(l.set 0 ([40]++w0))[l.length-1]?=some x):(l.set 0 ([40]++w0)).set (l.length-1) (x++[41])=brk l:=by
 cases l with
 | nil=>simp at h0
 | cons w r=>
  simp at h0;subst h0
  have key: ∀(a:Bs) (r:List Bs) (x:Bs),(a::r)[r.length]?=some x→(a::r).set r.length (x++[41])=brkEnd (a::r):=by
   intro a r
   induction r generalizing a with
   | nil=>intro x h;simp at h;subst h;rfl
   | cons b r ih=>
    intro x h;have:=ih b x ac1;show a::((b::r).set r.length (x++[41]))=a::brkEnd (b::r);rw [this]
  simp only [List.set_cons_zero,List.length_cons,Nat.add_sub_cancel] at hx⊢;exact key _ _ _ hx
structure vU (l:List cT) (st:List PieceV) (i:Nat):Prop where
 steps:fT (l.drop i) (st.map PieceV.pc)=fT l []
 le:i≤l.length
 sum:(st.map (·.tokens)).sum≤300*i
 nest: ∀p∈st,p.nest≤i
 ok: ∀p∈st,OkP p
theorem vU.start(l:List cT):vU l [] 0:=⟨rfl,n7,o6,fun p hp=>by simp at hp,fun p hp=>by simp at hp⟩
section
variable {l : List cT} {st st' : List PieceV} {i : Nat} {x : cT} {r : Option Bs} {most : Nat}
theorem x_long{l:List cT}(h:most<l.length):gH l most=none:=by rw [gH,if_pos h]
theorem vU.next(h:vU l st i)(hx:l[i]?=some x){c:List fC}(hs:iF (st.map PieceV.pc) x=some c):fT (l.drop (i+1)) c=fT l []:=by
 have:=h.steps;rw [jI hx,fT,hs] at this;exact this
theorem vU.fail(h:vU l st i)(hx:l[i]?=some x)(hs:iF (st.map PieceV.pc) x=none):gH l most=none:=by
 have:=h.steps;rw [jI hx,fT,hs] at this;unfold gH;rw [←this];split<;>rfl
theorem vU.done(h:vU l st i)(hi:l.length≤i)(hm: ¬most<l.length):gH l most=match st.map PieceV.pc with
  | [p]=>if most<p.tokens∨32<p.nest then none else some (joinSp p.words)
  | _=>none:=by
 have:=h.steps;rw [List.drop_of_length_le hi,fT] at this;unfold gH;rw [if_neg hm,←this];split<;>rename_i h1
 ·injection h1 with h1
  rw [h1]
 ·split
  ·rename_i p hp;exact absurd (congrArg some hp) (h1 p)
  ·rfl
end
theorem wU{s:Bs}(h:dD s=true):s.length≤16:=by
 unfold dD bKj at h;simp only [Bool.and_eq_true] at h;obtain⟨_,_,_,_,h⟩:=h
 cases hl:(gK s).1 with
 | nil=>rw [hl] at h;cases h
 | cons t r=>
  cases r with
  | nil=>
   rw [hl] at h;simp only [Bool.and_eq_true,beq_iff_eq] at h;rw [←h.2];exact(lex_ok s t (by rw [hl];simp)).word
  | cons _ _=>rw [hl] at h;cases h
theorem sum_spell{l:List Int}(hz: ∀z∈l,-9223372036854775808≤z∧z≤9223372036854775807):wsz (l.map fY)≤22*l.length:=by
 induction l with
 | nil=>simp [wsz]
 | cons z r ih=>
  have h1:=hz z o6;have:=rV h1.1 h1.2;have:=ih fun y hy=>hz y ae3;rw [List.map_cons,jT];simp only [List.length_cons];omega
theorem bEo{x:cT}{q:fC}(hz: ∀z∈x.nums,-9223372036854775808≤z∧z≤9223372036854775807)(h:operandS x=some q):q.words≠[]∧wsz q.words≤40*q.tokens∧q.tokens≤256∧q.nest=0:=by
 unfold operandS at h;split at h
 ·split at h
  ·rename_i hn;injection h with h
   subst h;have:=wU hn.2.2;refine⟨o6,?_,o6,rfl⟩;simp [wsz];omega
  ·cases h
 ·split at h
  ·cases h
  ·rename_i hn;injection h with h
   subst h;have h0:x.nums≠[]:=fun e=>hn (.inr (.inr (.inl e)));have h1: ¬256<x.nums.length:=fun e=>hn (.inr (.inr (.inr e)));have:=sum_spell hz;refine⟨by simpa using h0,?_,by simp;omega,rfl⟩;simp only;omega
section
variable {l : List cT} {st : List PieceV} {i : Nat} {x : cT} {p : PieceV}
theorem xP(ho:x.how=1∨x.how=2){c:List fC}:iF c x=(operandS x).map (· ::c):=by rw [iF,if_pos ho]
theorem vU.operand(h:vU l st i)(hx:l[i]?=some x)(ho:x.how=1∨x.how=2)(hz: ∀z∈x.nums,-9223372036854775808≤z∧z≤9223372036854775807)(hq:operandS x=some p.pc):vU l (p::st) (i+1):=by
 obtain⟨h1,h2,h3,h4⟩:=bEo hz hq;have hl:=(List.getElem?_eq_some_iff.1 hx).1;refine⟨h.next hx (by rw [xP ho,hq];rfl),hl,?_,fun y hy=>?_,fun y hy=>?_⟩
 ·have:=h.sum;have h3:p.tokens≤256:=h3;simp only [List.map_cons,List.sum_cons];omega
 ·rcases List.mem_cons.1 hy with rfl | hy
  ·have h4:y.nest=0:=h4;omega
  ·have:=h.nest y hy;omega
 ·rcases List.mem_cons.1 hy with rfl | hy
  ·exact⟨h1,h2⟩
  ·exact h.ok y hy
theorem iR{c:List fC}(ho: ¬(x.how=1∨x.how=2))(hb:x.how<3∨7<x.how∨x.nums≠[]∨x.name≠[]∨(verbS x).1=[]):iF c x=none:=by rw [iF,if_neg ho,if_pos hb]
theorem hJ{c:List fC}(ho: ¬(x.how=1∨x.how=2))(hs:c.length<if zR x.how then 2 else 1):iF c x=none:=by
 rw [iF,if_neg ho];split
 ·rfl
 ·unfold rK;split
  ·rename_i ht;rw [ht] at hs
   match c,hs with
   | [],_=>rfl
   | [_],_=>rfl
   | _::_::_,hs=>simp at hs;omega
  ·rename_i ht;rw [if_neg ht] at hs
   match c,hs with
   | [],_=>rfl
   | _::_,hs=>simp at hs
theorem lP{c:List fC}(h3:3≤x.how)(h7:x.how≤7)(hn:x.nums=[])(hm:x.name=[])(hv:(verbS x).1≠[]):iF c x=rK x c:=by
 rw [iF,if_neg n7,if_neg];rintro(h | h | h | h | h)
 ·omega
 ·omega
 ·exact h hn
 ·exact h hm
 ·exact hv h
theorem bGt(x:cT):(verbS x).1.length≤6∧(verbS x).2≤2∧((verbS x).1≠[]→1≤(verbS x).2):=by
 have h1:=bJm false x.fn;have h2:=bJm true x.fn;have h3:=bVg x.how;unfold verbS;split
 ·exact⟨by simp;omega,o6,fun _=>by simp⟩
 ·split
  ·exact⟨by simp;omega,o6,fun _=>by simp⟩
  ·split
   ·exact⟨o6,o6,fun h=>absurd rfl h⟩
   ·exact⟨by simp;omega,o6,fun _=>by simp⟩
theorem vU.one(h:vU l (p::st) i)(hx:l[i]?=some x)(hs:iF ((p::st).map PieceV.pc) x=rK x ((p::st).map PieceV.pc))(ht:zR x.how=false)(hv:(verbS x).1≠[]){A:Option Addr}{c:Nat}:
  vU l (⟨⟨A,c,[(verbS x).1]++p.words.list⟩,p.nest,p.tokens+(verbS x).2,false⟩::st) (i+1):=by
 have hl:=(List.getElem?_eq_some_iff.1 hx).1;obtain⟨h1,h2,h3⟩:=bGt x;refine⟨h.next hx (by rw [hs];unfold rK;rw [ht];rfl),hl,?_,fun y hy=>?_,fun y hy=>?_⟩
 ·have:=h.sum;simp only [List.map_cons,List.sum_cons] at this⊢;omega
 ·rcases List.mem_cons.1 hy with rfl | hy
  ·have:=h.nest p o6;dsimp only;omega
  ·have:=h.nest y ae3;omega
 ·rcases List.mem_cons.1 hy with rfl | hy
  ·have:=(h.ok p o6).2;have h3:=h3 hv;refine⟨o6,?_⟩;simp only [List.singleton_append,jT];omega
  ·exact h.ok y ae3
theorem left_ok{q:PieceV}(h:OkP q):(leftS q.pc).words≠[]∧wsz (leftS q.pc).words≤40*(leftS q.pc).tokens∧(leftS q.pc).tokens≤q.tokens+2∧(leftS q.pc).nest≤q.nest+1:=by
 obtain⟨h1,h2⟩:=h;unfold leftS;split
 ·exact⟨h1,h2,by show q.tokens≤_;omega,by show q.nest≤_;omega⟩
 ·refine⟨brk_ne h1,?_,Nat.le_refl _,Nat.le_refl _⟩
  have key: ∀l:List Bs,l≠[]→wsz (brkEnd l)=wsz l+1:=by
   intro l
   induction l with
   | nil=>intro h;exact absurd rfl h
   | cons w r ih=>
    intro _
    cases r with
    | nil=>simp [brkEnd,wsz]
    | cons x r=>
     show wsz (w::brkEnd (x::r))=_;rw [jT,ih o6];simp only [jT];omega
  have hb:wsz (brk q.words.list)=wsz q.words.list+2:=by
   cases hq:q.words.list with
   | nil=>exact absurd hq h1
   | cons w r=>
    show wsz (brkEnd _)=_;rw [key _ o6,jT,jT];simp;omega
  show wsz (brk q.words.list)≤40*(q.tokens+2);omega
theorem vU.two{q:PieceV}(h:vU l (p::q::st) i)(hx:l[i]?=some x)(hs:iF ((p::q::st).map PieceV.pc) x=rK x ((p::q::st).map PieceV.pc))(ht:zR x.how=true)(hv:(verbS x).1≠[]){A:Option Addr}{c:Nat}{ws:List Bs}{n t:Nat}
  (hw:ws=(leftS q.pc).words) (hn:n=(leftS q.pc).nest) (hk:t=(leftS q.pc).tokens):
  vU l (⟨⟨A,c,ws++([(verbS x).1]++p.words.list)⟩,max p.nest n,p.tokens+(verbS x).2+t,false⟩::st) (i+1):=by
 subst hw hn hk;have hl:=(List.getElem?_eq_some_iff.1 hx).1;obtain⟨h1,h2,h3⟩:=bGt x;obtain⟨k1,k2,k3,k4⟩:=left_ok (h.ok q o6);refine⟨h.next hx (by rw [hs];unfold rK;rw [ht];rfl),hl,?_,fun y hy=>?_,fun y hy=>?_⟩
 ·have:=h.sum;simp only [List.map_cons,List.sum_cons] at this⊢;omega
 ·rcases List.mem_cons.1 hy with rfl | hy
  ·have:=h.nest p o6;have:=h.nest q o6;dsimp only;omega
  ·have:=h.nest y ae3;omega
 ·rcases List.mem_cons.1 hy with rfl | hy
  ·have:=(h.ok p o6).2;have h3:=h3 hv;refine⟨o6,?_⟩;simp only [List.singleton_append,bPp,jT];omega
  ·exact h.ok y ae3
end
theorem rev_one{x:PieceV}{r:List PieceV}:(x::r).reverse[(r.length+1)-1]?=some x:=by simp
theorem bMu{x y:PieceV}{r:List PieceV}:(x::y::r).reverse[(r.length+2)-1]?=some x∧(x::y::r).reverse[(r.length+2)-2]?=some y:=by
 constructor
 ·simp
 ·simp
theorem rev_cut1{x:PieceV}{r:List PieceV}:(x::r).reverse.take ((r.length+1)-1)=r.reverse:=by simp
theorem sL{x y:PieceV}{r:List PieceV}:(x::y::r).reverse.take ((r.length+2)-2)=r.reverse:=by simp
theorem one_of{l:List PieceV}(h:l.length=1): ∃p,l=[p]:=by
 match l,h with
 | [p],_=>exact⟨p,rfl⟩
theorem cons_of{l:List PieceV}(h:1≤l.length): ∃p r,l=p::r:=by
 match l,h with
 | p::r,_=>exact⟨p,r,rfl⟩
theorem cons2_of{l:List PieceV}(h:2≤l.length): ∃p q r,l=p::q::r:=by
 match l,h with
 | p::q::r,_=>exact⟨p,q,r,rfl⟩
theorem join_eq: ∀l:List Bs,Lib.join l [32]=joinSp l
 | []=>rfl
 | [w]=>by simp [Lib.join,joinSp]
 | w::x::r=>by
  rw [uZ w o6,←join_eq (x::r)];simp [Lib.join]
theorem join_spec(A:Option Addr)(c:Nat)(l:List Bs)(hc:l.length≤c)(hl:(joinSp l).length≤140737488355328)(hn:l.length≤140737488355328):
  cM prog 130 [.slice A l.length c,.string (bs [32])] [] [nM.sl (.slice A l.length c) l] (fun _:Unit=> .string (bs (joinSp l))) (fun _=>[]) (fun _=>[]):=
 mM fun S w hS k=>by
  obtain⟨A',c',e,h⟩:=k _ (.head _);injection e with e1 e2 e3
  subst e1 e3
  cases l with
  | nil=>
   refine(Tryz.strings_Join_none A c (bs [32]) w).mono ?_;rintro e w' ⟨rfl,rfl⟩;exact⟨rfl,Below.refl _ _⟩
  | cons x r=>
   obtain⟨b,o,cs,e1,hb,_,_⟩:=h 0 x rfl;subst e1;have e0:((x::r).map bs).length=(x::r).length:=List.length_map _
   have e4:((x::r).map bs).map (·.data.toList)=x::r:=by
    rw [List.map_map];exact List.map_id _
   have hj:=Tryz.strings_Join b o c ((x::r).map bs) (bs [32]) w (fun j y hy=>?_) (hS b hb) (by rw [e0];exact hn) (by rw [e0];exact hc) (by rw [e4,bs_data,join_eq];exact hl)
   ·rw [e0,e4,bs_data,join_eq] at hj;exact hj
   ·rw [List.getElem?_map] at hy
    cases hz:(x::r)[j]? with
    | none=>rw [hz] at hy;cases hy
    | some z=>
     rw [hz] at hy;simp at hy;subst hy;obtain⟨b',o',cs,e1,_,h3,h4⟩:=h j z hz;injection e1 with e1
     injection e1 with e1 e2
     subst e1 e2;have h4:cs=nM.cells z:=h4;subst h4;have:=h3 0 (.string (bs z)) rfl
     have e:o+j*(Enc.flat nM.size nM.cells).size+0=o+j:=by
      show o+j*1+0=o+j;omega
     rwa [e] at this
theorem tQ(l:List Bs):l.length≤wsz l:=by
 induction l with
 | nil=>simp
 | cons w r ih=>rw [jT,List.length_cons];omega
theorem mW{x:ItemV}(h:(0:Int)<((x.nums.list.length:Nat):Int)):x.it.nums≠[]:=fun e=>by
 have:x.nums.list=[]:=e;rw [this] at h;simp at h
theorem pA{x:ItemV}(h: ¬(0:Int)<((x.nums.list.length:Nat):Int)):x.it.nums=[]:=List.eq_nil_of_length_eq_zero (show x.nums.list.length=0 by omega)
theorem twoT{k:Int}(h:k=4∨k=7):zR k=true:=by
 rcases h with rfl | rfl<;>rfl
theorem twoN{k:Int}(h:k≠4)(h':k≠7):zR k=false:=by simp [zR,h,h']
theorem not_one{st:List PieceV}{most:Nat}(h:st.length≠1):(match st.map PieceV.pc with
  | [p]=>if most<p.tokens∨32<p.nest then none else some (joinSp p.words)
  | _=>none)=none:=by
 match st,h with
 | [],_=>rfl
 | [_],h=>exact absurd rfl h
 | _::_::_,_=>rfl
theorem uM{α:Type}{o:Option α}(h:o.isSome=false):o=none:=by
 cases o with
 | none=>rfl
 | some x=>cases h
theorem vU.len{l:List cT}{st:List PieceV}{i:Nat}(h:vU l st i):st.length≤300*i:=by
 refine Nat.le_trans ?_ h.sum;have ho:=h.ok;clear h
 induction st with
 | nil=>simp
 | cons p r ih=>
  have:=ih fun y hy=>ho y ae3;obtain⟨h1,h2⟩:=ho p o6
  have h3:1≤wsz p.words.list:=by
   cases hp:p.words.list with
   | nil=>exact absurd hp h1
   | cons w t=>rw [jT];omega
  simp only [List.length_cons,List.map_cons,List.sum_cons];omega
theorem pQ{x:ItemV}{st:List PieceV}(h:x.how=4∨x.how=7)(hs:st.length<2):(st.map PieceV.pc).length<if zR x.it.how then 2 else 1:=by
 rw [show zR x.it.how=true from twoT h,List.length_map];exact hs
theorem pR{x:ItemV}{st:List PieceV}(h:x.how≠4)(h':x.how≠7)(hs:st.length<1):(st.map PieceV.pc).length<if zR x.it.how then 2 else 1:=by
 rw [show zR x.it.how=false from twoN h h',List.length_map];exact hs
set_option maxHeartbeats 1000000 in
theorem bQv(b r1 r2:Nat)(p:Value)(G:Option Addr)(m c:Nat)(A:Option Addr)(ci:Nat)(items:List ItemV)(most:Nat)(hm:most≤256)(hit: ∀it∈items,it.name.length≤140737488355328∧ ∀z∈it.nums.list,-9223372036854775808≤z∧z≤9223372036854775807):cM prog 95 [.pointer (some ⟨b,0,none⟩),.slice A items.length ci,.int .i64 (most:Nat)] [.obj b (.cells [.map (some r1),.map (some r2),p,.slice G m c].toArray 154)] [mapF r1 .u8 (sS false),mapF r2 .u8 (sS true),iW,mK.sl (.slice A items.length ci) items,nY items] (fun(_:Unit)=> .tuple #[.string (bs ((gH (items.map ItemV.it) most).getD [])),.bool (gH (items.map ItemV.it) most).isSome]) (fun(_:Unit)=>[.obj b (.cells [.map (some r1),.map (some r2),p,.slice G m c].toArray 154)]) (fun _=>[]):=by
 have hT:=jS;generalize hR:gH (items.map ItemV.it) most=r;refine k6 func95 ntmps95 ?_;intro β hM;refine g15 ?_;refine dJ (fun hc21=>?_) fun hc21=>?_
 ·refine g8 ?_;have hr:=hR.symm.trans (x_long ab3);subst hr;exact rs2 () trivial
 refine g16 ?_;refine cK (t:=221) bKu ?_;refine at_loop (ι:=Nat×List PieceV×Option Addr×Nat) (fun⟨i,st,B,e⟩=>[(0,.pointer (some ⟨b,0,none⟩)),(2,.int .i64 (most:Nat)),(8,.slice B st.reverse.length e),(22,.slice A items.length ci),(23,.int .i64 (items.length:Nat)),(24,.int .i64 (i:Nat))]) (fun⟨i,st,B,e⟩=> .obj b (.cells [.map (some r1),.map (some r2),p,.slice G m c].toArray 154)::bKu.row (.slice B st.reverse.length e) 221 st.reverse::bLg st) (fun⟨i,st,B,e⟩=>[Fact.pure (vU (items.map ItemV.it) st i),mapF r1 .u8 (sS false),mapF r2 .u8 (sS true),iW,mK.sl (.slice A items.length ci) items,nY items]) (fun⟨i,st,B,e⟩=>items.length-i) (0,[],none,0) ⟨rfl,rfl,rfl,rfl,rfl,rfl,j0⟩ (.c1 (.cons .head Sel.self)) ⟨j3 (vU.start _),d7,d8,d9,e6,e7,j0⟩ ?_;rintro⟨i,st,B,e⟩;dsimp only;refine bC d7 fun hinv5=>?_;have hil:=hinv5.le;simp only [List.length_map] at hil;have hsum:=hinv5.sum;have hstl:=hinv5.len;refine g6 ?_;refine dJ (fun hc25=>?_) fun hc25=>?_
 ·refine g6 ?_;obtain⟨x1,hx2⟩:=gx items i;refine ss (ixs i) ?_;refine ss (lS hx2 0) ?_;refine j6 oG fun b3=>?_;refine g5 ?_;have hx0:(items.map ItemV.it)[i]?=some x1.it:=by rw [List.getElem?_map,hx2];rfl
  have hxi:=hit x1 (j4 hx2);have hvl:=bGt x1.it;refine g5 ?_;refine oX (fun hg31=>?_) fun hg31=>?_
  ·refine g10 ?_;refine bB (numF x1) (Has.each e8 (j4 hx2)) ?_;refine j5 func128 (bIm x1 hxi.1 hxi.2) ⟨d7,e7,j0⟩ fun p4=>?_;refine bC d7 fun hpu=>?_;refine g3 ?_;refine j6 nV fun b5=>?_;refine g11 ?_;refine jJ (fun hc42=>?_) fun hc42=>?_
   ·refine g14 ?_;have hr:=hR.symm.trans (hinv5.fail hx0 af6);subst hr;exact rs2 () trivial
   refine g3 ?_;obtain⟨q,hq⟩: ∃q,operandS x1.it=some q:=Option.isSome_iff_exists.1 (by simpa using hc42);have hpc:=hpu q hq;rw [←hpc] at hq;refine g3 ?_;refine gW (m:=p4) rfl rfl rfl rfl rfl fun b6=>?_;refine gX kT5 (bW .head rfl) rfl rfl rfl rfl rfl rfl rfl t7 fun A7 c8=>?_;rw [←List.reverse_cons];refine g9 ?_;refine inc (i+1) ?_;refine g3 ?_;exact oK (i+1,p4::st,_,_) z8 ⟨rfl,rfl,rfl,rfl,rfl,rfl,j0⟩ (.c5 (.c0 (.c2 (Sel.skip (Sel.skip (Sel.skip Sel.self)))))) ⟨j3 (hinv5.operand hx0 o7 hxi.2 hq),e6,e7,e8,e9,f3,j0⟩
  refine g6 ?_;refine fN (fun hc35=>?_) fun hc35=>?_
  ·refine g3 ?_;refine bB (numF x1) (Has.each e8 (j4 hx2)) ?_;refine j5 func128 (bIm x1 hxi.1 hxi.2) ⟨d7,e7,j0⟩ fun p9=>?_;refine bC d7 fun hpu=>?_;refine g3 ?_;refine j6 nV fun b10=>?_;refine g11 ?_;refine jJ (fun hc42=>?_) fun hc42=>?_
   ·refine g14 ?_;have hr:=hR.symm.trans (hinv5.fail hx0 af6);subst hr;exact rs2 () trivial
   refine g3 ?_;obtain⟨q,hq⟩: ∃q,operandS x1.it=some q:=Option.isSome_iff_exists.1 (by simpa using hc42);have hpc:=hpu q hq;rw [←hpc] at hq;refine g3 ?_;refine gW (m:=p9) rfl rfl rfl rfl rfl fun b11=>?_;refine gX kT5 (bW .head rfl) rfl rfl rfl rfl rfl rfl rfl t7 fun A12 c13=>?_;rw [←List.reverse_cons];refine g9 ?_;refine inc (i+1) ?_;refine g3 ?_;exact oK (i+1,p9::st,_,_) z8 ⟨rfl,rfl,rfl,rfl,rfl,rfl,j0⟩ (.c5 (.c0 (.c2 (Sel.skip (Sel.skip (Sel.skip Sel.self)))))) ⟨j3 (hinv5.operand hx0 o7 hxi.2 hq),e6,e7,e8,e9,f3,j0⟩
  refine g14 ?_;refine oX (fun hg50=>?_) fun hg50=>?_
  ·refine g18 ?_;refine jX (fun hg58=>?_) fun hg58=>?_
   ·refine g37 ?_;have hr:=hR.symm.trans (hinv5.fail hx0 o0);subst hr;exact rs2 () trivial
   refine g5 ?_;refine jX (fun hg63=>?_) fun hg63=>?_
   ·refine g32 ?_;have hr:=hR.symm.trans (hinv5.fail hx0 o0);subst hr;exact rs2 () trivial
   refine g6 ?_;refine jX (fun hg69=>?_) fun hg69=>?_
   ·refine g26 ?_;have hr:=hR.symm.trans (hinv5.fail hx0 o0);subst hr;exact rs2 () trivial
   refine g5 ?_;refine cI (fun hg74=>?_) (fun hg74=>?_)
   ·have hg74:x1.name≠([]:Bs):=fun h=>by rw [h] at hg74;first | (simp at hg74;done) | exact absurd hg74 o9
    refine g21 ?_;have hr:=hR.symm.trans (hinv5.fail hx0 o0);subst hr;exact rs2 () trivial
   have hg74:x1.name=([]:Bs):=eq_of_beq (zM hg74);refine g2 ?_;refine cP (z':=((st.length:Nat):Int)) (congrArg Nat.cast List.length_reverse) ?_;refine g5 ?_;refine dJ (fun hc79=>?_) fun hc79=>?_
   ·refine g13 ?_;have hr:=hR.symm.trans (hinv5.fail hx0 o0);subst hr;exact rs2 () trivial
   refine g6 ?_;refine bD func129 (bFl b r1 r2 p G m c x1) rfl rfl (.c1 .nil) ⟨d8,d9,j0⟩ fun _=>?_;refine g14 ?_;refine jA (fun hc87=>?_) fun hc87=>?_
   ·have hc87:(verbS x1.it).1=([]:Bs):=eq_of_beq hc87;refine g13 ?_;have hr:=hR.symm.trans (hinv5.fail hx0 (iR r7 (.inr (.inr (.inr (.inr ‹_›))))));subst hr;exact rs2 () trivial
   have hc87:(verbS x1.it).1≠([]:Bs):=fun h=>absurd (beq_iff_eq.2 h) ae0;refine g3 ?_;obtain⟨p1,q1,st,rfl⟩:=cons2_of (l:=st) n7;have hk2:=hinv5.ok q1 o6;have hn2:=hinv5.nest q1 o6;have hk1:=hinv5.ok p1 o6;have hn1:=hinv5.nest p1 o6;simp only [List.map_cons,List.sum_cons] at hsum;simp only [List.length_cons] at hstl;have hw1:=tQ p1.words.list;have hk1b:=hk1.2;have hw2:=tQ q1.words.list;have hk2b:=hk2.2;rw [show bLg (p1::q1::st)=bRy p1::bRy q1::bLg st from rfl];refine g4 ?_;refine cP (z':=(((st.length+2):Nat):Int)) o6 ?_;refine one ?_;refine inc ((st.length+2)-1) ?_;refine ss (cF hT (k:=((st.length+2)-1)) (cN kT2) rfl rfl rfl rfl rfl rfl rfl ac9) ?_;refine ss (fJ hT (dQ.knows (cN kT2) (k:=((st.length+2)-1)) (x:=p1) bMu.1 0) rfl rfl rfl rfl rfl) ?_;refine j6 nV fun b14=>?_;refine g9 ?_;refine inc (p1.tokens+(verbS x1.it).2) ?_;refine g13 ?_;refine jW (m:=(verbS x1.it).1) rfl rfl rfl rfl rfl fun b15=>?_;refine bR (E:=nM) (xs:=[(verbS x1.it).1]) .head q7 ?_;refine g2 ?_;refine mQ .head (cN kT5) rfl rfl rfl rfl rfl rfl rfl q8 fun A16 c17=>?_;refine g9 ?_;refine bM (t':=true) o9 ?_;refine g8 ?_;refine cP (z':=(((st.length+2):Nat):Int)) o6 ?_;refine one ?_;refine inc ((st.length+2)-2) ?_;refine ss (cF hT (k:=((st.length+2)-2)) (cN kT4) rfl rfl rfl rfl rfl rfl rfl ac9) ?_;refine ss (fJ hT (dQ.knows (cN kT4) (k:=((st.length+2)-2)) (x:=q1) bMu.2 0) rfl rfl rfl rfl rfl) ?_;refine j6 nV fun b18=>?_;refine g11 ?_;refine jJ (fun hc116=>?_) fun hc116=>?_
   ·refine cO ?_;have hq0:=List.length_pos_iff.2 hk2.1;refine lC 8 _ _ [(true,0),(true,1),(true,2),(true,3),(true,4),(true,5),(true,6),(true,7)] bV o5 (.c0 (.c0 (.c0 (.c0 (.c0 (.c0 (.c0 (.cons .head Sel.self)))))))) bA.self ?_;refine g4 ?_;obtain⟨x19,hx20⟩:=gx q1.words.list 0;refine stL rfl (ixs 0) ?_;refine stL rfl (fL hx20 0) ?_;have hm0:=bMy hx20;refine stL rfl (jF rfl rfl rfl q9) ?_;refine stL rfl (ixs 0) ?_;refine one ?_;refine fH hT (k:=0) (fo:=0) (y':=(([40]:Bs)++x19)) kT7 rfl rfl rfl rfl rfl rfl rfl rfl rfl hx20 rfl ?_;refine g9 ?_;refine cP (z':=((q1.words.list.length:Nat):Int)) (rfl) ?_;refine one ?_;refine inc (q1.words.list.length-1) ?_;obtain⟨x21,hx22⟩:=gx (q1.words.list.set 0 (([40]:Bs)++x19)) (q1.words.list.length-1) q8;refine ss (cF hT (k:=(q1.words.list.length-1)) (cN .head) rfl rfl rfl rfl rfl o6 rfl q8) ?_;refine ss (fL hx22 0) ?_;have hm1:=bMy hx22;have hm2:=wsz_set (v:=[40]++x19) hx20;simp only [List.length_append,List.length_cons,List.length_nil] at hm2;refine ss (jF rfl rfl rfl q9) ?_;refine ss (cF hT (k:=(q1.words.list.length-1)) (cN .head) rfl rfl rfl rfl rfl o6 rfl q8) ?_;refine fH hT (k:=(q1.words.list.length-1)) (fo:=0) (y':=(x21++([41]:Bs))) .head rfl rfl rfl rfl rfl rfl rfl rfl rfl hx22 rfl ?_;refine g7 ?_;refine inc (q1.nest+1) ?_;refine g8 ?_;refine inc (q1.tokens+2) ?_;refine g5 ?_;have hbr:=brk_set hx20 hx22;refine g5 ?_;refine mQ kT1 (cN kT3) rfl rfl rfl rfl rfl rfl rfl q8 fun A23 c24=>?_;refine g11 ?_;refine inc ((p1.tokens+(verbS x1.it).2)+(q1.tokens+2)) ?_;refine g10 ?_;refine cP (z':=(((max p1.nest (q1.nest+1)):Nat):Int)) (maxN _ _) ?_;refine g4 ?_;refine mV _ _ (.fl 0 (.fl 1 (.fl 2 (.fl 3 (.fl 4 (.fl 6 (.two 5 7 (.op 7 (.op 8 (.fl 9 .nil))) (.op 5 (.op 8 (.fl 9 .nil)))))))))) bV o5 (.c0 (.c0 (.c0 (.c0 (.c0 (.c0 (.c1 (Sel.skip Sel.self)))))))) bA.self ?_;refine g3 ?_;refine cP (z':=(((st.length+2):Nat):Int)) o6 ?_;refine g2 ?_;refine inc ((st.length+2)-2) ?_;refine one ?_;refine jP (o:=_) (o':=_) rfl rfl ?_ ?_
    ·refine iK hT (k:=((st.length+2)-2)) kT6 rfl rfl rfl rfl rfl rfl rfl rfl rfl w9 ?_;rw [sL];refine hQ (.c1 (.c1 (.c1 (.c1 (.c1 (.c1 (.c1 (Sel.skip Sel.self)))))))) (bA.drop 0) ?_;refine one ?_;refine gW (m:=(⟨⟨A23,c24,((q1.words.list.set 0 (([40]:Bs)++x19)).set (q1.words.list.length-1) (x21++([41]:Bs)))++([(verbS x1.it).1]++p1.words.list)⟩,max p1.nest (q1.nest+1),p1.tokens+(verbS x1.it).2+(q1.tokens+2),false⟩:PieceV)) rfl rfl rfl rfl rfl fun b25=>?_;refine hQ (.c2 (.c2 (.c2 (.c2 (.c2 (.c2 (.c2 (Sel.skip (Sel.skip Sel.self))))))))) (bA.drop 0) ?_;refine one ?_;refine gX kT1 (bW .head rfl) rfl rfl rfl rfl rfl rfl rfl t7 fun A26 c27=>?_;rw [←List.reverse_cons];refine hQ (.c2 (.c2 (.c2 (.c2 (.c2 (.c2 (.c2 (Sel.skip (Sel.skip Sel.self))))))))) (bA.drop 0) ?_;refine g6 ?_;refine inc (i+1) ?_;refine g3 ?_;exact oK (i+1,(⟨⟨A23,c24,((q1.words.list.set 0 (([40]:Bs)++x19)).set (q1.words.list.length-1) (x21++([41]:Bs)))++([(verbS x1.it).1]++p1.words.list)⟩,max p1.nest (q1.nest+1),p1.tokens+(verbS x1.it).2+(q1.tokens+2),false⟩:PieceV)::st,_,_) z8 ⟨rfl,rfl,rfl,rfl,rfl,rfl,j0⟩ (.c6 (.c0 (.c2 (Sel.skip (Sel.skip (Sel.skip (Sel.skip (Sel.skip (Sel.skip Sel.self))))))))) ⟨j3 (hinv5.two hx0 (lP ac4 ac5 (pA n7) ‹_› ‹_›) (twoT o7) ‹_› aa4 t8 t8),d8,d9,e6,e7,e8,j0⟩
    refine gW (m:=(⟨⟨A23,c24,((q1.words.list.set 0 (([40]:Bs)++x19)).set (q1.words.list.length-1) (x21++([41]:Bs)))++([(verbS x1.it).1]++p1.words.list)⟩,max p1.nest (q1.nest+1),p1.tokens+(verbS x1.it).2+(q1.tokens+2),false⟩:PieceV)) rfl rfl rfl rfl rfl fun b28=>?_;refine hQ (.c1 (.c1 (.c1 (.c1 (.c1 (.c1 (.c2 (Sel.skip (Sel.skip Sel.self))))))))) (bA.drop 0) ?_;refine one ?_;refine iK hT (k:=((st.length+2)-2)) kT7 rfl rfl rfl rfl rfl rfl rfl rfl rfl w9 ?_;rw [sL];refine hQ (.c2 (.c2 (.c2 (.c2 (.c2 (.c2 (.c2 (Sel.skip (Sel.skip Sel.self))))))))) (bA.drop 0) ?_;refine one ?_;refine gX .head (bW kT1 rfl) rfl rfl rfl rfl rfl rfl rfl t7 fun A29 c30=>?_;rw [←List.reverse_cons];refine hQ (.c2 (.c2 (.c2 (.c2 (.c2 (.c2 (.c2 (Sel.skip (Sel.skip Sel.self))))))))) (bA.drop 0) ?_;refine g6 ?_;refine inc (i+1) ?_;refine g3 ?_;exact oK (i+1,(⟨⟨A23,c24,((q1.words.list.set 0 (([40]:Bs)++x19)).set (q1.words.list.length-1) (x21++([41]:Bs)))++([(verbS x1.it).1]++p1.words.list)⟩,max p1.nest (q1.nest+1),p1.tokens+(verbS x1.it).2+(q1.tokens+2),false⟩:PieceV)::st,_,_) z8 ⟨rfl,rfl,rfl,rfl,rfl,rfl,j0⟩ (.c6 (.c0 (.c2 (Sel.skip (Sel.skip (Sel.skip (Sel.skip (Sel.skip (Sel.skip Sel.self))))))))) ⟨j3 (hinv5.two hx0 (lP ac4 ac5 (pA n7) ‹_› ‹_›) (twoT o7) ‹_› aa4 t8 t8),d8,d9,e6,e7,e8,j0⟩
   refine g8 ?_;refine mQ kT7 (cN kT2) rfl rfl rfl rfl rfl rfl rfl q8 fun A31 c32=>?_;refine g11 ?_;refine inc ((p1.tokens+(verbS x1.it).2)+q1.tokens) ?_;refine g10 ?_;refine cP (z':=(((max p1.nest q1.nest):Nat):Int)) (maxN _ _) ?_;refine g4 ?_;refine mV _ _ (.fl 0 (.fl 1 (.fl 2 (.fl 3 (.fl 4 (.fl 6 (.two 5 7 (.op 7 (.op 8 (.fl 9 .nil))) (.op 5 (.op 8 (.fl 9 .nil)))))))))) bV o5 (.c0 (.c0 (.c0 (.c0 (.c0 (.c0 (.c1 (Sel.skip Sel.self)))))))) bA.self ?_;refine g3 ?_;refine cP (z':=(((st.length+2):Nat):Int)) o6 ?_;refine g2 ?_;refine inc ((st.length+2)-2) ?_;refine one ?_;refine jP (o:=_) (o':=_) rfl rfl ?_ ?_
   ·refine iK hT (k:=((st.length+2)-2)) kT6 rfl rfl rfl rfl rfl rfl rfl rfl rfl w9 ?_;rw [sL];refine hQ (.c1 (.c1 (.c1 (.c1 (.c1 (.c1 (.c1 (Sel.skip Sel.self)))))))) (bA.drop 0) ?_;refine one ?_;refine gW (m:=(⟨⟨A31,c32,q1.words.list++([(verbS x1.it).1]++p1.words.list)⟩,max p1.nest q1.nest,p1.tokens+(verbS x1.it).2+q1.tokens,false⟩:PieceV)) rfl rfl rfl rfl rfl fun b33=>?_;refine hQ (.c2 (.c2 (.c2 (.c2 (.c2 (.c2 (.c2 (Sel.skip (Sel.skip Sel.self))))))))) (bA.drop 0) ?_;refine one ?_;refine gX kT1 (bW .head rfl) rfl rfl rfl rfl rfl rfl rfl t7 fun A34 c35=>?_;rw [←List.reverse_cons];refine hQ (.c2 (.c2 (.c2 (.c2 (.c2 (.c2 (.c2 (Sel.skip (Sel.skip Sel.self))))))))) (bA.drop 0) ?_;refine g6 ?_;refine inc (i+1) ?_;refine g3 ?_;exact oK (i+1,(⟨⟨A31,c32,q1.words.list++([(verbS x1.it).1]++p1.words.list)⟩,max p1.nest q1.nest,p1.tokens+(verbS x1.it).2+q1.tokens,false⟩:PieceV)::st,_,_) z8 ⟨rfl,rfl,rfl,rfl,rfl,rfl,j0⟩ (.c6 (.c0 (.c2 (Sel.skip (Sel.skip (Sel.skip (Sel.skip (Sel.skip (Sel.skip Sel.self))))))))) ⟨j3 (hinv5.two hx0 (lP ac4 ac5 (pA n7) ‹_› ‹_›) (twoT o7) ‹_› u5 u5 u5),d8,d9,e6,e7,e8,j0⟩
   refine gW (m:=(⟨⟨A31,c32,q1.words.list++([(verbS x1.it).1]++p1.words.list)⟩,max p1.nest q1.nest,p1.tokens+(verbS x1.it).2+q1.tokens,false⟩:PieceV)) rfl rfl rfl rfl rfl fun b36=>?_;refine hQ (.c1 (.c1 (.c1 (.c1 (.c1 (.c1 (.c2 (Sel.skip (Sel.skip Sel.self))))))))) (bA.drop 0) ?_;refine one ?_;refine iK hT (k:=((st.length+2)-2)) kT7 rfl rfl rfl rfl rfl rfl rfl rfl rfl w9 ?_;rw [sL];refine hQ (.c2 (.c2 (.c2 (.c2 (.c2 (.c2 (.c2 (Sel.skip (Sel.skip Sel.self))))))))) (bA.drop 0) ?_;refine one ?_;refine gX .head (bW kT1 rfl) rfl rfl rfl rfl rfl rfl rfl t7 fun A37 c38=>?_;rw [←List.reverse_cons];refine hQ (.c2 (.c2 (.c2 (.c2 (.c2 (.c2 (.c2 (Sel.skip (Sel.skip Sel.self))))))))) (bA.drop 0) ?_;refine g6 ?_;refine inc (i+1) ?_;refine g3 ?_;exact oK (i+1,(⟨⟨A31,c32,q1.words.list++([(verbS x1.it).1]++p1.words.list)⟩,max p1.nest q1.nest,p1.tokens+(verbS x1.it).2+q1.tokens,false⟩:PieceV)::st,_,_) z8 ⟨rfl,rfl,rfl,rfl,rfl,rfl,j0⟩ (.c6 (.c0 (.c2 (Sel.skip (Sel.skip (Sel.skip (Sel.skip (Sel.skip (Sel.skip Sel.self))))))))) ⟨j3 (hinv5.two hx0 (lP ac4 ac5 (pA n7) ‹_› ‹_›) (twoT o7) ‹_› u5 u5 u5),d8,d9,e6,e7,e8,j0⟩
  refine g6 ?_;refine fN (fun hc54=>?_) fun hc54=>?_
  ·refine g11 ?_;refine jX (fun hg58=>?_) fun hg58=>?_
   ·refine g37 ?_;have hr:=hR.symm.trans (hinv5.fail hx0 o0);subst hr;exact rs2 () trivial
   refine g5 ?_;refine jX (fun hg63=>?_) fun hg63=>?_
   ·refine g32 ?_;have hr:=hR.symm.trans (hinv5.fail hx0 o0);subst hr;exact rs2 () trivial
   refine g6 ?_;refine jX (fun hg69=>?_) fun hg69=>?_
   ·refine g26 ?_;have hr:=hR.symm.trans (hinv5.fail hx0 o0);subst hr;exact rs2 () trivial
   refine g5 ?_;refine cI (fun hg74=>?_) (fun hg74=>?_)
   ·have hg74:x1.name≠([]:Bs):=fun h=>by rw [h] at hg74;first | (simp at hg74;done) | exact absurd hg74 o9
    refine g21 ?_;have hr:=hR.symm.trans (hinv5.fail hx0 o0);subst hr;exact rs2 () trivial
   have hg74:x1.name=([]:Bs):=eq_of_beq (zM hg74);refine g2 ?_;refine cP (z':=((st.length:Nat):Int)) (congrArg Nat.cast List.length_reverse) ?_;refine g5 ?_;refine dJ (fun hc79=>?_) fun hc79=>?_
   ·refine g13 ?_;have hr:=hR.symm.trans (hinv5.fail hx0 o0);subst hr;exact rs2 () trivial
   refine g6 ?_;refine bD func129 (bFl b r1 r2 p G m c x1) rfl rfl (.c1 .nil) ⟨d8,d9,j0⟩ fun _=>?_;refine g14 ?_;refine jA (fun hc87=>?_) fun hc87=>?_
   ·have hc87:(verbS x1.it).1=([]:Bs):=eq_of_beq hc87;refine g13 ?_;have hr:=hR.symm.trans (hinv5.fail hx0 (iR r7 (.inr (.inr (.inr (.inr ‹_›))))));subst hr;exact rs2 () trivial
   have hc87:(verbS x1.it).1≠([]:Bs):=fun h=>absurd (beq_iff_eq.2 h) ae0;refine g3 ?_;obtain⟨p1,q1,st,rfl⟩:=cons2_of (l:=st) n7;have hk2:=hinv5.ok q1 o6;have hn2:=hinv5.nest q1 o6;have hk1:=hinv5.ok p1 o6;have hn1:=hinv5.nest p1 o6;simp only [List.map_cons,List.sum_cons] at hsum;simp only [List.length_cons] at hstl;have hw1:=tQ p1.words.list;have hk1b:=hk1.2;have hw2:=tQ q1.words.list;have hk2b:=hk2.2;rw [show bLg (p1::q1::st)=bRy p1::bRy q1::bLg st from rfl];refine g4 ?_;refine cP (z':=(((st.length+2):Nat):Int)) o6 ?_;refine one ?_;refine inc ((st.length+2)-1) ?_;refine ss (cF hT (k:=((st.length+2)-1)) (cN kT2) rfl rfl rfl rfl rfl rfl rfl ac9) ?_;refine ss (fJ hT (dQ.knows (cN kT2) (k:=((st.length+2)-1)) (x:=p1) bMu.1 0) rfl rfl rfl rfl rfl) ?_;refine j6 nV fun b39=>?_;refine g9 ?_;refine inc (p1.tokens+(verbS x1.it).2) ?_;refine g13 ?_;refine jW (m:=(verbS x1.it).1) rfl rfl rfl rfl rfl fun b40=>?_;refine bR (E:=nM) (xs:=[(verbS x1.it).1]) .head q7 ?_;refine g2 ?_;refine mQ .head (cN kT5) rfl rfl rfl rfl rfl rfl rfl q8 fun A41 c42=>?_;refine g9 ?_;refine bM (t':=true) o9 ?_;refine g8 ?_;refine cP (z':=(((st.length+2):Nat):Int)) o6 ?_;refine one ?_;refine inc ((st.length+2)-2) ?_;refine ss (cF hT (k:=((st.length+2)-2)) (cN kT4) rfl rfl rfl rfl rfl rfl rfl ac9) ?_;refine ss (fJ hT (dQ.knows (cN kT4) (k:=((st.length+2)-2)) (x:=q1) bMu.2 0) rfl rfl rfl rfl rfl) ?_;refine j6 nV fun b43=>?_;refine g11 ?_;refine jJ (fun hc116=>?_) fun hc116=>?_
   ·refine cO ?_;have hq0:=List.length_pos_iff.2 hk2.1;refine lC 8 _ _ [(true,0),(true,1),(true,2),(true,3),(true,4),(true,5),(true,6),(true,7)] bV o5 (.c0 (.c0 (.c0 (.c0 (.c0 (.c0 (.c0 (.cons .head Sel.self)))))))) bA.self ?_;refine g4 ?_;obtain⟨x44,hx45⟩:=gx q1.words.list 0;refine stL rfl (ixs 0) ?_;refine stL rfl (fL hx45 0) ?_;have hm0:=bMy hx45;refine stL rfl (jF rfl rfl rfl q9) ?_;refine stL rfl (ixs 0) ?_;refine one ?_;refine fH hT (k:=0) (fo:=0) (y':=(([40]:Bs)++x44)) kT7 rfl rfl rfl rfl rfl rfl rfl rfl rfl hx45 rfl ?_;refine g9 ?_;refine cP (z':=((q1.words.list.length:Nat):Int)) (rfl) ?_;refine one ?_;refine inc (q1.words.list.length-1) ?_;obtain⟨x46,hx47⟩:=gx (q1.words.list.set 0 (([40]:Bs)++x44)) (q1.words.list.length-1) q8;refine ss (cF hT (k:=(q1.words.list.length-1)) (cN .head) rfl rfl rfl rfl rfl o6 rfl q8) ?_;refine ss (fL hx47 0) ?_;have hm1:=bMy hx47;have hm2:=wsz_set (v:=[40]++x44) hx45;simp only [List.length_append,List.length_cons,List.length_nil] at hm2;refine ss (jF rfl rfl rfl q9) ?_;refine ss (cF hT (k:=(q1.words.list.length-1)) (cN .head) rfl rfl rfl rfl rfl o6 rfl q8) ?_;refine fH hT (k:=(q1.words.list.length-1)) (fo:=0) (y':=(x46++([41]:Bs))) .head rfl rfl rfl rfl rfl rfl rfl rfl rfl hx47 rfl ?_;refine g7 ?_;refine inc (q1.nest+1) ?_;refine g8 ?_;refine inc (q1.tokens+2) ?_;refine g5 ?_;have hbr:=brk_set hx45 hx47;refine g5 ?_;refine mQ kT1 (cN kT3) rfl rfl rfl rfl rfl rfl rfl q8 fun A48 c49=>?_;refine g11 ?_;refine inc ((p1.tokens+(verbS x1.it).2)+(q1.tokens+2)) ?_;refine g10 ?_;refine cP (z':=(((max p1.nest (q1.nest+1)):Nat):Int)) (maxN _ _) ?_;refine g4 ?_;refine mV _ _ (.fl 0 (.fl 1 (.fl 2 (.fl 3 (.fl 4 (.fl 6 (.two 5 7 (.op 7 (.op 8 (.fl 9 .nil))) (.op 5 (.op 8 (.fl 9 .nil)))))))))) bV o5 (.c0 (.c0 (.c0 (.c0 (.c0 (.c0 (.c1 (Sel.skip Sel.self)))))))) bA.self ?_;refine g3 ?_;refine cP (z':=(((st.length+2):Nat):Int)) o6 ?_;refine g2 ?_;refine inc ((st.length+2)-2) ?_;refine one ?_;refine jP (o:=_) (o':=_) rfl rfl ?_ ?_
    ·refine iK hT (k:=((st.length+2)-2)) kT6 rfl rfl rfl rfl rfl rfl rfl rfl rfl w9 ?_;rw [sL];refine hQ (.c1 (.c1 (.c1 (.c1 (.c1 (.c1 (.c1 (Sel.skip Sel.self)))))))) (bA.drop 0) ?_;refine one ?_;refine gW (m:=(⟨⟨A48,c49,((q1.words.list.set 0 (([40]:Bs)++x44)).set (q1.words.list.length-1) (x46++([41]:Bs)))++([(verbS x1.it).1]++p1.words.list)⟩,max p1.nest (q1.nest+1),p1.tokens+(verbS x1.it).2+(q1.tokens+2),false⟩:PieceV)) rfl rfl rfl rfl rfl fun b50=>?_;refine hQ (.c2 (.c2 (.c2 (.c2 (.c2 (.c2 (.c2 (Sel.skip (Sel.skip Sel.self))))))))) (bA.drop 0) ?_;refine one ?_;refine gX kT1 (bW .head rfl) rfl rfl rfl rfl rfl rfl rfl t7 fun A51 c52=>?_;rw [←List.reverse_cons];refine hQ (.c2 (.c2 (.c2 (.c2 (.c2 (.c2 (.c2 (Sel.skip (Sel.skip Sel.self))))))))) (bA.drop 0) ?_;refine g6 ?_;refine inc (i+1) ?_;refine g3 ?_;exact oK (i+1,(⟨⟨A48,c49,((q1.words.list.set 0 (([40]:Bs)++x44)).set (q1.words.list.length-1) (x46++([41]:Bs)))++([(verbS x1.it).1]++p1.words.list)⟩,max p1.nest (q1.nest+1),p1.tokens+(verbS x1.it).2+(q1.tokens+2),false⟩:PieceV)::st,_,_) z8 ⟨rfl,rfl,rfl,rfl,rfl,rfl,j0⟩ (.c6 (.c0 (.c2 (Sel.skip (Sel.skip (Sel.skip (Sel.skip (Sel.skip (Sel.skip Sel.self))))))))) ⟨j3 (hinv5.two hx0 (lP ac4 ac5 (pA n7) ‹_› ‹_›) (twoT o7) ‹_› aa4 t8 t8),d8,d9,e6,e7,e8,j0⟩
    refine gW (m:=(⟨⟨A48,c49,((q1.words.list.set 0 (([40]:Bs)++x44)).set (q1.words.list.length-1) (x46++([41]:Bs)))++([(verbS x1.it).1]++p1.words.list)⟩,max p1.nest (q1.nest+1),p1.tokens+(verbS x1.it).2+(q1.tokens+2),false⟩:PieceV)) rfl rfl rfl rfl rfl fun b53=>?_;refine hQ (.c1 (.c1 (.c1 (.c1 (.c1 (.c1 (.c2 (Sel.skip (Sel.skip Sel.self))))))))) (bA.drop 0) ?_;refine one ?_;refine iK hT (k:=((st.length+2)-2)) kT7 rfl rfl rfl rfl rfl rfl rfl rfl rfl w9 ?_;rw [sL];refine hQ (.c2 (.c2 (.c2 (.c2 (.c2 (.c2 (.c2 (Sel.skip (Sel.skip Sel.self))))))))) (bA.drop 0) ?_;refine one ?_;refine gX .head (bW kT1 rfl) rfl rfl rfl rfl rfl rfl rfl t7 fun A54 c55=>?_;rw [←List.reverse_cons];refine hQ (.c2 (.c2 (.c2 (.c2 (.c2 (.c2 (.c2 (Sel.skip (Sel.skip Sel.self))))))))) (bA.drop 0) ?_;refine g6 ?_;refine inc (i+1) ?_;refine g3 ?_;exact oK (i+1,(⟨⟨A48,c49,((q1.words.list.set 0 (([40]:Bs)++x44)).set (q1.words.list.length-1) (x46++([41]:Bs)))++([(verbS x1.it).1]++p1.words.list)⟩,max p1.nest (q1.nest+1),p1.tokens+(verbS x1.it).2+(q1.tokens+2),false⟩:PieceV)::st,_,_) z8 ⟨rfl,rfl,rfl,rfl,rfl,rfl,j0⟩ (.c6 (.c0 (.c2 (Sel.skip (Sel.skip (Sel.skip (Sel.skip (Sel.skip (Sel.skip Sel.self))))))))) ⟨j3 (hinv5.two hx0 (lP ac4 ac5 (pA n7) ‹_› ‹_›) (twoT o7) ‹_› aa4 t8 t8),d8,d9,e6,e7,e8,j0⟩
   refine g8 ?_;refine mQ kT7 (cN kT2) rfl rfl rfl rfl rfl rfl rfl q8 fun A56 c57=>?_;refine g11 ?_;refine inc ((p1.tokens+(verbS x1.it).2)+q1.tokens) ?_;refine g10 ?_;refine cP (z':=(((max p1.nest q1.nest):Nat):Int)) (maxN _ _) ?_;refine g4 ?_;refine mV _ _ (.fl 0 (.fl 1 (.fl 2 (.fl 3 (.fl 4 (.fl 6 (.two 5 7 (.op 7 (.op 8 (.fl 9 .nil))) (.op 5 (.op 8 (.fl 9 .nil)))))))))) bV o5 (.c0 (.c0 (.c0 (.c0 (.c0 (.c0 (.c1 (Sel.skip Sel.self)))))))) bA.self ?_;refine g3 ?_;refine cP (z':=(((st.length+2):Nat):Int)) o6 ?_;refine g2 ?_;refine inc ((st.length+2)-2) ?_;refine one ?_;refine jP (o:=_) (o':=_) rfl rfl ?_ ?_
   ·refine iK hT (k:=((st.length+2)-2)) kT6 rfl rfl rfl rfl rfl rfl rfl rfl rfl w9 ?_;rw [sL];refine hQ (.c1 (.c1 (.c1 (.c1 (.c1 (.c1 (.c1 (Sel.skip Sel.self)))))))) (bA.drop 0) ?_;refine one ?_;refine gW (m:=(⟨⟨A56,c57,q1.words.list++([(verbS x1.it).1]++p1.words.list)⟩,max p1.nest q1.nest,p1.tokens+(verbS x1.it).2+q1.tokens,false⟩:PieceV)) rfl rfl rfl rfl rfl fun b58=>?_;refine hQ (.c2 (.c2 (.c2 (.c2 (.c2 (.c2 (.c2 (Sel.skip (Sel.skip Sel.self))))))))) (bA.drop 0) ?_;refine one ?_;refine gX kT1 (bW .head rfl) rfl rfl rfl rfl rfl rfl rfl t7 fun A59 c60=>?_;rw [←List.reverse_cons];refine hQ (.c2 (.c2 (.c2 (.c2 (.c2 (.c2 (.c2 (Sel.skip (Sel.skip Sel.self))))))))) (bA.drop 0) ?_;refine g6 ?_;refine inc (i+1) ?_;refine g3 ?_;exact oK (i+1,(⟨⟨A56,c57,q1.words.list++([(verbS x1.it).1]++p1.words.list)⟩,max p1.nest q1.nest,p1.tokens+(verbS x1.it).2+q1.tokens,false⟩:PieceV)::st,_,_) z8 ⟨rfl,rfl,rfl,rfl,rfl,rfl,j0⟩ (.c6 (.c0 (.c2 (Sel.skip (Sel.skip (Sel.skip (Sel.skip (Sel.skip (Sel.skip Sel.self))))))))) ⟨j3 (hinv5.two hx0 (lP ac4 ac5 (pA n7) ‹_› ‹_›) (twoT o7) ‹_› u5 u5 u5),d8,d9,e6,e7,e8,j0⟩
   refine gW (m:=(⟨⟨A56,c57,q1.words.list++([(verbS x1.it).1]++p1.words.list)⟩,max p1.nest q1.nest,p1.tokens+(verbS x1.it).2+q1.tokens,false⟩:PieceV)) rfl rfl rfl rfl rfl fun b61=>?_;refine hQ (.c1 (.c1 (.c1 (.c1 (.c1 (.c1 (.c2 (Sel.skip (Sel.skip Sel.self))))))))) (bA.drop 0) ?_;refine one ?_;refine iK hT (k:=((st.length+2)-2)) kT7 rfl rfl rfl rfl rfl rfl rfl rfl rfl w9 ?_;rw [sL];refine hQ (.c2 (.c2 (.c2 (.c2 (.c2 (.c2 (.c2 (Sel.skip (Sel.skip Sel.self))))))))) (bA.drop 0) ?_;refine one ?_;refine gX .head (bW kT1 rfl) rfl rfl rfl rfl rfl rfl rfl t7 fun A62 c63=>?_;rw [←List.reverse_cons];refine hQ (.c2 (.c2 (.c2 (.c2 (.c2 (.c2 (.c2 (Sel.skip (Sel.skip Sel.self))))))))) (bA.drop 0) ?_;refine g6 ?_;refine inc (i+1) ?_;refine g3 ?_;exact oK (i+1,(⟨⟨A56,c57,q1.words.list++([(verbS x1.it).1]++p1.words.list)⟩,max p1.nest q1.nest,p1.tokens+(verbS x1.it).2+q1.tokens,false⟩:PieceV)::st,_,_) z8 ⟨rfl,rfl,rfl,rfl,rfl,rfl,j0⟩ (.c6 (.c0 (.c2 (Sel.skip (Sel.skip (Sel.skip (Sel.skip (Sel.skip (Sel.skip Sel.self))))))))) ⟨j3 (hinv5.two hx0 (lP ac4 ac5 (pA n7) ‹_› ‹_›) (twoT o7) ‹_› u5 u5 u5),d8,d9,e6,e7,e8,j0⟩
  refine g9 ?_;refine jX (fun hg58=>?_) fun hg58=>?_
  ·refine g37 ?_;have hr:=hR.symm.trans (hinv5.fail hx0 o0);subst hr;exact rs2 () trivial
  refine g5 ?_;refine jX (fun hg63=>?_) fun hg63=>?_
  ·refine g32 ?_;have hr:=hR.symm.trans (hinv5.fail hx0 o0);subst hr;exact rs2 () trivial
  refine g6 ?_;refine jX (fun hg69=>?_) fun hg69=>?_
  ·refine g26 ?_;have hr:=hR.symm.trans (hinv5.fail hx0 o0);subst hr;exact rs2 () trivial
  refine g5 ?_;refine cI (fun hg74=>?_) (fun hg74=>?_)
  ·have hg74:x1.name≠([]:Bs):=fun h=>by rw [h] at hg74;first | (simp at hg74;done) | exact absurd hg74 o9
   refine g21 ?_;have hr:=hR.symm.trans (hinv5.fail hx0 o0);subst hr;exact rs2 () trivial
  have hg74:x1.name=([]:Bs):=eq_of_beq (zM hg74);refine g2 ?_;refine cP (z':=((st.length:Nat):Int)) (congrArg Nat.cast List.length_reverse) ?_;refine g5 ?_;refine dJ (fun hc79=>?_) fun hc79=>?_
  ·refine g13 ?_;have hr:=hR.symm.trans (hinv5.fail hx0 o0);subst hr;exact rs2 () trivial
  refine g6 ?_;refine bD func129 (bFl b r1 r2 p G m c x1) rfl rfl (.c1 .nil) ⟨d8,d9,j0⟩ fun _=>?_;refine g14 ?_;refine jA (fun hc87=>?_) fun hc87=>?_
  ·have hc87:(verbS x1.it).1=([]:Bs):=eq_of_beq hc87;refine g13 ?_;have hr:=hR.symm.trans (hinv5.fail hx0 (iR r7 (.inr (.inr (.inr (.inr ‹_›))))));subst hr;exact rs2 () trivial
  have hc87:(verbS x1.it).1≠([]:Bs):=fun h=>absurd (beq_iff_eq.2 h) ae0;refine g3 ?_;obtain⟨p1,st,rfl⟩:=cons_of (l:=st) n7;have hk1:=hinv5.ok p1 o6;have hn1:=hinv5.nest p1 o6;simp only [List.map_cons,List.sum_cons] at hsum;simp only [List.length_cons] at hstl;have hw1:=tQ p1.words.list;have hk1b:=hk1.2;rw [show bLg (p1::st)=bRy p1::bLg st from rfl];refine g4 ?_;refine cP (z':=(((st.length+1):Nat):Int)) o6 ?_;refine one ?_;refine inc ((st.length+1)-1) ?_;refine ss (cF hT (k:=((st.length+1)-1)) (cN kT2) rfl rfl rfl rfl rfl rfl rfl ac9) ?_;refine ss (lS rev_one 0) ?_;refine j6 nV fun b64=>?_;refine g9 ?_;refine inc (p1.tokens+(verbS x1.it).2) ?_;refine g13 ?_;refine jW (m:=(verbS x1.it).1) rfl rfl rfl rfl rfl fun b65=>?_;refine bR (E:=nM) (xs:=[(verbS x1.it).1]) .head q7 ?_;refine g2 ?_;refine mQ .head (cN kT5) rfl rfl rfl rfl rfl rfl rfl q8 fun A66 c67=>?_;refine g9 ?_;refine bM (t':=false) o9 ?_;refine g5 ?_;refine mV _ _ (.fl 0 (.fl 1 (.fl 2 (.fl 3 (.fl 4 (.fl 6 (.two 5 7 (.op 7 (.op 8 (.fl 9 .nil))) (.op 5 (.op 8 (.fl 9 .nil)))))))))) bV o5 (.c0 (.c0 (.c0 (.c0 (.c1 (Sel.skip Sel.self)))))) bA.self ?_;refine g3 ?_;refine cP (z':=(((st.length+1):Nat):Int)) o6 ?_;refine g2 ?_;refine inc ((st.length+1)-1) ?_;refine one ?_;refine jP (o:=_) (o':=_) rfl rfl ?_ ?_
  ·refine iK hT (k:=((st.length+1)-1)) kT4 rfl rfl rfl rfl rfl rfl rfl rfl rfl w9 ?_;rw [rev_cut1];refine hQ (.c1 (.c1 (.c1 (.c1 (.c1 (Sel.skip Sel.self)))))) (bA.drop 0) ?_;refine one ?_;refine gW (m:=(⟨⟨A66,c67,[(verbS x1.it).1]++p1.words.list⟩,p1.nest,p1.tokens+(verbS x1.it).2,false⟩:PieceV)) rfl rfl rfl rfl rfl fun b68=>?_;refine hQ (.c2 (.c2 (.c2 (.c2 (.c2 (Sel.skip (Sel.skip Sel.self))))))) (bA.drop 0) ?_;refine one ?_;refine gX kT1 (bW .head rfl) rfl rfl rfl rfl rfl rfl rfl t7 fun A69 c70=>?_;rw [←List.reverse_cons];refine hQ (.c2 (.c2 (.c2 (.c2 (.c2 (Sel.skip (Sel.skip Sel.self))))))) (bA.drop 0) ?_;refine g6 ?_;refine inc (i+1) ?_;refine g3 ?_;exact oK (i+1,(⟨⟨A66,c67,[(verbS x1.it).1]++p1.words.list⟩,p1.nest,p1.tokens+(verbS x1.it).2,false⟩:PieceV)::st,_,_) z8 ⟨rfl,rfl,rfl,rfl,rfl,rfl,j0⟩ (.c4 (.c0 (.c2 (Sel.skip (Sel.skip (Sel.skip (Sel.skip Sel.self))))))) ⟨j3 (hinv5.one hx0 (lP ac4 ac5 (pA n7) ‹_› ‹_›) (twoN ‹_› ‹_›) ‹_›),d8,d9,e6,e7,e8,j0⟩
  refine gW (m:=(⟨⟨A66,c67,[(verbS x1.it).1]++p1.words.list⟩,p1.nest,p1.tokens+(verbS x1.it).2,false⟩:PieceV)) rfl rfl rfl rfl rfl fun b71=>?_;refine hQ (.c1 (.c1 (.c1 (.c1 (.c2 (Sel.skip (Sel.skip Sel.self))))))) (bA.drop 0) ?_;refine one ?_;refine iK hT (k:=((st.length+1)-1)) kT5 rfl rfl rfl rfl rfl rfl rfl rfl rfl w9 ?_;rw [rev_cut1];refine hQ (.c2 (.c2 (.c2 (.c2 (.c2 (Sel.skip (Sel.skip Sel.self))))))) (bA.drop 0) ?_;refine one ?_;refine gX .head (bW kT1 rfl) rfl rfl rfl rfl rfl rfl rfl t7 fun A72 c73=>?_;rw [←List.reverse_cons];refine hQ (.c2 (.c2 (.c2 (.c2 (.c2 (Sel.skip (Sel.skip Sel.self))))))) (bA.drop 0) ?_;refine g6 ?_;refine inc (i+1) ?_;refine g3 ?_;exact oK (i+1,(⟨⟨A66,c67,[(verbS x1.it).1]++p1.words.list⟩,p1.nest,p1.tokens+(verbS x1.it).2,false⟩:PieceV)::st,_,_) z8 ⟨rfl,rfl,rfl,rfl,rfl,rfl,j0⟩ (.c4 (.c0 (.c2 (Sel.skip (Sel.skip (Sel.skip (Sel.skip Sel.self))))))) ⟨j3 (hinv5.one hx0 (lP ac4 ac5 (pA n7) ‹_› ‹_›) (twoN ‹_› ‹_›) ‹_›),d8,d9,e6,e7,e8,j0⟩
 refine g10 ?_;refine cP (z':=((st.length:Nat):Int)) (congrArg Nat.cast List.length_reverse) ?_;refine g2 ?_;refine bHo (fun hg174=>?_) fun hg174=>?_
 ·refine g25 ?_;have hr:=hR.symm.trans ((hinv5.done ab3 ab3).trans (not_one q8));subst hr;exact rs2 () trivial
 obtain⟨p,rfl⟩:=one_of (l:=st) n7;simp only [List.map_cons,List.map_nil,List.sum_cons,List.sum_nil] at hsum;rw [show bLg [p]=[bRy p] from rfl];refine one ?_;refine ss (cF hT (k:=0) (cN kT1) rfl rfl rfl rfl rfl rfl rfl o6) ?_;refine one ?_;refine ss (j7 hT (dQ.knows (cN kT1) (k:=0) (x:=p) rfl 2)) ?_;refine g4 ?_;refine jX (fun hg182=>?_) fun hg182=>?_
 ·refine g17 ?_;have hr:=hR.symm.trans ((hinv5.done ab3 ab3).trans (if_pos (show most<p.tokens∨32<p.nest by omega)));subst hr;exact rs2 () trivial
 refine one ?_;refine ss (cF hT (k:=0) (cN kT1) rfl rfl rfl rfl rfl rfl rfl o6) ?_;refine one ?_;refine ss (j7 hT (dQ.knows (cN kT1) (k:=0) (x:=p) rfl 1)) ?_;refine g4 ?_;refine dJ (fun hc188=>?_) fun hc188=>?_
 ·refine g8 ?_;have hr:=hR.symm.trans ((hinv5.done ab3 ab3).trans (if_pos (show most<p.tokens∨32<p.nest by omega)));subst hr;exact rs2 () trivial
 refine g5 ?_;refine ss (cF hT (k:=0) (cN kT1) rfl rfl rfl rfl rfl rfl rfl o6) ?_;refine one ?_;refine ss (j7 hT (dQ.knows (cN kT1) (k:=0) (x:=p) rfl 0)) ?_;refine bX kT2 fun hcap=>bE kT2 ?_;have hjl:=bQi p.words.list;have hok:=hinv5.ok p o6;have hws:=tQ p.words.list;have hok2:=hok.2;refine bD func130 (join_spec _ _ _ hcap n7 n7) rfl rfl .nil ⟨d7,j0⟩ fun _=>?_;refine g5 ?_;have hr:=hR.symm.trans ((hinv5.done ab3 ab3).trans (if_neg (show ¬(most<p.tokens∨32<p.nest) by omega)));subst hr;exact rs2 () trivial
theorem wR:dD []=false:=by decide+kernel
structure uN (p:ProgV):Prop where
 input: ∀x∈p.inputs.list,x.name.length≤140737488355328∧ ∀d∈x.sides.list,d.name.length≤140737488355328∧ -9223372036854775808≤d.n∧d.n≤9223372036854775807
 line: ∀x∈p.lines.list,x.name.length≤140737488355328∧ ∀it∈x.items.list,it.name.length≤140737488355328∧ ∀z∈it.nums.list,-9223372036854775808≤z∧z≤9223372036854775807
def qJ (p:gN)(i:Nat)(out:Bs):Bs×Bool:=match mU (p.inputs.drop i) out with
 | (o,false)=>(o,false)
 | (o,true)=>fB p.lines o
section
variable {p : gN} {i : Nat} {out : Bs} {x : gM} {t : Bs}
theorem bFv(h:p.lines=[]∨64<p.inputs.length+p.lines.length):cV p=([],false):=by rw [cV,if_pos h]
theorem prog_start(h: ¬(p.lines=[]∨64<p.inputs.length+p.lines.length)):cV p=qJ p 0 []:=by rw [cV,if_neg h];rfl
theorem bCy(hx:p.inputs[i]?=some x)(hn:qD x=none):qJ p i out=(out,false):=by rw [qJ,jI hx,mU,hn]
theorem prog_step(hx:p.inputs[i]?=some x)(hn:qD x=some t):qJ p i out=qJ p (i+1) (out++(([105,110,32]++t)++[10])):=by rw [qJ,jI hx,mU,hn];rfl
theorem prog_lines(hi:p.inputs.length≤i):qJ p i out=fB (p.lines.drop 0) out:=by rw [qJ,List.drop_of_length_le hi];rfl
end
section
variable {l : List mT} {i : Nat} {out : Bs} {x : mT} {t : Bs}
theorem bVh(hi:l.length≤i):fB (l.drop i) out=(out,true):=by rw [List.drop_of_length_le hi];rfl
theorem bFf(hx:l[i]?=some x)(hi:i+1=l.length):l.drop i=[x]:=by rw [jI hx,List.drop_of_length_le n7]
theorem bFm(hx:l[i]?=some x)(hi:i+1<l.length): ∃y r,l.drop (i+1)=y::r∧l.drop i=x::y::r:=by
 have:l[i+1]?=some l[i+1]:=List.getElem?_eq_getElem hi;exact⟨_,_,jI this,by rw [jI hx,jI this]⟩
theorem uT(hx:l[i]?=some x)(he:gH x.items (if i+1=l.length then 255 else 254)=none):fB (l.drop i) out=(out,false):=by
 have hl:=(List.getElem?_eq_some_iff.1 hx).1
 by_cases hi:i+1=l.length
 ·rw [if_pos hi] at he;rw [bFf hx hi,fB,he]
 ·rw [if_neg hi] at he;obtain⟨y,r,_,h2⟩:=bFm hx n7;rw [h2,fB,he];exact fun h=>by cases h
theorem sE(hx:l[i]?=some x)(hi:i+1=l.length)(hn:x.name≠[]){t:Bs}(he:gH x.items 255=some t):fB (l.drop i) out=(out,false):=by
 rw [bFf hx hi,fB,he];simp [hn]
theorem nT(hx:l[i]?=some x)(hi:i+1<l.length)(hn:dD x.name=false){t:Bs}(he:gH x.items 254=some t):fB (l.drop i) out=(out,false):=by
 obtain⟨y,r,_,h2⟩:=bFm hx hi;rw [h2,fB,he]
 ·simp [hn]
 ·exact fun h=>by cases h
theorem lines_out(hx:l[i]?=some x)(hi:i+1=l.length)(hn:x.name=[]){t:Bs}(he:gH x.items 255=some t):fB (l.drop i) out=fB (l.drop (i+1)) (out++(([111,117,116,32]++t)++[10])):=by
 rw [bFf hx hi,fB,he,bVh n7];simp [hn]
theorem lines_step(hx:l[i]?=some x)(hi:i+1<l.length)(hn:dD x.name=true){t:Bs}(he:gH x.items 254=some t):fB (l.drop i) out=fB (l.drop (i+1)) (out++(((x.name++[58,32])++t)++[10])):=by
 obtain⟨y,r,h1,h2⟩:=bFm hx hi;rw [h2,h1,fB,he]
 ·simp [hn]
 ·exact fun h=>by cases h
end
theorem step_okp{st st':List fC}{x:cT}(hz: ∀z∈x.nums,-9223372036854775808≤z∧z≤9223372036854775807)(ho: ∀p∈st,p.words≠[]∧wsz p.words≤40*p.tokens)(h:iF st x=some st'): ∀p∈st',p.words≠[]∧wsz p.words≤40*p.tokens:=by
 unfold iF at h;split at h
 ·cases hq:operandS x with
  | none=>rw [hq] at h;cases h
  | some q=>
   rw [hq] at h;injection h with h
   subst h;intro p hp
   rcases List.mem_cons.1 hp with rfl | hp
   ·exact⟨(bEo hz hq).1,(bEo hz hq).2.1⟩
   ·exact ho p hp
 ·split at h
  ·cases h
  ·rename_i hn;have hv:(verbS x).1≠[]:=fun e=>hn (.inr (.inr (.inr (.inr e))));obtain⟨v1,_,v3⟩:=bGt x;have v3:=v3 hv;unfold rK at h;split at h
   ·split at h
    ·rename_i p q r;injection h with h
     subst h;have hq:=ho q o6;obtain⟨k1,k2,_,_⟩:=left_ok (q:=⟨⟨none,0,q.words⟩,q.nest,q.tokens,q.plain⟩) hq;have k1:(leftS q).words≠[]:=k1;have k2:wsz (leftS q).words≤40*(leftS q).tokens:=k2;have hp:=ho p o6;intro y hy
     rcases List.mem_cons.1 hy with rfl | hy
     ·refine⟨o6,?_⟩;simp only [bPp,jT];omega
     ·exact ho y ae3
    ·cases h
   ·split at h
    ·rename_i p r;injection h with h
     subst h;have hp:=ho p o6;intro y hy
     rcases List.mem_cons.1 hy with rfl | hy
     ·refine⟨o6,?_⟩;simp only [jT];omega
     ·exact ho y ae3
    ·cases h
theorem bWy: ∀{l:List cT} {st st':List fC},(∀x∈l,∀z∈x.nums,-9223372036854775808≤z∧z≤9223372036854775807)→(∀p∈st,p.words≠[]∧wsz p.words≤40*p.tokens)→fT l st=some st'→ ∀p∈st',p.words≠[]∧wsz p.words≤40*p.tokens
 | [],st,st',_,ho,h=>by
  simp [fT] at h;subst h;exact ho
 | x::r,st,st',hz,ho,h=>by
  rw [fT] at h
  cases h1:iF st x with
  | none=>rw [h1] at h;cases h
  | some s1=>
   rw [h1] at h;exact bWy (fun y hy=>hz y ae3) (step_okp (hz x o6) ho h1) h
theorem bVo{l:List cT}{most:Nat}{t:Bs}(hz: ∀x∈l,∀z∈x.nums,-9223372036854775808≤z∧z≤9223372036854775807)(h:gH l most=some t):t.length≤40*most:=by
 unfold gH at h;split at h
 ·cases h
 ·split at h
  ·rename_i p hp;split at h
   ·cases h
   ·injection h with h
    subst h;have h1:=(bWy hz (fun p hp=>by simp at hp) hp p o6).2;have:=bQi p.words;omega
  ·cases h
section
variable {x : InputV} {j : Nat} {d : jQ} {t : Bs}
theorem bXr(h:dD x.name=false∨4<x.sides.list.length):qD x.inp=none:=by
 rw [qD,if_pos (show dD x.inp.name=false∨4<x.inp.sides.length from h.imp id fun h=>by show 4<(x.sides.list.map jQ.sd).length;rw [List.length_map];exact h)]
theorem input_start(h:dD x.name=true)(h4: ¬4<x.sides.list.length):qD x.inp=lW ((x.sides.list.map jQ.sd).drop 0) x.name:=by
 rw [qD,if_neg]
 ·rfl
 ·rintro(h' | h')
  ·rw [show x.inp.name=x.name from rfl,h] at h';cases h'
  ·rw [show x.inp.sides=x.sides.list.map jQ.sd from rfl,List.length_map] at h';exact h4 h'
theorem sd_at(hd:x.sides.list[j]?=some d):(x.sides.list.map jQ.sd)[j]?=some d.sd:=by rw [List.getElem?_map,hd];rfl
theorem side_num(hd:x.sides.list[j]?=some d)(hn:d.name=[]):lW ((x.sides.list.map jQ.sd).drop j) t=lW ((x.sides.list.map jQ.sd).drop (j+1)) (t++([32]++fY d.n)):=by
 rw [jI (sd_at hd),lW,if_pos (show d.sd.name=[] from hn)];rfl
theorem side_name(hd:x.sides.list[j]?=some d)(hn:d.name≠[])(h0:d.n=0)(hb:dD d.name=true):lW ((x.sides.list.map jQ.sd).drop j) t=lW ((x.sides.list.map jQ.sd).drop (j+1)) (t++([32]++d.name)):=by
 rw [jI (sd_at hd),lW,if_neg (show ¬d.sd.name=[] from hn),if_pos (show d.sd.n=0∧dD d.sd.name=true from ⟨h0,hb⟩)];rfl
theorem side_bad(hd:x.sides.list[j]?=some d)(hn:d.name≠[])(h:d.n≠0∨dD d.name=false):lW ((x.sides.list.map jQ.sd).drop j) t=none:=by
 rw [jI (sd_at hd),lW,if_neg (show ¬d.sd.name=[] from hn),if_neg];rintro⟨h1,h2⟩
 rcases h with h | h
 ·exact h h1
 ·rw [show d.sd.name=d.name from rfl,h] at h2;cases h2
theorem sides_done(hj:x.sides.list.length≤j):lW ((x.sides.list.map jQ.sd).drop j) t=some t:=by
 rw [List.drop_of_length_le (by rw [List.length_map];exact hj)];rfl
end
theorem sT{α β:Type}{f:α→β}{l:List α}{i:Nat}{x:α}(h:l[i]?=some x):(l.map f)[i]?=some (f x):=by rw [List.getElem?_map,h];rfl
theorem bUx{o:Option Bs}(h:o.isSome=true):o=some (o.getD []):=by
 cases o with
 | none=>cases h
 | some x=>rfl
theorem shower_built(r1 r2:Nat):prog.built 154 [(0,.map (some r1)),(1,.map (some r2))]=some #[.map (some r1),.map (some r2),.pointer none,.slice none 0 0]:=n9
theorem yN:(prog.info? 76).bind (·.zero)=some (.agg #[.string (bs []),.int .i64 0]):=n9
theorem bTy(b r1 r2:Nat)(P:ProgV)(hP:uN P)(hl1:P.inputs.list.length≤140737488355328)(hl2:P.lines.list.length≤140737488355328):cM prog 55 [.pointer (some ⟨b,0,none⟩),.agg #[.slice P.inputs.addr P.inputs.list.length P.inputs.cap,.slice P.lines.addr P.lines.list.length P.lines.cap]] [.obj b (.cells [.map (some r1),.map (some r2),.pointer none,.slice none 0 0].toArray 154),pY.row (.slice none 0 0) 5 []] [mapF r1 .u8 (sS false),mapF r2 .u8 (sS true),iW,kR.sl (.slice P.inputs.addr P.inputs.list.length P.inputs.cap) P.inputs.list,jE P.inputs.list,pV.sl (.slice P.lines.addr P.lines.list.length P.lines.cap) P.lines.list,nE P.lines.list] (fun(_:(Option Addr×Nat)×Bool)=> .bool (cV P.pr).2) (fun(x:(Option Addr×Nat)×Bool)=>[.obj b (.cells [.map (some r1),.map (some r2),bTq x.2 b,.slice x.1.1 (cV P.pr).1.length x.1.2].toArray 154),pY.row (.slice x.1.1 (cV P.pr).1.length x.1.2) 5 (cV P.pr).1]) (fun(x:(Option Addr×Nat)×Bool)=>[Fact.pure ((cV P.pr).1=[]→x.1.1=none)]):=by
 have hT:=jS;have hpl:P.pr.lines.length=P.lines.list.length:=List.length_map _;have hpi:P.pr.inputs.length=P.inputs.list.length:=List.length_map _;generalize hR:cV P.pr=r;refine k6 func55 ntmps55 ?_;intro β hM;refine g2 ?_;refine j9 fun b1=>?_;refine g9 ?_;refine cP (z':=(((P.lines.list.length:Nat):Int)-1)) (bEm n7 n7) ?_;refine g9 ?_;refine jX (fun hg23=>?_) fun hg23=>?_
 ·refine g25 ?_;have hr:=hR.symm.trans (bFv ab2);subst hr;exact rs1 ((_,_),false) ⟨j3 (fun _=>rfl),j0⟩
 refine g6 ?_;refine jX (fun hg29=>?_) fun hg29=>?_
 ·refine g19 ?_;have hr:=hR.symm.trans (bFv ab2);subst hr;exact rs1 ((_,_),false) ⟨j3 (fun _=>rfl),j0⟩
 refine g7 ?_;refine inc (64-P.inputs.list.length) ?_;refine g4 ?_;refine dJ (fun hc38=>?_) fun hc38=>?_
 ·refine g7 ?_;have hr:=hR.symm.trans (bFv ab2);subst hr;exact rs1 ((_,_),false) ⟨j3 (fun _=>rfl),j0⟩
 refine g12 ?_;refine cB (ι:=Nat×Bs×Bool×Option Addr×Nat) [(0,_),(3,_),(5,_),(40,_),(41,_)] ⟨rfl,rfl,rfl,rfl,rfl,j0⟩ (fun⟨i,out,u,G,c⟩=>[(42,.int .i64 (i:Nat))]) (fun⟨i,out,u,G,c⟩=>[.obj b (.cells [.map (some r1),.map (some r2),bTq u b,.slice G out.length c].toArray 154),pY.row (.slice G out.length c) 5 out]) (fun⟨i,out,u,G,c⟩=>[Fact.pure (i≤P.inputs.list.length∧cV P.pr=qJ P.pr i out∧(out=[]→G=none)∧out.length≤1000*i)]) (fun⟨i,out,u,G,c⟩=>P.inputs.list.length-i) (0,[],false,none,0) ⟨rfl,j0⟩ (.c1 (.c1 .nil)) ⟨j3 (⟨n7,prog_start (by rintro(h | h);(have h:=congrArg List.length h;rw [hpl,List.length_nil] at h;omega);omega),fun _=>rfl,o6⟩),j0⟩ ?_;rintro⟨i,out,u,G,c⟩;dsimp only;refine bC d7 fun hinv5=>?_;refine g6 ?_;refine dJ (fun hc43=>?_) fun hc43=>?_
 ·refine g6 ?_;obtain⟨x2,hx3⟩:=gx P.inputs.list i;refine ss (ixs i) ?_;refine ss (lS hx3 0) ?_;refine j6 lD fun b4=>?_;refine g5 ?_;have hxi:=hP.input x2 (j4 hx3);have hx0:P.pr.inputs[i]?=some x2.inp:=sT hx3;refine bB (sM x2) (Has.each e8 (j4 hx3)) ?_;refine g3 ?_;refine bD func63 (oE _ hxi.1) rfl rfl .nil ⟨e7,j0⟩ fun _=>?_;refine g2 ?_;refine k_nt (fun hg50=>?_) fun hg50=>?_
  ·refine g20 ?_;have hr:=hR.symm.trans (hinv5.2.1.trans (bCy hx0 (bXr ab5)));subst hr;exact rs1 ((_,_),u) ⟨j3 (hinv5.2.2.1),j0⟩
  refine g7 ?_;refine dJ (fun hc55=>?_) fun hc55=>?_
  ·refine g12 ?_;have hr:=hR.symm.trans (hinv5.2.1.trans (bCy hx0 (bXr ab5)));subst hr;exact rs1 ((_,_),u) ⟨j3 (hinv5.2.2.1),j0⟩
  refine g19 ?_;refine cB (ι:=Nat×Bs) [(0,_),(3,_),(5,_),(40,_),(41,_),(42,_),(51,_),(52,_),(53,_),(54,_),(59,_),(60,_)] ⟨rfl,rfl,rfl,rfl,rfl,rfl,rfl,rfl,rfl,rfl,rfl,rfl,j0⟩ (fun⟨j,text⟩=>[(8,.string (bs text)),(61,.int .i64 (j:Nat))]) (fun _=>[]) (fun⟨j,text⟩=>[Fact.pure (j≤x2.sides.list.length∧lW ((x2.sides.list.map jQ.sd).drop j) text=qD x2.inp∧text.length≤16+30*j)]) (fun⟨j,text⟩=>x2.sides.list.length-j) (0,x2.name) ⟨rfl,rfl,j0⟩ .nil ⟨j3 (⟨n7,(input_start ‹_› n7).symm,by have:=wU ‹dD x2.name=true›;omega⟩),j0⟩ ?_;rintro⟨j,text⟩;dsimp only;refine bC d7 fun hinv11=>?_;refine g6 ?_;refine dJ (fun hc62=>?_) fun hc62=>?_
  ·refine g6 ?_;obtain⟨x5,hx6⟩:=gx x2.sides.list j;refine ss (ixs j) ?_;refine ss (lS hx6 0) ?_;refine j6 yN fun b7=>?_;refine g5 ?_;have hdn:=hxi.2 x5 (j4 hx6);refine g7 ?_;refine jA (fun hc65=>?_) fun hc65=>?_
   ·have hc65:x5.name=([]:Bs):=eq_of_beq hc65;refine g4 ?_;have hsp:=rV hdn.2.1 hdn.2.2;refine bD func93 (bHy _ hdn.2.1 hdn.2.2) rfl rfl .nil ⟨e8,j0⟩ fun _=>?_;refine ss (jF rfl rfl rfl q9) ?_;refine ss (jF rfl rfl rfl q9) ?_;refine g7 ?_;refine inc (j+1) ?_;refine g3 ?_;exact bk2 (j+1,_) ⟨j3 (⟨by dsimp only;omega,hinv11.2.1▸(side_num hx6 ‹_›).symm,by have:=rV hdn.2.1 hdn.2.2;simp;omega⟩),j0⟩
   have hc65:x5.name≠([]:Bs):=fun h=>absurd (beq_iff_eq.2 h) (by rw [show(x5.name==([]:Bs))=false from hc65];simp);refine g6 ?_;refine oX (fun hg79=>?_) fun hg79=>?_
   ·refine g2 ?_;refine bD func63 (oE _ hdn.1) rfl rfl .nil ⟨e8,j0⟩ fun _=>?_;refine g4 ?_;refine jA (fun hc75=>?_) fun hc75=>?_
    ·refine g4 ?_;refine ss (jF rfl rfl rfl q9) ?_;refine ss (jF rfl rfl rfl q9) ?_;refine g7 ?_;refine inc (j+1) ?_;refine g3 ?_;exact bk2 (j+1,_) ⟨j3 (⟨by dsimp only;omega,hinv11.2.1▸(side_name hx6 ‹_› ‹_› ‹_›).symm,by have:=wU ‹dD x5.name=true›;simp;omega⟩),j0⟩
    refine g17 ?_;have hr:=hR.symm.trans (hinv5.2.1.trans (bCy hx0 (hinv11.2.1.symm.trans (side_bad hx6 ‹_› o7))));subst hr;exact rs1 ((_,_),u) ⟨j3 (hinv5.2.2.1),j0⟩
   refine g25 ?_;have hr:=hR.symm.trans (hinv5.2.1.trans (bCy hx0 (hinv11.2.1.symm.trans (side_bad hx6 ‹_› o7))));subst hr;exact rs1 ((_,_),u) ⟨j3 (hinv5.2.2.1),j0⟩
  refine g5 ?_;have hin:=hinv11.2.1.symm.trans (sides_done n7);refine g3 ?_;refine bD func94 (bEs b r1 r2 u G c out ([105,110,32]:Bs) text q8) rfl rfl (.c1 (.c1 .nil)) j0 fun⟨G8,c9⟩=>?_;refine g5 ?_;refine inc (i+1) ?_;refine g3 ?_;exact dM (i+1,(out++((([105,110,32]:Bs)++text)++[10])),true,_,_) z8 ⟨rfl,j0⟩ ⟨rfl,rfl,rfl,rfl,rfl,j0⟩ (.c0 (.c0 (.c1 .nil))) ⟨j3 (⟨by dsimp only;omega,hinv5.2.1.trans (prog_step hx0 hin),fun h=>by simp at h,by simp;omega⟩),j0⟩ (bA.drop 3)
 refine g15 ?_;have hlin:=hinv5.2.1.trans (prog_lines n7);refine cB (ι:=Nat×Bs×Bool×Option Addr×Nat) [(0,_),(5,_),(95,_),(96,_)] ⟨rfl,rfl,rfl,rfl,j0⟩ (fun⟨i,out,u,G,c⟩=>[(97,.int .i64 (i:Nat))]) (fun⟨i,out,u,G,c⟩=>[.obj b (.cells [.map (some r1),.map (some r2),bTq u b,.slice G out.length c].toArray 154),pY.row (.slice G out.length c) 5 out]) (fun⟨i,out,u,G,c⟩=>[Fact.pure (i≤P.lines.list.length∧cV P.pr=fB (P.pr.lines.drop i) out∧(out=[]→G=none)∧out.length≤1000*64+20000*i)]) (fun⟨i,out,u,G,c⟩=>P.lines.list.length-i) (0,out,u,G,c) ⟨rfl,j0⟩ (.c0 (.c0 .nil)) ⟨j3 (⟨n7,hlin,hinv5.2.2.1,n7⟩),j0⟩ ?_;rintro⟨i,out,u,G,c⟩;dsimp only;refine bC d7 fun hinv22=>?_;refine g6 ?_;refine dJ (fun hc98=>?_) fun hc98=>?_
 ·refine g7 ?_;obtain⟨x10,hx11⟩:=gx P.lines.list i;refine ss (ixs i) ?_;refine ss (lS hx11 0) ?_;refine j6 tD fun b12=>?_;refine g5 ?_;have hli:=hP.line x10 (j4 hx11);have hx0:P.pr.lines[i]?=some x10.ln:=sT hx11;refine bB (bQp x10) (Has.each f4 (j4 hx11))<|bB (mK.sl (.slice x10.items.addr x10.items.list.length x10.items.cap) x10.items.list) (Has.left d7)<|bB (nY x10.items.list) (Has.right d8) ?_;have hz: ∀y∈(x10.items.list.map ItemV.it),∀z∈y.nums,-9223372036854775808≤z∧z≤9223372036854775807:=fun y hy z hzz=>by obtain⟨it,h1,rfl⟩:=List.mem_map.1 hy;exact(hli.2 it h1).2 z hzz
  refine g3 ?_;refine ss (jF rfl rfl rfl q9) ?_;refine g12 ?_;refine fN (fun hc107=>?_) fun hc107=>?_
  ·refine g11 ?_;refine bD func95 (bQv b r1 r2 (bTq u b) G out.length c _ _ x10.items.list 255 n7 hli.2) rfl rfl (.c1 .nil) ⟨e8,e9,f3,d8,d7,j0⟩ fun _=>?_;refine g13 ?_;refine k_nt (fun hg118=>?_) fun hg118=>?_
   ·refine g34 ?_;have hr:=hR.symm.trans (hinv22.2.1.trans (show fB (P.pr.lines.drop i) out=(out,false) from z7));subst hr;exact rs1 ((_,_),u) ⟨j3 (hinv22.2.2.1),j0⟩
   have hex:=bUx (by assumption:(gH (x10.items.list.map ItemV.it) 255).isSome=true);have hexl:=bVo hz hex;refine g3 ?_;refine oX (fun hg121=>?_) fun hg121=>?_
   ·refine g3 ?_;refine cI (fun hg124=>?_) (fun hg124=>?_)
    ·have hg124:x10.name=([]:Bs):=eq_of_beq hg124;refine one ?_;refine bM (t':=false) o9 ?_;refine g6 ?_;refine jX (fun hg131=>?_) fun hg131=>?_
     ·omega
     refine g15 ?_;refine bD func94 (bEs b r1 r2 u G c out ([111,117,116,32]:Bs) ((gH (x10.items.list.map ItemV.it) 255).getD []) q8) rfl rfl (.c0 (.c1 .nil)) j0 fun⟨G13,c14⟩=>?_;refine g5 ?_;refine inc (i+1) ?_;refine g3 ?_;exact dM (i+1,(out++((([111,117,116,32]:Bs)++((gH (x10.items.list.map ItemV.it) 255).getD []))++[10])),true,_,_) z8 ⟨rfl,j0⟩ ⟨rfl,rfl,rfl,rfl,j0⟩ (.c0 (.c0 (.c1 .nil))) ⟨j3 (⟨by dsimp only;omega,hinv22.2.1.trans (lines_out hx0 n7 ‹_› hex),fun h=>by simp at h,by simp;omega⟩),j0⟩ (bA.drop 4)
    have hg124:x10.name≠([]:Bs):=fun h=>absurd (beq_iff_eq.2 h) ah3;refine one ?_;refine bM (t':=true) o9 ?_;refine g27 ?_;have hr:=hR.symm.trans (hinv22.2.1.trans (show fB (P.pr.lines.drop i) out=(out,false) from z7));subst hr;exact rs1 ((_,_),u) ⟨j3 (hinv22.2.2.1),j0⟩
   omega
  refine g8 ?_;refine bD func95 (bQv b r1 r2 (bTq u b) G out.length c _ _ x10.items.list 254 n7 hli.2) rfl rfl (.c1 .nil) ⟨e8,e9,f3,d8,d7,j0⟩ fun _=>?_;refine g13 ?_;refine k_nt (fun hg118=>?_) fun hg118=>?_
  ·refine g34 ?_;have hr:=hR.symm.trans (hinv22.2.1.trans (show fB (P.pr.lines.drop i) out=(out,false) from u9));subst hr;exact rs1 ((_,_),u) ⟨j3 (hinv22.2.2.1),j0⟩
  have hex:=bUx (by assumption:(gH (x10.items.list.map ItemV.it) 254).isSome=true);have hexl:=bVo hz hex;refine g3 ?_;refine oX (fun hg121=>?_) fun hg121=>?_
  ·omega
  refine g3 ?_;refine cI (fun hg124=>?_) (fun hg124=>?_)
  ·have hg124:x10.name=([]:Bs):=eq_of_beq hg124;refine one ?_;refine bM (t':=true) o9 ?_;refine g27 ?_;have hr:=hR.symm.trans (hinv22.2.1.trans (show fB (P.pr.lines.drop i) out=(out,false) from u9));subst hr;exact rs1 ((_,_),u) ⟨j3 (hinv22.2.2.1),j0⟩
  have hg124:x10.name≠([]:Bs):=fun h=>absurd (beq_iff_eq.2 h) ah3;refine one ?_;refine bM (t':=false) o9 ?_;refine g6 ?_;refine jX (fun hg131=>?_) fun hg131=>?_
  ·refine g2 ?_;refine bD func63 (oE _ hli.1) rfl rfl .nil ⟨f3,j0⟩ fun _=>?_;refine g5 ?_;refine jJ (fun hc137=>?_) fun hc137=>?_
   ·refine g12 ?_;have hr:=hR.symm.trans (hinv22.2.1.trans (show fB (P.pr.lines.drop i) out=(out,false) from u9));subst hr;exact rs1 ((_,_),u) ⟨j3 (hinv22.2.2.1),j0⟩
   refine g2 ?_;have hnl:=wU (by assumption:dD x10.name=true);refine g4 ?_;refine bD func94 (bEs b r1 r2 u G c out (x10.name++([58,32]:Bs)) ((gH (x10.items.list.map ItemV.it) 254).getD []) q8) rfl rfl (.c0 (.c1 .nil)) j0 fun⟨G15,c16⟩=>?_;refine g5 ?_;refine inc (i+1) ?_;refine g3 ?_;exact dM (i+1,(out++(((x10.name++([58,32]:Bs))++((gH (x10.items.list.map ItemV.it) 254).getD []))++[10])),true,_,_) z8 ⟨rfl,j0⟩ ⟨rfl,rfl,rfl,rfl,j0⟩ (.c0 (.c0 (.c1 .nil))) ⟨j3 (⟨by dsimp only;omega,hinv22.2.1.trans (lines_step hx0 n7 ‹_› hex),fun h=>by simp at h,by have:=wU ‹dD x10.name=true›;simp;omega⟩),j0⟩ (bA.drop 4)
  omega
 refine g11 ?_;have hr:=hR.symm.trans (hinv22.2.1.trans (bVh n7));subst hr;exact rs1 ((_,_),u) ⟨j3 (hinv22.2.2.1),j0⟩
theorem bstrN_spec(b r1 r2:Nat)(p:Value)(g c:Nat)(out:Bs)(h0:out≠[])(hc:out.length≤c):cM prog 56 [.pointer (some ⟨b,2,none⟩)] [.obj b (.cells [.map (some r1),.map (some r2),p,.slice (some ⟨g,0,none⟩) out.length c].toArray 154),pY.row (.slice (some ⟨g,0,none⟩) out.length c) 5 out] [] (fun(_:Unit)=> .string (bs out)) (fun _=>[]) (fun _=>[]):=by
 have hT:=jS;refine k6 func56 ntmps56 ?_;intro β hM;refine g6 ?_;refine bU _ _ [(true,0),(true,1),(true,2),(true,3),(true,4),(true,5),(true,6),(true,7),(true,8),(true,9),(false,10),(true,11)] bV o5 (.c0 .nil) bA.self ?_;refine g4 ?_;refine stM rfl (bEb rfl rfl (.inr (by have:=List.length_pos_iff.2 h0;omega))) ?_;refine g6 ?_;refine bMk kT1 rfl rfl rfl rfl u8Ptr n9 rfl rfl rfl h0 ?_;refine g5 ?_;exact rs1 () trivial
theorem bstrE_spec(b r1 r2:Nat)(p:Value)(c:Nat):cM prog 56 [.pointer (some ⟨b,2,none⟩)] [.obj b (.cells [.map (some r1),.map (some r2),p,.slice none 0 c].toArray 154)] [] (fun(_:Unit)=> .string (bs [])) (fun _=>[]) (fun _=>[]):=by
 have hT:=jS;refine k6 func56 ntmps56 ?_;intro β hM;refine g6 ?_;refine bU _ _ [(true,0),(true,1),(true,2),(true,3),(true,4),(true,5),(true,6),(true,7),(true,8),(true,9),(true,10),(true,11)] bV o5 (.c0 .nil) bA.self ?_;refine g4 ?_;refine stM rfl (bEb rfl rfl (.inl rfl)) ?_;refine g5 ?_;refine stM rfl (sti_noString rfl rfl rfl) ?_;refine g4 ?_;exact rs1 () trivial
theorem swrite_spec(P:ProgV)(hP:uN P)(hl1:P.inputs.list.length≤140737488355328)(hl2:P.lines.list.length≤140737488355328):cM prog 27 [.agg #[.slice P.inputs.addr P.inputs.list.length P.inputs.cap,.slice P.lines.addr P.lines.list.length P.lines.cap]] [] [iW,kR.sl (.slice P.inputs.addr P.inputs.list.length P.inputs.cap) P.inputs.list,jE P.inputs.list,pV.sl (.slice P.lines.addr P.lines.list.length P.lines.cap) P.lines.list,nE P.lines.list] (fun(_:Unit)=> .tuple #[.string (bs (cV P.pr).1),.bool (cV P.pr).2]) (fun _=>[]) (fun _=>[]):=by
 have hT:=jS;refine k6 func27 ntmps27 ?_;intro β hM;refine g2 ?_;refine j9 fun b1=>?_;refine g6 ?_;refine j5 func54 (bOx false) ⟨d7,j0⟩ fun r2=>?_;refine j5 func54 (bOx true) ⟨d8,j0⟩ fun r3=>?_;refine ss (k7 (shower_built _ _)) ?_;refine j9 fun b4=>?_;refine g7 ?_;refine cK (t:=5) pY ?_;refine bD func55 (bTy b4 r2 r3 P hP hl1 hl2) rfl rfl (.c1 (.c0 .nil)) ⟨d8,d7,d9,e6,e7,e8,e9,j0⟩ fun⟨⟨G5,c6⟩,u7⟩=>?_;refine bC d7 fun hemp=>?_;dsimp only at hemp;refine g4 ?_
 rcases Decidable.em ((cV P.pr).1=[]) with h0 | h0
 ·skip
  refine g4 ?_;have hg:=hemp h0;subst hg;rw [h0];refine bD func56 (bstrE_spec b4 r2 r3 (bTq u7 b4) c6) rfl rfl (.c0 .nil) j0 fun _=>?_;refine g6 ?_;exact rs2 () j0 (he:=by first | rfl | rw [h0])
 skip
 refine g4 ?_;refine bX kT1 fun hcap=>?_;refine bCl kT1 (List.length_pos_iff.2 h0) fun g hg=>?_;subst hg;refine bD func56 (bstrN_spec b4 r2 r3 (bTq u7 b4) g c6 (cV P.pr).1 h0 hcap) rfl rfl (.c0 (.c0 .nil)) j0 fun _=>?_;refine g6 ?_;exact rs2 () j0 (he:=by first | rfl | rw [h0])
theorem sRight_spec(P:ProgV)(hP:uN P)(hl1:P.inputs.list.length≤140737488355328)(hl2:P.lines.list.length≤140737488355328):cM prog 21 [.agg #[.slice P.inputs.addr P.inputs.list.length P.inputs.cap,.slice P.lines.addr P.lines.list.length P.lines.cap]] [] [iW,kR.sl (.slice P.inputs.addr P.inputs.list.length P.inputs.cap) P.inputs.list,jE P.inputs.list,pV.sl (.slice P.lines.addr P.lines.list.length P.lines.cap) P.lines.list,nE P.lines.list] (fun(_:Unit)=> .bool (cV P.pr).2) (fun _=>[]) (fun _=>[]):=by
 have hT:=jS;refine k6 func21 ntmps21 ?_;intro β hM;refine g2 ?_;refine j9 fun b1=>?_;refine g6 ?_;refine j5 func27 (swrite_spec P hP hl1 hl2) ⟨d7,d8,d9,e6,e7,j0⟩ fun _=>?_;refine g14 ?_;exact rs1 () trivial
section
variable {α : Type} {f : α → α → Bool} {x y : α} {i : Nat}
theorem bVx{a b:List α}{k:Nat}(h:a.take k=b.take k)(hx:a[k]?=some x)(hy:b[k]?=some y)(e:x=y):a.take (k+1)=b.take (k+1):=by
 subst e;rw [List.take_add_one,List.take_add_one,h,hx,hy]
theorem take_all{a b:List α}{k:Nat}(h:a.take k=b.take k)(ha:a.length≤k)(hb:b.length≤k):a=b:=by
 rw [List.take_of_length_le ha,List.take_of_length_le hb] at h;exact h
theorem not_take{a b:List α}{k:Nat}(hx:a[k]?=some x)(hy:b[k]?=some y)(e:x≠y):a≠b:=by
 rintro rfl;rw [hx] at hy;exact e (Option.some.inj hy)
end
theorem step_bound{st st':List fC}{x:cT}(h:iF st x=some st'):x.name.length≤16∧x.nums.length≤256:=by
 unfold iF at h;split at h
 ·unfold operandS at h;split at h
  ·split at h
   ·rename_i hb;rw [hb.2.1];exact⟨(tS hb.2.2).len,o6⟩
   ·simp at h
  ·split at h
   ·simp at h
   ·rename_i hb;simp only [not_or,ne_eq,Classical.not_not,Nat.not_lt] at hb;rw [hb.2.1];exact⟨o6,hb.2.2.2⟩
 ·split at h
  ·cases h
  ·rename_i hb;simp only [not_or,ne_eq,Classical.not_not] at hb;rw [hb.2.2.1,hb.2.2.2.1];exact⟨o6,o6⟩
theorem bLj: ∀{l:List cT} {st st':List fC},fT l st=some st'→ ∀x∈l,x.name.length≤16∧x.nums.length≤256
 | [],_,_,_,x,hx=>by simp at hx
 | y::l,st,st',h,x,hx=>by
  rw [fT] at h
  cases h1:iF st y with
  | none=>rw [h1] at h;cases h
  | some s1=>
   rw [h1] at h
   rcases List.mem_cons.1 hx with rfl | hx
   ·exact step_bound h1
   ·exact bLj h x hx
theorem bRl{l:List cT}{m:Nat}{t:Bs}(h:gH l m=some t):l.length≤m∧ ∀x∈l,x.name.length≤16∧x.nums.length≤256:=by
 unfold gH at h;split at h
 ·cases h
 ·rename_i hl;split at h
  ·rename_i hq;exact⟨n7,bLj hq⟩
  ·cases h
theorem bBt: ∀{ds:List pN} {acc t:Bs},lW ds acc=some t→ ∀d∈ds,d.name.length≤16
 | [],_,_,_,d,hd=>by simp at hd
 | e::ds,acc,t,h,d,hd=>by
  rw [lW] at h;split at h
  ·rename_i he
   rcases List.mem_cons.1 hd with rfl | hd
   ·rw [he];simp
   ·exact bBt h d hd
  ·split at h
   ·rename_i hb
    rcases List.mem_cons.1 hd with rfl | hd
    ·exact(tS hb.2).len
    ·exact bBt h d hd
   ·cases h
theorem bId: ∀{xs:List gM} {o o':Bs},mU xs o=(o',true)→ ∀x∈xs,x.name.length≤16∧x.sides.length≤4∧ ∀d∈x.sides,d.name.length≤16
 | [],_,_,_,x,hx=>by simp at hx
 | y::xs,o,o',h,x,hx=>by
  rw [mU] at h
  cases hi:qD y with
  | none=>rw [hi] at h;simp at h
  | some t=>
   rw [hi] at h;simp only at h
   rcases List.mem_cons.1 hx with rfl | hx
   ·unfold qD at hi;split at hi
    ·cases hi
    ·rename_i hb;simp only [not_or,Bool.not_eq_false,Nat.not_lt] at hb;exact⟨(tS hb.1).len,hb.2,bBt hi⟩
   ·exact bId h x hx
theorem bLi: ∀{ls:List mT} {o o':Bs},fB ls o=(o',true)→ ∀l∈ls,l.name.length≤16∧l.items.length≤255∧ ∀x∈l.items,x.name.length≤16∧x.nums.length≤256
 | [],_,_,_,l,hl=>by simp at hl
 | [m],o,o',h,l,hl=>by
  rw [List.mem_singleton.1 hl];simp only [fB] at h
  cases hx:gH m.items 255 with
  | none=>rw [hx] at h;simp at h
  | some t=>
   rw [hx] at h;simp only at h;split at h
   ·simp at h
   ·rename_i hn;simp only [ne_eq,Classical.not_not] at hn;obtain⟨a,b⟩:=bRl hx;exact⟨by rw [hn];simp,a,b⟩
 | m::n::ls,o,o',h,l,hl=>by
  have h':(match gH m.items 254 with
    | none=>(o,false)
    | some t=>if dD m.name=false then (o,false) else fB (n::ls) (o++(((m.name++[58,32])++t)++[10])))=(o',true):=h
  cases hx:gH m.items 254 with
  | none=>rw [hx] at h';simp at h'
  | some t=>
   rw [hx] at h';simp only at h';split at h'
   ·simp at h'
   ·rename_i hb;simp only [Bool.not_eq_false] at hb
    rcases List.mem_cons.1 hl with rfl | hl
    ·obtain⟨a,b⟩:=bRl hx;exact⟨(tS hb).len,n7,b⟩
    ·exact bLi h' l hl
structure Fine (p:gN):Prop where
 ins:p.inputs.length≤64
 lns:p.lines.length≤64
 input: ∀x∈p.inputs,x.name.length≤16∧x.sides.length≤4∧ ∀d∈x.sides,d.name.length≤16
 line: ∀l∈p.lines,l.name.length≤16∧l.items.length≤255∧ ∀x∈l.items,x.name.length≤16∧x.nums.length≤256
theorem vB{p:gN}(h:(cV p).2=true):Fine p:=by
 unfold cV at h;split at h
 ·cases h
 ·rename_i hb;simp only [not_or,Nat.not_lt] at hb
  cases hi:mU p.inputs [] with
  | mk o b=>
   rw [hi] at h
   cases b with
   | false=>cases h
   | true=>
    simp only at h;exact⟨n7,n7,bId hi,bLi (o':=(fB p.lines o).1) (Prod.ext rfl h)⟩
section
variable {x : ProgV}
theorem vC{y:InputV}(h:y∈x.inputs.list):y.inp∈x.pr.inputs:=List.mem_map.2 ⟨y,h,rfl⟩
theorem mem_ln{y:LineV}(h:y∈x.lines.list):y.ln∈x.pr.lines:=List.mem_map.2 ⟨y,h,rfl⟩
theorem mem_sd{y:InputV}{d:jQ}(h:d∈y.sides.list):d.sd∈y.inp.sides:=List.mem_map.2 ⟨d,h,rfl⟩
theorem mem_it{y:LineV}{d:ItemV}(h:d∈y.items.list):d.it∈y.ln.items:=List.mem_map.2 ⟨d,h,rfl⟩
theorem Fine.ok(h:Fine x.pr)(hr:RngP x.pr):uN x∧x.inputs.list.length≤140737488355328∧x.lines.list.length≤140737488355328:=by
 have e1:x.pr.inputs.length=x.inputs.list.length:=List.length_map _;have e2:x.pr.lines.length=x.lines.list.length:=List.length_map _;have h1:=h.ins;have h2:=h.lns;refine⟨⟨fun y hy=>?_,fun y hy=>?_⟩,n7,n7⟩
 ·obtain⟨a,b,c⟩:=h.input _ (vC hy);refine⟨Nat.le_trans a o9,fun d hd=>⟨Nat.le_trans (c _ (mem_sd hd)) o9,?_⟩⟩;exact hr.ins _ (vC hy) _ (mem_sd hd)
 ·obtain⟨a,b,c⟩:=h.line _ (mem_ln hy);refine⟨Nat.le_trans a o9,fun d hd=>⟨Nat.le_trans (c _ (mem_it hd)).1 o9,?_⟩⟩;exact hr.lns _ (mem_ln hy) _ (mem_it hd)
end
theorem flt_of{f:Flt}(h:pB ⟨f.1,f.2⟩ ⟨0,0⟩=true):f=(0,0):=isOk_iff.1 h
theorem flt_not{f:Flt}(h:pB ⟨f.1,f.2⟩ ⟨0,0⟩=false):f≠(0,0):=fun e=>by rw [e] at h;cases h
abbrev w64(z:Int):Int:=IntKind.i64.wrap z
def takesW(f:Int)(two:Bool):Bool:=if f<1∨17<f then false else if f=16 then !two else two || decide (f≤7)
def restW (a b:Int):Int:=if a.tmod b≠0∧decide (a.tmod b<0)≠decide (b<0) then w64 (a.tmod b+b) else a.tmod b
def truthW(b:Bool):Int:=if b then 1 else 0
def big1 (a:Int):Bool:=decide (1<IntKind.u64.wrap a)
def refusesW(f a b:Int):Bool:=if f=4 then b==0 else if f=17 then decide (b<0) else if f=14∨f=15 then big1 a || big1 b else false
def raisedGo:Nat→Int→Int→Nat→Int
 | 0,p,_,_=>p
 | k+1,p,a,n=>if n=0 then p else raisedGo k (if n%2=1 then w64 (p*a) else p) (w64 (a*a)) (n/2)
def raisedW(a n:Int):Int:=raisedGo (n.toNat+1) 1 a n.toNat
def holdsW(f a b:Int):Bool:=if f=8 then a==b else if f=9 then a !=b else if f=10 then decide (a<b) else if f=11 then decide (a≤b) else if f=12 then decide (b≤a) else decide (b<a)
def andW (a b:Int):Int:=w64 ((BitVec.ofInt 64 a&&&BitVec.ofInt 64 b).toNat:Nat)
def orW (a b:Int):Int:=w64 ((BitVec.ofInt 64 a ||| BitVec.ofInt 64 b).toNat:Nat)
def xorW (a b:Int):Int:=w64 ((BitVec.ofInt 64 a^^^BitVec.ofInt 64 b).toNat:Nat)
def divW (a b:Int):Int:=if restW a b≠a.tmod b then w64 (w64 (a.tdiv b)-1) else w64 (a.tdiv b)
def minW (a b:Int):Int:=if b<a then b else a
def maxW (a b:Int):Int:=if b>a then b else a
def dyad0 (f a b:Int):Int:=
 if f=1 then w64 (a+b) else if f=2 then w64 (a-b) else if f=3 then w64 (a*b) else if f=4 then divW a b else if f=5 then (if a=0 then b else restW b a)
 else if f=6 then minW a b else if f=7 then maxW a b else if f=14 then andW a b else if f=15 then orW a b else if f=17 then raisedW a b else truthW (holdsW f a b)
def dyadW (f a b:Int):Int×Int:=if takesW f true=false then (0,10) else if refusesW f a b=true then (0,11) else (dyad0 f a b,0)
def monadW(f a:Int):Int×Int:=
 if takesW f false=false then (0,10) else if f=2 then (w64 (0-a),0) else if f=3 then (w64 (truthW (decide (0<a))-truthW (decide (a<0))),0) else if f=4 then dyadW f 1 a
 else if f=5 then (maxW a (w64 (0-a)),0) else if f=16 then (if big1 a=true then (0,11) else (xorW a 1,0)) else (a,0)
structure Arr where
 sides:List Int
 data:List Int
 deriving Inhabited,DecidableEq
def bGz (s:Int):Bool:=decide (s<0) || decide (65536<s)
def prodGo:List Int→Int→Int×Int
 | [],n=>(n,0)
 | s::r,n=>if 65536<w64 (n*s) then (0,61) else prodGo r (w64 (n*s))
def sizeA (s:List Int):Int×Int:=if 4<s.length∨s.any bGz=true then (0,61) else if s.contains 0=true then (0,0) else prodGo s 1
def rightA(a:Arr):Bool:=(sizeA a.sides).2==0&&(sizeA a.sides).1==(a.data.length:Int)
def mapM (f:Int):List Int→List Int×Int
 | []=>([],0)
 | n::r=>if (monadW f n).2≠0 then ([],(monadW f n).2) else if (mapM f r).2≠0 then ([],(mapM f r).2) else ((monadW f n).1::(mapM f r).1,0)
def vO:List Int→Int
 | []=>1
 | s::r=>s*vO r
theorem bHl: ∀(a b:List Int),vO (a++b)=vO a*vO b
 | [],b=>by simp [vO]
 | s::a,b=>by rw [List.cons_append,vO,vO,bHl a b,Int.mul_assoc]
theorem bDz: ∀(a:List Int),vO a.reverse=vO a
 | []=>rfl
 | s::a=>by
  rw [List.reverse_cons,bHl,bDz a,vO,vO,vO,Int.mul_one,Int.mul_comm]
structure SidesOk (s:List Int):Prop where
 len:s.length≤4
 rng: ∀x∈s,0≤x∧x≤65536
 prod:0≤vO s∧vO s≤65536
theorem badN_no{x:Int}(h:bGz x=false):0≤x∧x≤65536:=by
 simp only [bGz,Bool.or_eq_false_iff,decide_eq_false_iff_not] at h;omega
theorem SidesOk.reverse{s:List Int}(h:SidesOk s):SidesOk s.reverse:=⟨by simpa using h.len,fun x hx=>h.rng x (by simpa using hx),by rw [bDz];exact h.prod⟩
inductive sW:List Int→List Int→Prop
 | nil:sW [] []
 | cons {s k sides index}:0≤k→k<s→sW sides index→sW (s::sides) (k::index)
theorem sW.len{s k:List Int}(h:sW s k):k.length=s.length:=by induction h<;>simp_all
theorem sW.append{a b c d:List Int}(h:sW a b)(k:sW c d):sW (a++c) (b++d):=by
 induction h with
 | nil=>exact k
 | cons h0 h1 _ ih=>exact .cons h0 h1 ih
theorem sW.reverse{s k:List Int}(h:sW s k):sW s.reverse k.reverse:=by
 induction h with
 | nil=>exact .nil
 | cons h0 h1 _ ih=>
  rw [List.reverse_cons,List.reverse_cons];exact ih.append (.cons h0 h1 .nil)
end Go.Proofs.YtakphiannlpnfaaGreatDoor
