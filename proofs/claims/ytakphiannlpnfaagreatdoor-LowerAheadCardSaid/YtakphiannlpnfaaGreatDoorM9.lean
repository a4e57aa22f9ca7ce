/- Texts of one proof, one behind the other: ExprS, DocS, AlikeP, BackO, WordP, ArrP, ArrL. -/
import Derived.Test.YtakphiannlpnfaaGreatDoorM2
import Derived.Test.YtakphiannlpnfaaGreatDoorM8
import Derived.Test.YtakphiannlpnfaaGreatDoorM7
import Derived.Test.YtakphiannlpnfaaGreatDoorM1
namespace Go.Proofs.YtakphiannlpnfaaGreatDoor
open Go.RowKit Go.Proofs.Tryz
set_option maxRecDepth 100000
def bNt (p:PieceV):bH:=mJ.row (.slice p.words.addr p.words.list.length p.words.cap) 9 p.words.list
def bHo (st:List PieceV):List bH:=st.map bNt
theorem maxN(a b:Nat):(if (b:Int)>(a:Int) then (b:Int) else (a:Int))=((max a b:Nat):Int):=by
 split<;>omega
def wsz (l:List Bs):Nat:=(l.map fun w=>w.length+1).sum
theorem bKq(a b:List Bs):wsz (a++b)=wsz a+wsz b:=by simp [wsz]
theorem jL(w:Bs)(r:List Bs):wsz (w::r)=w.length+1+wsz r:=by simp [wsz]
theorem bJd{l:List Bs}{w:Bs}{i:Nat}(h:l[i]?=some w):w.length+1≤wsz l:=by
 induction l generalizing i with
 | nil=>simp at h
 | cons x r ih=>
  rw [jL]
  cases i with
  | zero=>simp at h;subst h;omega
  | succ i=>have:=ih (i:=i) ab4;omega
theorem wsz_set{l:List Bs}{w v:Bs}{i:Nat}(h:l[i]?=some w):wsz (l.set i v)+w.length=wsz l+v.length:=by
 induction l generalizing i with
 | nil=>simp at h
 | cons x r ih=>
  cases i with
  | zero=>simp at h;subst h;simp only [List.set_cons_zero,jL];omega
  | succ i=>have:=ih (i:=i) ab4;simp only [List.set_cons_succ,jL];omega
theorem bNn: ∀l:List Bs,(joinSp l).length≤wsz l
 | []=>by simp [joinSp]
 | [w]=>by simp [joinSp,wsz]
 | w::x::r=>by
  have:=bNn (x::r);rw [tP w o9,jL];simp;omega
def OkP (p:PieceV):Prop:=p.words.list≠[]∧wsz p.words.list≤40*p.tokens
theorem brk_set{l:List Bs}{w0 x:Bs}(h0:l[0]?=some w0)(hx:(l.set 0 ([40]++w0))[l.length-1]?=some x):(l.set 0 ([40]++w0)).set (l.length-1) (x++[41])=brk l:=by
 cases l with
 | nil=>simp at h0
 | cons w r=>
  simp at h0;subst h0
  have key: ∀(a:Bs) (r:List Bs) (x:Bs),(a::r)[r.length]?=some x→(a::r).set r.length (x++[41])=brkEnd (a::r):=by
   intro a r
   induction r generalizing a with
   | nil=>intro x h;simp at h;subst h;rfl
   | cons b r ih=>
    intro x h;have:=ih b x ab4;show a::((b::r).set r.length (x++[41]))=a::brkEnd (b::r);rw [this]
  simp only [List.set_cons_zero,List.length_cons,Nat.add_sub_cancel] at hx⊢;exact key _ _ _ hx
structure uG (l:List cT) (st:List PieceV) (i:Nat):Prop where
 steps:fR (l.drop i) (st.map PieceV.pc)=fR l []
 le:i≤l.length
 sum:(st.map (·.tokens)).sum≤300*i
 nest: ∀p∈st,p.nest≤i
 ok: ∀p∈st,OkP p
theorem uG.start(l:List cT):uG l [] 0:=⟨rfl,n9,o9,fun p hp=>by simp at hp,fun p hp=>by simp at hp⟩
section
variable {l : List cT} {st st' : List PieceV} {i : Nat} {x : cT} {r : Option Bs} {most : Nat}
theorem x_long{l:List cT}(h:most<l.length):gP l most=none:=by rw [gP,if_pos h]
theorem uG.next(h:uG l st i)(hx:l[i]?=some x){c:List dZ}(hs:hY (st.map PieceV.pc) x=some c):fR (l.drop (i+1)) c=fR l []:=by
 have:=h.steps;rw [iL hx,fR,hs] at this;exact this
theorem uG.fail(h:uG l st i)(hx:l[i]?=some x)(hs:hY (st.map PieceV.pc) x=none):gP l most=none:=by
 have:=h.steps;rw [iL hx,fR,hs] at this;unfold gP;rw [←this];split<;>rfl
theorem uG.done(h:uG l st i)(hi:l.length≤i)(hm: ¬most<l.length):gP l most=match st.map PieceV.pc with
  | [p]=>if most<p.tokens∨32<p.nest then none else some (joinSp p.words)
  | _=>none:=by
 have:=h.steps;rw [List.drop_of_length_le hi,fR] at this;unfold gP;rw [if_neg hm,←this];split<;>rename_i h1
 ·injection h1 with h1
  rw [h1]
 ·split
  ·rename_i p hp;exact absurd (congrArg some hp) (h1 p)
  ·rfl
end
theorem uV{s:Bs}(h:cZ s=true):s.length≤16:=by
 unfold cZ bFt at h;simp only [Bool.and_eq_true] at h;obtain⟨_,_,_,_,h⟩:=h
 cases hl:(gA s).1 with
 | nil=>rw [hl] at h;cases h
 | cons t r=>
  cases r with
  | nil=>
   rw [hl] at h;simp only [Bool.and_eq_true,beq_iff_eq] at h;rw [←h.2];exact(lex_ok s t (by rw [hl];simp)).word
  | cons _ _=>rw [hl] at h;cases h
theorem sum_spell{l:List Int}(hz: ∀z∈l,-9223372036854775808≤z∧z≤9223372036854775807):wsz (l.map fQ)≤22*l.length:=by
 induction l with
 | nil=>simp [wsz]
 | cons z r ih=>
  have h1:=hz z o9;have:=pQ h1.1 h1.2;have:=ih fun y hy=>hz y ae5;rw [List.map_cons,jL];simp only [List.length_cons];omega
theorem bBr{x:cT}{q:dZ}(hz: ∀z∈x.nums,-9223372036854775808≤z∧z≤9223372036854775807)(h:operandS x=some q):q.words≠[]∧wsz q.words≤40*q.tokens∧q.tokens≤256∧q.nest=0:=by
 unfold operandS at h;split at h
 ·split at h
  ·rename_i hn;injection h with h
   subst h;have:=uV hn.2.2;refine⟨o9,?_,o9,rfl⟩;simp [wsz];omega
  ·cases h
 ·split at h
  ·cases h
  ·rename_i hn;injection h with h
   subst h;have h0:x.nums≠[]:=fun e=>hn (.inr (.inr (.inl e)));have h1: ¬256<x.nums.length:=fun e=>hn (.inr (.inr (.inr e)));have:=sum_spell hz;refine⟨by simpa using h0,?_,by simp;omega,rfl⟩;simp only;omega
section
variable {l : List cT} {st : List PieceV} {i : Nat} {x : cT} {p : PieceV}
theorem vO(ho:x.how=1∨x.how=2){c:List dZ}:hY c x=(operandS x).map (· ::c):=by rw [hY,if_pos ho]
theorem uG.operand(h:uG l st i)(hx:l[i]?=some x)(ho:x.how=1∨x.how=2)(hz: ∀z∈x.nums,-9223372036854775808≤z∧z≤9223372036854775807)(hq:operandS x=some p.pc):uG l (p::st) (i+1):=by
 obtain⟨h1,h2,h3,h4⟩:=bBr hz hq;have hl:=(List.getElem?_eq_some_iff.1 hx).1;refine⟨h.next hx (by rw [vO ho,hq];rfl),hl,?_,fun y hy=>?_,fun y hy=>?_⟩
 ·have:=h.sum;have h3:p.tokens≤256:=h3;simp only [List.map_cons,List.sum_cons];omega
 ·rcases List.mem_cons.1 hy with rfl | hy
  ·have h4:y.nest=0:=h4;omega
  ·have:=h.nest y hy;omega
 ·rcases List.mem_cons.1 hy with rfl | hy
  ·exact⟨h1,h2⟩
  ·exact h.ok y hy
theorem hQ{c:List dZ}(ho: ¬(x.how=1∨x.how=2))(hb:x.how<3∨7<x.how∨x.nums≠[]∨x.name≠[]∨(verbS x).1=[]):hY c x=none:=by rw [hY,if_neg ho,if_pos hb]
theorem gS{c:List dZ}(ho: ¬(x.how=1∨x.how=2))(hs:c.length<if xD x.how then 2 else 1):hY c x=none:=by
 rw [hY,if_neg ho];split
 ·rfl
 ·unfold qC;split
  ·rename_i ht;rw [ht] at hs
   match c,hs with
   | [],_=>rfl
   | [_],_=>rfl
   | _::_::_,hs=>simp at hs;omega
  ·rename_i ht;rw [if_neg ht] at hs
   match c,hs with
   | [],_=>rfl
   | _::_,hs=>simp at hs
theorem kN{c:List dZ}(h3:3≤x.how)(h7:x.how≤7)(hn:x.nums=[])(hm:x.name=[])(hv:(verbS x).1≠[]):hY c x=qC x c:=by
 rw [hY,if_neg n9,if_neg];rintro(h | h | h | h | h)
 ·omega
 ·omega
 ·exact h hn
 ·exact h hm
 ·exact hv h
theorem bCr(x:cT):(verbS x).1.length≤6∧(verbS x).2≤2∧((verbS x).1≠[]→1≤(verbS x).2):=by
 have h1:=bFu false x.fn;have h2:=bFu true x.fn;have h3:=bSh x.how;unfold verbS;split
 ·exact⟨by simp;omega,o9,fun _=>by simp⟩
 ·split
  ·exact⟨by simp;omega,o9,fun _=>by simp⟩
  ·split
   ·exact⟨o9,o9,fun h=>absurd rfl h⟩
   ·exact⟨by simp;omega,o9,fun _=>by simp⟩
theorem uG.one(h:uG l (p::st) i)(hx:l[i]?=some x)(hs:hY ((p::st).map PieceV.pc) x=qC x ((p::st).map PieceV.pc))(ht:xD x.how=false)(hv:(verbS x).1≠[]){A:Option Addr}{c:Nat}:
  uG l (⟨⟨A,c,[(verbS x).1]++p.words.list⟩,p.nest,p.tokens+(verbS x).2,false⟩::st) (i+1):=by
 have hl:=(List.getElem?_eq_some_iff.1 hx).1;obtain⟨h1,h2,h3⟩:=bCr x;refine⟨h.next hx (by rw [hs];unfold qC;rw [ht];rfl),hl,?_,fun y hy=>?_,fun y hy=>?_⟩
 ·have:=h.sum;simp only [List.map_cons,List.sum_cons] at this⊢;omega
 ·rcases List.mem_cons.1 hy with rfl | hy
  ·have:=h.nest p o9;dsimp only;omega
  ·have:=h.nest y ae5;omega
 ·rcases List.mem_cons.1 hy with rfl | hy
  ·have:=(h.ok p o9).2;have h3:=h3 hv;refine⟨o9,?_⟩;simp only [List.singleton_append,jL];omega
  ·exact h.ok y ae5
theorem left_ok{q:PieceV}(h:OkP q):(leftS q.pc).words≠[]∧wsz (leftS q.pc).words≤40*(leftS q.pc).tokens∧(leftS q.pc).tokens≤q.tokens+2∧(leftS q.pc).nest≤q.nest+1:=by
 obtain⟨h1,h2⟩:=h;unfold leftS;split
 ·exact⟨h1,h2,by show q.tokens≤_;omega,by show q.nest≤_;omega⟩
 ·refine⟨brk_ne h1,?_,Nat.le_refl _,Nat.le_refl _⟩
  have key: ∀l:List Bs,l≠[]→wsz (brkEnd l)=wsz l+1:=by
   intro l
   induction l with
   | nil=>intro h;exact absurd rfl h
   | cons w r ih=>
    intro _
    cases r with
    | nil=>simp [brkEnd,wsz]
    | cons x r=>
     show wsz (w::brkEnd (x::r))=_;rw [jL,ih o9];simp only [jL];omega
  have hb:wsz (brk q.words.list)=wsz q.words.list+2:=by
   cases hq:q.words.list with
   | nil=>exact absurd hq h1
   | cons w r=>
    show wsz (brkEnd _)=_;rw [key _ o9,jL,jL];simp;omega
  show wsz (brk q.words.list)≤40*(q.tokens+2);omega
theorem uG.two{q:PieceV}(h:uG l (p::q::st) i)(hx:l[i]?=some x)(hs:hY ((p::q::st).map PieceV.pc) x=qC x ((p::q::st).map PieceV.pc))(ht:xD x.how=true)(hv:(verbS x).1≠[]){A:Option Addr}{c:Nat}{ws:List Bs}{n t:Nat}
  (hw:ws=(leftS q.pc).words) (hn:n=(leftS q.pc).nest) (hk:t=(leftS q.pc).tokens):
  uG l (⟨⟨A,c,ws++([(verbS x).1]++p.words.list)⟩,max p.nest n,p.tokens+(verbS x).2+t,false⟩::st) (i+1):=by
 subst hw hn hk;have hl:=(List.getElem?_eq_some_iff.1 hx).1;obtain⟨h1,h2,h3⟩:=bCr x;obtain⟨k1,k2,k3,k4⟩:=left_ok (h.ok q o9);refine⟨h.next hx (by rw [hs];unfold qC;rw [ht];rfl),hl,?_,fun y hy=>?_,fun y hy=>?_⟩
 ·have:=h.sum;simp only [List.map_cons,List.sum_cons] at this⊢;omega
 ·rcases List.mem_cons.1 hy with rfl | hy
  ·have:=h.nest p o9;have:=h.nest q o9;dsimp only;omega
  ·have:=h.nest y ae5;omega
 ·rcases List.mem_cons.1 hy with rfl | hy
  ·have:=(h.ok p o9).2;have h3:=h3 hv;refine⟨o9,?_⟩;simp only [List.singleton_append,bKq,jL];omega
  ·exact h.ok y ae5
end
theorem rev_one{x:PieceV}{r:List PieceV}:(x::r).reverse[(r.length+1)-1]?=some x:=by simp
theorem bJq{x y:PieceV}{r:List PieceV}:(x::y::r).reverse[(r.length+2)-1]?=some x∧(x::y::r).reverse[(r.length+2)-2]?=some y:=by
 constructor
 ·simp
 ·simp
theorem rev_cut1{x:PieceV}{r:List PieceV}:(x::r).reverse.take ((r.length+1)-1)=r.reverse:=by simp
theorem qT{x y:PieceV}{r:List PieceV}:(x::y::r).reverse.take ((r.length+2)-2)=r.reverse:=by simp
theorem one_of{l:List PieceV}(h:l.length=1): ∃p,l=[p]:=by
 match l,h with
 | [p],_=>exact⟨p,rfl⟩
theorem cons_of{l:List PieceV}(h:1≤l.length): ∃p r,l=p::r:=by
 match l,h with
 | p::r,_=>exact⟨p,r,rfl⟩
theorem cons2_of{l:List PieceV}(h:2≤l.length): ∃p q r,l=p::q::r:=by
 match l,h with
 | p::q::r,_=>exact⟨p,q,r,rfl⟩
theorem join_eq: ∀l:List Bs,Lib.join l [32]=joinSp l
 | []=>rfl
 | [w]=>by simp [Lib.join,joinSp]
 | w::x::r=>by
  rw [tP w o9,←join_eq (x::r)];simp [Lib.join]
theorem join_spec(A:Option Addr)(c:Nat)(l:List Bs)(hc:l.length≤c)(hl:(joinSp l).length≤140737488355328)(hn:l.length≤140737488355328):
  cN prog 130 [.slice A l.length c,.string (bs [32])] [] [mJ.sl (.slice A l.length c) l] (fun _:Unit=> .string (bs (joinSp l))) (fun _=>[]) (fun _=>[]):=
 lM fun S w hS k=>by
  obtain⟨A',c',e,h⟩:=k _ (.head _);injection e with e1 e2 e3
  subst e1 e3
  cases l with
  | nil=>
   refine(Tryz.strings_Join_none A c (bs [32]) w).mono ?_;rintro e w' ⟨rfl,rfl⟩;exact⟨rfl,Below.refl _ _⟩
  | cons x r=>
   obtain⟨b,o,cs,e1,hb,_,_⟩:=h 0 x rfl;subst e1;have e0:((x::r).map bs).length=(x::r).length:=List.length_map _
   have e4:((x::r).map bs).map (·.data.toList)=x::r:=by
    rw [List.map_map];exact List.map_id _
   have hj:=Tryz.strings_Join b o c ((x::r).map bs) (bs [32]) w (fun j y hy=>?_) (hS b hb) (by rw [e0];exact hn) (by rw [e0];exact hc) (by rw [e4,bs_data,join_eq];exact hl)
   ·rw [e0,e4,bs_data,join_eq] at hj;exact hj
   ·rw [List.getElem?_map] at hy
    cases hz:(x::r)[j]? with
    | none=>rw [hz] at hy;cases hy
    | some z=>
     rw [hz] at hy;simp at hy;subst hy;obtain⟨b',o',cs,e1,_,h3,h4⟩:=h j z hz;injection e1 with e1
     injection e1 with e1 e2
     subst e1 e2;have h4:cs=mJ.cells z:=h4;subst h4;have:=h3 0 (.string (bs z)) rfl
     have e:o+j*(Enc.flat mJ.size mJ.cells).size+0=o+j:=by
      show o+j*1+0=o+j;omega
     rwa [e] at this
theorem sE(l:List Bs):l.length≤wsz l:=by
 induction l with
 | nil=>simp
 | cons w r ih=>rw [jL,List.length_cons];omega
theorem lP{x:ItemV}(h:(0:Int)<((x.nums.list.length:Nat):Int)):x.it.nums≠[]:=fun e=>by
 have:x.nums.list=[]:=e;rw [this] at h;simp at h
theorem nO{x:ItemV}(h: ¬(0:Int)<((x.nums.list.length:Nat):Int)):x.it.nums=[]:=List.eq_nil_of_length_eq_zero (show x.nums.list.length=0 by omega)
theorem twoT{k:Int}(h:k=4∨k=7):xD k=true:=by
 rcases h with rfl | rfl<;>rfl
theorem twoN{k:Int}(h:k≠4)(h':k≠7):xD k=false:=by simp [xD,h,h']
theorem not_one{st:List PieceV}{most:Nat}(h:st.length≠1):(match st.map PieceV.pc with
  | [p]=>if most<p.tokens∨32<p.nest then none else some (joinSp p.words)
  | _=>none)=none:=by
 match st,h with
 | [],_=>rfl
 | [_],h=>exact absurd rfl h
 | _::_::_,_=>rfl
theorem sX{α:Type}{o:Option α}(h:o.isSome=false):o=none:=by
 cases o with
 | none=>rfl
 | some x=>cases h
theorem uG.len{l:List cT}{st:List PieceV}{i:Nat}(h:uG l st i):st.length≤300*i:=by
 refine Nat.le_trans ?_ h.sum;have ho:=h.ok;clear h
 induction st with
 | nil=>simp
 | cons p r ih=>
  have:=ih fun y hy=>ho y ae5;obtain⟨h1,h2⟩:=ho p o9
  have h3:1≤wsz p.words.list:=by
   cases hp:p.words.list with
   | nil=>exact absurd hp h1
   | cons w t=>rw [jL];omega
  simp only [List.length_cons,List.map_cons,List.sum_cons];omega
theorem nZ{x:ItemV}{st:List PieceV}(h:x.how=4∨x.how=7)(hs:st.length<2):(st.map PieceV.pc).length<if xD x.it.how then 2 else 1:=by
 rw [show xD x.it.how=true from twoT h,List.length_map];exact hs
theorem oC{x:ItemV}{st:List PieceV}(h:x.how≠4)(h':x.how≠7)(hs:st.length<1):(st.map PieceV.pc).length<if xD x.it.how then 2 else 1:=by
 rw [show xD x.it.how=false from twoN h h',List.length_map];exact hs
set_option maxHeartbeats 1000000 in
theorem bKw(b r1 r2:Nat)(p:Value)(G:Option Addr)(m c:Nat)(A:Option Addr)(ci:Nat)(items:List ItemV)(most:Nat)(hm:most≤256)(hit: ∀it∈items,it.name.length≤140737488355328∧ ∀z∈it.nums.list,-9223372036854775808≤z∧z≤9223372036854775807):cN prog 95 [.pointer (some ⟨b,0,none⟩),.slice A items.length ci,.int .i64 (most:Nat)] [.obj b (.cells [.map (some r1),.map (some r2),p,.slice G m c].toArray 154)] [mapF r1 .u8 (rK false),mapF r2 .u8 (rK true),iD,jZ.sl (.slice A items.length ci) items,lH items] (fun(_:Unit)=> .tuple #[.string (bs ((gP (items.map ItemV.it) most).getD [])),.bool (gP (items.map ItemV.it) most).isSome]) (fun(_:Unit)=>[.obj b (.cells [.map (some r1),.map (some r2),p,.slice G m c].toArray 154)]) (fun _=>[]):=by
 have hT:=jG;generalize hR:gP (items.map ItemV.it) most=r;refine k8 func95 ntmps95 ?_;intro β hM;refine g15 ?_;refine dM (fun hc21=>?_) fun hc21=>?_
 ·refine g8 ?_;have hr:=hR.symm.trans (x_long ab2);subst hr;exact rs2 () trivial
 refine g16 ?_;refine cH (t:=221) bFk ?_;refine at_loop (ι:=Nat×List PieceV×Option Addr×Nat) (fun⟨i,st,B,e⟩=>[(0,.pointer (some ⟨b,0,none⟩)),(2,.int .i64 (most:Nat)),(8,.slice B st.reverse.length e),(22,.slice A items.length ci),(23,.int .i64 (items.length:Nat)),(24,.int .i64 (i:Nat))]) (fun⟨i,st,B,e⟩=> .obj b (.cells [.map (some r1),.map (some r2),p,.slice G m c].toArray 154)::bFk.row (.slice B st.reverse.length e) 221 st.reverse::bHo st) (fun⟨i,st,B,e⟩=>[Fact.pure (uG (items.map ItemV.it) st i),mapF r1 .u8 (rK false),mapF r2 .u8 (rK true),iD,jZ.sl (.slice A items.length ci) items,lH items]) (fun⟨i,st,B,e⟩=>items.length-i) (0,[],none,0) ⟨rfl,rfl,rfl,rfl,rfl,rfl,j2⟩ (.c1 (.cons .head Sel.self)) ⟨j3 (uG.start _),d7,d8,d9,e6,e7,j2⟩ ?_;rintro⟨i,st,B,e⟩;dsimp only;refine bC d7 fun hinv5=>?_;have hil:=hinv5.le;simp only [List.length_map] at hil;have hsum:=hinv5.sum;have hstl:=hinv5.len;refine g6 ?_;refine dM (fun hc25=>?_) fun hc25=>?_
 ·refine g6 ?_;obtain⟨x1,hx2⟩:=gx items i;refine ss (ixs i) ?_;refine ss (lY hx2 0) ?_;refine j6 nC fun b3=>?_;refine g5 ?_;have hx0:(items.map ItemV.it)[i]?=some x1.it:=by rw [List.getElem?_map,hx2];rfl
  have hxi:=hit x1 (j4 hx2);have hvl:=bCr x1.it;refine g5 ?_;refine mY (fun hg31=>?_) fun hg31=>?_
  ·refine g10 ?_;refine bB (numF x1) (Has.each e8 (j4 hx2)) ?_;refine j5 func128 (bCt x1 hxi.1 hxi.2) ⟨d7,e7,j2⟩ fun p4=>?_;refine bC d7 fun hpu=>?_;refine g3 ?_;refine j6 mM fun b5=>?_;refine g11 ?_;refine jB (fun hc42=>?_) fun hc42=>?_
   ·refine g14 ?_;have hr:=hR.symm.trans (hinv5.fail hx0 af3);subst hr;exact rs2 () trivial
   refine g3 ?_;obtain⟨q,hq⟩: ∃q,operandS x1.it=some q:=Option.isSome_iff_exists.1 (by simpa using hc42);have hpc:=hpu q hq;rw [←hpc] at hq;refine g3 ?_;refine gM (m:=p4) rfl rfl rfl rfl rfl fun b6=>?_;refine gN kT5 (cA .head rfl) rfl rfl rfl rfl rfl rfl rfl s9 fun A7 c8=>?_;rw [←List.reverse_cons];refine g9 ?_;refine inc (i+1) ?_;refine g3 ?_;exact mZ (i+1,p4::st,_,_) z7 ⟨rfl,rfl,rfl,rfl,rfl,rfl,j2⟩ (.c5 (.c0 (.c2 (Sel.skip (Sel.skip (Sel.skip Sel.self)))))) ⟨j3 (hinv5.operand hx0 o7 hxi.2 hq),e6,e7,e8,e9,f3,j2⟩
  refine g6 ?_;refine fE (fun hc35=>?_) fun hc35=>?_
  ·refine g3 ?_;refine bB (numF x1) (Has.each e8 (j4 hx2)) ?_;refine j5 func128 (bCt x1 hxi.1 hxi.2) ⟨d7,e7,j2⟩ fun p9=>?_;refine bC d7 fun hpu=>?_;refine g3 ?_;refine j6 mM fun b10=>?_;refine g11 ?_;refine jB (fun hc42=>?_) fun hc42=>?_
   ·refine g14 ?_;have hr:=hR.symm.trans (hinv5.fail hx0 af3);subst hr;exact rs2 () trivial
   refine g3 ?_;obtain⟨q,hq⟩: ∃q,operandS x1.it=some q:=Option.isSome_iff_exists.1 (by simpa using hc42);have hpc:=hpu q hq;rw [←hpc] at hq;refine g3 ?_;refine gM (m:=p9) rfl rfl rfl rfl rfl fun b11=>?_;refine gN kT5 (cA .head rfl) rfl rfl rfl rfl rfl rfl rfl s9 fun A12 c13=>?_;rw [←List.reverse_cons];refine g9 ?_;refine inc (i+1) ?_;refine g3 ?_;exact mZ (i+1,p9::st,_,_) z7 ⟨rfl,rfl,rfl,rfl,rfl,rfl,j2⟩ (.c5 (.c0 (.c2 (Sel.skip (Sel.skip (Sel.skip Sel.self)))))) ⟨j3 (hinv5.operand hx0 o7 hxi.2 hq),e6,e7,e8,e9,f3,j2⟩
  refine g14 ?_;refine mY (fun hg50=>?_) fun hg50=>?_
  ·refine g18 ?_;refine lR (fun hg58=>?_) fun hg58=>?_
   ·refine g37 ?_;have hr:=hR.symm.trans (hinv5.fail hx0 o3);subst hr;exact rs2 () trivial
   refine g5 ?_;refine lR (fun hg63=>?_) fun hg63=>?_
   ·refine g32 ?_;have hr:=hR.symm.trans (hinv5.fail hx0 o3);subst hr;exact rs2 () trivial
   refine g6 ?_;refine lR (fun hg69=>?_) fun hg69=>?_
   ·refine g26 ?_;have hr:=hR.symm.trans (hinv5.fail hx0 o3);subst hr;exact rs2 () trivial
   refine g5 ?_;refine dP (fun hg74=>?_) (fun hg74=>?_)
   ·have hg74:x1.name≠([]:Bs):=fun h=>by rw [h] at hg74;first | (simp at hg74;done) | exact absurd hg74 p7
    refine g21 ?_;have hr:=hR.symm.trans (hinv5.fail hx0 o3);subst hr;exact rs2 () trivial
   have hg74:x1.name=([]:Bs):=eq_of_beq (bLm hg74);refine g2 ?_;refine cP (z':=((st.length:Nat):Int)) (congrArg Nat.cast List.length_reverse) ?_;refine g5 ?_;refine dM (fun hc79=>?_) fun hc79=>?_
   ·refine g13 ?_;have hr:=hR.symm.trans (hinv5.fail hx0 o3);subst hr;exact rs2 () trivial
   refine g6 ?_;refine bD func129 (bBd b r1 r2 p G m c x1) rfl rfl (.c1 .nil) ⟨d8,d9,j2⟩ fun _=>?_;refine g14 ?_;refine iV (fun hc87=>?_) fun hc87=>?_
   ·have hc87:(verbS x1.it).1=([]:Bs):=eq_of_beq hc87;refine g13 ?_;have hr:=hR.symm.trans (hinv5.fail hx0 (hQ r7 (.inr (.inr (.inr (.inr ‹_›))))));subst hr;exact rs2 () trivial
   have hc87:(verbS x1.it).1≠([]:Bs):=fun h=>absurd (beq_iff_eq.2 h) ad7;refine g3 ?_;obtain⟨p1,q1,st,rfl⟩:=cons2_of (l:=st) n9;have hk2:=hinv5.ok q1 o9;have hn2:=hinv5.nest q1 o9;have hk1:=hinv5.ok p1 o9;have hn1:=hinv5.nest p1 o9;simp only [List.map_cons,List.sum_cons] at hsum;simp only [List.length_cons] at hstl;have hw1:=sE p1.words.list;have hk1b:=hk1.2;have hw2:=sE q1.words.list;have hk2b:=hk2.2;rw [show bHo (p1::q1::st)=bNt p1::bNt q1::bHo st from rfl];refine g4 ?_;refine cP (z':=(((st.length+2):Nat):Int)) o9 ?_;refine one ?_;refine inc ((st.length+2)-1) ?_;refine ss (cJ hT (k:=((st.length+2)-1)) (cM kT2) rfl rfl rfl rfl rfl rfl rfl ac7) ?_;refine ss (fA hT (dQ.knows (cM kT2) (k:=((st.length+2)-1)) (x:=p1) bJq.1 0) rfl rfl rfl rfl rfl) ?_;refine j6 mM fun b14=>?_;refine g9 ?_;refine inc (p1.tokens+(verbS x1.it).2) ?_;refine g13 ?_;refine jJ (m:=(verbS x1.it).1) rfl rfl rfl rfl rfl fun b15=>?_;refine bQ (E:=mJ) (xs:=[(verbS x1.it).1]) .head q8 ?_;refine g2 ?_;refine lI .head (cM kT5) rfl rfl rfl rfl rfl rfl rfl r8 fun A16 c17=>?_;refine g9 ?_;refine bL (t':=true) p7 ?_;refine g8 ?_;refine cP (z':=(((st.length+2):Nat):Int)) o9 ?_;refine one ?_;refine inc ((st.length+2)-2) ?_;refine ss (cJ hT (k:=((st.length+2)-2)) (cM kT4) rfl rfl rfl rfl rfl rfl rfl ac7) ?_;refine ss (fA hT (dQ.knows (cM kT4) (k:=((st.length+2)-2)) (x:=q1) bJq.2 0) rfl rfl rfl rfl rfl) ?_;refine j6 mM fun b18=>?_;refine g11 ?_;refine jB (fun hc116=>?_) fun hc116=>?_
   ·refine cL ?_;have hq0:=List.length_pos_iff.2 hk2.1;refine nX 8 _ _ [(true,0),(true,1),(true,2),(true,3),(true,4),(true,5),(true,6),(true,7)] bX o6 (.c0 (.c0 (.c0 (.c0 (.c0 (.c0 (.c0 (.cons .head Sel.self)))))))) bA.self ?_;refine g4 ?_;obtain⟨x19,hx20⟩:=gx q1.words.list 0;refine stL rfl (ixs 0) ?_;refine stL rfl (dH hx20 0) ?_;have hm0:=bJd hx20;refine stL rfl (iN rfl rfl rfl q9) ?_;refine stL rfl (ixs 0) ?_;refine one ?_;refine fT hT (k:=0) (fo:=0) (y':=(([40]:Bs)++x19)) kT7 rfl rfl rfl rfl rfl rfl rfl rfl rfl hx20 rfl ?_;refine g9 ?_;refine cP (z':=((q1.words.list.length:Nat):Int)) (rfl) ?_;refine one ?_;refine inc (q1.words.list.length-1) ?_;obtain⟨x21,hx22⟩:=gx (q1.words.list.set 0 (([40]:Bs)++x19)) (q1.words.list.length-1) r8;refine ss (cJ hT (k:=(q1.words.list.length-1)) (cM .head) rfl rfl rfl rfl rfl o9 rfl r8) ?_;refine ss (dH hx22 0) ?_;have hm1:=bJd hx22;have hm2:=wsz_set (v:=[40]++x19) hx20;simp only [List.length_append,List.length_cons,List.length_nil] at hm2;refine ss (iN rfl rfl rfl q9) ?_;refine ss (cJ hT (k:=(q1.words.list.length-1)) (cM .head) rfl rfl rfl rfl rfl o9 rfl r8) ?_;refine fT hT (k:=(q1.words.list.length-1)) (fo:=0) (y':=(x21++([41]:Bs))) .head rfl rfl rfl rfl rfl rfl rfl rfl rfl hx22 rfl ?_;refine g7 ?_;refine inc (q1.nest+1) ?_;refine g8 ?_;refine inc (q1.tokens+2) ?_;refine g5 ?_;have hbr:=brk_set hx20 hx22;refine g5 ?_;refine lI kT1 (cM kT3) rfl rfl rfl rfl rfl rfl rfl r8 fun A23 c24=>?_;refine g11 ?_;refine inc ((p1.tokens+(verbS x1.it).2)+(q1.tokens+2)) ?_;refine g10 ?_;refine cP (z':=(((max p1.nest (q1.nest+1)):Nat):Int)) (maxN _ _) ?_;refine g4 ?_;refine lL _ _ (.fl 0 (.fl 1 (.fl 2 (.fl 3 (.fl 4 (.fl 6 (.two 5 7 (.op 7 (.op 8 (.fl 9 .nil))) (.op 5 (.op 8 (.fl 9 .nil)))))))))) bX o6 (.c0 (.c0 (.c0 (.c0 (.c0 (.c0 (.c1 (Sel.skip Sel.self)))))))) bA.self ?_;refine g3 ?_;refine cP (z':=(((st.length+2):Nat):Int)) o9 ?_;refine g2 ?_;refine inc ((st.length+2)-2) ?_;refine one ?_;refine jD (o:=_) (o':=_) rfl rfl ?_ ?_
    ·refine gX hT (k:=((st.length+2)-2)) kT6 rfl rfl rfl rfl rfl rfl rfl rfl rfl w8 ?_;rw [qT];refine gT (.c1 (.c1 (.c1 (.c1 (.c1 (.c1 (.c1 (Sel.skip Sel.self)))))))) (bA.drop 0) ?_;refine one ?_;refine gM (m:=(⟨⟨A23,c24,((q1.words.list.set 0 (([40]:Bs)++x19)).set (q1.words.list.length-1) (x21++([41]:Bs)))++([(verbS x1.it).1]++p1.words.list)⟩,max p1.nest (q1.nest+1),p1.tokens+(verbS x1.it).2+(q1.tokens+2),false⟩:PieceV)) rfl rfl rfl rfl rfl fun b25=>?_;refine gT (.c2 (.c2 (.c2 (.c2 (.c2 (.c2 (.c2 (Sel.skip (Sel.skip Sel.self))))))))) (bA.drop 0) ?_;refine one ?_;refine gN kT1 (cA .head rfl) rfl rfl rfl rfl rfl rfl rfl s9 fun A26 c27=>?_;rw [←List.reverse_cons];refine gT (.c2 (.c2 (.c2 (.c2 (.c2 (.c2 (.c2 (Sel.skip (Sel.skip Sel.self))))))))) (bA.drop 0) ?_;refine g6 ?_;refine inc (i+1) ?_;refine g3 ?_;exact mZ (i+1,(⟨⟨A23,c24,((q1.words.list.set 0 (([40]:Bs)++x19)).set (q1.words.list.length-1) (x21++([41]:Bs)))++([(verbS x1.it).1]++p1.words.list)⟩,max p1.nest (q1.nest+1),p1.tokens+(verbS x1.it).2+(q1.tokens+2),false⟩:PieceV)::st,_,_) z7 ⟨rfl,rfl,rfl,rfl,rfl,rfl,j2⟩ (.c6 (.c0 (.c2 (Sel.skip (Sel.skip (Sel.skip (Sel.skip (Sel.skip (Sel.skip Sel.self))))))))) ⟨j3 (hinv5.two hx0 (kN ac3 ac4 (nO n9) ‹_› ‹_›) (twoT o7) ‹_› aa3 t6 t6),d8,d9,e6,e7,e8,j2⟩
    refine gM (m:=(⟨⟨A23,c24,((q1.words.list.set 0 (([40]:Bs)++x19)).set (q1.words.list.length-1) (x21++([41]:Bs)))++([(verbS x1.it).1]++p1.words.list)⟩,max p1.nest (q1.nest+1),p1.tokens+(verbS x1.it).2+(q1.tokens+2),false⟩:PieceV)) rfl rfl rfl rfl rfl fun b28=>?_;refine gT (.c1 (.c1 (.c1 (.c1 (.c1 (.c1 (.c2 (Sel.skip (Sel.skip Sel.self))))))))) (bA.drop 0) ?_;refine one ?_;refine gX hT (k:=((st.length+2)-2)) kT7 rfl rfl rfl rfl rfl rfl rfl rfl rfl w8 ?_;rw [qT];refine gT (.c2 (.c2 (.c2 (.c2 (.c2 (.c2 (.c2 (Sel.skip (Sel.skip Sel.self))))))))) (bA.drop 0) ?_;refine one ?_;refine gN .head (cA kT1 rfl) rfl rfl rfl rfl rfl rfl rfl s9 fun A29 c30=>?_;rw [←List.reverse_cons];refine gT (.c2 (.c2 (.c2 (.c2 (.c2 (.c2 (.c2 (Sel.skip (Sel.skip Sel.self))))))))) (bA.drop 0) ?_;refine g6 ?_;refine inc (i+1) ?_;refine g3 ?_;exact mZ (i+1,(⟨⟨A23,c24,((q1.words.list.set 0 (([40]:Bs)++x19)).set (q1.words.list.length-1) (x21++([41]:Bs)))++([(verbS x1.it).1]++p1.words.list)⟩,max p1.nest (q1.nest+1),p1.tokens+(verbS x1.it).2+(q1.tokens+2),false⟩:PieceV)::st,_,_) z7 ⟨rfl,rfl,rfl,rfl,rfl,rfl,j2⟩ (.c6 (.c0 (.c2 (Sel.skip (Sel.skip (Sel.skip (Sel.skip (Sel.skip (Sel.skip Sel.self))))))))) ⟨j3 (hinv5.two hx0 (kN ac3 ac4 (nO n9) ‹_› ‹_›) (twoT o7) ‹_› aa3 t6 t6),d8,d9,e6,e7,e8,j2⟩
   refine g8 ?_;refine lI kT7 (cM kT2) rfl rfl rfl rfl rfl rfl rfl r8 fun A31 c32=>?_;refine g11 ?_;refine inc ((p1.tokens+(verbS x1.it).2)+q1.tokens) ?_;refine g10 ?_;refine cP (z':=(((max p1.nest q1.nest):Nat):Int)) (maxN _ _) ?_;refine g4 ?_;refine lL _ _ (.fl 0 (.fl 1 (.fl 2 (.fl 3 (.fl 4 (.fl 6 (.two 5 7 (.op 7 (.op 8 (.fl 9 .nil))) (.op 5 (.op 8 (.fl 9 .nil)))))))))) bX o6 (.c0 (.c0 (.c0 (.c0 (.c0 (.c0 (.c1 (Sel.skip Sel.self)))))))) bA.self ?_;refine g3 ?_;refine cP (z':=(((st.length+2):Nat):Int)) o9 ?_;refine g2 ?_;refine inc ((st.length+2)-2) ?_;refine one ?_;refine jD (o:=_) (o':=_) rfl rfl ?_ ?_
   ·refine gX hT (k:=((st.length+2)-2)) kT6 rfl rfl rfl rfl rfl rfl rfl rfl rfl w8 ?_;rw [qT];refine gT (.c1 (.c1 (.c1 (.c1 (.c1 (.c1 (.c1 (Sel.skip Sel.self)))))))) (bA.drop 0) ?_;refine one ?_;refine gM (m:=(⟨⟨A31,c32,q1.words.list++([(verbS x1.it).1]++p1.words.list)⟩,max p1.nest q1.nest,p1.tokens+(verbS x1.it).2+q1.tokens,false⟩:PieceV)) rfl rfl rfl rfl rfl fun b33=>?_;refine gT (.c2 (.c2 (.c2 (.c2 (.c2 (.c2 (.c2 (Sel.skip (Sel.skip Sel.self))))))))) (bA.drop 0) ?_;refine one ?_;refine gN kT1 (cA .head rfl) rfl rfl rfl rfl rfl rfl rfl s9 fun A34 c35=>?_;rw [←List.reverse_cons];refine gT (.c2 (.c2 (.c2 (.c2 (.c2 (.c2 (.c2 (Sel.skip (Sel.skip Sel.self))))))))) (bA.drop 0) ?_;refine g6 ?_;refine inc (i+1) ?_;refine g3 ?_;exact mZ (i+1,(⟨⟨A31,c32,q1.words.list++([(verbS x1.it).1]++p1.words.list)⟩,max p1.nest q1.nest,p1.tokens+(verbS x1.it).2+q1.tokens,false⟩:PieceV)::st,_,_) z7 ⟨rfl,rfl,rfl,rfl,rfl,rfl,j2⟩ (.c6 (.c0 (.c2 (Sel.skip (Sel.skip (Sel.skip (Sel.skip (Sel.skip (Sel.skip Sel.self))))))))) ⟨j3 (hinv5.two hx0 (kN ac3 ac4 (nO n9) ‹_› ‹_›) (twoT o7) ‹_› t8 t8 t8),d8,d9,e6,e7,e8,j2⟩
   refine gM (m:=(⟨⟨A31,c32,q1.words.list++([(verbS x1.it).1]++p1.words.list)⟩,max p1.nest q1.nest,p1.tokens+(verbS x1.it).2+q1.tokens,false⟩:PieceV)) rfl rfl rfl rfl rfl fun b36=>?_;refine gT (.c1 (.c1 (.c1 (.c1 (.c1 (.c1 (.c2 (Sel.skip (Sel.skip Sel.self))))))))) (bA.drop 0) ?_;refine one ?_;refine gX hT (k:=((st.length+2)-2)) kT7 rfl rfl rfl rfl rfl rfl rfl rfl rfl w8 ?_;rw [qT];refine gT (.c2 (.c2 (.c2 (.c2 (.c2 (.c2 (.c2 (Sel.skip (Sel.skip Sel.self))))))))) (bA.drop 0) ?_;refine one ?_;refine gN .head (cA kT1 rfl) rfl rfl rfl rfl rfl rfl rfl s9 fun A37 c38=>?_;rw [←List.reverse_cons];refine gT (.c2 (.c2 (.c2 (.c2 (.c2 (.c2 (.c2 (Sel.skip (Sel.skip Sel.self))))))))) (bA.drop 0) ?_;refine g6 ?_;refine inc (i+1) ?_;refine g3 ?_;exact mZ (i+1,(⟨⟨A31,c32,q1.words.list++([(verbS x1.it).1]++p1.words.list)⟩,max p1.nest q1.nest,p1.tokens+(verbS x1.it).2+q1.tokens,false⟩:PieceV)::st,_,_) z7 ⟨rfl,rfl,rfl,rfl,rfl,rfl,j2⟩ (.c6 (.c0 (.c2 (Sel.skip (Sel.skip (Sel.skip (Sel.skip (Sel.skip (Sel.skip Sel.self))))))))) ⟨j3 (hinv5.two hx0 (kN ac3 ac4 (nO n9) ‹_› ‹_›) (twoT o7) ‹_› t8 t8 t8),d8,d9,e6,e7,e8,j2⟩
  refine g6 ?_;refine fE (fun hc54=>?_) fun hc54=>?_
  ·refine g11 ?_;refine lR (fun hg58=>?_) fun hg58=>?_
   ·refine g37 ?_;have hr:=hR.symm.trans (hinv5.fail hx0 o3);subst hr;exact rs2 () trivial
   refine g5 ?_;refine lR (fun hg63=>?_) fun hg63=>?_
   ·refine g32 ?_;have hr:=hR.symm.trans (hinv5.fail hx0 o3);subst hr;exact rs2 () trivial
   refine g6 ?_;refine lR (fun hg69=>?_) fun hg69=>?_
   ·refine g26 ?_;have hr:=hR.symm.trans (hinv5.fail hx0 o3);subst hr;exact rs2 () trivial
   refine g5 ?_;refine dP (fun hg74=>?_) (fun hg74=>?_)
   ·have hg74:x1.name≠([]:Bs):=fun h=>by rw [h] at hg74;first | (simp at hg74;done) | exact absurd hg74 p7
    refine g21 ?_;have hr:=hR.symm.trans (hinv5.fail hx0 o3);subst hr;exact rs2 () trivial
   have hg74:x1.name=([]:Bs):=eq_of_beq (bLm hg74);refine g2 ?_;refine cP (z':=((st.length:Nat):Int)) (congrArg Nat.cast List.length_reverse) ?_;refine g5 ?_;refine dM (fun hc79=>?_) fun hc79=>?_
   ·refine g13 ?_;have hr:=hR.symm.trans (hinv5.fail hx0 o3);subst hr;exact rs2 () trivial
   refine g6 ?_;refine bD func129 (bBd b r1 r2 p G m c x1) rfl rfl (.c1 .nil) ⟨d8,d9,j2⟩ fun _=>?_;refine g14 ?_;refine iV (fun hc87=>?_) fun hc87=>?_
   ·have hc87:(verbS x1.it).1=([]:Bs):=eq_of_beq hc87;refine g13 ?_;have hr:=hR.symm.trans (hinv5.fail hx0 (hQ r7 (.inr (.inr (.inr (.inr ‹_›))))));subst hr;exact rs2 () trivial
   have hc87:(verbS x1.it).1≠([]:Bs):=fun h=>absurd (beq_iff_eq.2 h) ad7;refine g3 ?_;obtain⟨p1,q1,st,rfl⟩:=cons2_of (l:=st) n9;have hk2:=hinv5.ok q1 o9;have hn2:=hinv5.nest q1 o9;have hk1:=hinv5.ok p1 o9;have hn1:=hinv5.nest p1 o9;simp only [List.map_cons,List.sum_cons] at hsum;simp only [List.length_cons] at hstl;have hw1:=sE p1.words.list;have hk1b:=hk1.2;have hw2:=sE q1.words.list;have hk2b:=hk2.2;rw [show bHo (p1::q1::st)=bNt p1::bNt q1::bHo st from rfl];refine g4 ?_;refine cP (z':=(((st.length+2):Nat):Int)) o9 ?_;refine one ?_;refine inc ((st.length+2)-1) ?_;refine ss (cJ hT (k:=((st.length+2)-1)) (cM kT2) rfl rfl rfl rfl rfl rfl rfl ac7) ?_;refine ss (fA hT (dQ.knows (cM kT2) (k:=((st.length+2)-1)) (x:=p1) bJq.1 0) rfl rfl rfl rfl rfl) ?_;refine j6 mM fun b39=>?_;refine g9 ?_;refine inc (p1.tokens+(verbS x1.it).2) ?_;refine g13 ?_;refine jJ (m:=(verbS x1.it).1) rfl rfl rfl rfl rfl fun b40=>?_;refine bQ (E:=mJ) (xs:=[(verbS x1.it).1]) .head q8 ?_;refine g2 ?_;refine lI .head (cM kT5) rfl rfl rfl rfl rfl rfl rfl r8 fun A41 c42=>?_;refine g9 ?_;refine bL (t':=true) p7 ?_;refine g8 ?_;refine cP (z':=(((st.length+2):Nat):Int)) o9 ?_;refine one ?_;refine inc ((st.length+2)-2) ?_;refine ss (cJ hT (k:=((st.length+2)-2)) (cM kT4) rfl rfl rfl rfl rfl rfl rfl ac7) ?_;refine ss (fA hT (dQ.knows (cM kT4) (k:=((st.length+2)-2)) (x:=q1) bJq.2 0) rfl rfl rfl rfl rfl) ?_;refine j6 mM fun b43=>?_;refine g11 ?_;refine jB (fun hc116=>?_) fun hc116=>?_
   ·refine cL ?_;have hq0:=List.length_pos_iff.2 hk2.1;refine nX 8 _ _ [(true,0),(true,1),(true,2),(true,3),(true,4),(true,5),(true,6),(true,7)] bX o6 (.c0 (.c0 (.c0 (.c0 (.c0 (.c0 (.c0 (.cons .head Sel.self)))))))) bA.self ?_;refine g4 ?_;obtain⟨x44,hx45⟩:=gx q1.words.list 0;refine stL rfl (ixs 0) ?_;refine stL rfl (dH hx45 0) ?_;have hm0:=bJd hx45;refine stL rfl (iN rfl rfl rfl q9) ?_;refine stL rfl (ixs 0) ?_;refine one ?_;refine fT hT (k:=0) (fo:=0) (y':=(([40]:Bs)++x44)) kT7 rfl rfl rfl rfl rfl rfl rfl rfl rfl hx45 rfl ?_;refine g9 ?_;refine cP (z':=((q1.words.list.length:Nat):Int)) (rfl) ?_;refine one ?_;refine inc (q1.words.list.length-1) ?_;obtain⟨x46,hx47⟩:=gx (q1.words.list.set 0 (([40]:Bs)++x44)) (q1.words.list.length-1) r8;refine ss (cJ hT (k:=(q1.words.list.length-1)) (cM .head) rfl rfl rfl rfl rfl o9 rfl r8) ?_;refine ss (dH hx47 0) ?_;have hm1:=bJd hx47;have hm2:=wsz_set (v:=[40]++x44) hx45;simp only [List.length_append,List.length_cons,List.length_nil] at hm2;refine ss (iN rfl rfl rfl q9) ?_;refine ss (cJ hT (k:=(q1.words.list.length-1)) (cM .head) rfl rfl rfl rfl rfl o9 rfl r8) ?_;refine fT hT (k:=(q1.words.list.length-1)) (fo:=0) (y':=(x46++([41]:Bs))) .head rfl rfl rfl rfl rfl rfl rfl rfl rfl hx47 rfl ?_;refine g7 ?_;refine inc (q1.nest+1) ?_;refine g8 ?_;refine inc (q1.tokens+2) ?_;refine g5 ?_;have hbr:=brk_set hx45 hx47;refine g5 ?_;refine lI kT1 (cM kT3) rfl rfl rfl rfl rfl rfl rfl r8 fun A48 c49=>?_;refine g11 ?_;refine inc ((p1.tokens+(verbS x1.it).2)+(q1.tokens+2)) ?_;refine g10 ?_;refine cP (z':=(((max p1.nest (q1.nest+1)):Nat):Int)) (maxN _ _) ?_;refine g4 ?_;refine lL _ _ (.fl 0 (.fl 1 (.fl 2 (.fl 3 (.fl 4 (.fl 6 (.two 5 7 (.op 7 (.op 8 (.fl 9 .nil))) (.op 5 (.op 8 (.fl 9 .nil)))))))))) bX o6 (.c0 (.c0 (.c0 (.c0 (.c0 (.c0 (.c1 (Sel.skip Sel.self)))))))) bA.self ?_;refine g3 ?_;refine cP (z':=(((st.length+2):Nat):Int)) o9 ?_;refine g2 ?_;refine inc ((st.length+2)-2) ?_;refine one ?_;refine jD (o:=_) (o':=_) rfl rfl ?_ ?_
    ·refine gX hT (k:=((st.length+2)-2)) kT6 rfl rfl rfl rfl rfl rfl rfl rfl rfl w8 ?_;rw [qT];refine gT (.c1 (.c1 (.c1 (.c1 (.c1 (.c1 (.c1 (Sel.skip Sel.self)))))))) (bA.drop 0) ?_;refine one ?_;refine gM (m:=(⟨⟨A48,c49,((q1.words.list.set 0 (([40]:Bs)++x44)).set (q1.words.list.length-1) (x46++([41]:Bs)))++([(verbS x1.it).1]++p1.words.list)⟩,max p1.nest (q1.nest+1),p1.tokens+(verbS x1.it).2+(q1.tokens+2),false⟩:PieceV)) rfl rfl rfl rfl rfl fun b50=>?_;refine gT (.c2 (.c2 (.c2 (.c2 (.c2 (.c2 (.c2 (Sel.skip (Sel.skip Sel.self))))))))) (bA.drop 0) ?_;refine one ?_;refine gN kT1 (cA .head rfl) rfl rfl rfl rfl rfl rfl rfl s9 fun A51 c52=>?_;rw [←List.reverse_cons];refine gT (.c2 (.c2 (.c2 (.c2 (.c2 (.c2 (.c2 (Sel.skip (Sel.skip Sel.self))))))))) (bA.drop 0) ?_;refine g6 ?_;refine inc (i+1) ?_;refine g3 ?_;exact mZ (i+1,(⟨⟨A48,c49,((q1.words.list.set 0 (([40]:Bs)++x44)).set (q1.words.list.length-1) (x46++([41]:Bs)))++([(verbS x1.it).1]++p1.words.list)⟩,max p1.nest (q1.nest+1),p1.tokens+(verbS x1.it).2+(q1.tokens+2),false⟩:PieceV)::st,_,_) z7 ⟨rfl,rfl,rfl,rfl,rfl,rfl,j2⟩ (.c6 (.c0 (.c2 (Sel.skip (Sel.skip (Sel.skip (Sel.skip (Sel.skip (Sel.skip Sel.self))))))))) ⟨j3 (hinv5.two hx0 (kN ac3 ac4 (nO n9) ‹_› ‹_›) (twoT o7) ‹_› aa3 t6 t6),d8,d9,e6,e7,e8,j2⟩
    refine gM (m:=(⟨⟨A48,c49,((q1.words.list.set 0 (([40]:Bs)++x44)).set (q1.words.list.length-1) (x46++([41]:Bs)))++([(verbS x1.it).1]++p1.words.list)⟩,max p1.nest (q1.nest+1),p1.tokens+(verbS x1.it).2+(q1.tokens+2),false⟩:PieceV)) rfl rfl rfl rfl rfl fun b53=>?_;refine gT (.c1 (.c1 (.c1 (.c1 (.c1 (.c1 (.c2 (Sel.skip (Sel.skip Sel.self))))))))) (bA.drop 0) ?_;refine one ?_;refine gX hT (k:=((st.length+2)-2)) kT7 rfl rfl rfl rfl rfl rfl rfl rfl rfl w8 ?_;rw [qT];refine gT (.c2 (.c2 (.c2 (.c2 (.c2 (.c2 (.c2 (Sel.skip (Sel.skip Sel.self))))))))) (bA.drop 0) ?_;refine one ?_;refine gN .head (cA kT1 rfl) rfl rfl rfl rfl rfl rfl rfl s9 fun A54 c55=>?_;rw [←List.reverse_cons];refine gT (.c2 (.c2 (.c2 (.c2 (.c2 (.c2 (.c2 (Sel.skip (Sel.skip Sel.self))))))))) (bA.drop 0) ?_;refine g6 ?_;refine inc (i+1) ?_;refine g3 ?_;exact mZ (i+1,(⟨⟨A48,c49,((q1.words.list.set 0 (([40]:Bs)++x44)).set (q1.words.list.length-1) (x46++([41]:Bs)))++([(verbS x1.it).1]++p1.words.list)⟩,max p1.nest (q1.nest+1),p1.tokens+(verbS x1.it).2+(q1.tokens+2),false⟩:PieceV)::st,_,_) z7 ⟨rfl,rfl,rfl,rfl,rfl,rfl,j2⟩ (.c6 (.c0 (.c2 (Sel.skip (Sel.skip (Sel.skip (Sel.skip (Sel.skip (Sel.skip Sel.self))))))))) ⟨j3 (hinv5.two hx0 (kN ac3 ac4 (nO n9) ‹_› ‹_›) (twoT o7) ‹_› aa3 t6 t6),d8,d9,e6,e7,e8,j2⟩
   refine g8 ?_;refine lI kT7 (cM kT2) rfl rfl rfl rfl rfl rfl rfl r8 fun A56 c57=>?_;refine g11 ?_;refine inc ((p1.tokens+(verbS x1.it).2)+q1.tokens) ?_;refine g10 ?_;refine cP (z':=(((max p1.nest q1.nest):Nat):Int)) (maxN _ _) ?_;refine g4 ?_;refine lL _ _ (.fl 0 (.fl 1 (.fl 2 (.fl 3 (.fl 4 (.fl 6 (.two 5 7 (.op 7 (.op 8 (.fl 9 .nil))) (.op 5 (.op 8 (.fl 9 .nil)))))))))) bX o6 (.c0 (.c0 (.c0 (.c0 (.c0 (.c0 (.c1 (Sel.skip Sel.self)))))))) bA.self ?_;refine g3 ?_;refine cP (z':=(((st.length+2):Nat):Int)) o9 ?_;refine g2 ?_;refine inc ((st.length+2)-2) ?_;refine one ?_;refine jD (o:=_) (o':=_) rfl rfl ?_ ?_
   ·refine gX hT (k:=((st.length+2)-2)) kT6 rfl rfl rfl rfl rfl rfl rfl rfl rfl w8 ?_;rw [qT];refine gT (.c1 (.c1 (.c1 (.c1 (.c1 (.c1 (.c1 (Sel.skip Sel.self)))))))) (bA.drop 0) ?_;refine one ?_;refine gM (m:=(⟨⟨A56,c57,q1.words.list++([(verbS x1.it).1]++p1.words.list)⟩,max p1.nest q1.nest,p1.tokens+(verbS x1.it).2+q1.tokens,false⟩:PieceV)) rfl rfl rfl rfl rfl fun b58=>?_;refine gT (.c2 (.c2 (.c2 (.c2 (.c2 (.c2 (.c2 (Sel.skip (Sel.skip Sel.self))))))))) (bA.drop 0) ?_;refine one ?_;refine gN kT1 (cA .head rfl) rfl rfl rfl rfl rfl rfl rfl s9 fun A59 c60=>?_;rw [←List.reverse_cons];refine gT (.c2 (.c2 (.c2 (.c2 (.c2 (.c2 (.c2 (Sel.skip (Sel.skip Sel.self))))))))) (bA.drop 0) ?_;refine g6 ?_;refine inc (i+1) ?_;refine g3 ?_;exact mZ (i+1,(⟨⟨A56,c57,q1.words.list++([(verbS x1.it).1]++p1.words.list)⟩,max p1.nest q1.nest,p1.tokens+(verbS x1.it).2+q1.tokens,false⟩:PieceV)::st,_,_) z7 ⟨rfl,rfl,rfl,rfl,rfl,rfl,j2⟩ (.c6 (.c0 (.c2 (Sel.skip (Sel.skip (Sel.skip (Sel.skip (Sel.skip (Sel.skip Sel.self))))))))) ⟨j3 (hinv5.two hx0 (kN ac3 ac4 (nO n9) ‹_› ‹_›) (twoT o7) ‹_› t8 t8 t8),d8,d9,e6,e7,e8,j2⟩
   refine gM (m:=(⟨⟨A56,c57,q1.words.list++([(verbS x1.it).1]++p1.words.list)⟩,max p1.nest q1.nest,p1.tokens+(verbS x1.it).2+q1.tokens,false⟩:PieceV)) rfl rfl rfl rfl rfl fun b61=>?_;refine gT (.c1 (.c1 (.c1 (.c1 (.c1 (.c1 (.c2 (Sel.skip (Sel.skip Sel.self))))))))) (bA.drop 0) ?_;refine one ?_;refine gX hT (k:=((st.length+2)-2)) kT7 rfl rfl rfl rfl rfl rfl rfl rfl rfl w8 ?_;rw [qT];refine gT (.c2 (.c2 (.c2 (.c2 (.c2 (.c2 (.c2 (Sel.skip (Sel.skip Sel.self))))))))) (bA.drop 0) ?_;refine one ?_;refine gN .head (cA kT1 rfl) rfl rfl rfl rfl rfl rfl rfl s9 fun A62 c63=>?_;rw [←List.reverse_cons];refine gT (.c2 (.c2 (.c2 (.c2 (.c2 (.c2 (.c2 (Sel.skip (Sel.skip Sel.self))))))))) (bA.drop 0) ?_;refine g6 ?_;refine inc (i+1) ?_;refine g3 ?_;exact mZ (i+1,(⟨⟨A56,c57,q1.words.list++([(verbS x1.it).1]++p1.words.list)⟩,max p1.nest q1.nest,p1.tokens+(verbS x1.it).2+q1.tokens,false⟩:PieceV)::st,_,_) z7 ⟨rfl,rfl,rfl,rfl,rfl,rfl,j2⟩ (.c6 (.c0 (.c2 (Sel.skip (Sel.skip (Sel.skip (Sel.skip (Sel.skip (Sel.skip Sel.self))))))))) ⟨j3 (hinv5.two hx0 (kN ac3 ac4 (nO n9) ‹_› ‹_›) (twoT o7) ‹_› t8 t8 t8),d8,d9,e6,e7,e8,j2⟩
  refine g9 ?_;refine lR (fun hg58=>?_) fun hg58=>?_
  ·refine g37 ?_;have hr:=hR.symm.trans (hinv5.fail hx0 o3);subst hr;exact rs2 () trivial
  refine g5 ?_;refine lR (fun hg63=>?_) fun hg63=>?_
  ·refine g32 ?_;have hr:=hR.symm.trans (hinv5.fail hx0 o3);subst hr;exact rs2 () trivial
  refine g6 ?_;refine lR (fun hg69=>?_) fun hg69=>?_
  ·refine g26 ?_;have hr:=hR.symm.trans (hinv5.fail hx0 o3);subst hr;exact rs2 () trivial
  refine g5 ?_;refine dP (fun hg74=>?_) (fun hg74=>?_)
  ·have hg74:x1.name≠([]:Bs):=fun h=>by rw [h] at hg74;first | (simp at hg74;done) | exact absurd hg74 p7
   refine g21 ?_;have hr:=hR.symm.trans (hinv5.fail hx0 o3);subst hr;exact rs2 () trivial
  have hg74:x1.name=([]:Bs):=eq_of_beq (bLm hg74);refine g2 ?_;refine cP (z':=((st.length:Nat):Int)) (congrArg Nat.cast List.length_reverse) ?_;refine g5 ?_;refine dM (fun hc79=>?_) fun hc79=>?_
  ·refine g13 ?_;have hr:=hR.symm.trans (hinv5.fail hx0 o3);subst hr;exact rs2 () trivial
  refine g6 ?_;refine bD func129 (bBd b r1 r2 p G m c x1) rfl rfl (.c1 .nil) ⟨d8,d9,j2⟩ fun _=>?_;refine g14 ?_;refine iV (fun hc87=>?_) fun hc87=>?_
  ·have hc87:(verbS x1.it).1=([]:Bs):=eq_of_beq hc87;refine g13 ?_;have hr:=hR.symm.trans (hinv5.fail hx0 (hQ r7 (.inr (.inr (.inr (.inr ‹_›))))));subst hr;exact rs2 () trivial
  have hc87:(verbS x1.it).1≠([]:Bs):=fun h=>absurd (beq_iff_eq.2 h) ad7;refine g3 ?_;obtain⟨p1,st,rfl⟩:=cons_of (l:=st) n9;have hk1:=hinv5.ok p1 o9;have hn1:=hinv5.nest p1 o9;simp only [List.map_cons,List.sum_cons] at hsum;simp only [List.length_cons] at hstl;have hw1:=sE p1.words.list;have hk1b:=hk1.2;rw [show bHo (p1::st)=bNt p1::bHo st from rfl];refine g4 ?_;refine cP (z':=(((st.length+1):Nat):Int)) o9 ?_;refine one ?_;refine inc ((st.length+1)-1) ?_;refine ss (cJ hT (k:=((st.length+1)-1)) (cM kT2) rfl rfl rfl rfl rfl rfl rfl ac7) ?_;refine ss (lY rev_one 0) ?_;refine j6 mM fun b64=>?_;refine g9 ?_;refine inc (p1.tokens+(verbS x1.it).2) ?_;refine g13 ?_;refine jJ (m:=(verbS x1.it).1) rfl rfl rfl rfl rfl fun b65=>?_;refine bQ (E:=mJ) (xs:=[(verbS x1.it).1]) .head q8 ?_;refine g2 ?_;refine lI .head (cM kT5) rfl rfl rfl rfl rfl rfl rfl r8 fun A66 c67=>?_;refine g9 ?_;refine bL (t':=false) p7 ?_;refine g5 ?_;refine lL _ _ (.fl 0 (.fl 1 (.fl 2 (.fl 3 (.fl 4 (.fl 6 (.two 5 7 (.op 7 (.op 8 (.fl 9 .nil))) (.op 5 (.op 8 (.fl 9 .nil)))))))))) bX o6 (.c0 (.c0 (.c0 (.c0 (.c1 (Sel.skip Sel.self)))))) bA.self ?_;refine g3 ?_;refine cP (z':=(((st.length+1):Nat):Int)) o9 ?_;refine g2 ?_;refine inc ((st.length+1)-1) ?_;refine one ?_;refine jD (o:=_) (o':=_) rfl rfl ?_ ?_
  ·refine gX hT (k:=((st.length+1)-1)) kT4 rfl rfl rfl rfl rfl rfl rfl rfl rfl w8 ?_;rw [rev_cut1];refine gT (.c1 (.c1 (.c1 (.c1 (.c1 (Sel.skip Sel.self)))))) (bA.drop 0) ?_;refine one ?_;refine gM (m:=(⟨⟨A66,c67,[(verbS x1.it).1]++p1.words.list⟩,p1.nest,p1.tokens+(verbS x1.it).2,false⟩:PieceV)) rfl rfl rfl rfl rfl fun b68=>?_;refine gT (.c2 (.c2 (.c2 (.c2 (.c2 (Sel.skip (Sel.skip Sel.self))))))) (bA.drop 0) ?_;refine one ?_;refine gN kT1 (cA .head rfl) rfl rfl rfl rfl rfl rfl rfl s9 fun A69 c70=>?_;rw [←List.reverse_cons];refine gT (.c2 (.c2 (.c2 (.c2 (.c2 (Sel.skip (Sel.skip Sel.self))))))) (bA.drop 0) ?_;refine g6 ?_;refine inc (i+1) ?_;refine g3 ?_;exact mZ (i+1,(⟨⟨A66,c67,[(verbS x1.it).1]++p1.words.list⟩,p1.nest,p1.tokens+(verbS x1.it).2,false⟩:PieceV)::st,_,_) z7 ⟨rfl,rfl,rfl,rfl,rfl,rfl,j2⟩ (.c4 (.c0 (.c2 (Sel.skip (Sel.skip (Sel.skip (Sel.skip Sel.self))))))) ⟨j3 (hinv5.one hx0 (kN ac3 ac4 (nO n9) ‹_› ‹_›) (twoN ‹_› ‹_›) ‹_›),d8,d9,e6,e7,e8,j2⟩
  refine gM (m:=(⟨⟨A66,c67,[(verbS x1.it).1]++p1.words.list⟩,p1.nest,p1.tokens+(verbS x1.it).2,false⟩:PieceV)) rfl rfl rfl rfl rfl fun b71=>?_;refine gT (.c1 (.c1 (.c1 (.c1 (.c2 (Sel.skip (Sel.skip Sel.self))))))) (bA.drop 0) ?_;refine one ?_;refine gX hT (k:=((st.length+1)-1)) kT5 rfl rfl rfl rfl rfl rfl rfl rfl rfl w8 ?_;rw [rev_cut1];refine gT (.c2 (.c2 (.c2 (.c2 (.c2 (Sel.skip (Sel.skip Sel.self))))))) (bA.drop 0) ?_;refine one ?_;refine gN .head (cA kT1 rfl) rfl rfl rfl rfl rfl rfl rfl s9 fun A72 c73=>?_;rw [←List.reverse_cons];refine gT (.c2 (.c2 (.c2 (.c2 (.c2 (Sel.skip (Sel.skip Sel.self))))))) (bA.drop 0) ?_;refine g6 ?_;refine inc (i+1) ?_;refine g3 ?_;exact mZ (i+1,(⟨⟨A66,c67,[(verbS x1.it).1]++p1.words.list⟩,p1.nest,p1.tokens+(verbS x1.it).2,false⟩:PieceV)::st,_,_) z7 ⟨rfl,rfl,rfl,rfl,rfl,rfl,j2⟩ (.c4 (.c0 (.c2 (Sel.skip (Sel.skip (Sel.skip (Sel.skip Sel.self))))))) ⟨j3 (hinv5.one hx0 (kN ac3 ac4 (nO n9) ‹_› ‹_›) (twoN ‹_› ‹_›) ‹_›),d8,d9,e6,e7,e8,j2⟩
 refine g10 ?_;refine cP (z':=((st.length:Nat):Int)) (congrArg Nat.cast List.length_reverse) ?_;refine g2 ?_;refine bEt (fun hg174=>?_) fun hg174=>?_
 ·refine g25 ?_;have hr:=hR.symm.trans ((hinv5.done ab2 ab2).trans (not_one r8));subst hr;exact rs2 () trivial
 obtain⟨p,rfl⟩:=one_of (l:=st) n9;simp only [List.map_cons,List.map_nil,List.sum_cons,List.sum_nil] at hsum;rw [show bHo [p]=[bNt p] from rfl];refine one ?_;refine ss (cJ hT (k:=0) (cM kT1) rfl rfl rfl rfl rfl rfl rfl o9) ?_;refine one ?_;refine ss (j7 hT (dQ.knows (cM kT1) (k:=0) (x:=p) rfl 2)) ?_;refine g4 ?_;refine lR (fun hg182=>?_) fun hg182=>?_
 ·refine g17 ?_;have hr:=hR.symm.trans ((hinv5.done ab2 ab2).trans (if_pos (show most<p.tokens∨32<p.nest by omega)));subst hr;exact rs2 () trivial
 refine one ?_;refine ss (cJ hT (k:=0) (cM kT1) rfl rfl rfl rfl rfl rfl rfl o9) ?_;refine one ?_;refine ss (j7 hT (dQ.knows (cM kT1) (k:=0) (x:=p) rfl 1)) ?_;refine g4 ?_;refine dM (fun hc188=>?_) fun hc188=>?_
 ·refine g8 ?_;have hr:=hR.symm.trans ((hinv5.done ab2 ab2).trans (if_pos (show most<p.tokens∨32<p.nest by omega)));subst hr;exact rs2 () trivial
 refine g5 ?_;refine ss (cJ hT (k:=0) (cM kT1) rfl rfl rfl rfl rfl rfl rfl o9) ?_;refine one ?_;refine ss (j7 hT (dQ.knows (cM kT1) (k:=0) (x:=p) rfl 0)) ?_;refine bV kT2 fun hcap=>bE kT2 ?_;have hjl:=bNn p.words.list;have hok:=hinv5.ok p o9;have hws:=sE p.words.list;have hok2:=hok.2;refine bD func130 (join_spec _ _ _ hcap n9 n9) rfl rfl .nil ⟨d7,j2⟩ fun _=>?_;refine g5 ?_;have hr:=hR.symm.trans ((hinv5.done ab2 ab2).trans (if_neg (show ¬(most<p.tokens∨32<p.nest) by omega)));subst hr;exact rs2 () trivial
theorem uW:cZ []=false:=by decide+kernel
structure qA (p:ProgV):Prop where
 input: ∀x∈p.inputs.list,x.name.length≤140737488355328∧ ∀d∈x.sides.list,d.name.length≤140737488355328∧ -9223372036854775808≤d.n∧d.n≤9223372036854775807
 line: ∀x∈p.lines.list,x.name.length≤140737488355328∧ ∀it∈x.items.list,it.name.length≤140737488355328∧ ∀z∈it.nums.list,-9223372036854775808≤z∧z≤9223372036854775807
def oY (p:gQ)(i:Nat)(out:Bs):Bs×Bool:=match mC (p.inputs.drop i) out with
 | (o,false)=>(o,false)
 | (o,true)=>fF p.lines o
section
variable {p : gQ} {i : Nat} {out : Bs} {x : hO} {t : Bs}
theorem bBp(h:p.lines=[]∨64<p.inputs.length+p.lines.length):cX p=([],false):=by rw [cX,if_pos h]
theorem prog_start(h: ¬(p.lines=[]∨64<p.inputs.length+p.lines.length)):cX p=oY p 0 []:=by rw [cX,if_neg h];rfl
theorem zS(hx:p.inputs[i]?=some x)(hn:pE x=none):oY p i out=(out,false):=by rw [oY,iL hx,mC,hn]
theorem prog_step(hx:p.inputs[i]?=some x)(hn:pE x=some t):oY p i out=oY p (i+1) (out++(([105,110,32]++t)++[10])):=by rw [oY,iL hx,mC,hn];rfl
theorem prog_lines(hi:p.inputs.length≤i):oY p i out=fF (p.lines.drop 0) out:=by rw [oY,List.drop_of_length_le hi];rfl
end
section
variable {l : List kY} {i : Nat} {out : Bs} {x : kY} {t : Bs}
theorem bPx(hi:l.length≤i):fF (l.drop i) out=(out,true):=by rw [List.drop_of_length_le hi];rfl
theorem bBh(hx:l[i]?=some x)(hi:i+1=l.length):l.drop i=[x]:=by rw [iL hx,List.drop_of_length_le n9]
theorem bCc(hx:l[i]?=some x)(hi:i+1<l.length): ∃y r,l.drop (i+1)=y::r∧l.drop i=x::y::r:=by
 have:l[i+1]?=some l[i+1]:=List.getElem?_eq_getElem hi;exact⟨_,_,iL this,by rw [iL hx,iL this]⟩
theorem sS(hx:l[i]?=some x)(he:gP x.items (if i+1=l.length then 255 else 254)=none):fF (l.drop i) out=(out,false):=by
 have hl:=(List.getElem?_eq_some_iff.1 hx).1
 by_cases hi:i+1=l.length
 ·rw [if_pos hi] at he;rw [bBh hx hi,fF,he]
 ·rw [if_neg hi] at he;obtain⟨y,r,_,h2⟩:=bCc hx n9;rw [h2,fF,he];exact fun h=>by cases h
theorem qX(hx:l[i]?=some x)(hi:i+1=l.length)(hn:x.name≠[]){t:Bs}(he:gP x.items 255=some t):fF (l.drop i) out=(out,false):=by
 rw [bBh hx hi,fF,he];simp [hn]
theorem mP(hx:l[i]?=some x)(hi:i+1<l.length)(hn:cZ x.name=false){t:Bs}(he:gP x.items 254=some t):fF (l.drop i) out=(out,false):=by
 obtain⟨y,r,_,h2⟩:=bCc hx hi;rw [h2,fF,he]
 ·simp [hn]
 ·exact fun h=>by cases h
theorem lines_out(hx:l[i]?=some x)(hi:i+1=l.length)(hn:x.name=[]){t:Bs}(he:gP x.items 255=some t):fF (l.drop i) out=fF (l.drop (i+1)) (out++(([111,117,116,32]++t)++[10])):=by
 rw [bBh hx hi,fF,he,bPx n9];simp [hn]
theorem lines_step(hx:l[i]?=some x)(hi:i+1<l.length)(hn:cZ x.name=true){t:Bs}(he:gP x.items 254=some t):fF (l.drop i) out=fF (l.drop (i+1)) (out++(((x.name++[58,32])++t)++[10])):=by
 obtain⟨y,r,h1,h2⟩:=bCc hx hi;rw [h2,h1,fF,he]
 ·simp [hn]
 ·exact fun h=>by cases h
end
theorem step_okp{st st':List dZ}{x:cT}(hz: ∀z∈x.nums,-9223372036854775808≤z∧z≤9223372036854775807)(ho: ∀p∈st,p.words≠[]∧wsz p.words≤40*p.tokens)(h:hY st x=some st'): ∀p∈st',p.words≠[]∧wsz p.words≤40*p.tokens:=by
 unfold hY at h;split at h
 ·cases hq:operandS x with
  | none=>rw [hq] at h;cases h
  | some q=>
   rw [hq] at h;injection h with h
   subst h;intro p hp
   rcases List.mem_cons.1 hp with rfl | hp
   ·exact⟨(bBr hz hq).1,(bBr hz hq).2.1⟩
   ·exact ho p hp
 ·split at h
  ·cases h
  ·rename_i hn;have hv:(verbS x).1≠[]:=fun e=>hn (.inr (.inr (.inr (.inr e))));obtain⟨v1,_,v3⟩:=bCr x;have v3:=v3 hv;unfold qC at h;split at h
   ·split at h
    ·rename_i p q r;injection h with h
     subst h;have hq:=ho q o9;obtain⟨k1,k2,_,_⟩:=left_ok (q:=⟨⟨none,0,q.words⟩,q.nest,q.tokens,q.plain⟩) hq;have k1:(leftS q).words≠[]:=k1;have k2:wsz (leftS q).words≤40*(leftS q).tokens:=k2;have hp:=ho p o9;intro y hy
     rcases List.mem_cons.1 hy with rfl | hy
     ·refine⟨o9,?_⟩;simp only [bKq,jL];omega
     ·exact ho y ae5
    ·cases h
   ·split at h
    ·rename_i p r;injection h with h
     subst h;have hp:=ho p o9;intro y hy
     rcases List.mem_cons.1 hy with rfl | hy
     ·refine⟨o9,?_⟩;simp only [jL];omega
     ·exact ho y ae5
    ·cases h
theorem bQg: ∀{l:List cT} {st st':List dZ},(∀x∈l,∀z∈x.nums,-9223372036854775808≤z∧z≤9223372036854775807)→(∀p∈st,p.words≠[]∧wsz p.words≤40*p.tokens)→fR l st=some st'→ ∀p∈st',p.words≠[]∧wsz p.words≤40*p.tokens
 | [],st,st',_,ho,h=>by
  simp [fR] at h;subst h;exact ho
 | x::r,st,st',hz,ho,h=>by
  rw [fR] at h
  cases h1:hY st x with
  | none=>rw [h1] at h;cases h
  | some s1=>
   rw [h1] at h;exact bQg (fun y hy=>hz y ae5) (step_okp (hz x o9) ho h1) h
theorem bSb{l:List cT}{most:Nat}{t:Bs}(hz: ∀x∈l,∀z∈x.nums,-9223372036854775808≤z∧z≤9223372036854775807)(h:gP l most=some t):t.length≤40*most:=by
 unfold gP at h;split at h
 ·cases h
 ·split at h
  ·rename_i p hp;split at h
   ·cases h
   ·injection h with h
    subst h;have h1:=(bQg hz (fun p hp=>by simp at hp) hp p o9).2;have:=bNn p.words;omega
  ·cases h
section
variable {x : InputV} {j : Nat} {d : jF} {t : Bs}
theorem bPo(h:cZ x.name=false∨4<x.sides.list.length):pE x.inp=none:=by
 rw [pE,if_pos (show cZ x.inp.name=false∨4<x.inp.sides.length from h.imp id fun h=>by show 4<(x.sides.list.map jF.sd).length;rw [List.length_map];exact h)]
theorem input_start(h:cZ x.name=true)(h4: ¬4<x.sides.list.length):pE x.inp=lD ((x.sides.list.map jF.sd).drop 0) x.name:=by
 rw [pE,if_neg]
 ·rfl
 ·rintro(h' | h')
  ·rw [show x.inp.name=x.name from rfl,h] at h';cases h'
  ·rw [show x.inp.sides=x.sides.list.map jF.sd from rfl,List.length_map] at h';exact h4 h'
theorem sd_at(hd:x.sides.list[j]?=some d):(x.sides.list.map jF.sd)[j]?=some d.sd:=by rw [List.getElem?_map,hd];rfl
theorem side_num(hd:x.sides.list[j]?=some d)(hn:d.name=[]):lD ((x.sides.list.map jF.sd).drop j) t=lD ((x.sides.list.map jF.sd).drop (j+1)) (t++([32]++fQ d.n)):=by
 rw [iL (sd_at hd),lD,if_pos (show d.sd.name=[] from hn)];rfl
theorem side_name(hd:x.sides.list[j]?=some d)(hn:d.name≠[])(h0:d.n=0)(hb:cZ d.name=true):lD ((x.sides.list.map jF.sd).drop j) t=lD ((x.sides.list.map jF.sd).drop (j+1)) (t++([32]++d.name)):=by
 rw [iL (sd_at hd),lD,if_neg (show ¬d.sd.name=[] from hn),if_pos (show d.sd.n=0∧cZ d.sd.name=true from ⟨h0,hb⟩)];rfl
theorem side_bad(hd:x.sides.list[j]?=some d)(hn:d.name≠[])(h:d.n≠0∨cZ d.name=false):lD ((x.sides.list.map jF.sd).drop j) t=none:=by
 rw [iL (sd_at hd),lD,if_neg (show ¬d.sd.name=[] from hn),if_neg];rintro⟨h1,h2⟩
 rcases h with h | h
 ·exact h h1
 ·rw [show d.sd.name=d.name from rfl,h] at h2;cases h2
theorem sides_done(hj:x.sides.list.length≤j):lD ((x.sides.list.map jF.sd).drop j) t=some t:=by
 rw [List.drop_of_length_le (by rw [List.length_map];exact hj)];rfl
end
theorem rM{α β:Type}{f:α→β}{l:List α}{i:Nat}{x:α}(h:l[i]?=some x):(l.map f)[i]?=some (f x):=by rw [List.getElem?_map,h];rfl
theorem bRf{o:Option Bs}(h:o.isSome=true):o=some (o.getD []):=by
 cases o with
 | none=>cases h
 | some x=>rfl
theorem shower_built(r1 r2:Nat):prog.built 154 [(0,.map (some r1)),(1,.map (some r2))]=some #[.map (some r1),.map (some r2),.pointer none,.slice none 0 0]:=o0
theorem wS:(prog.info? 76).bind (·.zero)=some (.agg #[.string (bs []),.int .i64 0]):=o0
theorem bPb(b r1 r2:Nat)(P:ProgV)(hP:qA P)(hl1:P.inputs.list.length≤140737488355328)(hl2:P.lines.list.length≤140737488355328):cN prog 55 [.pointer (some ⟨b,0,none⟩),.agg #[.slice P.inputs.addr P.inputs.list.length P.inputs.cap,.slice P.lines.addr P.lines.list.length P.lines.cap]] [.obj b (.cells [.map (some r1),.map (some r2),.pointer none,.slice none 0 0].toArray 154),oU.row (.slice none 0 0) 5 []] [mapF r1 .u8 (rK false),mapF r2 .u8 (rK true),iD,jT.sl (.slice P.inputs.addr P.inputs.list.length P.inputs.cap) P.inputs.list,iO P.inputs.list,nM.sl (.slice P.lines.addr P.lines.list.length P.lines.cap) P.lines.list,kK P.lines.list] (fun(_:(Option Addr×Nat)×Bool)=> .bool (cX P.pr).2) (fun(x:(Option Addr×Nat)×Bool)=>[.obj b (.cells [.map (some r1),.map (some r2),bOr x.2 b,.slice x.1.1 (cX P.pr).1.length x.1.2].toArray 154),oU.row (.slice x.1.1 (cX P.pr).1.length x.1.2) 5 (cX P.pr).1]) (fun(x:(Option Addr×Nat)×Bool)=>[Fact.pure ((cX P.pr).1=[]→x.1.1=none)]):=by
 have hT:=jG;have hpl:P.pr.lines.length=P.lines.list.length:=List.length_map _;have hpi:P.pr.inputs.length=P.inputs.list.length:=List.length_map _;generalize hR:cX P.pr=r;refine k8 func55 ntmps55 ?_;intro β hM;refine g2 ?_;refine j9 fun b1=>?_;refine g9 ?_;refine cP (z':=(((P.lines.list.length:Nat):Int)-1)) (bIg n9 n9) ?_;refine g9 ?_;refine lR (fun hg23=>?_) fun hg23=>?_
 ·refine g25 ?_;have hr:=hR.symm.trans (bBp ab1);subst hr;exact rs1 ((_,_),false) ⟨j3 (fun _=>rfl),j2⟩
 refine g6 ?_;refine lR (fun hg29=>?_) fun hg29=>?_
 ·refine g19 ?_;have hr:=hR.symm.trans (bBp ab1);subst hr;exact rs1 ((_,_),false) ⟨j3 (fun _=>rfl),j2⟩
 refine g7 ?_;refine inc (64-P.inputs.list.length) ?_;refine g4 ?_;refine dM (fun hc38=>?_) fun hc38=>?_
 ·refine g7 ?_;have hr:=hR.symm.trans (bBp ab1);subst hr;exact rs1 ((_,_),false) ⟨j3 (fun _=>rfl),j2⟩
 refine g12 ?_;refine cE (ι:=Nat×Bs×Bool×Option Addr×Nat) [(0,_),(3,_),(5,_),(40,_),(41,_)] ⟨rfl,rfl,rfl,rfl,rfl,j2⟩ (fun⟨i,out,u,G,c⟩=>[(42,.int .i64 (i:Nat))]) (fun⟨i,out,u,G,c⟩=>[.obj b (.cells [.map (some r1),.map (some r2),bOr u b,.slice G out.length c].toArray 154),oU.row (.slice G out.length c) 5 out]) (fun⟨i,out,u,G,c⟩=>[Fact.pure (i≤P.inputs.list.length∧cX P.pr=oY P.pr i out∧(out=[]→G=none)∧out.length≤1000*i)]) (fun⟨i,out,u,G,c⟩=>P.inputs.list.length-i) (0,[],false,none,0) ⟨rfl,j2⟩ (.c1 (.c1 .nil)) ⟨j3 (⟨n9,prog_start (by rintro(h | h);(have h:=congrArg List.length h;rw [hpl,List.length_nil] at h;omega);omega),fun _=>rfl,o9⟩),j2⟩ ?_;rintro⟨i,out,u,G,c⟩;dsimp only;refine bC d7 fun hinv5=>?_;refine g6 ?_;refine dM (fun hc43=>?_) fun hc43=>?_
 ·refine g6 ?_;obtain⟨x2,hx3⟩:=gx P.inputs.list i;refine ss (ixs i) ?_;refine ss (lY hx3 0) ?_;refine j6 kD fun b4=>?_;refine g5 ?_;have hxi:=hP.input x2 (j4 hx3);have hx0:P.pr.inputs[i]?=some x2.inp:=rM hx3;refine bB (qQ x2) (Has.each e8 (j4 hx3)) ?_;refine g3 ?_;refine bD func63 (mX _ hxi.1) rfl rfl .nil ⟨e7,j2⟩ fun _=>?_;refine g2 ?_;refine k_nt (fun hg50=>?_) fun hg50=>?_
  ·refine g20 ?_;have hr:=hR.symm.trans (hinv5.2.1.trans (zS hx0 (bPo ab5)));subst hr;exact rs1 ((_,_),u) ⟨j3 (hinv5.2.2.1),j2⟩
  refine g7 ?_;refine dM (fun hc55=>?_) fun hc55=>?_
  ·refine g12 ?_;have hr:=hR.symm.trans (hinv5.2.1.trans (zS hx0 (bPo ab5)));subst hr;exact rs1 ((_,_),u) ⟨j3 (hinv5.2.2.1),j2⟩
  refine g19 ?_;refine cE (ι:=Nat×Bs) [(0,_),(3,_),(5,_),(40,_),(41,_),(42,_),(51,_),(52,_),(53,_),(54,_),(59,_),(60,_)] ⟨rfl,rfl,rfl,rfl,rfl,rfl,rfl,rfl,rfl,rfl,rfl,rfl,j2⟩ (fun⟨j,text⟩=>[(8,.string (bs text)),(61,.int .i64 (j:Nat))]) (fun _=>[]) (fun⟨j,text⟩=>[Fact.pure (j≤x2.sides.list.length∧lD ((x2.sides.list.map jF.sd).drop j) text=pE x2.inp∧text.length≤16+30*j)]) (fun⟨j,text⟩=>x2.sides.list.length-j) (0,x2.name) ⟨rfl,rfl,j2⟩ .nil ⟨j3 (⟨n9,(input_start ‹_› n9).symm,by have:=uV ‹cZ x2.name=true›;omega⟩),j2⟩ ?_;rintro⟨j,text⟩;dsimp only;refine bC d7 fun hinv11=>?_;refine g6 ?_;refine dM (fun hc62=>?_) fun hc62=>?_
  ·refine g6 ?_;obtain⟨x5,hx6⟩:=gx x2.sides.list j;refine ss (ixs j) ?_;refine ss (lY hx6 0) ?_;refine j6 wS fun b7=>?_;refine g5 ?_;have hdn:=hxi.2 x5 (j4 hx6);refine g7 ?_;refine iV (fun hc65=>?_) fun hc65=>?_
   ·have hc65:x5.name=([]:Bs):=eq_of_beq hc65;refine g4 ?_;have hsp:=pQ hdn.2.1 hdn.2.2;refine bD func93 (bEo _ hdn.2.1 hdn.2.2) rfl rfl .nil ⟨e8,j2⟩ fun _=>?_;refine ss (iN rfl rfl rfl q9) ?_;refine ss (iN rfl rfl rfl q9) ?_;refine g7 ?_;refine inc (j+1) ?_;refine g3 ?_;exact bk2 (j+1,_) ⟨j3 (⟨by dsimp only;omega,hinv11.2.1▸(side_num hx6 ‹_›).symm,by have:=pQ hdn.2.1 hdn.2.2;simp;omega⟩),j2⟩
   have hc65:x5.name≠([]:Bs):=fun h=>absurd (beq_iff_eq.2 h) (by rw [show(x5.name==([]:Bs))=false from hc65];simp);refine g6 ?_;refine mY (fun hg79=>?_) fun hg79=>?_
   ·refine g2 ?_;refine bD func63 (mX _ hdn.1) rfl rfl .nil ⟨e8,j2⟩ fun _=>?_;refine g4 ?_;refine iV (fun hc75=>?_) fun hc75=>?_
    ·refine g4 ?_;refine ss (iN rfl rfl rfl q9) ?_;refine ss (iN rfl rfl rfl q9) ?_;refine g7 ?_;refine inc (j+1) ?_;refine g3 ?_;exact bk2 (j+1,_) ⟨j3 (⟨by dsimp only;omega,hinv11.2.1▸(side_name hx6 ‹_› ‹_› ‹_›).symm,by have:=uV ‹cZ x5.name=true›;simp;omega⟩),j2⟩
    refine g17 ?_;have hr:=hR.symm.trans (hinv5.2.1.trans (zS hx0 (hinv11.2.1.symm.trans (side_bad hx6 ‹_› o7))));subst hr;exact rs1 ((_,_),u) ⟨j3 (hinv5.2.2.1),j2⟩
   refine g25 ?_;have hr:=hR.symm.trans (hinv5.2.1.trans (zS hx0 (hinv11.2.1.symm.trans (side_bad hx6 ‹_› o7))));subst hr;exact rs1 ((_,_),u) ⟨j3 (hinv5.2.2.1),j2⟩
  refine g5 ?_;have hin:=hinv11.2.1.symm.trans (sides_done n9);refine g3 ?_;refine bD func94 (bBo b r1 r2 u G c out ([105,110,32]:Bs) text r8) rfl rfl (.c1 (.c1 .nil)) j2 fun⟨G8,c9⟩=>?_;refine g5 ?_;refine inc (i+1) ?_;refine g3 ?_;exact dN (i+1,(out++((([105,110,32]:Bs)++text)++[10])),true,_,_) z7 ⟨rfl,j2⟩ ⟨rfl,rfl,rfl,rfl,rfl,j2⟩ (.c0 (.c0 (.c1 .nil))) ⟨j3 (⟨by dsimp only;omega,hinv5.2.1.trans (prog_step hx0 hin),fun h=>by simp at h,by simp;omega⟩),j2⟩ (bA.drop 3)
 refine g15 ?_;have hlin:=hinv5.2.1.trans (prog_lines n9);refine cE (ι:=Nat×Bs×Bool×Option Addr×Nat) [(0,_),(5,_),(95,_),(96,_)] ⟨rfl,rfl,rfl,rfl,j2⟩ (fun⟨i,out,u,G,c⟩=>[(97,.int .i64 (i:Nat))]) (fun⟨i,out,u,G,c⟩=>[.obj b (.cells [.map (some r1),.map (some r2),bOr u b,.slice G out.length c].toArray 154),oU.row (.slice G out.length c) 5 out]) (fun⟨i,out,u,G,c⟩=>[Fact.pure (i≤P.lines.list.length∧cX P.pr=fF (P.pr.lines.drop i) out∧(out=[]→G=none)∧out.length≤1000*64+20000*i)]) (fun⟨i,out,u,G,c⟩=>P.lines.list.length-i) (0,out,u,G,c) ⟨rfl,j2⟩ (.c0 (.c0 .nil)) ⟨j3 (⟨n9,hlin,hinv5.2.2.1,n9⟩),j2⟩ ?_;rintro⟨i,out,u,G,c⟩;dsimp only;refine bC d7 fun hinv22=>?_;refine g6 ?_;refine dM (fun hc98=>?_) fun hc98=>?_
 ·refine g7 ?_;obtain⟨x10,hx11⟩:=gx P.lines.list i;refine ss (ixs i) ?_;refine ss (lY hx11 0) ?_;refine j6 rT fun b12=>?_;refine g5 ?_;have hli:=hP.line x10 (j4 hx11);have hx0:P.pr.lines[i]?=some x10.ln:=rM hx11;refine bB (bNf x10) (Has.each f5 (j4 hx11))<|bB (jZ.sl (.slice x10.items.addr x10.items.list.length x10.items.cap) x10.items.list) (Has.left d7)<|bB (lH x10.items.list) (Has.right d8) ?_;have hz: ∀y∈(x10.items.list.map ItemV.it),∀z∈y.nums,-9223372036854775808≤z∧z≤9223372036854775807:=fun y hy z hzz=>by obtain⟨it,h1,rfl⟩:=List.mem_map.1 hy;exact(hli.2 it h1).2 z hzz
  refine g3 ?_;refine ss (iN rfl rfl rfl q9) ?_;refine g12 ?_;refine fE (fun hc107=>?_) fun hc107=>?_
  ·refine g11 ?_;refine bD func95 (bKw b r1 r2 (bOr u b) G out.length c _ _ x10.items.list 255 n9 hli.2) rfl rfl (.c1 .nil) ⟨e8,e9,f3,d8,d7,j2⟩ fun _=>?_;refine g13 ?_;refine k_nt (fun hg118=>?_) fun hg118=>?_
   ·refine g34 ?_;have hr:=hR.symm.trans (hinv22.2.1.trans (show fF (P.pr.lines.drop i) out=(out,false) from y9));subst hr;exact rs1 ((_,_),u) ⟨j3 (hinv22.2.2.1),j2⟩
   have hex:=bRf (by assumption:(gP (x10.items.list.map ItemV.it) 255).isSome=true);have hexl:=bSb hz hex;refine g3 ?_;refine mY (fun hg121=>?_) fun hg121=>?_
   ·refine g3 ?_;refine dP (fun hg124=>?_) (fun hg124=>?_)
    ·have hg124:x10.name=([]:Bs):=eq_of_beq hg124;refine one ?_;refine bL (t':=false) p7 ?_;refine g6 ?_;refine lR (fun hg131=>?_) fun hg131=>?_
     ·omega
     refine g15 ?_;refine bD func94 (bBo b r1 r2 u G c out ([111,117,116,32]:Bs) ((gP (x10.items.list.map ItemV.it) 255).getD []) r8) rfl rfl (.c0 (.c1 .nil)) j2 fun⟨G13,c14⟩=>?_;refine g5 ?_;refine inc (i+1) ?_;refine g3 ?_;exact dN (i+1,(out++((([111,117,116,32]:Bs)++((gP (x10.items.list.map ItemV.it) 255).getD []))++[10])),true,_,_) z7 ⟨rfl,j2⟩ ⟨rfl,rfl,rfl,rfl,j2⟩ (.c0 (.c0 (.c1 .nil))) ⟨j3 (⟨by dsimp only;omega,hinv22.2.1.trans (lines_out hx0 n9 ‹_› hex),fun h=>by simp at h,by simp;omega⟩),j2⟩ (bA.drop 4)
    have hg124:x10.name≠([]:Bs):=fun h=>absurd (beq_iff_eq.2 h) ag9;refine one ?_;refine bL (t':=true) p7 ?_;refine g27 ?_;have hr:=hR.symm.trans (hinv22.2.1.trans (show fF (P.pr.lines.drop i) out=(out,false) from y9));subst hr;exact rs1 ((_,_),u) ⟨j3 (hinv22.2.2.1),j2⟩
   omega
  refine g8 ?_;refine bD func95 (bKw b r1 r2 (bOr u b) G out.length c _ _ x10.items.list 254 n9 hli.2) rfl rfl (.c1 .nil) ⟨e8,e9,f3,d8,d7,j2⟩ fun _=>?_;refine g13 ?_;refine k_nt (fun hg118=>?_) fun hg118=>?_
  ·refine g34 ?_;have hr:=hR.symm.trans (hinv22.2.1.trans (show fF (P.pr.lines.drop i) out=(out,false) from u6));subst hr;exact rs1 ((_,_),u) ⟨j3 (hinv22.2.2.1),j2⟩
  have hex:=bRf (by assumption:(gP (x10.items.list.map ItemV.it) 254).isSome=true);have hexl:=bSb hz hex;refine g3 ?_;refine mY (fun hg121=>?_) fun hg121=>?_
  ·omega
  refine g3 ?_;refine dP (fun hg124=>?_) (fun hg124=>?_)
  ·have hg124:x10.name=([]:Bs):=eq_of_beq hg124;refine one ?_;refine bL (t':=true) p7 ?_;refine g27 ?_;have hr:=hR.symm.trans (hinv22.2.1.trans (show fF (P.pr.lines.drop i) out=(out,false) from u6));subst hr;exact rs1 ((_,_),u) ⟨j3 (hinv22.2.2.1),j2⟩
  have hg124:x10.name≠([]:Bs):=fun h=>absurd (beq_iff_eq.2 h) ag9;refine one ?_;refine bL (t':=false) p7 ?_;refine g6 ?_;refine lR (fun hg131=>?_) fun hg131=>?_
  ·refine g2 ?_;refine bD func63 (mX _ hli.1) rfl rfl .nil ⟨f3,j2⟩ fun _=>?_;refine g5 ?_;refine jB (fun hc137=>?_) fun hc137=>?_
   ·refine g12 ?_;have hr:=hR.symm.trans (hinv22.2.1.trans (show fF (P.pr.lines.drop i) out=(out,false) from u6));subst hr;exact rs1 ((_,_),u) ⟨j3 (hinv22.2.2.1),j2⟩
   refine g2 ?_;have hnl:=uV (by assumption:cZ x10.name=true);refine g4 ?_;refine bD func94 (bBo b r1 r2 u G c out (x10.name++([58,32]:Bs)) ((gP (x10.items.list.map ItemV.it) 254).getD []) r8) rfl rfl (.c0 (.c1 .nil)) j2 fun⟨G15,c16⟩=>?_;refine g5 ?_;refine inc (i+1) ?_;refine g3 ?_;exact dN (i+1,(out++(((x10.name++([58,32]:Bs))++((gP (x10.items.list.map ItemV.it) 254).getD []))++[10])),true,_,_) z7 ⟨rfl,j2⟩ ⟨rfl,rfl,rfl,rfl,j2⟩ (.c0 (.c0 (.c1 .nil))) ⟨j3 (⟨by dsimp only;omega,hinv22.2.1.trans (lines_step hx0 n9 ‹_› hex),fun h=>by simp at h,by have:=uV ‹cZ x10.name=true›;simp;omega⟩),j2⟩ (bA.drop 4)
  omega
 refine g11 ?_;have hr:=hR.symm.trans (hinv22.2.1.trans (bPx n9));subst hr;exact rs1 ((_,_),u) ⟨j3 (hinv22.2.2.1),j2⟩
theorem bstrN_spec(b r1 r2:Nat)(p:Value)(g c:Nat)(out:Bs)(h0:out≠[])(hc:out.length≤c):cN prog 56 [.pointer (some ⟨b,2,none⟩)] [.obj b (.cells [.map (some r1),.map (some r2),p,.slice (some ⟨g,0,none⟩) out.length c].toArray 154),oU.row (.slice (some ⟨g,0,none⟩) out.length c) 5 out] [] (fun(_:Unit)=> .string (bs out)) (fun _=>[]) (fun _=>[]):=by
 have hT:=jG;refine k8 func56 ntmps56 ?_;intro β hM;refine g6 ?_;refine bU _ _ [(true,0),(true,1),(true,2),(true,3),(true,4),(true,5),(true,6),(true,7),(true,8),(true,9),(false,10),(true,11)] bX o6 (.c0 .nil) bA.self ?_;refine g4 ?_;refine stM rfl (bAu rfl rfl (.inr (by have:=List.length_pos_iff.2 h0;omega))) ?_;refine g6 ?_;refine bIx kT1 rfl rfl rfl rfl u8Ptr o0 rfl rfl rfl h0 ?_;refine g5 ?_;exact rs1 () trivial
theorem bstrE_spec(b r1 r2:Nat)(p:Value)(c:Nat):cN prog 56 [.pointer (some ⟨b,2,none⟩)] [.obj b (.cells [.map (some r1),.map (some r2),p,.slice none 0 c].toArray 154)] [] (fun(_:Unit)=> .string (bs [])) (fun _=>[]) (fun _=>[]):=by
 have hT:=jG;refine k8 func56 ntmps56 ?_;intro β hM;refine g6 ?_;refine bU _ _ [(true,0),(true,1),(true,2),(true,3),(true,4),(true,5),(true,6),(true,7),(true,8),(true,9),(true,10),(true,11)] bX o6 (.c0 .nil) bA.self ?_;refine g4 ?_;refine stM rfl (bAu rfl rfl (.inl rfl)) ?_;refine g5 ?_;refine stM rfl (sti_noString rfl rfl rfl) ?_;refine g4 ?_;exact rs1 () trivial
theorem swrite_spec(P:ProgV)(hP:qA P)(hl1:P.inputs.list.length≤140737488355328)(hl2:P.lines.list.length≤140737488355328):cN prog 27 [.agg #[.slice P.inputs.addr P.inputs.list.length P.inputs.cap,.slice P.lines.addr P.lines.list.length P.lines.cap]] [] [iD,jT.sl (.slice P.inputs.addr P.inputs.list.length P.inputs.cap) P.inputs.list,iO P.inputs.list,nM.sl (.slice P.lines.addr P.lines.list.length P.lines.cap) P.lines.list,kK P.lines.list] (fun(_:Unit)=> .tuple #[.string (bs (cX P.pr).1),.bool (cX P.pr).2]) (fun _=>[]) (fun _=>[]):=by
 have hT:=jG;refine k8 func27 ntmps27 ?_;intro β hM;refine g2 ?_;refine j9 fun b1=>?_;refine g6 ?_;refine j5 func54 (bMr false) ⟨d7,j2⟩ fun r2=>?_;refine j5 func54 (bMr true) ⟨d8,j2⟩ fun r3=>?_;refine ss (k7 (shower_built _ _)) ?_;refine j9 fun b4=>?_;refine g7 ?_;refine cH (t:=5) oU ?_;refine bD func55 (bPb b4 r2 r3 P hP hl1 hl2) rfl rfl (.c1 (.c0 .nil)) ⟨d8,d7,d9,e6,e7,e8,e9,j2⟩ fun⟨⟨G5,c6⟩,u7⟩=>?_;refine bC d7 fun hemp=>?_;dsimp only at hemp;refine g4 ?_
 rcases Decidable.em ((cX P.pr).1=[]) with h0 | h0
 ·skip
  refine g4 ?_;have hg:=hemp h0;subst hg;rw [h0];refine bD func56 (bstrE_spec b4 r2 r3 (bOr u7 b4) c6) rfl rfl (.c0 .nil) j2 fun _=>?_;refine g6 ?_;exact rs2 () j2 (he:=by first | rfl | rw [h0])
 skip
 refine g4 ?_;refine bV kT1 fun hcap=>?_;refine zY kT1 (List.length_pos_iff.2 h0) fun g hg=>?_;subst hg;refine bD func56 (bstrN_spec b4 r2 r3 (bOr u7 b4) g c6 (cX P.pr).1 h0 hcap) rfl rfl (.c0 (.c0 .nil)) j2 fun _=>?_;refine g6 ?_;exact rs2 () j2 (he:=by first | rfl | rw [h0])
theorem sRight_spec(P:ProgV)(hP:qA P)(hl1:P.inputs.list.length≤140737488355328)(hl2:P.lines.list.length≤140737488355328):cN prog 21 [.agg #[.slice P.inputs.addr P.inputs.list.length P.inputs.cap,.slice P.lines.addr P.lines.list.length P.lines.cap]] [] [iD,jT.sl (.slice P.inputs.addr P.inputs.list.length P.inputs.cap) P.inputs.list,iO P.inputs.list,nM.sl (.slice P.lines.addr P.lines.list.length P.lines.cap) P.lines.list,kK P.lines.list] (fun(_:Unit)=> .bool (cX P.pr).2) (fun _=>[]) (fun _=>[]):=by
 have hT:=jG;refine k8 func21 ntmps21 ?_;intro β hM;refine g2 ?_;refine j9 fun b1=>?_;refine g6 ?_;refine j5 func27 (swrite_spec P hP hl1 hl2) ⟨d7,d8,d9,e6,e7,j2⟩ fun _=>?_;refine g14 ?_;exact rs1 () trivial
section
variable {α : Type} {f : α → α → Bool} {x y : α} {i : Nat}
theorem bRv{a b:List α}{k:Nat}(h:a.take k=b.take k)(hx:a[k]?=some x)(hy:b[k]?=some y)(e:x=y):a.take (k+1)=b.take (k+1):=by
 subst e;rw [List.take_add_one,List.take_add_one,h,hx,hy]
theorem take_all{a b:List α}{k:Nat}(h:a.take k=b.take k)(ha:a.length≤k)(hb:b.length≤k):a=b:=by
 rw [List.take_of_length_le ha,List.take_of_length_le hb] at h;exact h
theorem not_take{a b:List α}{k:Nat}(hx:a[k]?=some x)(hy:b[k]?=some y)(e:x≠y):a≠b:=by
 rintro rfl;rw [hx] at hy;exact e (Option.some.inj hy)
end
theorem step_bound{st st':List dZ}{x:cT}(h:hY st x=some st'):x.name.length≤16∧x.nums.length≤256:=by
 unfold hY at h;split at h
 ·unfold operandS at h;split at h
  ·split at h
   ·rename_i hb;rw [hb.2.1];exact⟨(sD hb.2.2).len,o9⟩
   ·simp at h
  ·split at h
   ·simp at h
   ·rename_i hb;simp only [not_or,ne_eq,Classical.not_not,Nat.not_lt] at hb;rw [hb.2.1];exact⟨o9,hb.2.2.2⟩
 ·split at h
  ·cases h
  ·rename_i hb;simp only [not_or,ne_eq,Classical.not_not] at hb;rw [hb.2.2.1,hb.2.2.2.1];exact⟨o9,o9⟩
theorem bHk: ∀{l:List cT} {st st':List dZ},fR l st=some st'→ ∀x∈l,x.name.length≤16∧x.nums.length≤256
 | [],_,_,_,x,hx=>by simp at hx
 | y::l,st,st',h,x,hx=>by
  rw [fR] at h
  cases h1:hY st y with
  | none=>rw [h1] at h;cases h
  | some s1=>
   rw [h1] at h
   rcases List.mem_cons.1 hx with rfl | hx
   ·exact step_bound h1
   ·exact bHk h x hx
theorem bLp{l:List cT}{m:Nat}{t:Bs}(h:gP l m=some t):l.length≤m∧ ∀x∈l,x.name.length≤16∧x.nums.length≤256:=by
 unfold gP at h;split at h
 ·cases h
 ·rename_i hl;split at h
  ·rename_i hq;exact⟨n9,bHk hq⟩
  ·cases h
theorem yF: ∀{ds:List rE} {acc t:Bs},lD ds acc=some t→ ∀d∈ds,d.name.length≤16
 | [],_,_,_,d,hd=>by simp at hd
 | e::ds,acc,t,h,d,hd=>by
  rw [lD] at h;split at h
  ·rename_i he
   rcases List.mem_cons.1 hd with rfl | hd
   ·rw [he];simp
   ·exact yF h d hd
  ·split at h
   ·rename_i hb
    rcases List.mem_cons.1 hd with rfl | hd
    ·exact(sD hb.2).len
    ·exact yF h d hd
   ·cases h
theorem bEj: ∀{xs:List hO} {o o':Bs},mC xs o=(o',true)→ ∀x∈xs,x.name.length≤16∧x.sides.length≤4∧ ∀d∈x.sides,d.name.length≤16
 | [],_,_,_,x,hx=>by simp at hx
 | y::xs,o,o',h,x,hx=>by
  rw [mC] at h
  cases hi:pE y with
  | none=>rw [hi] at h;simp at h
  | some t=>
   rw [hi] at h;simp only at h
   rcases List.mem_cons.1 hx with rfl | hx
   ·unfold pE at hi;split at hi
    ·cases hi
    ·rename_i hb;simp only [not_or,Bool.not_eq_false,Nat.not_lt] at hb;exact⟨(sD hb.1).len,hb.2,yF hi⟩
   ·exact bEj h x hx
theorem bHq: ∀{ls:List kY} {o o':Bs},fF ls o=(o',true)→ ∀l∈ls,l.name.length≤16∧l.items.length≤255∧ ∀x∈l.items,x.name.length≤16∧x.nums.length≤256
 | [],_,_,_,l,hl=>by simp at hl
 | [m],o,o',h,l,hl=>by
  rw [List.mem_singleton.1 hl];simp only [fF] at h
  cases hx:gP m.items 255 with
  | none=>rw [hx] at h;simp at h
  | some t=>
   rw [hx] at h;simp only at h;split at h
   ·simp at h
   ·rename_i hn;simp only [ne_eq,Classical.not_not] at hn;obtain⟨a,b⟩:=bLp hx;exact⟨by rw [hn];simp,a,b⟩
 | m::n::ls,o,o',h,l,hl=>by
  have h':(match gP m.items 254 with
    | none=>(o,false)
    | some t=>if cZ m.name=false then (o,false) else fF (n::ls) (o++(((m.name++[58,32])++t)++[10])))=(o',true):=h
  cases hx:gP m.items 254 with
  | none=>rw [hx] at h';simp at h'
  | some t=>
   rw [hx] at h';simp only at h';split at h'
   ·simp at h'
   ·rename_i hb;simp only [Bool.not_eq_false] at hb
    rcases List.mem_cons.1 hl with rfl | hl
    ·obtain⟨a,b⟩:=bLp hx;exact⟨(sD hb).len,n9,b⟩
    ·exact bHq h' l hl
structure Fine (p:gQ):Prop where
 ins:p.inputs.length≤64
 lns:p.lines.length≤64
 input: ∀x∈p.inputs,x.name.length≤16∧x.sides.length≤4∧ ∀d∈x.sides,d.name.length≤16
 line: ∀l∈p.lines,l.name.length≤16∧l.items.length≤255∧ ∀x∈l.items,x.name.length≤16∧x.nums.length≤256
theorem wH{p:gQ}(h:(cX p).2=true):Fine p:=by
 unfold cX at h;split at h
 ·cases h
 ·rename_i hb;simp only [not_or,Nat.not_lt] at hb
  cases hi:mC p.inputs [] with
  | mk o b=>
   rw [hi] at h
   cases b with
   | false=>cases h
   | true=>
    simp only at h;exact⟨n9,n9,bEj hi,bHq (o':=(fF p.lines o).1) (Prod.ext rfl h)⟩
section
variable {x : ProgV}
theorem tQ{y:InputV}(h:y∈x.inputs.list):y.inp∈x.pr.inputs:=List.mem_map.2 ⟨y,h,rfl⟩
theorem mem_ln{y:LineV}(h:y∈x.lines.list):y.ln∈x.pr.lines:=List.mem_map.2 ⟨y,h,rfl⟩
theorem mem_sd{y:InputV}{d:jF}(h:d∈y.sides.list):d.sd∈y.inp.sides:=List.mem_map.2 ⟨d,h,rfl⟩
theorem mem_it{y:LineV}{d:ItemV}(h:d∈y.items.list):d.it∈y.ln.items:=List.mem_map.2 ⟨d,h,rfl⟩
theorem Fine.ok(h:Fine x.pr)(hr:RngP x.pr):qA x∧x.inputs.list.length≤140737488355328∧x.lines.list.length≤140737488355328:=by
 have e1:x.pr.inputs.length=x.inputs.list.length:=List.length_map _;have e2:x.pr.lines.length=x.lines.list.length:=List.length_map _;have h1:=h.ins;have h2:=h.lns;refine⟨⟨fun y hy=>?_,fun y hy=>?_⟩,n9,n9⟩
 ·obtain⟨a,b,c⟩:=h.input _ (tQ hy);refine⟨Nat.le_trans a p7,fun d hd=>⟨Nat.le_trans (c _ (mem_sd hd)) p7,?_⟩⟩;exact hr.ins _ (tQ hy) _ (mem_sd hd)
 ·obtain⟨a,b,c⟩:=h.line _ (mem_ln hy);refine⟨Nat.le_trans a p7,fun d hd=>⟨Nat.le_trans (c _ (mem_it hd)).1 p7,?_⟩⟩;exact hr.lns _ (mem_ln hy) _ (mem_it hd)
end
theorem flt_of{f:Flt}(h:nU ⟨f.1,f.2⟩ ⟨0,0⟩=true):f=(0,0):=isOk_iff.1 h
theorem flt_not{f:Flt}(h:nU ⟨f.1,f.2⟩ ⟨0,0⟩=false):f≠(0,0):=fun e=>by rw [e] at h;cases h
abbrev w64(z:Int):Int:=IntKind.i64.wrap z
def takesW(f:Int)(two:Bool):Bool:=if f<1∨17<f then false else if f=16 then !two else two || decide (f≤7)
def restW (a b:Int):Int:=if a.tmod b≠0∧decide (a.tmod b<0)≠decide (b<0) then w64 (a.tmod b+b) else a.tmod b
def truthW(b:Bool):Int:=if b then 1 else 0
def big1 (a:Int):Bool:=decide (1<IntKind.u64.wrap a)
def refusesW(f a b:Int):Bool:=if f=4 then b==0 else if f=17 then decide (b<0) else if f=14∨f=15 then big1 a || big1 b else false
def raisedGo:Nat→Int→Int→Nat→Int
 | 0,p,_,_=>p
 | k+1,p,a,n=>if n=0 then p else raisedGo k (if n%2=1 then w64 (p*a) else p) (w64 (a*a)) (n/2)
def raisedW(a n:Int):Int:=raisedGo (n.toNat+1) 1 a n.toNat
def holdsW(f a b:Int):Bool:=if f=8 then a==b else if f=9 then a !=b else if f=10 then decide (a<b) else if f=11 then decide (a≤b) else if f=12 then decide (b≤a) else decide (b<a)
def andW (a b:Int):Int:=w64 ((BitVec.ofInt 64 a&&&BitVec.ofInt 64 b).toNat:Nat)
def orW (a b:Int):Int:=w64 ((BitVec.ofInt 64 a ||| BitVec.ofInt 64 b).toNat:Nat)
def xorW (a b:Int):Int:=w64 ((BitVec.ofInt 64 a^^^BitVec.ofInt 64 b).toNat:Nat)
def divW (a b:Int):Int:=if restW a b≠a.tmod b then w64 (w64 (a.tdiv b)-1) else w64 (a.tdiv b)
def minW (a b:Int):Int:=if b<a then b else a
def maxW (a b:Int):Int:=if b>a then b else a
def dyad0 (f a b:Int):Int:=
 if f=1 then w64 (a+b) else if f=2 then w64 (a-b) else if f=3 then w64 (a*b) else if f=4 then divW a b else if f=5 then (if a=0 then b else restW b a)
 else if f=6 then minW a b else if f=7 then maxW a b else if f=14 then andW a b else if f=15 then orW a b else if f=17 then raisedW a b else truthW (holdsW f a b)
def dyadW (f a b:Int):Int×Int:=if takesW f true=false then (0,10) else if refusesW f a b=true then (0,11) else (dyad0 f a b,0)
def monadW(f a:Int):Int×Int:=
 if takesW f false=false then (0,10) else if f=2 then (w64 (0-a),0) else if f=3 then (w64 (truthW (decide (0<a))-truthW (decide (a<0))),0) else if f=4 then dyadW f 1 a
 else if f=5 then (maxW a (w64 (0-a)),0) else if f=16 then (if big1 a=true then (0,11) else (xorW a 1,0)) else (a,0)
structure Arr where
 sides:List Int
 data:List Int
 deriving Inhabited,DecidableEq
def bNu (s:Int):Bool:=decide (s<0) || decide (65536<s)
def prodGo:List Int→Int→Int×Int
 | [],n=>(n,0)
 | s::r,n=>if 65536<w64 (n*s) then (0,61) else prodGo r (w64 (n*s))
def sizeA (s:List Int):Int×Int:=if 4<s.length∨s.any bNu=true then (0,61) else if s.contains 0=true then (0,0) else prodGo s 1
def rightA(a:Arr):Bool:=(sizeA a.sides).2==0&&(sizeA a.sides).1==(a.data.length:Int)
def mapM (f:Int):List Int→List Int×Int
 | []=>([],0)
 | n::r=>if (monadW f n).2≠0 then ([],(monadW f n).2) else if (mapM f r).2≠0 then ([],(mapM f r).2) else ((monadW f n).1::(mapM f r).1,0)
def tJ:List Int→Int
 | []=>1
 | s::r=>s*tJ r
theorem bCs: ∀(a b:List Int),tJ (a++b)=tJ a*tJ b
 | [],b=>by simp [tJ]
 | s::a,b=>by rw [List.cons_append,tJ,tJ,bCs a b,Int.mul_assoc]
theorem bAp: ∀(a:List Int),tJ a.reverse=tJ a
 | []=>rfl
 | s::a=>by
  rw [List.reverse_cons,bCs,bAp a,tJ,tJ,tJ,Int.mul_one,Int.mul_comm]
structure SidesOk (s:List Int):Prop where
 len:s.length≤4
 rng: ∀x∈s,0≤x∧x≤65536
 prod:0≤tJ s∧tJ s≤65536
theorem SidesOk.reverse{s:List Int}(h:SidesOk s):SidesOk s.reverse:=⟨by simpa using h.len,fun x hx=>h.rng x (by simpa using hx),by rw [bAp];exact h.prod⟩
inductive rO:List Int→List Int→Prop
 | nil:rO [] []
 | cons {s k sides index}:0≤k→k<s→rO sides index→rO (s::sides) (k::index)
theorem rO.len{s k:List Int}(h:rO s k):k.length=s.length:=by induction h<;>simp_all
theorem rO.append{a b c d:List Int}(h:rO a b)(k:rO c d):rO (a++c) (b++d):=by
 induction h with
 | nil=>exact k
 | cons h0 h1 _ ih=>exact .cons h0 h1 ih
theorem rO.reverse{s k:List Int}(h:rO s k):rO s.reverse k.reverse:=by
 induction h with
 | nil=>exact .nil
 | cons h0 h1 _ ih=>
  rw [List.reverse_cons,List.reverse_cons];exact ih.append (.cons h0 h1 .nil)
end Go.Proofs.YtakphiannlpnfaaGreatDoor
