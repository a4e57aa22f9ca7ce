/- Texts of one proof, one behind the other: ExprS, DocS, AlikeP, BackO, WordP, ArrP, ArrL. -/
import Derived.Test.YtakphiannlpnfaaGreatDoorM2
import Derived.Test.YtakphiannlpnfaaGreatDoorM8
import Derived.Test.YtakphiannlpnfaaGreatDoorM7
import Derived.Test.YtakphiannlpnfaaGreatDoorM1
namespace Go.Proofs.YtakphiannlpnfaaGreatDoor
open Go.RowKit Go.Proofs.Tryz
set_option maxRecDepth 100000
def bOp (p:PieceV):bI:=mN.row (.slice p.words.addr p.words.list.length p.words.cap) 9 p.words.list
def bIi (st:List PieceV):List bI:=st.map bOp
theorem maxN(a b:Nat):(if (b:Int)>(a:Int) then (b:Int) else (a:Int))=((max a b:Nat):Int):=by
 split<;>omega
def wsz (l:List Bs):Nat:=(l.map fun w=>w.length+1).sum
theorem bNh(a b:List Bs):wsz (a++b)=wsz a+wsz b:=by simp [wsz]
theorem jQ(w:Bs)(r:List Bs):wsz (w::r)=w.length+1+wsz r:=by simp [wsz]
theorem bJl{l:List Bs}{w:Bs}{i:Nat}(h:l[i]?=some w):w.length+1≤wsz l:=by
 induction l generalizing i with
 | nil=>simp at h
 | cons x r ih=>
  rw [jQ]
  cases i with
  | zero=>simp at h;subst h;omega
  | succ i=>have:=ih (i:=i) ab5;omega
theorem wsz_set{l:List Bs}{w v:Bs}{i:Nat}(h:l[i]?=some w):wsz (l.set i v)+w.length=wsz l+v.length:=by
 induction l generalizing i with
 | nil=>simp at h
 | cons x r ih=>
  cases i with
  | zero=>simp at h;subst h;simp only [List.set_cons_zero,jQ];omega
  | succ i=>have:=ih (i:=i) ab5;simp only [List.set_cons_succ,jQ];omega
theorem bKx: ∀l:List Bs,(joinSp l).length≤wsz l
 | []=>by simp [joinSp]
 | [w]=>by simp [joinSp,wsz]
 | w::x::r=>by
  have:=bKx (x::r);rw [jM w o3,jQ];simp;omega
def OkP (p:PieceV):Prop:=p.words.list≠[]∧wsz p.words.list≤40*p.tokens
theorem brk_set{l:List Bs}{w0 x:Bs}(h0:l[0]?=some w0)(hx:(l.set 0 ([40]++w0))[l.length-1]?=some x):(l.set 0 ([40]++w0)).set (l.length-1) (x++[41])=brk l:=by
 cases l with
 | nil=>simp at h0
 | cons w r=>
  simp at h0;subst h0
  have key: ∀(a:Bs) (r:List Bs) (x:Bs),(a::r)[r.length]?=some x→(a::r).set r.length (x++[41])=brkEnd (a::r):=by
   intro a r
   induction r generalizing a with
   | nil=>intro x h;simp at h;subst h;rfl
   | cons b r ih=>
    intro x h;have:=ih b x ab5;show a::((b::r).set r.length (x++[41]))=a::brkEnd (b::r);rw [this]
  simp only [List.set_cons_zero,List.length_cons,Nat.add_sub_cancel] at hx⊢;exact key _ _ _ hx
structure uO (l:List cM) (st:List PieceV) (i:Nat):Prop where
 steps:dZ (l.drop i) (st.map PieceV.pc)=dZ l []
 le:i≤l.length
 sum:(st.map (·.tokens)).sum≤300*i
 nest: ∀p∈st,p.nest≤i
 ok: ∀p∈st,OkP p
theorem uO.start(l:List cM):uO l [] 0:=⟨rfl,n0,o3,fun p hp=>by simp at hp,fun p hp=>by simp at hp⟩
section
variable {l : List cM} {st st' : List PieceV} {i : Nat} {x : cM} {r : Option Bs} {most : Nat}
theorem x_long{l:List cM}(h:most<l.length):fO l most=none:=by rw [fO,if_pos h]
theorem uO.next(h:uO l st i)(hx:l[i]?=some x){c:List dY}(hs:gS (st.map PieceV.pc) x=some c):dZ (l.drop (i+1)) c=dZ l []:=by
 have:=h.steps;rw [iP hx,dZ,hs] at this;exact this
theorem uO.fail(h:uO l st i)(hx:l[i]?=some x)(hs:gS (st.map PieceV.pc) x=none):fO l most=none:=by
 have:=h.steps;rw [iP hx,dZ,hs] at this;unfold fO;rw [←this];split<;>rfl
theorem uO.done(h:uO l st i)(hi:l.length≤i)(hm: ¬most<l.length):fO l most=match st.map PieceV.pc with
  | [p]=>if most<p.tokens∨32<p.nest then none else some (joinSp p.words)
  | _=>none:=by
 have:=h.steps;rw [List.drop_of_length_le hi,dZ] at this;unfold fO;rw [if_neg hm,←this];split<;>rename_i h1
 ·injection h1 with h1
  rw [h1]
 ·split
  ·rename_i p hp;exact absurd (congrArg some hp) (h1 p)
  ·rfl
end
theorem uQ{s:Bs}(h:cT s=true):s.length≤16:=by
 unfold cT bFc at h;simp only [Bool.and_eq_true] at h;obtain⟨_,_,_,_,h⟩:=h
 cases hl:(fW s).1 with
 | nil=>rw [hl] at h;cases h
 | cons t r=>
  cases r with
  | nil=>
   rw [hl] at h;simp only [Bool.and_eq_true,beq_iff_eq] at h;rw [←h.2];exact(lex_ok s t (by rw [hl];simp)).word
  | cons _ _=>rw [hl] at h;cases h
theorem sum_spell{l:List Int}(hz: ∀z∈l,-9223372036854775808≤z∧z≤9223372036854775807):wsz (l.map dT)≤22*l.length:=by
 induction l with
 | nil=>simp [wsz]
 | cons z r ih=>
  have h1:=hz z o3;have:=qH h1.1 h1.2;have:=ih fun y hy=>hz y ad8;rw [List.map_cons,jQ];simp only [List.length_cons];omega
theorem bBc{x:cM}{q:dY}(hz: ∀z∈x.nums,-9223372036854775808≤z∧z≤9223372036854775807)(h:operandS x=some q):q.words≠[]∧wsz q.words≤40*q.tokens∧q.tokens≤256∧q.nest=0:=by
 unfold operandS at h;split at h
 ·split at h
  ·rename_i hn;injection h with h
   subst h;have:=uQ hn.2.2;refine⟨o3,?_,o3,rfl⟩;simp [wsz];omega
  ·cases h
 ·split at h
  ·cases h
  ·rename_i hn;injection h with h
   subst h;have h0:x.nums≠[]:=fun e=>hn (.inr (.inr (.inl e)));have h1: ¬256<x.nums.length:=fun e=>hn (.inr (.inr (.inr e)));have:=sum_spell hz;refine⟨by simpa using h0,?_,by simp;omega,rfl⟩;simp only;omega
section
variable {l : List cM} {st : List PieceV} {i : Nat} {x : cM} {p : PieceV}
theorem vS(ho:x.how=1∨x.how=2){c:List dY}:gS c x=(operandS x).map (· ::c):=by rw [gS,if_pos ho]
theorem uO.operand(h:uO l st i)(hx:l[i]?=some x)(ho:x.how=1∨x.how=2)(hz: ∀z∈x.nums,-9223372036854775808≤z∧z≤9223372036854775807)(hq:operandS x=some p.pc):uO l (p::st) (i+1):=by
 obtain⟨h1,h2,h3,h4⟩:=bBc hz hq;have hl:=(List.getElem?_eq_some_iff.1 hx).1;refine⟨h.next hx (by rw [vS ho,hq];rfl),hl,?_,fun y hy=>?_,fun y hy=>?_⟩
 ·have:=h.sum;have h3:p.tokens≤256:=h3;simp only [List.map_cons,List.sum_cons];omega
 ·rcases List.mem_cons.1 hy with rfl | hy
  ·have h4:y.nest=0:=h4;omega
  ·have:=h.nest y hy;omega
 ·rcases List.mem_cons.1 hy with rfl | hy
  ·exact⟨h1,h2⟩
  ·exact h.ok y hy
theorem iC{c:List dY}(ho: ¬(x.how=1∨x.how=2))(hb:x.how<3∨7<x.how∨x.nums≠[]∨x.name≠[]∨(verbS x).1=[]):gS c x=none:=by rw [gS,if_neg ho,if_pos hb]
theorem gV{c:List dY}(ho: ¬(x.how=1∨x.how=2))(hs:c.length<if rK x.how then 2 else 1):gS c x=none:=by
 rw [gS,if_neg ho];split
 ·rfl
 ·unfold pF;split
  ·rename_i ht;rw [ht] at hs
   match c,hs with
   | [],_=>rfl
   | [_],_=>rfl
   | _::_::_,hs=>simp at hs;omega
  ·rename_i ht;rw [if_neg ht] at hs
   match c,hs with
   | [],_=>rfl
   | _::_,hs=>simp at hs
theorem kK{c:List dY}(h3:3≤x.how)(h7:x.how≤7)(hn:x.nums=[])(hm:x.name=[])(hv:(verbS x).1≠[]):gS c x=pF x c:=by
 rw [gS,if_neg n0,if_neg];rintro(h | h | h | h | h)
 ·omega
 ·omega
 ·exact h hn
 ·exact h hm
 ·exact hv h
theorem bDi(x:cM):(verbS x).1.length≤6∧(verbS x).2≤2∧((verbS x).1≠[]→1≤(verbS x).2):=by
 have h1:=bGs false x.fn;have h2:=bGs true x.fn;have h3:=bSb x.how;unfold verbS;split
 ·exact⟨by simp;omega,o3,fun _=>by simp⟩
 ·split
  ·exact⟨by simp;omega,o3,fun _=>by simp⟩
  ·split
   ·exact⟨o3,o3,fun h=>absurd rfl h⟩
   ·exact⟨by simp;omega,o3,fun _=>by simp⟩
theorem uO.one(h:uO l (p::st) i)(hx:l[i]?=some x)(hs:gS ((p::st).map PieceV.pc) x=pF x ((p::st).map PieceV.pc))(ht:rK x.how=false)(hv:(verbS x).1≠[]){A:Option Addr}{c:Nat}:
  uO l (⟨⟨A,c,[(verbS x).1]++p.words.list⟩,p.nest,p.tokens+(verbS x).2,false⟩::st) (i+1):=by
 have hl:=(List.getElem?_eq_some_iff.1 hx).1;obtain⟨h1,h2,h3⟩:=bDi x;refine⟨h.next hx (by rw [hs];unfold pF;rw [ht];rfl),hl,?_,fun y hy=>?_,fun y hy=>?_⟩
 ·have:=h.sum;simp only [List.map_cons,List.sum_cons] at this⊢;omega
 ·rcases List.mem_cons.1 hy with rfl | hy
  ·have:=h.nest p o3;dsimp only;omega
  ·have:=h.nest y ad8;omega
 ·rcases List.mem_cons.1 hy with rfl | hy
  ·have:=(h.ok p o3).2;have h3:=h3 hv;refine⟨o3,?_⟩;simp only [List.singleton_append,jQ];omega
  ·exact h.ok y ad8
theorem left_ok{q:PieceV}(h:OkP q):(leftS q.pc).words≠[]∧wsz (leftS q.pc).words≤40*(leftS q.pc).tokens∧(leftS q.pc).tokens≤q.tokens+2∧(leftS q.pc).nest≤q.nest+1:=by
 obtain⟨h1,h2⟩:=h;unfold leftS;split
 ·exact⟨h1,h2,by show q.tokens≤_;omega,by show q.nest≤_;omega⟩
 ·refine⟨brk_ne h1,?_,Nat.le_refl _,Nat.le_refl _⟩
  have key: ∀l:List Bs,l≠[]→wsz (brkEnd l)=wsz l+1:=by
   intro l
   induction l with
   | nil=>intro h;exact absurd rfl h
   | cons w r ih=>
    intro _
    cases r with
    | nil=>simp [brkEnd,wsz]
    | cons x r=>
     show wsz (w::brkEnd (x::r))=_;rw [jQ,ih o3];simp only [jQ];omega
  have hb:wsz (brk q.words.list)=wsz q.words.list+2:=by
   cases hq:q.words.list with
   | nil=>exact absurd hq h1
   | cons w r=>
    show wsz (brkEnd _)=_;rw [key _ o3,jQ,jQ];simp;omega
  show wsz (brk q.words.list)≤40*(q.tokens+2);omega
theorem uO.two{q:PieceV}(h:uO l (p::q::st) i)(hx:l[i]?=some x)(hs:gS ((p::q::st).map PieceV.pc) x=pF x ((p::q::st).map PieceV.pc))(ht:rK x.how=true)(hv:(verbS x).1≠[]){A:Option Addr}{c:Nat}{ws:List Bs}{n t:Nat}
  (hw:ws=(leftS q.pc).words) (hn:n=(leftS q.pc).nest) (hk:t=(leftS q.pc).tokens):
  uO l (⟨⟨A,c,ws++([(verbS x).1]++p.words.list)⟩,max p.nest n,p.tokens+(verbS x).2+t,false⟩::st) (i+1):=by
 subst hw hn hk;have hl:=(List.getElem?_eq_some_iff.1 hx).1;obtain⟨h1,h2,h3⟩:=bDi x;obtain⟨k1,k2,k3,k4⟩:=left_ok (h.ok q o3);refine⟨h.next hx (by rw [hs];unfold pF;rw [ht];rfl),hl,?_,fun y hy=>?_,fun y hy=>?_⟩
 ·have:=h.sum;simp only [List.map_cons,List.sum_cons] at this⊢;omega
 ·rcases List.mem_cons.1 hy with rfl | hy
  ·have:=h.nest p o3;have:=h.nest q o3;dsimp only;omega
  ·have:=h.nest y ad8;omega
 ·rcases List.mem_cons.1 hy with rfl | hy
  ·have:=(h.ok p o3).2;have h3:=h3 hv;refine⟨o3,?_⟩;simp only [List.singleton_append,bNh,jQ];omega
  ·exact h.ok y ad8
end
theorem rev_one{x:PieceV}{r:List PieceV}:(x::r).reverse[(r.length+1)-1]?=some x:=by simp
theorem bJt{x y:PieceV}{r:List PieceV}:(x::y::r).reverse[(r.length+2)-1]?=some x∧(x::y::r).reverse[(r.length+2)-2]?=some y:=by
 constructor
 ·simp
 ·simp
theorem rev_cut1{x:PieceV}{r:List PieceV}:(x::r).reverse.take ((r.length+1)-1)=r.reverse:=by simp
theorem qX{x y:PieceV}{r:List PieceV}:(x::y::r).reverse.take ((r.length+2)-2)=r.reverse:=by simp
theorem one_of{l:List PieceV}(h:l.length=1): ∃p,l=[p]:=by
 match l,h with
 | [p],_=>exact⟨p,rfl⟩
theorem cons_of{l:List PieceV}(h:1≤l.length): ∃p r,l=p::r:=by
 match l,h with
 | p::r,_=>exact⟨p,r,rfl⟩
theorem cons2_of{l:List PieceV}(h:2≤l.length): ∃p q r,l=p::q::r:=by
 match l,h with
 | p::q::r,_=>exact⟨p,q,r,rfl⟩
theorem join_eq: ∀l:List Bs,Lib.join l [32]=joinSp l
 | []=>rfl
 | [w]=>by simp [Lib.join,joinSp]
 | w::x::r=>by
  rw [jM w o3,←join_eq (x::r)];simp [Lib.join]
theorem join_spec(A:Option Addr)(c:Nat)(l:List Bs)(hc:l.length≤c)(hl:(joinSp l).length≤140737488355328)(hn:l.length≤140737488355328):
  cO prog 130 [.slice A l.length c,.string (bs [32])] [] [mN.sl (.slice A l.length c) l] (fun _:Unit=> .string (bs (joinSp l))) (fun _=>[]) (fun _=>[]):=
 lO fun S w hS k=>by
  obtain⟨A',c',e,h⟩:=k _ (.head _);injection e with e1 e2 e3
  subst e1 e3
  cases l with
  | nil=>
   refine(Tryz.strings_Join_none A c (bs [32]) w).mono ?_;rintro e w' ⟨rfl,rfl⟩;exact⟨rfl,Below.refl _ _⟩
  | cons x r=>
   obtain⟨b,o,cs,e1,hb,_,_⟩:=h 0 x rfl;subst e1;have e0:((x::r).map bs).length=(x::r).length:=List.length_map _
   have e4:((x::r).map bs).map (·.data.toList)=x::r:=by
    rw [List.map_map];exact List.map_id _
   have hj:=Tryz.strings_Join b o c ((x::r).map bs) (bs [32]) w (fun j y hy=>?_) (hS b hb) (by rw [e0];exact hn) (by rw [e0];exact hc) (by rw [e4,bs_data,join_eq];exact hl)
   ·rw [e0,e4,bs_data,join_eq] at hj;exact hj
   ·rw [List.getElem?_map] at hy
    cases hz:(x::r)[j]? with
    | none=>rw [hz] at hy;cases hy
    | some z=>
     rw [hz] at hy;simp at hy;subst hy;obtain⟨b',o',cs,e1,_,h3,h4⟩:=h j z hz;injection e1 with e1
     injection e1 with e1 e2
     subst e1 e2;have h4:cs=mN.cells z:=h4;subst h4;have:=h3 0 (.string (bs z)) rfl
     have e:o+j*(Enc.flat mN.size mN.cells).size+0=o+j:=by
      show o+j*1+0=o+j;omega
     rwa [e] at this
theorem sI(l:List Bs):l.length≤wsz l:=by
 induction l with
 | nil=>simp
 | cons w r ih=>rw [jQ,List.length_cons];omega
theorem lS{x:ItemV}(h:(0:Int)<((x.nums.list.length:Nat):Int)):x.it.nums≠[]:=fun e=>by
 have:x.nums.list=[]:=e;rw [this] at h;simp at h
theorem oC{x:ItemV}(h: ¬(0:Int)<((x.nums.list.length:Nat):Int)):x.it.nums=[]:=List.eq_nil_of_length_eq_zero (show x.nums.list.length=0 by omega)
theorem twoT{k:Int}(h:k=4∨k=7):rK k=true:=by
 rcases h with rfl | rfl<;>rfl
theorem twoN{k:Int}(h:k≠4)(h':k≠7):rK k=false:=by simp [rK,h,h']
theorem not_one{st:List PieceV}{most:Nat}(h:st.length≠1):(match st.map PieceV.pc with
  | [p]=>if most<p.tokens∨32<p.nest then none else some (joinSp p.words)
  | _=>none)=none:=by
 match st,h with
 | [],_=>rfl
 | [_],h=>exact absurd rfl h
 | _::_::_,_=>rfl
theorem sP{α:Type}{o:Option α}(h:o.isSome=false):o=none:=by
 cases o with
 | none=>rfl
 | some x=>cases h
theorem uO.len{l:List cM}{st:List PieceV}{i:Nat}(h:uO l st i):st.length≤300*i:=by
 refine Nat.le_trans ?_ h.sum;have ho:=h.ok;clear h
 induction st with
 | nil=>simp
 | cons p r ih=>
  have:=ih fun y hy=>ho y ad8;obtain⟨h1,h2⟩:=ho p o3
  have h3:1≤wsz p.words.list:=by
   cases hp:p.words.list with
   | nil=>exact absurd hp h1
   | cons w t=>rw [jQ];omega
  simp only [List.length_cons,List.map_cons,List.sum_cons];omega
theorem oG{x:ItemV}{st:List PieceV}(h:x.how=4∨x.how=7)(hs:st.length<2):(st.map PieceV.pc).length<if rK x.it.how then 2 else 1:=by
 rw [show rK x.it.how=true from twoT h,List.length_map];exact hs
theorem oO{x:ItemV}{st:List PieceV}(h:x.how≠4)(h':x.how≠7)(hs:st.length<1):(st.map PieceV.pc).length<if rK x.it.how then 2 else 1:=by
 rw [show rK x.it.how=false from twoN h h',List.length_map];exact hs
set_option maxHeartbeats 1000000 in
theorem bKu(b r1 r2:Nat)(p:Value)(G:Option Addr)(m c:Nat)(A:Option Addr)(ci:Nat)(items:List ItemV)(most:Nat)(hm:most≤256)(hit: ∀it∈items,it.name.length≤140737488355328∧ ∀z∈it.nums.list,-9223372036854775808≤z∧z≤9223372036854775807):cO prog 95 [.pointer (some ⟨b,0,none⟩),.slice A items.length ci,.int .i64 (most:Nat)] [.obj b (.cells [.map (some r1),.map (some r2),p,.slice G m c].toArray 154)] [mapF r1 .u8 (rL false),mapF r2 .u8 (rL true),iB,lN.sl (.slice A items.length ci) items,mP items] (fun(_:Unit)=> .tuple #[.string (bs ((fO (items.map ItemV.it) most).getD [])),.bool (fO (items.map ItemV.it) most).isSome]) (fun(_:Unit)=>[.obj b (.cells [.map (some r1),.map (some r2),p,.slice G m c].toArray 154)]) (fun _=>[]):=by
 have hT:=iV;generalize hR:fO (items.map ItemV.it) most=r;refine k6 func95 ntmps95 ?_;intro β hM;refine g15 ?_;refine dO (fun hc21=>?_) fun hc21=>?_
 ·refine g8 ?_;have hr:=hR.symm.trans (x_long ab0);subst hr;exact rs2 () trivial
 refine g16 ?_;refine cH (t:=221) bGb ?_;refine at_loop (ι:=Nat×List PieceV×Option Addr×Nat) (fun⟨i,st,B,e⟩=>[(0,.pointer (some ⟨b,0,none⟩)),(2,.int .i64 (most:Nat)),(8,.slice B st.reverse.length e),(22,.slice A items.length ci),(23,.int .i64 (items.length:Nat)),(24,.int .i64 (i:Nat))]) (fun⟨i,st,B,e⟩=> .obj b (.cells [.map (some r1),.map (some r2),p,.slice G m c].toArray 154)::bGb.row (.slice B st.reverse.length e) 221 st.reverse::bIi st) (fun⟨i,st,B,e⟩=>[Fact.pure (uO (items.map ItemV.it) st i),mapF r1 .u8 (rL false),mapF r2 .u8 (rL true),iB,lN.sl (.slice A items.length ci) items,mP items]) (fun⟨i,st,B,e⟩=>items.length-i) (0,[],none,0) ⟨rfl,rfl,rfl,rfl,rfl,rfl,j1⟩ (.c1 (.cons .head Sel.self)) ⟨j2 (uO.start _),d7,d8,d9,e6,e7,j1⟩ ?_;rintro⟨i,st,B,e⟩;dsimp only;refine bC d7 fun hinv5=>?_;have hil:=hinv5.le;simp only [List.length_map] at hil;have hsum:=hinv5.sum;have hstl:=hinv5.len;refine g6 ?_;refine dO (fun hc25=>?_) fun hc25=>?_
 ·refine g6 ?_;obtain⟨x1,hx2⟩:=gx items i;refine ss (ixs i) ?_;refine ss (mB hx2 0) ?_;refine j5 nE fun b3=>?_;refine g5 ?_;have hx0:(items.map ItemV.it)[i]?=some x1.it:=by rw [List.getElem?_map,hx2];rfl
  have hxi:=hit x1 (j3 hx2);have hvl:=bDi x1.it;refine g5 ?_;refine nP (fun hg31=>?_) fun hg31=>?_
  ·refine g10 ?_;refine bB (numF x1) (Has.each e8 (j3 hx2)) ?_;refine j4 func128 (bDh x1 hxi.1 hxi.2) ⟨d7,e7,j1⟩ fun p4=>?_;refine bC d7 fun hpu=>?_;refine g3 ?_;refine j5 mX fun b5=>?_;refine g11 ?_;refine jG (fun hc42=>?_) fun hc42=>?_
   ·refine g14 ?_;have hr:=hR.symm.trans (hinv5.fail hx0 af2);subst hr;exact rs2 () trivial
   refine g3 ?_;obtain⟨q,hq⟩: ∃q,operandS x1.it=some q:=Option.isSome_iff_exists.1 (by simpa using hc42);have hpc:=hpu q hq;rw [←hpc] at hq;refine g3 ?_;refine gP (m:=p4) rfl rfl rfl rfl rfl fun b6=>?_;refine gR kT5 (cA .head rfl) rfl rfl rfl rfl rfl rfl rfl r9 fun A7 c8=>?_;rw [←List.reverse_cons];refine g9 ?_;refine inc (i+1) ?_;refine g3 ?_;exact nK (i+1,p4::st,_,_) w9 ⟨rfl,rfl,rfl,rfl,rfl,rfl,j1⟩ (.c5 (.c0 (.c2 (Sel.skip (Sel.skip (Sel.skip Sel.self)))))) ⟨j2 (hinv5.operand hx0 o6 hxi.2 hq),e6,e7,e8,e9,f3,j1⟩
  refine g6 ?_;refine fM (fun hc35=>?_) fun hc35=>?_
  ·refine g3 ?_;refine bB (numF x1) (Has.each e8 (j3 hx2)) ?_;refine j4 func128 (bDh x1 hxi.1 hxi.2) ⟨d7,e7,j1⟩ fun p9=>?_;refine bC d7 fun hpu=>?_;refine g3 ?_;refine j5 mX fun b10=>?_;refine g11 ?_;refine jG (fun hc42=>?_) fun hc42=>?_
   ·refine g14 ?_;have hr:=hR.symm.trans (hinv5.fail hx0 af2);subst hr;exact rs2 () trivial
   refine g3 ?_;obtain⟨q,hq⟩: ∃q,operandS x1.it=some q:=Option.isSome_iff_exists.1 (by simpa using hc42);have hpc:=hpu q hq;rw [←hpc] at hq;refine g3 ?_;refine gP (m:=p9) rfl rfl rfl rfl rfl fun b11=>?_;refine gR kT5 (cA .head rfl) rfl rfl rfl rfl rfl rfl rfl r9 fun A12 c13=>?_;rw [←List.reverse_cons];refine g9 ?_;refine inc (i+1) ?_;refine g3 ?_;exact nK (i+1,p9::st,_,_) w9 ⟨rfl,rfl,rfl,rfl,rfl,rfl,j1⟩ (.c5 (.c0 (.c2 (Sel.skip (Sel.skip (Sel.skip Sel.self)))))) ⟨j2 (hinv5.operand hx0 o6 hxi.2 hq),e6,e7,e8,e9,f3,j1⟩
  refine g14 ?_;refine nP (fun hg50=>?_) fun hg50=>?_
  ·refine g18 ?_;refine lY (fun hg58=>?_) fun hg58=>?_
   ·refine g37 ?_;have hr:=hR.symm.trans (hinv5.fail hx0 n9);subst hr;exact rs2 () trivial
   refine g5 ?_;refine lY (fun hg63=>?_) fun hg63=>?_
   ·refine g32 ?_;have hr:=hR.symm.trans (hinv5.fail hx0 n9);subst hr;exact rs2 () trivial
   refine g6 ?_;refine lY (fun hg69=>?_) fun hg69=>?_
   ·refine g26 ?_;have hr:=hR.symm.trans (hinv5.fail hx0 n9);subst hr;exact rs2 () trivial
   refine g5 ?_;refine dS (fun hg74=>?_) (fun hg74=>?_)
   ·have hg74:x1.name≠([]:Bs):=fun h=>by rw [h] at hg74;first | (simp at hg74;done) | exact absurd hg74 o8
    refine g21 ?_;have hr:=hR.symm.trans (hinv5.fail hx0 n9);subst hr;exact rs2 () trivial
   have hg74:x1.name=([]:Bs):=eq_of_beq (bOg hg74);refine g2 ?_;refine cP (z':=((st.length:Nat):Int)) (congrArg Nat.cast List.length_reverse) ?_;refine g5 ?_;refine dO (fun hc79=>?_) fun hc79=>?_
   ·refine g13 ?_;have hr:=hR.symm.trans (hinv5.fail hx0 n9);subst hr;exact rs2 () trivial
   refine g6 ?_;refine bD func129 (bBj b r1 r2 p G m c x1) rfl rfl (.c1 .nil) ⟨d8,d9,j1⟩ fun _=>?_;refine g14 ?_;refine jE (fun hc87=>?_) fun hc87=>?_
   ·have hc87:(verbS x1.it).1=([]:Bs):=eq_of_beq hc87;refine g13 ?_;have hr:=hR.symm.trans (hinv5.fail hx0 (iC q8 (.inr (.inr (.inr (.inr ‹_›))))));subst hr;exact rs2 () trivial
   have hc87:(verbS x1.it).1≠([]:Bs):=fun h=>absurd (beq_iff_eq.2 h) ad7;refine g3 ?_;obtain⟨p1,q1,st,rfl⟩:=cons2_of (l:=st) n0;have hk2:=hinv5.ok q1 o3;have hn2:=hinv5.nest q1 o3;have hk1:=hinv5.ok p1 o3;have hn1:=hinv5.nest p1 o3;simp only [List.map_cons,List.sum_cons] at hsum;simp only [List.length_cons] at hstl;have hw1:=sI p1.words.list;have hk1b:=hk1.2;have hw2:=sI q1.words.list;have hk2b:=hk2.2;rw [show bIi (p1::q1::st)=bOp p1::bOp q1::bIi st from rfl];refine g4 ?_;refine cP (z':=(((st.length+2):Nat):Int)) o3 ?_;refine one ?_;refine inc ((st.length+2)-1) ?_;refine ss (cK hT (k:=((st.length+2)-1)) (cQ kT2) rfl rfl rfl rfl rfl rfl rfl ac6) ?_;refine ss (fG hT (dU.knows (cQ kT2) (k:=((st.length+2)-1)) (x:=p1) bJt.1 0) rfl rfl rfl rfl rfl) ?_;refine j5 mX fun b14=>?_;refine g9 ?_;refine inc (p1.tokens+(verbS x1.it).2) ?_;refine g13 ?_;refine jS (m:=(verbS x1.it).1) rfl rfl rfl rfl rfl fun b15=>?_;refine bQ (E:=mN) (xs:=[(verbS x1.it).1]) .head p8 ?_;refine g2 ?_;refine lU .head (cQ kT5) rfl rfl rfl rfl rfl rfl rfl q9 fun A16 c17=>?_;refine g9 ?_;refine bM (t':=true) o8 ?_;refine g8 ?_;refine cP (z':=(((st.length+2):Nat):Int)) o3 ?_;refine one ?_;refine inc ((st.length+2)-2) ?_;refine ss (cK hT (k:=((st.length+2)-2)) (cQ kT4) rfl rfl rfl rfl rfl rfl rfl ac6) ?_;refine ss (fG hT (dU.knows (cQ kT4) (k:=((st.length+2)-2)) (x:=q1) bJt.2 0) rfl rfl rfl rfl rfl) ?_;refine j5 mX fun b18=>?_;refine g11 ?_;refine jG (fun hc116=>?_) fun hc116=>?_
   ·refine cN ?_;have hq0:=List.length_pos_iff.2 hk2.1;refine oF 8 _ _ [(true,0),(true,1),(true,2),(true,3),(true,4),(true,5),(true,6),(true,7)] bX o5 (.c0 (.c0 (.c0 (.c0 (.c0 (.c0 (.c0 (.cons .head Sel.self)))))))) bA.self ?_;refine g4 ?_;obtain⟨x19,hx20⟩:=gx q1.words.list 0;refine stL rfl (ixs 0) ?_;refine stL rfl (dH hx20 0) ?_;have hm0:=bJl hx20;refine stL rfl (iO rfl rfl rfl q7) ?_;refine stL rfl (ixs 0) ?_;refine one ?_;refine gE hT (k:=0) (fo:=0) (y':=(([40]:Bs)++x19)) kT7 rfl rfl rfl rfl rfl rfl rfl rfl rfl hx20 rfl ?_;refine g9 ?_;refine cP (z':=((q1.words.list.length:Nat):Int)) (rfl) ?_;refine one ?_;refine inc (q1.words.list.length-1) ?_;obtain⟨x21,hx22⟩:=gx (q1.words.list.set 0 (([40]:Bs)++x19)) (q1.words.list.length-1) q9;refine ss (cK hT (k:=(q1.words.list.length-1)) (cQ .head) rfl rfl rfl rfl rfl o3 rfl q9) ?_;refine ss (dH hx22 0) ?_;have hm1:=bJl hx22;have hm2:=wsz_set (v:=[40]++x19) hx20;simp only [List.length_append,List.length_cons,List.length_nil] at hm2;refine ss (iO rfl rfl rfl q7) ?_;refine ss (cK hT (k:=(q1.words.list.length-1)) (cQ .head) rfl rfl rfl rfl rfl o3 rfl q9) ?_;refine gE hT (k:=(q1.words.list.length-1)) (fo:=0) (y':=(x21++([41]:Bs))) .head rfl rfl rfl rfl rfl rfl rfl rfl rfl hx22 rfl ?_;refine g7 ?_;refine inc (q1.nest+1) ?_;refine g8 ?_;refine inc (q1.tokens+2) ?_;refine g5 ?_;have hbr:=brk_set hx20 hx22;refine g5 ?_;refine lU kT1 (cQ kT3) rfl rfl rfl rfl rfl rfl rfl q9 fun A23 c24=>?_;refine g11 ?_;refine inc ((p1.tokens+(verbS x1.it).2)+(q1.tokens+2)) ?_;refine g10 ?_;refine cP (z':=(((max p1.nest (q1.nest+1)):Nat):Int)) (maxN _ _) ?_;refine g4 ?_;refine lQ _ _ (.fl 0 (.fl 1 (.fl 2 (.fl 3 (.fl 4 (.fl 6 (.two 5 7 (.op 7 (.op 8 (.fl 9 .nil))) (.op 5 (.op 8 (.fl 9 .nil)))))))))) bX o5 (.c0 (.c0 (.c0 (.c0 (.c0 (.c0 (.c1 (Sel.skip Sel.self)))))))) bA.self ?_;refine g3 ?_;refine cP (z':=(((st.length+2):Nat):Int)) o3 ?_;refine g2 ?_;refine inc ((st.length+2)-2) ?_;refine one ?_;refine jH (o:=_) (o':=_) rfl rfl ?_ ?_
    ·refine gY hT (k:=((st.length+2)-2)) kT6 rfl rfl rfl rfl rfl rfl rfl rfl rfl w6 ?_;rw [qX];refine gT (.c1 (.c1 (.c1 (.c1 (.c1 (.c1 (.c1 (Sel.skip Sel.self)))))))) (bA.drop 0) ?_;refine one ?_;refine gP (m:=(⟨⟨A23,c24,((q1.words.list.set 0 (([40]:Bs)++x19)).set (q1.words.list.length-1) (x21++([41]:Bs)))++([(verbS x1.it).1]++p1.words.list)⟩,max p1.nest (q1.nest+1),p1.tokens+(verbS x1.it).2+(q1.tokens+2),false⟩:PieceV)) rfl rfl rfl rfl rfl fun b25=>?_;refine gT (.c2 (.c2 (.c2 (.c2 (.c2 (.c2 (.c2 (Sel.skip (Sel.skip Sel.self))))))))) (bA.drop 0) ?_;refine one ?_;refine gR kT1 (cA .head rfl) rfl rfl rfl rfl rfl rfl rfl r9 fun A26 c27=>?_;rw [←List.reverse_cons];refine gT (.c2 (.c2 (.c2 (.c2 (.c2 (.c2 (.c2 (Sel.skip (Sel.skip Sel.self))))))))) (bA.drop 0) ?_;refine g6 ?_;refine inc (i+1) ?_;refine g3 ?_;exact nK (i+1,(⟨⟨A23,c24,((q1.words.list.set 0 (([40]:Bs)++x19)).set (q1.words.list.length-1) (x21++([41]:Bs)))++([(verbS x1.it).1]++p1.words.list)⟩,max p1.nest (q1.nest+1),p1.tokens+(verbS x1.it).2+(q1.tokens+2),false⟩:PieceV)::st,_,_) w9 ⟨rfl,rfl,rfl,rfl,rfl,rfl,j1⟩ (.c6 (.c0 (.c2 (Sel.skip (Sel.skip (Sel.skip (Sel.skip (Sel.skip (Sel.skip Sel.self))))))))) ⟨j2 (hinv5.two hx0 (kK ac1 ac2 (oC n0) ‹_› ‹_›) (twoT o6) ‹_› aa1 s8 s8),d8,d9,e6,e7,e8,j1⟩
    refine gP (m:=(⟨⟨A23,c24,((q1.words.list.set 0 (([40]:Bs)++x19)).set (q1.words.list.length-1) (x21++([41]:Bs)))++([(verbS x1.it).1]++p1.words.list)⟩,max p1.nest (q1.nest+1),p1.tokens+(verbS x1.it).2+(q1.tokens+2),false⟩:PieceV)) rfl rfl rfl rfl rfl fun b28=>?_;refine gT (.c1 (.c1 (.c1 (.c1 (.c1 (.c1 (.c2 (Sel.skip (Sel.skip Sel.self))))))))) (bA.drop 0) ?_;refine one ?_;refine gY hT (k:=((st.length+2)-2)) kT7 rfl rfl rfl rfl rfl rfl rfl rfl rfl w6 ?_;rw [qX];refine gT (.c2 (.c2 (.c2 (.c2 (.c2 (.c2 (.c2 (Sel.skip (Sel.skip Sel.self))))))))) (bA.drop 0) ?_;refine one ?_;refine gR .head (cA kT1 rfl) rfl rfl rfl rfl rfl rfl rfl r9 fun A29 c30=>?_;rw [←List.reverse_cons];refine gT (.c2 (.c2 (.c2 (.c2 (.c2 (.c2 (.c2 (Sel.skip (Sel.skip Sel.self))))))))) (bA.drop 0) ?_;refine g6 ?_;refine inc (i+1) ?_;refine g3 ?_;exact nK (i+1,(⟨⟨A23,c24,((q1.words.list.set 0 (([40]:Bs)++x19)).set (q1.words.list.length-1) (x21++([41]:Bs)))++([(verbS x1.it).1]++p1.words.list)⟩,max p1.nest (q1.nest+1),p1.tokens+(verbS x1.it).2+(q1.tokens+2),false⟩:PieceV)::st,_,_) w9 ⟨rfl,rfl,rfl,rfl,rfl,rfl,j1⟩ (.c6 (.c0 (.c2 (Sel.skip (Sel.skip (Sel.skip (Sel.skip (Sel.skip (Sel.skip Sel.self))))))))) ⟨j2 (hinv5.two hx0 (kK ac1 ac2 (oC n0) ‹_› ‹_›) (twoT o6) ‹_› aa1 s8 s8),d8,d9,e6,e7,e8,j1⟩
   refine g8 ?_;refine lU kT7 (cQ kT2) rfl rfl rfl rfl rfl rfl rfl q9 fun A31 c32=>?_;refine g11 ?_;refine inc ((p1.tokens+(verbS x1.it).2)+q1.tokens) ?_;refine g10 ?_;refine cP (z':=(((max p1.nest q1.nest):Nat):Int)) (maxN _ _) ?_;refine g4 ?_;refine lQ _ _ (.fl 0 (.fl 1 (.fl 2 (.fl 3 (.fl 4 (.fl 6 (.two 5 7 (.op 7 (.op 8 (.fl 9 .nil))) (.op 5 (.op 8 (.fl 9 .nil)))))))))) bX o5 (.c0 (.c0 (.c0 (.c0 (.c0 (.c0 (.c1 (Sel.skip Sel.self)))))))) bA.self ?_;refine g3 ?_;refine cP (z':=(((st.length+2):Nat):Int)) o3 ?_;refine g2 ?_;refine inc ((st.length+2)-2) ?_;refine one ?_;refine jH (o:=_) (o':=_) rfl rfl ?_ ?_
   ·refine gY hT (k:=((st.length+2)-2)) kT6 rfl rfl rfl rfl rfl rfl rfl rfl rfl w6 ?_;rw [qX];refine gT (.c1 (.c1 (.c1 (.c1 (.c1 (.c1 (.c1 (Sel.skip Sel.self)))))))) (bA.drop 0) ?_;refine one ?_;refine gP (m:=(⟨⟨A31,c32,q1.words.list++([(verbS x1.it).1]++p1.words.list)⟩,max p1.nest q1.nest,p1.tokens+(verbS x1.it).2+q1.tokens,false⟩:PieceV)) rfl rfl rfl rfl rfl fun b33=>?_;refine gT (.c2 (.c2 (.c2 (.c2 (.c2 (.c2 (.c2 (Sel.skip (Sel.skip Sel.self))))))))) (bA.drop 0) ?_;refine one ?_;refine gR kT1 (cA .head rfl) rfl rfl rfl rfl rfl rfl rfl r9 fun A34 c35=>?_;rw [←List.reverse_cons];refine gT (.c2 (.c2 (.c2 (.c2 (.c2 (.c2 (.c2 (Sel.skip (Sel.skip Sel.self))))))))) (bA.drop 0) ?_;refine g6 ?_;refine inc (i+1) ?_;refine g3 ?_;exact nK (i+1,(⟨⟨A31,c32,q1.words.list++([(verbS x1.it).1]++p1.words.list)⟩,max p1.nest q1.nest,p1.tokens+(verbS x1.it).2+q1.tokens,false⟩:PieceV)::st,_,_) w9 ⟨rfl,rfl,rfl,rfl,rfl,rfl,j1⟩ (.c6 (.c0 (.c2 (Sel.skip (Sel.skip (Sel.skip (Sel.skip (Sel.skip (Sel.skip Sel.self))))))))) ⟨j2 (hinv5.two hx0 (kK ac1 ac2 (oC n0) ‹_› ‹_›) (twoT o6) ‹_› t6 t6 t6),d8,d9,e6,e7,e8,j1⟩
   refine gP (m:=(⟨⟨A31,c32,q1.words.list++([(verbS x1.it).1]++p1.words.list)⟩,max p1.nest q1.nest,p1.tokens+(verbS x1.it).2+q1.tokens,false⟩:PieceV)) rfl rfl rfl rfl rfl fun b36=>?_;refine gT (.c1 (.c1 (.c1 (.c1 (.c1 (.c1 (.c2 (Sel.skip (Sel.skip Sel.self))))))))) (bA.drop 0) ?_;refine one ?_;refine gY hT (k:=((st.length+2)-2)) kT7 rfl rfl rfl rfl rfl rfl rfl rfl rfl w6 ?_;rw [qX];refine gT (.c2 (.c2 (.c2 (.c2 (.c2 (.c2 (.c2 (Sel.skip (Sel.skip Sel.self))))))))) (bA.drop 0) ?_;refine one ?_;refine gR .head (cA kT1 rfl) rfl rfl rfl rfl rfl rfl rfl r9 fun A37 c38=>?_;rw [←List.reverse_cons];refine gT (.c2 (.c2 (.c2 (.c2 (.c2 (.c2 (.c2 (Sel.skip (Sel.skip Sel.self))))))))) (bA.drop 0) ?_;refine g6 ?_;refine inc (i+1) ?_;refine g3 ?_;exact nK (i+1,(⟨⟨A31,c32,q1.words.list++([(verbS x1.it).1]++p1.words.list)⟩,max p1.nest q1.nest,p1.tokens+(verbS x1.it).2+q1.tokens,false⟩:PieceV)::st,_,_) w9 ⟨rfl,rfl,rfl,rfl,rfl,rfl,j1⟩ (.c6 (.c0 (.c2 (Sel.skip (Sel.skip (Sel.skip (Sel.skip (Sel.skip (Sel.skip Sel.self))))))))) ⟨j2 (hinv5.two hx0 (kK ac1 ac2 (oC n0) ‹_› ‹_›) (twoT o6) ‹_› t6 t6 t6),d8,d9,e6,e7,e8,j1⟩
  refine g6 ?_;refine fM (fun hc54=>?_) fun hc54=>?_
  ·refine g11 ?_;refine lY (fun hg58=>?_) fun hg58=>?_
   ·refine g37 ?_;have hr:=hR.symm.trans (hinv5.fail hx0 n9);subst hr;exact rs2 () trivial
   refine g5 ?_;refine lY (fun hg63=>?_) fun hg63=>?_
   ·refine g32 ?_;have hr:=hR.symm.trans (hinv5.fail hx0 n9);subst hr;exact rs2 () trivial
   refine g6 ?_;refine lY (fun hg69=>?_) fun hg69=>?_
   ·refine g26 ?_;have hr:=hR.symm.trans (hinv5.fail hx0 n9);subst hr;exact rs2 () trivial
   refine g5 ?_;refine dS (fun hg74=>?_) (fun hg74=>?_)
   ·have hg74:x1.name≠([]:Bs):=fun h=>by rw [h] at hg74;first | (simp at hg74;done) | exact absurd hg74 o8
    refine g21 ?_;have hr:=hR.symm.trans (hinv5.fail hx0 n9);subst hr;exact rs2 () trivial
   have hg74:x1.name=([]:Bs):=eq_of_beq (bOg hg74);refine g2 ?_;refine cP (z':=((st.length:Nat):Int)) (congrArg Nat.cast List.length_reverse) ?_;refine g5 ?_;refine dO (fun hc79=>?_) fun hc79=>?_
   ·refine g13 ?_;have hr:=hR.symm.trans (hinv5.fail hx0 n9);subst hr;exact rs2 () trivial
   refine g6 ?_;refine bD func129 (bBj b r1 r2 p G m c x1) rfl rfl (.c1 .nil) ⟨d8,d9,j1⟩ fun _=>?_;refine g14 ?_;refine jE (fun hc87=>?_) fun hc87=>?_
   ·have hc87:(verbS x1.it).1=([]:Bs):=eq_of_beq hc87;refine g13 ?_;have hr:=hR.symm.trans (hinv5.fail hx0 (iC q8 (.inr (.inr (.inr (.inr ‹_›))))));subst hr;exact rs2 () trivial
   have hc87:(verbS x1.it).1≠([]:Bs):=fun h=>absurd (beq_iff_eq.2 h) ad7;refine g3 ?_;obtain⟨p1,q1,st,rfl⟩:=cons2_of (l:=st) n0;have hk2:=hinv5.ok q1 o3;have hn2:=hinv5.nest q1 o3;have hk1:=hinv5.ok p1 o3;have hn1:=hinv5.nest p1 o3;simp only [List.map_cons,List.sum_cons] at hsum;simp only [List.length_cons] at hstl;have hw1:=sI p1.words.list;have hk1b:=hk1.2;have hw2:=sI q1.words.list;have hk2b:=hk2.2;rw [show bIi (p1::q1::st)=bOp p1::bOp q1::bIi st from rfl];refine g4 ?_;refine cP (z':=(((st.length+2):Nat):Int)) o3 ?_;refine one ?_;refine inc ((st.length+2)-1) ?_;refine ss (cK hT (k:=((st.length+2)-1)) (cQ kT2) rfl rfl rfl rfl rfl rfl rfl ac6) ?_;refine ss (fG hT (dU.knows (cQ kT2) (k:=((st.length+2)-1)) (x:=p1) bJt.1 0) rfl rfl rfl rfl rfl) ?_;refine j5 mX fun b39=>?_;refine g9 ?_;refine inc (p1.tokens+(verbS x1.it).2) ?_;refine g13 ?_;refine jS (m:=(verbS x1.it).1) rfl rfl rfl rfl rfl fun b40=>?_;refine bQ (E:=mN) (xs:=[(verbS x1.it).1]) .head p8 ?_;refine g2 ?_;refine lU .head (cQ kT5) rfl rfl rfl rfl rfl rfl rfl q9 fun A41 c42=>?_;refine g9 ?_;refine bM (t':=true) o8 ?_;refine g8 ?_;refine cP (z':=(((st.length+2):Nat):Int)) o3 ?_;refine one ?_;refine inc ((st.length+2)-2) ?_;refine ss (cK hT (k:=((st.length+2)-2)) (cQ kT4) rfl rfl rfl rfl rfl rfl rfl ac6) ?_;refine ss (fG hT (dU.knows (cQ kT4) (k:=((st.length+2)-2)) (x:=q1) bJt.2 0) rfl rfl rfl rfl rfl) ?_;refine j5 mX fun b43=>?_;refine g11 ?_;refine jG (fun hc116=>?_) fun hc116=>?_
   ·refine cN ?_;have hq0:=List.length_pos_iff.2 hk2.1;refine oF 8 _ _ [(true,0),(true,1),(true,2),(true,3),(true,4),(true,5),(true,6),(true,7)] bX o5 (.c0 (.c0 (.c0 (.c0 (.c0 (.c0 (.c0 (.cons .head Sel.self)))))))) bA.self ?_;refine g4 ?_;obtain⟨x44,hx45⟩:=gx q1.words.list 0;refine stL rfl (ixs 0) ?_;refine stL rfl (dH hx45 0) ?_;have hm0:=bJl hx45;refine stL rfl (iO rfl rfl rfl q7) ?_;refine stL rfl (ixs 0) ?_;refine one ?_;refine gE hT (k:=0) (fo:=0) (y':=(([40]:Bs)++x44)) kT7 rfl rfl rfl rfl rfl rfl rfl rfl rfl hx45 rfl ?_;refine g9 ?_;refine cP (z':=((q1.words.list.length:Nat):Int)) (rfl) ?_;refine one ?_;refine inc (q1.words.list.length-1) ?_;obtain⟨x46,hx47⟩:=gx (q1.words.list.set 0 (([40]:Bs)++x44)) (q1.words.list.length-1) q9;refine ss (cK hT (k:=(q1.words.list.length-1)) (cQ .head) rfl rfl rfl rfl rfl o3 rfl q9) ?_;refine ss (dH hx47 0) ?_;have hm1:=bJl hx47;have hm2:=wsz_set (v:=[40]++x44) hx45;simp only [List.length_append,List.length_cons,List.length_nil] at hm2;refine ss (iO rfl rfl rfl q7) ?_;refine ss (cK hT (k:=(q1.words.list.length-1)) (cQ .head) rfl rfl rfl rfl rfl o3 rfl q9) ?_;refine gE hT (k:=(q1.words.list.length-1)) (fo:=0) (y':=(x46++([41]:Bs))) .head rfl rfl rfl rfl rfl rfl rfl rfl rfl hx47 rfl ?_;refine g7 ?_;refine inc (q1.nest+1) ?_;refine g8 ?_;refine inc (q1.tokens+2) ?_;refine g5 ?_;have hbr:=brk_set hx45 hx47;refine g5 ?_;refine lU kT1 (cQ kT3) rfl rfl rfl rfl rfl rfl rfl q9 fun A48 c49=>?_;refine g11 ?_;refine inc ((p1.tokens+(verbS x1.it).2)+(q1.tokens+2)) ?_;refine g10 ?_;refine cP (z':=(((max p1.nest (q1.nest+1)):Nat):Int)) (maxN _ _) ?_;refine g4 ?_;refine lQ _ _ (.fl 0 (.fl 1 (.fl 2 (.fl 3 (.fl 4 (.fl 6 (.two 5 7 (.op 7 (.op 8 (.fl 9 .nil))) (.op 5 (.op 8 (.fl 9 .nil)))))))))) bX o5 (.c0 (.c0 (.c0 (.c0 (.c0 (.c0 (.c1 (Sel.skip Sel.self)))))))) bA.self ?_;refine g3 ?_;refine cP (z':=(((st.length+2):Nat):Int)) o3 ?_;refine g2 ?_;refine inc ((st.length+2)-2) ?_;refine one ?_;refine jH (o:=_) (o':=_) rfl rfl ?_ ?_
    ·refine gY hT (k:=((st.length+2)-2)) kT6 rfl rfl rfl rfl rfl rfl rfl rfl rfl w6 ?_;rw [qX];refine gT (.c1 (.c1 (.c1 (.c1 (.c1 (.c1 (.c1 (Sel.skip Sel.self)))))))) (bA.drop 0) ?_;refine one ?_;refine gP (m:=(⟨⟨A48,c49,((q1.words.list.set 0 (([40]:Bs)++x44)).set (q1.words.list.length-1) (x46++([41]:Bs)))++([(verbS x1.it).1]++p1.words.list)⟩,max p1.nest (q1.nest+1),p1.tokens+(verbS x1.it).2+(q1.tokens+2),false⟩:PieceV)) rfl rfl rfl rfl rfl fun b50=>?_;refine gT (.c2 (.c2 (.c2 (.c2 (.c2 (.c2 (.c2 (Sel.skip (Sel.skip Sel.self))))))))) (bA.drop 0) ?_;refine one ?_;refine gR kT1 (cA .head rfl) rfl rfl rfl rfl rfl rfl rfl r9 fun A51 c52=>?_;rw [←List.reverse_cons];refine gT (.c2 (.c2 (.c2 (.c2 (.c2 (.c2 (.c2 (Sel.skip (Sel.skip Sel.self))))))))) (bA.drop 0) ?_;refine g6 ?_;refine inc (i+1) ?_;refine g3 ?_;exact nK (i+1,(⟨⟨A48,c49,((q1.words.list.set 0 (([40]:Bs)++x44)).set (q1.words.list.length-1) (x46++([41]:Bs)))++([(verbS x1.it).1]++p1.words.list)⟩,max p1.nest (q1.nest+1),p1.tokens+(verbS x1.it).2+(q1.tokens+2),false⟩:PieceV)::st,_,_) w9 ⟨rfl,rfl,rfl,rfl,rfl,rfl,j1⟩ (.c6 (.c0 (.c2 (Sel.skip (Sel.skip (Sel.skip (Sel.skip (Sel.skip (Sel.skip Sel.self))))))))) ⟨j2 (hinv5.two hx0 (kK ac1 ac2 (oC n0) ‹_› ‹_›) (twoT o6) ‹_› aa1 s8 s8),d8,d9,e6,e7,e8,j1⟩
    refine gP (m:=(⟨⟨A48,c49,((q1.words.list.set 0 (([40]:Bs)++x44)).set (q1.words.list.length-1) (x46++([41]:Bs)))++([(verbS x1.it).1]++p1.words.list)⟩,max p1.nest (q1.nest+1),p1.tokens+(verbS x1.it).2+(q1.tokens+2),false⟩:PieceV)) rfl rfl rfl rfl rfl fun b53=>?_;refine gT (.c1 (.c1 (.c1 (.c1 (.c1 (.c1 (.c2 (Sel.skip (Sel.skip Sel.self))))))))) (bA.drop 0) ?_;refine one ?_;refine gY hT (k:=((st.length+2)-2)) kT7 rfl rfl rfl rfl rfl rfl rfl rfl rfl w6 ?_;rw [qX];refine gT (.c2 (.c2 (.c2 (.c2 (.c2 (.c2 (.c2 (Sel.skip (Sel.skip Sel.self))))))))) (bA.drop 0) ?_;refine one ?_;refine gR .head (cA kT1 rfl) rfl rfl rfl rfl rfl rfl rfl r9 fun A54 c55=>?_;rw [←List.reverse_cons];refine gT (.c2 (.c2 (.c2 (.c2 (.c2 (.c2 (.c2 (Sel.skip (Sel.skip Sel.self))))))))) (bA.drop 0) ?_;refine g6 ?_;refine inc (i+1) ?_;refine g3 ?_;exact nK (i+1,(⟨⟨A48,c49,((q1.words.list.set 0 (([40]:Bs)++x44)).set (q1.words.list.length-1) (x46++([41]:Bs)))++([(verbS x1.it).1]++p1.words.list)⟩,max p1.nest (q1.nest+1),p1.tokens+(verbS x1.it).2+(q1.tokens+2),false⟩:PieceV)::st,_,_) w9 ⟨rfl,rfl,rfl,rfl,rfl,rfl,j1⟩ (.c6 (.c0 (.c2 (Sel.skip (Sel.skip (Sel.skip (Sel.skip (Sel.skip (Sel.skip Sel.self))))))))) ⟨j2 (hinv5.two hx0 (kK ac1 ac2 (oC n0) ‹_› ‹_›) (twoT o6) ‹_› aa1 s8 s8),d8,d9,e6,e7,e8,j1⟩
   refine g8 ?_;refine lU kT7 (cQ kT2) rfl rfl rfl rfl rfl rfl rfl q9 fun A56 c57=>?_;refine g11 ?_;refine inc ((p1.tokens+(verbS x1.it).2)+q1.tokens) ?_;refine g10 ?_;refine cP (z':=(((max p1.nest q1.nest):Nat):Int)) (maxN _ _) ?_;refine g4 ?_;refine lQ _ _ (.fl 0 (.fl 1 (.fl 2 (.fl 3 (.fl 4 (.fl 6 (.two 5 7 (.op 7 (.op 8 (.fl 9 .nil))) (.op 5 (.op 8 (.fl 9 .nil)))))))))) bX o5 (.c0 (.c0 (.c0 (.c0 (.c0 (.c0 (.c1 (Sel.skip Sel.self)))))))) bA.self ?_;refine g3 ?_;refine cP (z':=(((st.length+2):Nat):Int)) o3 ?_;refine g2 ?_;refine inc ((st.length+2)-2) ?_;refine one ?_;refine jH (o:=_) (o':=_) rfl rfl ?_ ?_
   ·refine gY hT (k:=((st.length+2)-2)) kT6 rfl rfl rfl rfl rfl rfl rfl rfl rfl w6 ?_;rw [qX];refine gT (.c1 (.c1 (.c1 (.c1 (.c1 (.c1 (.c1 (Sel.skip Sel.self)))))))) (bA.drop 0) ?_;refine one ?_;refine gP (m:=(⟨⟨A56,c57,q1.words.list++([(verbS x1.it).1]++p1.words.list)⟩,max p1.nest q1.nest,p1.tokens+(verbS x1.it).2+q1.tokens,false⟩:PieceV)) rfl rfl rfl rfl rfl fun b58=>?_;refine gT (.c2 (.c2 (.c2 (.c2 (.c2 (.c2 (.c2 (Sel.skip (Sel.skip Sel.self))))))))) (bA.drop 0) ?_;refine one ?_;refine gR kT1 (cA .head rfl) rfl rfl rfl rfl rfl rfl rfl r9 fun A59 c60=>?_;rw [←List.reverse_cons];refine gT (.c2 (.c2 (.c2 (.c2 (.c2 (.c2 (.c2 (Sel.skip (Sel.skip Sel.self))))))))) (bA.drop 0) ?_;refine g6 ?_;refine inc (i+1) ?_;refine g3 ?_;exact nK (i+1,(⟨⟨A56,c57,q1.words.list++([(verbS x1.it).1]++p1.words.list)⟩,max p1.nest q1.nest,p1.tokens+(verbS x1.it).2+q1.tokens,false⟩:PieceV)::st,_,_) w9 ⟨rfl,rfl,rfl,rfl,rfl,rfl,j1⟩ (.c6 (.c0 (.c2 (Sel.skip (Sel.skip (Sel.skip (Sel.skip (Sel.skip (Sel.skip Sel.self))))))))) ⟨j2 (hinv5.two hx0 (kK ac1 ac2 (oC n0) ‹_› ‹_›) (twoT o6) ‹_› t6 t6 t6),d8,d9,e6,e7,e8,j1⟩
   refine gP (m:=(⟨⟨A56,c57,q1.words.list++([(verbS x1.it).1]++p1.words.list)⟩,max p1.nest q1.nest,p1.tokens+(verbS x1.it).2+q1.tokens,false⟩:PieceV)) rfl rfl rfl rfl rfl fun b61=>?_;refine gT (.c1 (.c1 (.c1 (.c1 (.c1 (.c1 (.c2 (Sel.skip (Sel.skip Sel.self))))))))) (bA.drop 0) ?_;refine one ?_;refine gY hT (k:=((st.length+2)-2)) kT7 rfl rfl rfl rfl rfl rfl rfl rfl rfl w6 ?_;rw [qX];refine gT (.c2 (.c2 (.c2 (.c2 (.c2 (.c2 (.c2 (Sel.skip (Sel.skip Sel.self))))))))) (bA.drop 0) ?_;refine one ?_;refine gR .head (cA kT1 rfl) rfl rfl rfl rfl rfl rfl rfl r9 fun A62 c63=>?_;rw [←List.reverse_cons];refine gT (.c2 (.c2 (.c2 (.c2 (.c2 (.c2 (.c2 (Sel.skip (Sel.skip Sel.self))))))))) (bA.drop 0) ?_;refine g6 ?_;refine inc (i+1) ?_;refine g3 ?_;exact nK (i+1,(⟨⟨A56,c57,q1.words.list++([(verbS x1.it).1]++p1.words.list)⟩,max p1.nest q1.nest,p1.tokens+(verbS x1.it).2+q1.tokens,false⟩:PieceV)::st,_,_) w9 ⟨rfl,rfl,rfl,rfl,rfl,rfl,j1⟩ (.c6 (.c0 (.c2 (Sel.skip (Sel.skip (Sel.skip (Sel.skip (Sel.skip (Sel.skip Sel.self))))))))) ⟨j2 (hinv5.two hx0 (kK ac1 ac2 (oC n0) ‹_› ‹_›) (twoT o6) ‹_› t6 t6 t6),d8,d9,e6,e7,e8,j1⟩
  refine g9 ?_;refine lY (fun hg58=>?_) fun hg58=>?_
  ·refine g37 ?_;have hr:=hR.symm.trans (hinv5.fail hx0 n9);subst hr;exact rs2 () trivial
  refine g5 ?_;refine lY (fun hg63=>?_) fun hg63=>?_
  ·refine g32 ?_;have hr:=hR.symm.trans (hinv5.fail hx0 n9);subst hr;exact rs2 () trivial
  refine g6 ?_;refine lY (fun hg69=>?_) fun hg69=>?_
  ·refine g26 ?_;have hr:=hR.symm.trans (hinv5.fail hx0 n9);subst hr;exact rs2 () trivial
  refine g5 ?_;refine dS (fun hg74=>?_) (fun hg74=>?_)
  ·have hg74:x1.name≠([]:Bs):=fun h=>by rw [h] at hg74;first | (simp at hg74;done) | exact absurd hg74 o8
   refine g21 ?_;have hr:=hR.symm.trans (hinv5.fail hx0 n9);subst hr;exact rs2 () trivial
  have hg74:x1.name=([]:Bs):=eq_of_beq (bOg hg74);refine g2 ?_;refine cP (z':=((st.length:Nat):Int)) (congrArg Nat.cast List.length_reverse) ?_;refine g5 ?_;refine dO (fun hc79=>?_) fun hc79=>?_
  ·refine g13 ?_;have hr:=hR.symm.trans (hinv5.fail hx0 n9);subst hr;exact rs2 () trivial
  refine g6 ?_;refine bD func129 (bBj b r1 r2 p G m c x1) rfl rfl (.c1 .nil) ⟨d8,d9,j1⟩ fun _=>?_;refine g14 ?_;refine jE (fun hc87=>?_) fun hc87=>?_
  ·have hc87:(verbS x1.it).1=([]:Bs):=eq_of_beq hc87;refine g13 ?_;have hr:=hR.symm.trans (hinv5.fail hx0 (iC q8 (.inr (.inr (.inr (.inr ‹_›))))));subst hr;exact rs2 () trivial
  have hc87:(verbS x1.it).1≠([]:Bs):=fun h=>absurd (beq_iff_eq.2 h) ad7;refine g3 ?_;obtain⟨p1,st,rfl⟩:=cons_of (l:=st) n0;have hk1:=hinv5.ok p1 o3;have hn1:=hinv5.nest p1 o3;simp only [List.map_cons,List.sum_cons] at hsum;simp only [List.length_cons] at hstl;have hw1:=sI p1.words.list;have hk1b:=hk1.2;rw [show bIi (p1::st)=bOp p1::bIi st from rfl];refine g4 ?_;refine cP (z':=(((st.length+1):Nat):Int)) o3 ?_;refine one ?_;refine inc ((st.length+1)-1) ?_;refine ss (cK hT (k:=((st.length+1)-1)) (cQ kT2) rfl rfl rfl rfl rfl rfl rfl ac6) ?_;refine ss (mB rev_one 0) ?_;refine j5 mX fun b64=>?_;refine g9 ?_;refine inc (p1.tokens+(verbS x1.it).2) ?_;refine g13 ?_;refine jS (m:=(verbS x1.it).1) rfl rfl rfl rfl rfl fun b65=>?_;refine bQ (E:=mN) (xs:=[(verbS x1.it).1]) .head p8 ?_;refine g2 ?_;refine lU .head (cQ kT5) rfl rfl rfl rfl rfl rfl rfl q9 fun A66 c67=>?_;refine g9 ?_;refine bM (t':=false) o8 ?_;refine g5 ?_;refine lQ _ _ (.fl 0 (.fl 1 (.fl 2 (.fl 3 (.fl 4 (.fl 6 (.two 5 7 (.op 7 (.op 8 (.fl 9 .nil))) (.op 5 (.op 8 (.fl 9 .nil)))))))))) bX o5 (.c0 (.c0 (.c0 (.c0 (.c1 (Sel.skip Sel.self)))))) bA.self ?_;refine g3 ?_;refine cP (z':=(((st.length+1):Nat):Int)) o3 ?_;refine g2 ?_;refine inc ((st.length+1)-1) ?_;refine one ?_;refine jH (o:=_) (o':=_) rfl rfl ?_ ?_
  ·refine gY hT (k:=((st.length+1)-1)) kT4 rfl rfl rfl rfl rfl rfl rfl rfl rfl w6 ?_;rw [rev_cut1];refine gT (.c1 (.c1 (.c1 (.c1 (.c1 (Sel.skip Sel.self)))))) (bA.drop 0) ?_;refine one ?_;refine gP (m:=(⟨⟨A66,c67,[(verbS x1.it).1]++p1.words.list⟩,p1.nest,p1.tokens+(verbS x1.it).2,false⟩:PieceV)) rfl rfl rfl rfl rfl fun b68=>?_;refine gT (.c2 (.c2 (.c2 (.c2 (.c2 (Sel.skip (Sel.skip Sel.self))))))) (bA.drop 0) ?_;refine one ?_;refine gR kT1 (cA .head rfl) rfl rfl rfl rfl rfl rfl rfl r9 fun A69 c70=>?_;rw [←List.reverse_cons];refine gT (.c2 (.c2 (.c2 (.c2 (.c2 (Sel.skip (Sel.skip Sel.self))))))) (bA.drop 0) ?_;refine g6 ?_;refine inc (i+1) ?_;refine g3 ?_;exact nK (i+1,(⟨⟨A66,c67,[(verbS x1.it).1]++p1.words.list⟩,p1.nest,p1.tokens+(verbS x1.it).2,false⟩:PieceV)::st,_,_) w9 ⟨rfl,rfl,rfl,rfl,rfl,rfl,j1⟩ (.c4 (.c0 (.c2 (Sel.skip (Sel.skip (Sel.skip (Sel.skip Sel.self))))))) ⟨j2 (hinv5.one hx0 (kK ac1 ac2 (oC n0) ‹_› ‹_›) (twoN ‹_› ‹_›) ‹_›),d8,d9,e6,e7,e8,j1⟩
  refine gP (m:=(⟨⟨A66,c67,[(verbS x1.it).1]++p1.words.list⟩,p1.nest,p1.tokens+(verbS x1.it).2,false⟩:PieceV)) rfl rfl rfl rfl rfl fun b71=>?_;refine gT (.c1 (.c1 (.c1 (.c1 (.c2 (Sel.skip (Sel.skip Sel.self))))))) (bA.drop 0) ?_;refine one ?_;refine gY hT (k:=((st.length+1)-1)) kT5 rfl rfl rfl rfl rfl rfl rfl rfl rfl w6 ?_;rw [rev_cut1];refine gT (.c2 (.c2 (.c2 (.c2 (.c2 (Sel.skip (Sel.skip Sel.self))))))) (bA.drop 0) ?_;refine one ?_;refine gR .head (cA kT1 rfl) rfl rfl rfl rfl rfl rfl rfl r9 fun A72 c73=>?_;rw [←List.reverse_cons];refine gT (.c2 (.c2 (.c2 (.c2 (.c2 (Sel.skip (Sel.skip Sel.self))))))) (bA.drop 0) ?_;refine g6 ?_;refine inc (i+1) ?_;refine g3 ?_;exact nK (i+1,(⟨⟨A66,c67,[(verbS x1.it).1]++p1.words.list⟩,p1.nest,p1.tokens+(verbS x1.it).2,false⟩:PieceV)::st,_,_) w9 ⟨rfl,rfl,rfl,rfl,rfl,rfl,j1⟩ (.c4 (.c0 (.c2 (Sel.skip (Sel.skip (Sel.skip (Sel.skip Sel.self))))))) ⟨j2 (hinv5.one hx0 (kK ac1 ac2 (oC n0) ‹_› ‹_›) (twoN ‹_› ‹_›) ‹_›),d8,d9,e6,e7,e8,j1⟩
 refine g10 ?_;refine cP (z':=((st.length:Nat):Int)) (congrArg Nat.cast List.length_reverse) ?_;refine g2 ?_;refine bEk (fun hg174=>?_) fun hg174=>?_
 ·refine g25 ?_;have hr:=hR.symm.trans ((hinv5.done ab0 ab0).trans (not_one q9));subst hr;exact rs2 () trivial
 obtain⟨p,rfl⟩:=one_of (l:=st) n0;simp only [List.map_cons,List.map_nil,List.sum_cons,List.sum_nil] at hsum;rw [show bIi [p]=[bOp p] from rfl];refine one ?_;refine ss (cK hT (k:=0) (cQ kT1) rfl rfl rfl rfl rfl rfl rfl o3) ?_;refine one ?_;refine ss (j6 hT (dU.knows (cQ kT1) (k:=0) (x:=p) rfl 2)) ?_;refine g4 ?_;refine lY (fun hg182=>?_) fun hg182=>?_
 ·refine g17 ?_;have hr:=hR.symm.trans ((hinv5.done ab0 ab0).trans (if_pos (show most<p.tokens∨32<p.nest by omega)));subst hr;exact rs2 () trivial
 refine one ?_;refine ss (cK hT (k:=0) (cQ kT1) rfl rfl rfl rfl rfl rfl rfl o3) ?_;refine one ?_;refine ss (j6 hT (dU.knows (cQ kT1) (k:=0) (x:=p) rfl 1)) ?_;refine g4 ?_;refine dO (fun hc188=>?_) fun hc188=>?_
 ·refine g8 ?_;have hr:=hR.symm.trans ((hinv5.done ab0 ab0).trans (if_pos (show most<p.tokens∨32<p.nest by omega)));subst hr;exact rs2 () trivial
 refine g5 ?_;refine ss (cK hT (k:=0) (cQ kT1) rfl rfl rfl rfl rfl rfl rfl o3) ?_;refine one ?_;refine ss (j6 hT (dU.knows (cQ kT1) (k:=0) (x:=p) rfl 0)) ?_;refine bV kT2 fun hcap=>bE kT2 ?_;have hjl:=bKx p.words.list;have hok:=hinv5.ok p o3;have hws:=sI p.words.list;have hok2:=hok.2;refine bD func130 (join_spec _ _ _ hcap n0 n0) rfl rfl .nil ⟨d7,j1⟩ fun _=>?_;refine g5 ?_;have hr:=hR.symm.trans ((hinv5.done ab0 ab0).trans (if_neg (show ¬(most<p.tokens∨32<p.nest) by omega)));subst hr;exact rs2 () trivial
theorem uR:cT []=false:=by decide+kernel
structure pY (p:ProgV):Prop where
 input: ∀x∈p.inputs.list,x.name.length≤140737488355328∧ ∀d∈x.sides.list,d.name.length≤140737488355328∧ -9223372036854775808≤d.n∧d.n≤9223372036854775807
 line: ∀x∈p.lines.list,x.name.length≤140737488355328∧ ∀it∈x.items.list,it.name.length≤140737488355328∧ ∀z∈it.nums.list,-9223372036854775808≤z∧z≤9223372036854775807
def pJ (p:fT)(i:Nat)(out:Bs):Bs×Bool:=match gZ (p.inputs.drop i) out with
 | (o,false)=>(o,false)
 | (o,true)=>dN p.lines o
section
variable {p : fT} {i : Nat} {out : Bs} {x : dQ} {t : Bs}
theorem bBr(h:p.lines=[]∨64<p.inputs.length+p.lines.length):cI p=([],false):=by rw [cI,if_pos h]
theorem prog_start(h: ¬(p.lines=[]∨64<p.inputs.length+p.lines.length)):cI p=pJ p 0 []:=by rw [cI,if_neg h];rfl
theorem zK(hx:p.inputs[i]?=some x)(hn:mD x=none):pJ p i out=(out,false):=by rw [pJ,iP hx,gZ,hn]
theorem prog_step(hx:p.inputs[i]?=some x)(hn:mD x=some t):pJ p i out=pJ p (i+1) (out++(([105,110,32]++t)++[10])):=by rw [pJ,iP hx,gZ,hn];rfl
theorem prog_lines(hi:p.inputs.length≤i):pJ p i out=dN (p.lines.drop 0) out:=by rw [pJ,List.drop_of_length_le hi];rfl
end
section
variable {l : List iD} {i : Nat} {out : Bs} {x : iD} {t : Bs}
theorem bSu(hi:l.length≤i):dN (l.drop i) out=(out,true):=by rw [List.drop_of_length_le hi];rfl
theorem bBl(hx:l[i]?=some x)(hi:i+1=l.length):l.drop i=[x]:=by rw [iP hx,List.drop_of_length_le n0]
theorem bBn(hx:l[i]?=some x)(hi:i+1<l.length): ∃y r,l.drop (i+1)=y::r∧l.drop i=x::y::r:=by
 have:l[i+1]?=some l[i+1]:=List.getElem?_eq_getElem hi;exact⟨_,_,iP this,by rw [iP hx,iP this]⟩
theorem sW(hx:l[i]?=some x)(he:fO x.items (if i+1=l.length then 255 else 254)=none):dN (l.drop i) out=(out,false):=by
 have hl:=(List.getElem?_eq_some_iff.1 hx).1
 by_cases hi:i+1=l.length
 ·rw [if_pos hi] at he;rw [bBl hx hi,dN,he]
 ·rw [if_neg hi] at he;obtain⟨y,r,_,h2⟩:=bBn hx n0;rw [h2,dN,he];exact fun h=>by cases h
theorem rC(hx:l[i]?=some x)(hi:i+1=l.length)(hn:x.name≠[]){t:Bs}(he:fO x.items 255=some t):dN (l.drop i) out=(out,false):=by
 rw [bBl hx hi,dN,he];simp [hn]
theorem mU(hx:l[i]?=some x)(hi:i+1<l.length)(hn:cT x.name=false){t:Bs}(he:fO x.items 254=some t):dN (l.drop i) out=(out,false):=by
 obtain⟨y,r,_,h2⟩:=bBn hx hi;rw [h2,dN,he]
 ·simp [hn]
 ·exact fun h=>by cases h
theorem lines_out(hx:l[i]?=some x)(hi:i+1=l.length)(hn:x.name=[]){t:Bs}(he:fO x.items 255=some t):dN (l.drop i) out=dN (l.drop (i+1)) (out++(([111,117,116,32]++t)++[10])):=by
 rw [bBl hx hi,dN,he,bSu n0];simp [hn]
theorem lines_step(hx:l[i]?=some x)(hi:i+1<l.length)(hn:cT x.name=true){t:Bs}(he:fO x.items 254=some t):dN (l.drop i) out=dN (l.drop (i+1)) (out++(((x.name++[58,32])++t)++[10])):=by
 obtain⟨y,r,h1,h2⟩:=bBn hx hi;rw [h2,h1,dN,he]
 ·simp [hn]
 ·exact fun h=>by cases h
end
theorem step_okp{st st':List dY}{x:cM}(hz: ∀z∈x.nums,-9223372036854775808≤z∧z≤9223372036854775807)(ho: ∀p∈st,p.words≠[]∧wsz p.words≤40*p.tokens)(h:gS st x=some st'): ∀p∈st',p.words≠[]∧wsz p.words≤40*p.tokens:=by
 unfold gS at h;split at h
 ·cases hq:operandS x with
  | none=>rw [hq] at h;cases h
  | some q=>
   rw [hq] at h;injection h with h
   subst h;intro p hp
   rcases List.mem_cons.1 hp with rfl | hp
   ·exact⟨(bBc hz hq).1,(bBc hz hq).2.1⟩
   ·exact ho p hp
 ·split at h
  ·cases h
  ·rename_i hn;have hv:(verbS x).1≠[]:=fun e=>hn (.inr (.inr (.inr (.inr e))));obtain⟨v1,_,v3⟩:=bDi x;have v3:=v3 hv;unfold pF at h;split at h
   ·split at h
    ·rename_i p q r;injection h with h
     subst h;have hq:=ho q o3;obtain⟨k1,k2,_,_⟩:=left_ok (q:=⟨⟨none,0,q.words⟩,q.nest,q.tokens,q.plain⟩) hq;have k1:(leftS q).words≠[]:=k1;have k2:wsz (leftS q).words≤40*(leftS q).tokens:=k2;have hp:=ho p o3;intro y hy
     rcases List.mem_cons.1 hy with rfl | hy
     ·refine⟨o3,?_⟩;simp only [bNh,jQ];omega
     ·exact ho y ad8
    ·cases h
   ·split at h
    ·rename_i p r;injection h with h
     subst h;have hp:=ho p o3;intro y hy
     rcases List.mem_cons.1 hy with rfl | hy
     ·refine⟨o3,?_⟩;simp only [jQ];omega
     ·exact ho y ad8
    ·cases h
theorem bQb: ∀{l:List cM} {st st':List dY},(∀x∈l,∀z∈x.nums,-9223372036854775808≤z∧z≤9223372036854775807)→(∀p∈st,p.words≠[]∧wsz p.words≤40*p.tokens)→dZ l st=some st'→ ∀p∈st',p.words≠[]∧wsz p.words≤40*p.tokens
 | [],st,st',_,ho,h=>by
  simp [dZ] at h;subst h;exact ho
 | x::r,st,st',hz,ho,h=>by
  rw [dZ] at h
  cases h1:gS st x with
  | none=>rw [h1] at h;cases h
  | some s1=>
   rw [h1] at h;exact bQb (fun y hy=>hz y ad8) (step_okp (hz x o3) ho h1) h
theorem bQw{l:List cM}{most:Nat}{t:Bs}(hz: ∀x∈l,∀z∈x.nums,-9223372036854775808≤z∧z≤9223372036854775807)(h:fO l most=some t):t.length≤40*most:=by
 unfold fO at h;split at h
 ·cases h
 ·split at h
  ·rename_i p hp;split at h
   ·cases h
   ·injection h with h
    subst h;have h1:=(bQb hz (fun p hp=>by simp at hp) hp p o3).2;have:=bKx p.words;omega
  ·cases h
section
variable {x : InputV} {j : Nat} {d : jK} {t : Bs}
theorem bRb(h:cT x.name=false∨4<x.sides.list.length):mD x.inp=none:=by
 rw [mD,if_pos (show cT x.inp.name=false∨4<x.inp.sides.length from h.imp id fun h=>by show 4<(x.sides.list.map jK.sd).length;rw [List.length_map];exact h)]
theorem input_start(h:cT x.name=true)(h4: ¬4<x.sides.list.length):mD x.inp=jZ ((x.sides.list.map jK.sd).drop 0) x.name:=by
 rw [mD,if_neg]
 ·rfl
 ·rintro(h' | h')
  ·rw [show x.inp.name=x.name from rfl,h] at h';cases h'
  ·rw [show x.inp.sides=x.sides.list.map jK.sd from rfl,List.length_map] at h';exact h4 h'
theorem sd_at(hd:x.sides.list[j]?=some d):(x.sides.list.map jK.sd)[j]?=some d.sd:=by rw [List.getElem?_map,hd];rfl
theorem side_num(hd:x.sides.list[j]?=some d)(hn:d.name=[]):jZ ((x.sides.list.map jK.sd).drop j) t=jZ ((x.sides.list.map jK.sd).drop (j+1)) (t++([32]++dT d.n)):=by
 rw [iP (sd_at hd),jZ,if_pos (show d.sd.name=[] from hn)];rfl
theorem side_name(hd:x.sides.list[j]?=some d)(hn:d.name≠[])(h0:d.n=0)(hb:cT d.name=true):jZ ((x.sides.list.map jK.sd).drop j) t=jZ ((x.sides.list.map jK.sd).drop (j+1)) (t++([32]++d.name)):=by
 rw [iP (sd_at hd),jZ,if_neg (show ¬d.sd.name=[] from hn),if_pos (show d.sd.n=0∧cT d.sd.name=true from ⟨h0,hb⟩)];rfl
theorem side_bad(hd:x.sides.list[j]?=some d)(hn:d.name≠[])(h:d.n≠0∨cT d.name=false):jZ ((x.sides.list.map jK.sd).drop j) t=none:=by
 rw [iP (sd_at hd),jZ,if_neg (show ¬d.sd.name=[] from hn),if_neg];rintro⟨h1,h2⟩
 rcases h with h | h
 ·exact h h1
 ·rw [show d.sd.name=d.name from rfl,h] at h2;cases h2
theorem sides_done(hj:x.sides.list.length≤j):jZ ((x.sides.list.map jK.sd).drop j) t=some t:=by
 rw [List.drop_of_length_le (by rw [List.length_map];exact hj)];rfl
end
theorem rQ{α β:Type}{f:α→β}{l:List α}{i:Nat}{x:α}(h:l[i]?=some x):(l.map f)[i]?=some (f x):=by rw [List.getElem?_map,h];rfl
theorem bRz{o:Option Bs}(h:o.isSome=true):o=some (o.getD []):=by
 cases o with
 | none=>cases h
 | some x=>rfl
theorem shower_built(r1 r2:Nat):prog.built 154 [(0,.map (some r1)),(1,.map (some r2))]=some #[.map (some r1),.map (some r2),.pointer none,.slice none 0 0]:=n7
theorem wH:(prog.info? 76).bind (·.zero)=some (.agg #[.string (bs []),.int .i64 0]):=n7
theorem bPl(b r1 r2:Nat)(P:ProgV)(hP:pY P)(hl1:P.inputs.list.length≤140737488355328)(hl2:P.lines.list.length≤140737488355328):cO prog 55 [.pointer (some ⟨b,0,none⟩),.agg #[.slice P.inputs.addr P.inputs.list.length P.inputs.cap,.slice P.lines.addr P.lines.list.length P.lines.cap]] [.obj b (.cells [.map (some r1),.map (some r2),.pointer none,.slice none 0 0].toArray 154),oU.row (.slice none 0 0) 5 []] [mapF r1 .u8 (rL false),mapF r2 .u8 (rL true),iB,jJ.sl (.slice P.inputs.addr P.inputs.list.length P.inputs.cap) P.inputs.list,hZ P.inputs.list,nL.sl (.slice P.lines.addr P.lines.list.length P.lines.cap) P.lines.list,lF P.lines.list] (fun(_:(Option Addr×Nat)×Bool)=> .bool (cI P.pr).2) (fun(x:(Option Addr×Nat)×Bool)=>[.obj b (.cells [.map (some r1),.map (some r2),bPj x.2 b,.slice x.1.1 (cI P.pr).1.length x.1.2].toArray 154),oU.row (.slice x.1.1 (cI P.pr).1.length x.1.2) 5 (cI P.pr).1]) (fun(x:(Option Addr×Nat)×Bool)=>[Fact.pure ((cI P.pr).1=[]→x.1.1=none)]):=by
 have hT:=iV;have hpl:P.pr.lines.length=P.lines.list.length:=List.length_map _;have hpi:P.pr.inputs.length=P.inputs.list.length:=List.length_map _;generalize hR:cI P.pr=r;refine k6 func55 ntmps55 ?_;intro β hM;refine g2 ?_;refine j8 fun b1=>?_;refine g9 ?_;refine cP (z':=(((P.lines.list.length:Nat):Int)-1)) (bIq n0 n0) ?_;refine g9 ?_;refine lY (fun hg23=>?_) fun hg23=>?_
 ·refine g25 ?_;have hr:=hR.symm.trans (bBr aa9);subst hr;exact rs1 ((_,_),false) ⟨j2 (fun _=>rfl),j1⟩
 refine g6 ?_;refine lY (fun hg29=>?_) fun hg29=>?_
 ·refine g19 ?_;have hr:=hR.symm.trans (bBr aa9);subst hr;exact rs1 ((_,_),false) ⟨j2 (fun _=>rfl),j1⟩
 refine g7 ?_;refine inc (64-P.inputs.list.length) ?_;refine g4 ?_;refine dO (fun hc38=>?_) fun hc38=>?_
 ·refine g7 ?_;have hr:=hR.symm.trans (bBr aa9);subst hr;exact rs1 ((_,_),false) ⟨j2 (fun _=>rfl),j1⟩
 refine g12 ?_;refine cD (ι:=Nat×Bs×Bool×Option Addr×Nat) [(0,_),(3,_),(5,_),(40,_),(41,_)] ⟨rfl,rfl,rfl,rfl,rfl,j1⟩ (fun⟨i,out,u,G,c⟩=>[(42,.int .i64 (i:Nat))]) (fun⟨i,out,u,G,c⟩=>[.obj b (.cells [.map (some r1),.map (some r2),bPj u b,.slice G out.length c].toArray 154),oU.row (.slice G out.length c) 5 out]) (fun⟨i,out,u,G,c⟩=>[Fact.pure (i≤P.inputs.list.length∧cI P.pr=pJ P.pr i out∧(out=[]→G=none)∧out.length≤1000*i)]) (fun⟨i,out,u,G,c⟩=>P.inputs.list.length-i) (0,[],false,none,0) ⟨rfl,j1⟩ (.c1 (.c1 .nil)) ⟨j2 (⟨n0,prog_start (by rintro(h | h);(have h:=congrArg List.length h;rw [hpl,List.length_nil] at h;omega);omega),fun _=>rfl,o3⟩),j1⟩ ?_;rintro⟨i,out,u,G,c⟩;dsimp only;refine bC d7 fun hinv5=>?_;refine g6 ?_;refine dO (fun hc43=>?_) fun hc43=>?_
 ·refine g6 ?_;obtain⟨x2,hx3⟩:=gx P.inputs.list i;refine ss (ixs i) ?_;refine ss (mB hx3 0) ?_;refine j5 kD fun b4=>?_;refine g5 ?_;have hxi:=hP.input x2 (j3 hx3);have hx0:P.pr.inputs[i]?=some x2.inp:=rQ hx3;refine bB (rF x2) (Has.each e8 (j3 hx3)) ?_;refine g3 ?_;refine bD func63 (nF _ hxi.1) rfl rfl .nil ⟨e7,j1⟩ fun _=>?_;refine g2 ?_;refine k_nt (fun hg50=>?_) fun hg50=>?_
  ·refine g20 ?_;have hr:=hR.symm.trans (hinv5.2.1.trans (zK hx0 (bRb ab2)));subst hr;exact rs1 ((_,_),u) ⟨j2 (hinv5.2.2.1),j1⟩
  refine g7 ?_;refine dO (fun hc55=>?_) fun hc55=>?_
  ·refine g12 ?_;have hr:=hR.symm.trans (hinv5.2.1.trans (zK hx0 (bRb ab2)));subst hr;exact rs1 ((_,_),u) ⟨j2 (hinv5.2.2.1),j1⟩
  refine g19 ?_;refine cD (ι:=Nat×Bs) [(0,_),(3,_),(5,_),(40,_),(41,_),(42,_),(51,_),(52,_),(53,_),(54,_),(59,_),(60,_)] ⟨rfl,rfl,rfl,rfl,rfl,rfl,rfl,rfl,rfl,rfl,rfl,rfl,j1⟩ (fun⟨j,text⟩=>[(8,.string (bs text)),(61,.int .i64 (j:Nat))]) (fun _=>[]) (fun⟨j,text⟩=>[Fact.pure (j≤x2.sides.list.length∧jZ ((x2.sides.list.map jK.sd).drop j) text=mD x2.inp∧text.length≤16+30*j)]) (fun⟨j,text⟩=>x2.sides.list.length-j) (0,x2.name) ⟨rfl,rfl,j1⟩ .nil ⟨j2 (⟨n0,(input_start ‹_› n0).symm,by have:=uQ ‹cT x2.name=true›;omega⟩),j1⟩ ?_;rintro⟨j,text⟩;dsimp only;refine bC d7 fun hinv11=>?_;refine g6 ?_;refine dO (fun hc62=>?_) fun hc62=>?_
  ·refine g6 ?_;obtain⟨x5,hx6⟩:=gx x2.sides.list j;refine ss (ixs j) ?_;refine ss (mB hx6 0) ?_;refine j5 wH fun b7=>?_;refine g5 ?_;have hdn:=hxi.2 x5 (j3 hx6);refine g7 ?_;refine jE (fun hc65=>?_) fun hc65=>?_
   ·have hc65:x5.name=([]:Bs):=eq_of_beq hc65;refine g4 ?_;have hsp:=qH hdn.2.1 hdn.2.2;refine bD func93 (bEf _ hdn.2.1 hdn.2.2) rfl rfl .nil ⟨e8,j1⟩ fun _=>?_;refine ss (iO rfl rfl rfl q7) ?_;refine ss (iO rfl rfl rfl q7) ?_;refine g7 ?_;refine inc (j+1) ?_;refine g3 ?_;exact bk2 (j+1,_) ⟨j2 (⟨by dsimp only;omega,hinv11.2.1▸(side_num hx6 ‹_›).symm,by have:=qH hdn.2.1 hdn.2.2;simp;omega⟩),j1⟩
   have hc65:x5.name≠([]:Bs):=fun h=>absurd (beq_iff_eq.2 h) (by rw [show(x5.name==([]:Bs))=false from hc65];simp);refine g6 ?_;refine nP (fun hg79=>?_) fun hg79=>?_
   ·refine g2 ?_;refine bD func63 (nF _ hdn.1) rfl rfl .nil ⟨e8,j1⟩ fun _=>?_;refine g4 ?_;refine jE (fun hc75=>?_) fun hc75=>?_
    ·refine g4 ?_;refine ss (iO rfl rfl rfl q7) ?_;refine ss (iO rfl rfl rfl q7) ?_;refine g7 ?_;refine inc (j+1) ?_;refine g3 ?_;exact bk2 (j+1,_) ⟨j2 (⟨by dsimp only;omega,hinv11.2.1▸(side_name hx6 ‹_› ‹_› ‹_›).symm,by have:=uQ ‹cT x5.name=true›;simp;omega⟩),j1⟩
    refine g17 ?_;have hr:=hR.symm.trans (hinv5.2.1.trans (zK hx0 (hinv11.2.1.symm.trans (side_bad hx6 ‹_› o6))));subst hr;exact rs1 ((_,_),u) ⟨j2 (hinv5.2.2.1),j1⟩
   refine g25 ?_;have hr:=hR.symm.trans (hinv5.2.1.trans (zK hx0 (hinv11.2.1.symm.trans (side_bad hx6 ‹_› o6))));subst hr;exact rs1 ((_,_),u) ⟨j2 (hinv5.2.2.1),j1⟩
  refine g5 ?_;have hin:=hinv11.2.1.symm.trans (sides_done n0);refine g3 ?_;refine bD func94 (bCh b r1 r2 u G c out ([105,110,32]:Bs) text q9) rfl rfl (.c1 (.c1 .nil)) j1 fun⟨G8,c9⟩=>?_;refine g5 ?_;refine inc (i+1) ?_;refine g3 ?_;exact dP (i+1,(out++((([105,110,32]:Bs)++text)++[10])),true,_,_) w9 ⟨rfl,j1⟩ ⟨rfl,rfl,rfl,rfl,rfl,j1⟩ (.c0 (.c0 (.c1 .nil))) ⟨j2 (⟨by dsimp only;omega,hinv5.2.1.trans (prog_step hx0 hin),fun h=>by simp at h,by simp;omega⟩),j1⟩ (bA.drop 3)
 refine g15 ?_;have hlin:=hinv5.2.1.trans (prog_lines n0);refine cD (ι:=Nat×Bs×Bool×Option Addr×Nat) [(0,_),(5,_),(95,_),(96,_)] ⟨rfl,rfl,rfl,rfl,j1⟩ (fun⟨i,out,u,G,c⟩=>[(97,.int .i64 (i:Nat))]) (fun⟨i,out,u,G,c⟩=>[.obj b (.cells [.map (some r1),.map (some r2),bPj u b,.slice G out.length c].toArray 154),oU.row (.slice G out.length c) 5 out]) (fun⟨i,out,u,G,c⟩=>[Fact.pure (i≤P.lines.list.length∧cI P.pr=dN (P.pr.lines.drop i) out∧(out=[]→G=none)∧out.length≤1000*64+20000*i)]) (fun⟨i,out,u,G,c⟩=>P.lines.list.length-i) (0,out,u,G,c) ⟨rfl,j1⟩ (.c0 (.c0 .nil)) ⟨j2 (⟨n0,hlin,hinv5.2.2.1,n0⟩),j1⟩ ?_;rintro⟨i,out,u,G,c⟩;dsimp only;refine bC d7 fun hinv22=>?_;refine g6 ?_;refine dO (fun hc98=>?_) fun hc98=>?_
 ·refine g7 ?_;obtain⟨x10,hx11⟩:=gx P.lines.list i;refine ss (ixs i) ?_;refine ss (mB hx11 0) ?_;refine j5 rW fun b12=>?_;refine g5 ?_;have hli:=hP.line x10 (j3 hx11);have hx0:P.pr.lines[i]?=some x10.ln:=rQ hx11;refine bB (bLl x10) (Has.each f4 (j3 hx11))<|bB (lN.sl (.slice x10.items.addr x10.items.list.length x10.items.cap) x10.items.list) (Has.left d7)<|bB (mP x10.items.list) (Has.right d8) ?_;have hz: ∀y∈(x10.items.list.map ItemV.it),∀z∈y.nums,-9223372036854775808≤z∧z≤9223372036854775807:=fun y hy z hzz=>by obtain⟨it,h1,rfl⟩:=List.mem_map.1 hy;exact(hli.2 it h1).2 z hzz
  refine g3 ?_;refine ss (iO rfl rfl rfl q7) ?_;refine g12 ?_;refine fM (fun hc107=>?_) fun hc107=>?_
  ·refine g11 ?_;refine bD func95 (bKu b r1 r2 (bPj u b) G out.length c _ _ x10.items.list 255 n0 hli.2) rfl rfl (.c1 .nil) ⟨e8,e9,f3,d8,d7,j1⟩ fun _=>?_;refine g13 ?_;refine k_nt (fun hg118=>?_) fun hg118=>?_
   ·refine g34 ?_;have hr:=hR.symm.trans (hinv22.2.1.trans (show dN (P.pr.lines.drop i) out=(out,false) from w8));subst hr;exact rs1 ((_,_),u) ⟨j2 (hinv22.2.2.1),j1⟩
   have hex:=bRz (by assumption:(fO (x10.items.list.map ItemV.it) 255).isSome=true);have hexl:=bQw hz hex;refine g3 ?_;refine nP (fun hg121=>?_) fun hg121=>?_
   ·refine g3 ?_;refine dS (fun hg124=>?_) (fun hg124=>?_)
    ·have hg124:x10.name=([]:Bs):=eq_of_beq hg124;refine one ?_;refine bM (t':=false) o8 ?_;refine g6 ?_;refine lY (fun hg131=>?_) fun hg131=>?_
     ·omega
     refine g15 ?_;refine bD func94 (bCh b r1 r2 u G c out ([111,117,116,32]:Bs) ((fO (x10.items.list.map ItemV.it) 255).getD []) q9) rfl rfl (.c0 (.c1 .nil)) j1 fun⟨G13,c14⟩=>?_;refine g5 ?_;refine inc (i+1) ?_;refine g3 ?_;exact dP (i+1,(out++((([111,117,116,32]:Bs)++((fO (x10.items.list.map ItemV.it) 255).getD []))++[10])),true,_,_) w9 ⟨rfl,j1⟩ ⟨rfl,rfl,rfl,rfl,j1⟩ (.c0 (.c0 (.c1 .nil))) ⟨j2 (⟨by dsimp only;omega,hinv22.2.1.trans (lines_out hx0 n0 ‹_› hex),fun h=>by simp at h,by simp;omega⟩),j1⟩ (bA.drop 4)
    have hg124:x10.name≠([]:Bs):=fun h=>absurd (beq_iff_eq.2 h) ag7;refine one ?_;refine bM (t':=true) o8 ?_;refine g27 ?_;have hr:=hR.symm.trans (hinv22.2.1.trans (show dN (P.pr.lines.drop i) out=(out,false) from w8));subst hr;exact rs1 ((_,_),u) ⟨j2 (hinv22.2.2.1),j1⟩
   omega
  refine g8 ?_;refine bD func95 (bKu b r1 r2 (bPj u b) G out.length c _ _ x10.items.list 254 n0 hli.2) rfl rfl (.c1 .nil) ⟨e8,e9,f3,d8,d7,j1⟩ fun _=>?_;refine g13 ?_;refine k_nt (fun hg118=>?_) fun hg118=>?_
  ·refine g34 ?_;have hr:=hR.symm.trans (hinv22.2.1.trans (show dN (P.pr.lines.drop i) out=(out,false) from t8));subst hr;exact rs1 ((_,_),u) ⟨j2 (hinv22.2.2.1),j1⟩
  have hex:=bRz (by assumption:(fO (x10.items.list.map ItemV.it) 254).isSome=true);have hexl:=bQw hz hex;refine g3 ?_;refine nP (fun hg121=>?_) fun hg121=>?_
  ·omega
  refine g3 ?_;refine dS (fun hg124=>?_) (fun hg124=>?_)
  ·have hg124:x10.name=([]:Bs):=eq_of_beq hg124;refine one ?_;refine bM (t':=true) o8 ?_;refine g27 ?_;have hr:=hR.symm.trans (hinv22.2.1.trans (show dN (P.pr.lines.drop i) out=(out,false) from t8));subst hr;exact rs1 ((_,_),u) ⟨j2 (hinv22.2.2.1),j1⟩
  have hg124:x10.name≠([]:Bs):=fun h=>absurd (beq_iff_eq.2 h) ag7;refine one ?_;refine bM (t':=false) o8 ?_;refine g6 ?_;refine lY (fun hg131=>?_) fun hg131=>?_
  ·refine g2 ?_;refine bD func63 (nF _ hli.1) rfl rfl .nil ⟨f3,j1⟩ fun _=>?_;refine g5 ?_;refine jG (fun hc137=>?_) fun hc137=>?_
   ·refine g12 ?_;have hr:=hR.symm.trans (hinv22.2.1.trans (show dN (P.pr.lines.drop i) out=(out,false) from t8));subst hr;exact rs1 ((_,_),u) ⟨j2 (hinv22.2.2.1),j1⟩
   refine g2 ?_;have hnl:=uQ (by assumption:cT x10.name=true);refine g4 ?_;refine bD func94 (bCh b r1 r2 u G c out (x10.name++([58,32]:Bs)) ((fO (x10.items.list.map ItemV.it) 254).getD []) q9) rfl rfl (.c0 (.c1 .nil)) j1 fun⟨G15,c16⟩=>?_;refine g5 ?_;refine inc (i+1) ?_;refine g3 ?_;exact dP (i+1,(out++(((x10.name++([58,32]:Bs))++((fO (x10.items.list.map ItemV.it) 254).getD []))++[10])),true,_,_) w9 ⟨rfl,j1⟩ ⟨rfl,rfl,rfl,rfl,j1⟩ (.c0 (.c0 (.c1 .nil))) ⟨j2 (⟨by dsimp only;omega,hinv22.2.1.trans (lines_step hx0 n0 ‹_› hex),fun h=>by simp at h,by have:=uQ ‹cT x10.name=true›;simp;omega⟩),j1⟩ (bA.drop 4)
  omega
 refine g11 ?_;have hr:=hR.symm.trans (hinv22.2.1.trans (bSu n0));subst hr;exact rs1 ((_,_),u) ⟨j2 (hinv22.2.2.1),j1⟩
theorem bstrN_spec(b r1 r2:Nat)(p:Value)(g c:Nat)(out:Bs)(h0:out≠[])(hc:out.length≤c):cO prog 56 [.pointer (some ⟨b,2,none⟩)] [.obj b (.cells [.map (some r1),.map (some r2),p,.slice (some ⟨g,0,none⟩) out.length c].toArray 154),oU.row (.slice (some ⟨g,0,none⟩) out.length c) 5 out] [] (fun(_:Unit)=> .string (bs out)) (fun _=>[]) (fun _=>[]):=by
 have hT:=iV;refine k6 func56 ntmps56 ?_;intro β hM;refine g6 ?_;refine bU _ _ [(true,0),(true,1),(true,2),(true,3),(true,4),(true,5),(true,6),(true,7),(true,8),(true,9),(false,10),(true,11)] bX o5 (.c0 .nil) bA.self ?_;refine g4 ?_;refine stM rfl (bAu rfl rfl (.inr (by have:=List.length_pos_iff.2 h0;omega))) ?_;refine g6 ?_;refine bJc kT1 rfl rfl rfl rfl u8Ptr n7 rfl rfl rfl h0 ?_;refine g5 ?_;exact rs1 () trivial
theorem bstrE_spec(b r1 r2:Nat)(p:Value)(c:Nat):cO prog 56 [.pointer (some ⟨b,2,none⟩)] [.obj b (.cells [.map (some r1),.map (some r2),p,.slice none 0 c].toArray 154)] [] (fun(_:Unit)=> .string (bs [])) (fun _=>[]) (fun _=>[]):=by
 have hT:=iV;refine k6 func56 ntmps56 ?_;intro β hM;refine g6 ?_;refine bU _ _ [(true,0),(true,1),(true,2),(true,3),(true,4),(true,5),(true,6),(true,7),(true,8),(true,9),(true,10),(true,11)] bX o5 (.c0 .nil) bA.self ?_;refine g4 ?_;refine stM rfl (bAu rfl rfl (.inl rfl)) ?_;refine g5 ?_;refine stM rfl (sti_noString rfl rfl rfl) ?_;refine g4 ?_;exact rs1 () trivial
theorem bIb(P:ProgV)(hP:pY P)(hl1:P.inputs.list.length≤140737488355328)(hl2:P.lines.list.length≤140737488355328):cO prog 27 [.agg #[.slice P.inputs.addr P.inputs.list.length P.inputs.cap,.slice P.lines.addr P.lines.list.length P.lines.cap]] [] [iB,jJ.sl (.slice P.inputs.addr P.inputs.list.length P.inputs.cap) P.inputs.list,hZ P.inputs.list,nL.sl (.slice P.lines.addr P.lines.list.length P.lines.cap) P.lines.list,lF P.lines.list] (fun(_:Unit)=> .tuple #[.string (bs (cI P.pr).1),.bool (cI P.pr).2]) (fun _=>[]) (fun _=>[]):=by
 have hT:=iV;refine k6 func27 ntmps27 ?_;intro β hM;refine g2 ?_;refine j8 fun b1=>?_;refine g6 ?_;refine j4 func54 (bMu false) ⟨d7,j1⟩ fun r2=>?_;refine j4 func54 (bMu true) ⟨d8,j1⟩ fun r3=>?_;refine ss (j9 (shower_built _ _)) ?_;refine j8 fun b4=>?_;refine g7 ?_;refine cH (t:=5) oU ?_;refine bD func55 (bPl b4 r2 r3 P hP hl1 hl2) rfl rfl (.c1 (.c0 .nil)) ⟨d8,d7,d9,e6,e7,e8,e9,j1⟩ fun⟨⟨G5,c6⟩,u7⟩=>?_;refine bC d7 fun hemp=>?_;dsimp only at hemp;refine g4 ?_
 rcases Decidable.em ((cI P.pr).1=[]) with h0 | h0
 ·skip
  refine g4 ?_;have hg:=hemp h0;subst hg;rw [h0];refine bD func56 (bstrE_spec b4 r2 r3 (bPj u7 b4) c6) rfl rfl (.c0 .nil) j1 fun _=>?_;refine g6 ?_;exact rs2 () j1 (he:=by first | rfl | rw [h0])
 skip
 refine g4 ?_;refine bV kT1 fun hcap=>?_;refine zW kT1 (List.length_pos_iff.2 h0) fun g hg=>?_;subst hg;refine bD func56 (bstrN_spec b4 r2 r3 (bPj u7 b4) g c6 (cI P.pr).1 h0 hcap) rfl rfl (.c0 (.c0 .nil)) j1 fun _=>?_;refine g6 ?_;exact rs2 () j1 (he:=by first | rfl | rw [h0])
theorem sRight_spec(P:ProgV)(hP:pY P)(hl1:P.inputs.list.length≤140737488355328)(hl2:P.lines.list.length≤140737488355328):cO prog 21 [.agg #[.slice P.inputs.addr P.inputs.list.length P.inputs.cap,.slice P.lines.addr P.lines.list.length P.lines.cap]] [] [iB,jJ.sl (.slice P.inputs.addr P.inputs.list.length P.inputs.cap) P.inputs.list,hZ P.inputs.list,nL.sl (.slice P.lines.addr P.lines.list.length P.lines.cap) P.lines.list,lF P.lines.list] (fun(_:Unit)=> .bool (cI P.pr).2) (fun _=>[]) (fun _=>[]):=by
 have hT:=iV;refine k6 func21 ntmps21 ?_;intro β hM;refine g2 ?_;refine j8 fun b1=>?_;refine g6 ?_;refine j4 func27 (bIb P hP hl1 hl2) ⟨d7,d8,d9,e6,e7,j1⟩ fun _=>?_;refine g14 ?_;exact rs1 () trivial
theorem sShow_spec(P:ProgV)(hP:pY P)(hl1:P.inputs.list.length≤140737488355328)(hl2:P.lines.list.length≤140737488355328):cO prog 12 [.agg #[.slice P.inputs.addr P.inputs.list.length P.inputs.cap,.slice P.lines.addr P.lines.list.length P.lines.cap]] [] [iB,jJ.sl (.slice P.inputs.addr P.inputs.list.length P.inputs.cap) P.inputs.list,hZ P.inputs.list,nL.sl (.slice P.lines.addr P.lines.list.length P.lines.cap) P.lines.list,lF P.lines.list] (fun(_:Unit)=> .tuple #[.string (bs (mZ P.pr).1),.int .i64 (mZ P.pr).2]) (fun _=>[]) (fun _=>[]):=by
 have hT:=iV;refine k6 func12 ntmps12 ?_;intro β hM;refine g2 ?_;refine j8 fun b1=>?_;refine g7 ?_;refine j4 func27 (bIb P hP hl1 hl2) ⟨d7,d8,d9,e6,e7,j1⟩ fun _=>?_;refine g16 ?_;refine jG (fun hc11=>?_) fun hc11=>?_
 ·refine g9 ?_;exact rs2 () j1 (he:=by first | (rw [show mZ P.pr=([],50) from if_pos ‹_›];first | done | rfl) | (rw [show mZ P.pr=([],30) from (if_neg ad1).trans (if_pos n0)];first | done | rfl) | (rw [show mZ P.pr=((cI P.pr).1,0) from (if_neg ad1).trans (if_neg n0)];first | done | rfl))
 refine g4 ?_;refine cP (z':=(((cI P.pr).1.length:Nat):Int)) rfl ?_;refine g4 ?_;refine dO (fun hc14=>?_) fun hc14=>?_
 ·refine g9 ?_;exact rs2 () j1 (he:=by first | (rw [show mZ P.pr=([],50) from if_pos ‹_›];first | done | rfl) | (rw [show mZ P.pr=([],30) from (if_neg ad1).trans (if_pos n0)];first | done | rfl) | (rw [show mZ P.pr=((cI P.pr).1,0) from (if_neg ad1).trans (if_neg n0)];first | done | rfl))
 refine g11 ?_;exact rs2 () j1 (he:=by first | (rw [show mZ P.pr=([],50) from if_pos ‹_›];first | done | rfl) | (rw [show mZ P.pr=([],30) from (if_neg ad1).trans (if_pos n0)];first | done | rfl) | (rw [show mZ P.pr=((cI P.pr).1,0) from (if_neg ad1).trans (if_neg n0)];first | done | rfl))
section
variable {α : Type} {f : α → α → Bool} {x y : α} {i : Nat}
theorem bRu{a b:List α}{k:Nat}(h:a.take k=b.take k)(hx:a[k]?=some x)(hy:b[k]?=some y)(e:x=y):a.take (k+1)=b.take (k+1):=by
 subst e;rw [List.take_add_one,List.take_add_one,h,hx,hy]
theorem take_all{a b:List α}{k:Nat}(h:a.take k=b.take k)(ha:a.length≤k)(hb:b.length≤k):a=b:=by
 rw [List.take_of_length_le ha,List.take_of_length_le hb] at h;exact h
theorem not_take{a b:List α}{k:Nat}(hx:a[k]?=some x)(hy:b[k]?=some y)(e:x≠y):a≠b:=by
 rintro rfl;rw [hx] at hy;exact e (Option.some.inj hy)
end
theorem step_bound{st st':List dY}{x:cM}(h:gS st x=some st'):x.name.length≤16∧x.nums.length≤256:=by
 unfold gS at h;split at h
 ·unfold operandS at h;split at h
  ·split at h
   ·rename_i hb;rw [hb.2.1];exact⟨(lZ hb.2.2).len,o3⟩
   ·simp at h
  ·split at h
   ·simp at h
   ·rename_i hb;simp only [not_or,ne_eq,Classical.not_not,Nat.not_lt] at hb;rw [hb.2.1];exact⟨o3,hb.2.2.2⟩
 ·split at h
  ·cases h
  ·rename_i hb;simp only [not_or,ne_eq,Classical.not_not] at hb;rw [hb.2.2.1,hb.2.2.2.1];exact⟨o3,o3⟩
theorem bHh: ∀{l:List cM} {st st':List dY},dZ l st=some st'→ ∀x∈l,x.name.length≤16∧x.nums.length≤256
 | [],_,_,_,x,hx=>by simp at hx
 | y::l,st,st',h,x,hx=>by
  rw [dZ] at h
  cases h1:gS st y with
  | none=>rw [h1] at h;cases h
  | some s1=>
   rw [h1] at h
   rcases List.mem_cons.1 hx with rfl | hx
   ·exact step_bound h1
   ·exact bHh h x hx
theorem bMt{l:List cM}{m:Nat}{t:Bs}(h:fO l m=some t):l.length≤m∧ ∀x∈l,x.name.length≤16∧x.nums.length≤256:=by
 unfold fO at h;split at h
 ·cases h
 ·rename_i hl;split at h
  ·rename_i hq;exact⟨n0,bHh hq⟩
  ·cases h
theorem yU: ∀{ds:List oA} {acc t:Bs},jZ ds acc=some t→ ∀d∈ds,d.name.length≤16
 | [],_,_,_,d,hd=>by simp at hd
 | e::ds,acc,t,h,d,hd=>by
  rw [jZ] at h;split at h
  ·rename_i he
   rcases List.mem_cons.1 hd with rfl | hd
   ·rw [he];simp
   ·exact yU h d hd
  ·split at h
   ·rename_i hb
    rcases List.mem_cons.1 hd with rfl | hd
    ·exact(lZ hb.2).len
    ·exact yU h d hd
   ·cases h
theorem bDq: ∀{xs:List dQ} {o o':Bs},gZ xs o=(o',true)→ ∀x∈xs,x.name.length≤16∧x.sides.length≤4∧ ∀d∈x.sides,d.name.length≤16
 | [],_,_,_,x,hx=>by simp at hx
 | y::xs,o,o',h,x,hx=>by
  rw [gZ] at h
  cases hi:mD y with
  | none=>rw [hi] at h;simp at h
  | some t=>
   rw [hi] at h;simp only at h
   rcases List.mem_cons.1 hx with rfl | hx
   ·unfold mD at hi;split at hi
    ·cases hi
    ·rename_i hb;simp only [not_or,Bool.not_eq_false,Nat.not_lt] at hb;exact⟨(lZ hb.1).len,hb.2,yU hi⟩
   ·exact bDq h x hx
theorem bIg: ∀{ls:List iD} {o o':Bs},dN ls o=(o',true)→ ∀l∈ls,l.name.length≤16∧l.items.length≤255∧ ∀x∈l.items,x.name.length≤16∧x.nums.length≤256
 | [],_,_,_,l,hl=>by simp at hl
 | [m],o,o',h,l,hl=>by
  rw [List.mem_singleton.1 hl];simp only [dN] at h
  cases hx:fO m.items 255 with
  | none=>rw [hx] at h;simp at h
  | some t=>
   rw [hx] at h;simp only at h;split at h
   ·simp at h
   ·rename_i hn;simp only [ne_eq,Classical.not_not] at hn;obtain⟨a,b⟩:=bMt hx;exact⟨by rw [hn];simp,a,b⟩
 | m::n::ls,o,o',h,l,hl=>by
  have h':(match fO m.items 254 with
    | none=>(o,false)
    | some t=>if cT m.name=false then (o,false) else dN (n::ls) (o++(((m.name++[58,32])++t)++[10])))=(o',true):=h
  cases hx:fO m.items 254 with
  | none=>rw [hx] at h';simp at h'
  | some t=>
   rw [hx] at h';simp only at h';split at h'
   ·simp at h'
   ·rename_i hb;simp only [Bool.not_eq_false] at hb
    rcases List.mem_cons.1 hl with rfl | hl
    ·obtain⟨a,b⟩:=bMt hx;exact⟨(lZ hb).len,n0,b⟩
    ·exact bIg h' l hl
structure Fine (p:fT):Prop where
 ins:p.inputs.length≤64
 lns:p.lines.length≤64
 input: ∀x∈p.inputs,x.name.length≤16∧x.sides.length≤4∧ ∀d∈x.sides,d.name.length≤16
 line: ∀l∈p.lines,l.name.length≤16∧l.items.length≤255∧ ∀x∈l.items,x.name.length≤16∧x.nums.length≤256
theorem tN{p:fT}(h:(cI p).2=true):Fine p:=by
 unfold cI at h;split at h
 ·cases h
 ·rename_i hb;simp only [not_or,Nat.not_lt] at hb
  cases hi:gZ p.inputs [] with
  | mk o b=>
   rw [hi] at h
   cases b with
   | false=>cases h
   | true=>
    simp only at h;exact⟨n0,n0,bDq hi,bIg (o':=(dN p.lines o).1) (Prod.ext rfl h)⟩
section
variable {x : ProgV}
theorem tS{y:InputV}(h:y∈x.inputs.list):y.inp∈x.pr.inputs:=List.mem_map.2 ⟨y,h,rfl⟩
theorem mem_ln{y:LineV}(h:y∈x.lines.list):y.ln∈x.pr.lines:=List.mem_map.2 ⟨y,h,rfl⟩
theorem mem_sd{y:InputV}{d:jK}(h:d∈y.sides.list):d.sd∈y.inp.sides:=List.mem_map.2 ⟨d,h,rfl⟩
theorem mem_it{y:LineV}{d:ItemV}(h:d∈y.items.list):d.it∈y.ln.items:=List.mem_map.2 ⟨d,h,rfl⟩
theorem Fine.ok(h:Fine x.pr)(hr:RngP x.pr):pY x∧x.inputs.list.length≤140737488355328∧x.lines.list.length≤140737488355328:=by
 have e1:x.pr.inputs.length=x.inputs.list.length:=List.length_map _;have e2:x.pr.lines.length=x.lines.list.length:=List.length_map _;have h1:=h.ins;have h2:=h.lns;refine⟨⟨fun y hy=>?_,fun y hy=>?_⟩,n0,n0⟩
 ·obtain⟨a,b,c⟩:=h.input _ (tS hy);refine⟨Nat.le_trans a o8,fun d hd=>⟨Nat.le_trans (c _ (mem_sd hd)) o8,?_⟩⟩;exact hr.ins _ (tS hy) _ (mem_sd hd)
 ·obtain⟨a,b,c⟩:=h.line _ (mem_ln hy);refine⟨Nat.le_trans a o8,fun d hd=>⟨Nat.le_trans (c _ (mem_it hd)).1 o8,?_⟩⟩;exact hr.lns _ (mem_ln hy) _ (mem_it hd)
theorem rng_of(h:pY x):RngP x.pr:=by
 refine⟨fun y hy d hd=>?_,fun y hy d hd=>?_⟩
 ·obtain⟨z,hz,rfl⟩:=List.mem_map.1 hy;obtain⟨c,hc,rfl⟩:=List.mem_map.1 hd;exact((h.input z hz).2 c hc).2
 ·obtain⟨z,hz,rfl⟩:=List.mem_map.1 hy;obtain⟨c,hc,rfl⟩:=List.mem_map.1 hd;exact((h.line z hz).2 c hc).2
end
theorem show_len{p:fT}(h:(mZ p).2=0):(mZ p).1.length≤65536:=(show_ok h).2
theorem flt_t{f:Flt}(h:f=(0,0)):pA ⟨f.1,f.2⟩ ⟨0,0⟩=true:=by rw [h];rfl
theorem flt_of{f:Flt}(h:pA ⟨f.1,f.2⟩ ⟨0,0⟩=true):f=(0,0):=isOk_iff.1 h
theorem flt_not{f:Flt}(h:pA ⟨f.1,f.2⟩ ⟨0,0⟩=false):f≠(0,0):=fun e=>by rw [e] at h;cases h
abbrev w64(z:Int):Int:=IntKind.i64.wrap z
def takesW(f:Int)(two:Bool):Bool:=if f<1∨17<f then false else if f=16 then !two else two || decide (f≤7)
def restW (a b:Int):Int:=if a.tmod b≠0∧decide (a.tmod b<0)≠decide (b<0) then w64 (a.tmod b+b) else a.tmod b
def truthW(b:Bool):Int:=if b then 1 else 0
def big1 (a:Int):Bool:=decide (1<IntKind.u64.wrap a)
def refusesW(f a b:Int):Bool:=if f=4 then b==0 else if f=17 then decide (b<0) else if f=14∨f=15 then big1 a || big1 b else false
def raisedGo:Nat→Int→Int→Nat→Int
 | 0,p,_,_=>p
 | k+1,p,a,n=>if n=0 then p else raisedGo k (if n%2=1 then w64 (p*a) else p) (w64 (a*a)) (n/2)
def raisedW(a n:Int):Int:=raisedGo (n.toNat+1) 1 a n.toNat
def holdsW(f a b:Int):Bool:=if f=8 then a==b else if f=9 then a !=b else if f=10 then decide (a<b) else if f=11 then decide (a≤b) else if f=12 then decide (b≤a) else decide (b<a)
def andW (a b:Int):Int:=w64 ((BitVec.ofInt 64 a&&&BitVec.ofInt 64 b).toNat:Nat)
def orW (a b:Int):Int:=w64 ((BitVec.ofInt 64 a ||| BitVec.ofInt 64 b).toNat:Nat)
def xorW (a b:Int):Int:=w64 ((BitVec.ofInt 64 a^^^BitVec.ofInt 64 b).toNat:Nat)
def divW (a b:Int):Int:=if restW a b≠a.tmod b then w64 (w64 (a.tdiv b)-1) else w64 (a.tdiv b)
def minW (a b:Int):Int:=if b<a then b else a
def maxW (a b:Int):Int:=if b>a then b else a
def dyad0 (f a b:Int):Int:=
 if f=1 then w64 (a+b) else if f=2 then w64 (a-b) else if f=3 then w64 (a*b) else if f=4 then divW a b else if f=5 then (if a=0 then b else restW b a)
 else if f=6 then minW a b else if f=7 then maxW a b else if f=14 then andW a b else if f=15 then orW a b else if f=17 then raisedW a b else truthW (holdsW f a b)
def dyadW (f a b:Int):Int×Int:=if takesW f true=false then (0,10) else if refusesW f a b=true then (0,11) else (dyad0 f a b,0)
def monadW(f a:Int):Int×Int:=
 if takesW f false=false then (0,10) else if f=2 then (w64 (0-a),0) else if f=3 then (w64 (truthW (decide (0<a))-truthW (decide (a<0))),0) else if f=4 then dyadW f 1 a
 else if f=5 then (maxW a (w64 (0-a)),0) else if f=16 then (if big1 a=true then (0,11) else (xorW a 1,0)) else (a,0)
structure Arr where
 sides:List Int
 data:List Int
 deriving Inhabited,DecidableEq
def bLt (s:Int):Bool:=decide (s<0) || decide (65536<s)
def prodGo:List Int→Int→Int×Int
 | [],n=>(n,0)
 | s::r,n=>if 65536<w64 (n*s) then (0,61) else prodGo r (w64 (n*s))
def sizeA (s:List Int):Int×Int:=if 4<s.length∨s.any bLt=true then (0,61) else if s.contains 0=true then (0,0) else prodGo s 1
def rightA(a:Arr):Bool:=(sizeA a.sides).2==0&&(sizeA a.sides).1==(a.data.length:Int)
def mapM (f:Int):List Int→List Int×Int
 | []=>([],0)
 | n::r=>if (monadW f n).2≠0 then ([],(monadW f n).2) else if (mapM f r).2≠0 then ([],(mapM f r).2) else ((monadW f n).1::(mapM f r).1,0)
def tM:List Int→Int
 | []=>1
 | s::r=>s*tM r
theorem bCw: ∀(a b:List Int),tM (a++b)=tM a*tM b
 | [],b=>by simp [tM]
 | s::a,b=>by rw [List.cons_append,tM,tM,bCw a b,Int.mul_assoc]
theorem bAn: ∀(a:List Int),tM a.reverse=tM a
 | []=>rfl
 | s::a=>by
  rw [List.reverse_cons,bCw,bAn a,tM,tM,tM,Int.mul_one,Int.mul_comm]
structure SidesOk (s:List Int):Prop where
 len:s.length≤4
 rng: ∀x∈s,0≤x∧x≤65536
 prod:0≤tM s∧tM s≤65536
theorem SidesOk.reverse{s:List Int}(h:SidesOk s):SidesOk s.reverse:=⟨by simpa using h.len,fun x hx=>h.rng x (by simpa using hx),by rw [bAn];exact h.prod⟩
inductive rO:List Int→List Int→Prop
 | nil:rO [] []
 | cons {s k sides index}:0≤k→k<s→rO sides index→rO (s::sides) (k::index)
theorem rO.len{s k:List Int}(h:rO s k):k.length=s.length:=by induction h<;>simp_all
theorem rO.append{a b c d:List Int}(h:rO a b)(k:rO c d):rO (a++c) (b++d):=by
 induction h with
 | nil=>exact k
 | cons h0 h1 _ ih=>exact .cons h0 h1 ih
theorem rO.reverse{s k:List Int}(h:rO s k):rO s.reverse k.reverse:=by
 induction h with
 | nil=>exact .nil
 | cons h0 h1 _ ih=>
  rw [List.reverse_cons,List.reverse_cons];exact ih.append (.cons h0 h1 .nil)
end Go.Proofs.YtakphiannlpnfaaGreatDoor
