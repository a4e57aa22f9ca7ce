/- Texts of one proof, one behind the other: WfP, TypeS, SamT, TypU, Shown9, TypL, FitT, Above. -/
import Derived.Test.YtbgdphbebhjpiaaGreatDoorM21
import Derived.Test.YtbgdphbebhjpiaaGreatDoorM15
import Derived.Test.YtbgdphbebhjpiaaGreatDoorM14
import Derived.Test.YtbgdphbebhjpiaaGreatDoorM6
import Derived.Test.YtbgdphbebhjpiaaGreatDoorM17
import Derived.Test.YtbgdphbebhjpiaaGreatDoorRows
import Derived.WalkKit
import Derived.WalkSpells
import Derived.WalkLawsBesides
import Derived.Handy
import Derived.Deep.QuietTactic
import Derived.Deep.Light
import Derived.BigQuiet
namespace Go.Proofs.YtbgdphbebhjpiaaGreatDoor
open Go.RowKit
theorem nE(n:Int):dR (numT n)=true:=bDr n
theorem zipT_len{op:pG}: ∀{X Y l:List Pol},xN op X Y=some l→l.length=X.length
 | [],_,l,h=>by cases h;rfl
 | _::_,[],_,h=>by cases h
 | p::x,q::y,l,h=>by
  unfold xN at h;split at h
  ·cases h
  ·cases e:xN op x y with
   | none=>rw [e] at h;cases h
   | some k=>
    rw [e] at h;cases h;simp [zipT_len e]
theorem zipT_all{op:pG}{g:Pol→Prop}(ho: ∀p q,g (op p q).1): ∀{X Y l:List Pol},xN op X Y=some l→ ∀v∈l,g v
 | [],_,l,h=>by cases h;intro v hv;cases hv
 | _::_,[],_,h=>by cases h
 | p::x,q::y,l,h=>by
  unfold xN at h;split at h
  ·cases h
  ·cases e:xN op x y with
   | none=>rw [e] at h;cases h
   | some k=>
    rw [e] at h;cases h;intro v hv
    rcases List.mem_cons.1 hv with rfl | hv
    ·exact ho p q
    ·exact zipT_all ho e v hv
def bAn (op:pG):Prop:= ∀p q,dR (op p q).1=true
theorem addR:bAn addO:=fun p q=>oM p q 1
theorem subR:bAn wK:=fun p q=>oM p q (-1)
theorem mulR:bAn pL:=fun p q=>bCv p q
theorem opR{f:Int}{op:pG}(h:vA f=some op):bAn op:=by
 unfold vA at h;split at h
 ·cases h;exact addR
 ·split at h
  ·cases h;exact subR
  ·split at h
   ·cases h;exact mulR
   ·cases h
theorem repT_len(x:List Pol)(n:Nat)(h:x.length=1):(repT x n).length=n:=by
 unfold repT;rw [List.length_flatten];simp [h]
theorem leftT_len{a b:TyP}(ha:WfT a)(h1:a.known=true):(uU a b).length=if a.sides=[]∧b.sides≠[] then b.values.length else a.values.length:=by
 unfold uU;split
 ·rename_i h;exact repT_len _ _ (wS ha h1 h.1)
 ·rfl
theorem eachT_wf{op:Option pG}{a b:TyP}(ho: ∀o,op=some o→bAn o)(ha:WfT a):
  (∀v∈(kC op a b).1,dR v=true)∧((kC op a b).2=true→a.known=true∧b.known=true∧(kC op a b).1.length=if a.sides=[]∧b.sides≠[] then b.values.length else a.values.length)∧((kC op a b).2=false→(kC op a b).1=[]):=by
 cases op with
 | none=>exact⟨fun v h=>(by cases h),fun h=>(by cases h),fun _=>rfl⟩
 | some o=>
  by_cases hk:a.known=false∨b.known=false
  ·rw [bBq hk];exact⟨fun v h=>(by cases h),fun h=>(by cases h),fun _=>rfl⟩
  ·have h1:a.known=true:=by cases h:a.known;exact absurd (.inl h) hk;rfl
   have h2:b.known=true:=by cases h:b.known;exact absurd (.inr h) hk;rfl
   cases e:xN o (uU a b) (sJ a b) with
   | none=>
    rw [rG e h1 h2];exact⟨fun v h=>(by cases h),fun h=>(by cases h),fun _=>rfl⟩
   | some l=>
    rw [qX e h1 h2];exact⟨zipT_all (g:=fun v=>dR v=true) (ho o rfl) e,fun _=>⟨h1,h2,by rw [zipT_len e,leftT_len ha h1]⟩,fun h=>(by cases h)⟩
theorem lL{S:List Pol}(h:S.length≤4)(k: ∀s∈S,dR s=true):WfT ⟨S,false,[]⟩:=⟨h,k,fun _ h=>(by cases h),fun h=>(by cases h),fun _=>rfl⟩
theorem literal_wf{nums:List Int}(h:nums≠[]):WfT (iY nums):=by
 have hs:(if 1<nums.length then [numT nums.length] else ([]:List Pol)).length≤4∧ ∀s∈(if 1<nums.length then [numT nums.length] else ([]:List Pol)),dR s=true:=by
  split
  ·exact⟨by simp,fun s hs=>by rw [List.mem_singleton.1 hs];exact nE _⟩
  ·exact⟨by simp,fun s hs=>(by cases hs)⟩
 unfold iY;split
 ·exact lL hs.1 hs.2
 ·rename_i hn;rw [not_or] at hn;refine⟨hs.1,hs.2,fun v hv=>?_,fun _=>⟨by simp;omega,?_⟩,fun h=>(by cases h)⟩
  ·obtain⟨n,_,rfl⟩:=List.mem_map.1 hv;exact nE n
  ·show(if _ then _ else _)=_∧_∨(if _ then _ else _)=_;rw [List.length_map];split
   ·exact .inr rfl
   ·refine .inl ⟨rfl,?_⟩
    cases nums with
    | nil=>exact absurd rfl h
    | cons a l=>simp at*;omega
theorem mul1: ∀k:Fin 5,pL (numT 1) (numT (k.1:Nat))=(numT (k.1:Nat),0):=by decide+kernel
theorem add_num: ∀j k:Fin 5,(cX (numT (j.1:Nat)) (numT (k.1:Nat)) 1).1=numT ((j.1+k.1:Nat):Int):=by decide+kernel
theorem sub_num: ∀j k:Fin 5,k.1≤j.1→(cX (numT (j.1:Nat)) (numT (k.1:Nat)) (-1)).1=numT ((j.1-k.1:Nat):Int):=by decide+kernel
theorem bEj: ∀{S:List Pol} {p q:Pol},dR p=true→oJ p S=some q→dR q=true
 | [],p,q,hp,h=>by cases h;exact hp
 | s::r,p,q,hp,h=>by
  unfold oJ at h;split at h
  ·cases h
  ·exact bEj (bCv p s) h
theorem wf_head{a:TyP}(h:WfT a)(k:a.known=true)(hs:a.sides=[]):dR (a.values.headD [])=true:=by
 have:=wS h k hs
 match hv:a.values,this with
 | [v],_=>exact h.vr v (by rw [hv];exact List.mem_singleton.2 rfl)
theorem negW:WfT ⟨[],true,[[]]⟩:=⟨by simp,fun _ h=>(by cases h),fun v h=>by rw [List.mem_singleton.1 h];rfl,fun _=>⟨by simp,.inl ⟨rfl,rfl⟩⟩,fun h=>(by cases h)⟩
theorem monad_wf{f:Int}{a:TyP}(ha:WfT a):WfT (gL f a).1:=by
 unfold gL;split
 ·split
  ·exact ha
  ·rename_i hs;split
   ·exact ha
   ·rename_i hk;split
    ·exact ha
    ·exact lL (by simp) (fun s h=>by rw [List.mem_singleton.1 h];exact wf_head ha (by simpa using hk) (by simpa using hs))
 ·split
  ·refine⟨by simp,fun s h=>?_,ha.sr,fun _=>⟨ha.len,.inr rfl⟩,fun h=>(by cases h)⟩;rw [List.mem_singleton.1 h];exact nE _
  ·split
   ·split
    ·exact ha
    ·rename_i p hp;refine⟨by simp,fun s h=>?_,ha.vr,fun k=>⟨(ha.kn k).1,.inr ?_⟩,ha.un⟩
     ·rw [List.mem_singleton.1 h];exact bEj (nE 1) hp
     ·have hl:=(ha.kn k).1
      rcases (ha.kn k).2 with h | h
      ·rw [h.1] at hp;cases hp;show [numT 1]=[numT _];rw [h.2];rfl
      ·rw [h] at hp;have hm:=mul1 ⟨a.values.length,by omega⟩;unfold oJ at hp;dsimp only at hm;rw [hm] at hp;cases hp;rfl
   ·split
    ·dsimp only;split
     ·refine⟨ha.len,ha.sr,fun v h=>ha.vr v (List.mem_reverse.1 h),fun k=>?_,fun k=>by show a.values.reverse=[];rw [ha.un k];rfl⟩;show a.values.reverse.length≤4∧(a.sides=[]∧a.values.reverse.length=1∨a.sides=[numT a.values.reverse.length]);rw [List.length_reverse];exact ha.kn k
     ·exact ha
    ·split
     ·refine⟨by show a.sides.reverse.length≤4;rw [List.length_reverse];exact ha.len,fun s h=>ha.sr s (List.mem_reverse.1 h),ha.vr,fun k=>⟨(ha.kn k).1,?_⟩,ha.un⟩
      rcases (ha.kn k).2 with h | h
      ·exact .inl ⟨by show a.sides.reverse=[];rw [h.1];rfl,h.2⟩
      ·exact .inr (by show a.sides.reverse=_;rw [h];rfl)
     ·split
      ·exact ha
      ·split
       ·obtain⟨e1,e2,e3⟩:=eachT_wf (op:=some wK) (b:=a) (fun o h=>by cases h;exact subR) negW;refine⟨ha.len,ha.sr,e1,fun k=>?_,e3⟩;obtain⟨_,k2,k3⟩:=e2 k;show(kC (some wK) ⟨[],true,[[]]⟩ a).1.length≤4∧(a.sides=[]∧(kC (some wK) ⟨[],true,[[]]⟩ a).1.length=1∨a.sides=[numT (kC (some wK) ⟨[],true,[[]]⟩ a).1.length]);rw [k3];split
        ·exact⟨pA ha,(ha.kn k2).2⟩
        ·rename_i hs;refine⟨by simp,.inl ⟨?_,rfl⟩⟩
         simpa using hs
       ·exact lL ha.len ha.sr
theorem rho_wf{a b:TyP}(ha:WfT a):WfT (yF a b).1:=by
 unfold yF;split
 ·exact ha
 ·split
  ·exact ha
  ·split
   ·exact ha
   ·split
    ·exact ha
    ·exact lL (pA ha) ha.vr
theorem cut_all{tk:Bool}{n:Int}{l:List Pol}{g:Pol→Prop}(h: ∀v∈l,g v): ∀v∈uV tk n l,g v:=by
 unfold uV;split
 ·exact fun v hv=>h v (List.mem_of_mem_take hv)
 ·exact fun v hv=>h v (List.mem_of_mem_drop hv)
theorem cut_len{tk:Bool}{n:Int}{l:List Pol}(h:max n (-n)≤l.length):(uV tk n l).length=if tk=true then (max n (-n)).toNat else l.length-(max n (-n)).toNat:=by
 unfold uV;cases tk
 ·rw [if_neg (show ¬(false=true) by decide)]
  by_cases hn:(0:Int)≤n
  ·rw [decide_eq_true hn,if_neg (by decide),List.length_drop,if_neg (by omega)];omega
  ·rw [decide_eq_false hn,if_pos rfl,List.length_take,if_pos (by omega)];omega
 ·rw [if_pos (show true=true from rfl)]
  by_cases hn:(0:Int)≤n
  ·rw [decide_eq_true hn,if_pos rfl,List.length_take,if_neg (by omega)];omega
  ·rw [decide_eq_false hn,if_neg (by decide),List.length_drop,if_pos (by omega)];omega
theorem bGs{S:List Pol}{s:Pol}(h:s∈S.tail):s∈S:=List.mem_of_mem_tail h
theorem part_wf{tk:Bool}{a b:TyP}(ha:WfT a)(hb:WfT b):WfT (lK tk a b).1:=by
 unfold lK;split
 ·exact ha
 ·rename_i hs;rw [not_or] at hs;split
  ·exact ha
  ·split
   ·exact ha
   ·rename_i n hn;split
    ·exact ha
    ·rename_i hc;have hc:gN (b.sides.headD []) (max n (-n))=true:=by simpa using hc
     have hlen: ∀p:Pol,(p::b.sides.tail).length≤4:=fun p=>by
      have:=hb.len;have h0:b.sides≠[]:=hs.2
      cases e:b.sides with
      | nil=>exact absurd e h0
      | cons s l=>rw [e] at this;exact this
     have hm:b.known=true→b.sides=[numT b.values.length]∧max n (-n)≤b.values.length∧b.values.length≤4:=fun k=>by
      rcases (hb.kn k).2 with h | h
      ·exact absurd h.1 hs.2
      ·rw [h] at hc;exact⟨h,bGn hc,(hb.kn k).1⟩
     have hun:b.known=false→(if b.known=true then uV tk n b.values else b.values)=[]:=fun k=>by rw [k];exact hb.un k
     have hvr: ∀v∈(if b.known=true then uV tk n b.values else b.values),dR v=true:=by
      split
      ·exact cut_all hb.vr
      ·exact hb.vr
     split
     ·rename_i ht;subst ht;refine⟨hlen _,fun s h=>?_,hvr,fun k=>?_,hun⟩
      ·rcases List.mem_cons.1 h with rfl | h
       ·exact nE _
       ·exact hb.sr s (bGs h)
      ·have k:b.known=true:=k;obtain⟨h1,h2,h3⟩:=hm k;show(if b.known=true then uV true n b.values else b.values).length≤4∧(_∨numT (max n (-n))::b.sides.tail=[numT (if b.known=true then uV true n b.values else b.values).length]);rw [if_pos k,cut_len h2,if_pos rfl,h1];refine⟨by omega,.inr ?_⟩;rw [show(((max n (-n)).toNat:Nat):Int)=max n (-n) by omega];rfl
     ·rename_i ht;have ht:tk=false:=by simpa using ht
      subst ht;split
      ·exact ha
      ·refine⟨hlen _,fun s h=>?_,hvr,fun k=>?_,hun⟩
       ·rcases List.mem_cons.1 h with rfl | h
        ·exact oM _ _ _
        ·exact hb.sr s (bGs h)
       ·have k:b.known=true:=k;obtain⟨h1,h2,h3⟩:=hm k;show(if b.known=true then uV false n b.values else b.values).length≤4∧(_∨(cX (b.sides.headD []) (numT (max n (-n))) (-1)).1::b.sides.tail=[numT (if b.known=true then uV false n b.values else b.values).length]);rw [if_pos k,cut_len h2,if_neg (by decide),h1];refine⟨by omega,.inr ?_⟩;have hx:=sub_num ⟨b.values.length,by omega⟩ ⟨(max n (-n)).toNat,by omega⟩ (by show(max n (-n)).toNat≤b.values.length;omega);dsimp only at hx;rw [show(((max n (-n)).toNat:Nat):Int)=max n (-n) by omega] at hx;show(cX (numT b.values.length) _ _).1::[]=_;rw [hx]
theorem oneT_num{a:TyP}(ha:WfT a)(k:a.known=true):dV a.sides=[numT a.values.length]:=by
 unfold dV
 rcases (ha.kn k).2 with h | h
 ·rw [if_pos h.1,h.2];rfl
 ·rw [h,if_neg (by simp)]
theorem oneT_right{a:TyP}(ha:WfT a): ∀s∈dV a.sides,dR s=true:=by
 unfold dV;split
 ·exact fun s h=>by rw [List.mem_singleton.1 h];exact nE _
 ·exact ha.sr
theorem oneT_len{a:TyP}(ha:WfT a)(p:Pol):(p::(dV a.sides).tail).length≤4:=by
 unfold dV;split
 ·simp
 ·rename_i h0;have:=ha.len
  cases e:a.sides with
  | nil=>exact absurd e h0
  | cons s l=>rw [e] at this;exact this
theorem cat_wf{a b:TyP}(ha:WfT a)(hb:WfT b):WfT (yQ a b).1:=by
 unfold yQ;split
 ·exact ha
 ·split
  ·exact ha
  ·have hsr: ∀s∈(cX ((dV a.sides).headD []) ((dV b.sides).headD []) 1).1::(dV b.sides).tail,dR s=true:=fun s h=>by
    rcases List.mem_cons.1 h with rfl | h
    ·exact oM _ _ _
    ·exact oneT_right hb s (bGs h)
   split
   ·rename_i hk;refine⟨oneT_len hb _,hsr,fun v h=>?_,fun _=>⟨?_,.inr ?_⟩,fun h=>(by cases h)⟩
    ·rcases List.mem_append.1 h with h | h
     ·exact ha.vr v h
     ·exact hb.vr v h
    ·show(a.values++b.values).length≤4;rw [List.length_append];exact hk.2.2
    ·show(cX ((dV a.sides).headD []) ((dV b.sides).headD []) 1).1::(dV b.sides).tail=[numT (a.values++b.values).length];rw [oneT_num ha hk.1,oneT_num hb hk.2.1,List.length_append];have hx:=add_num ⟨a.values.length,by omega⟩ ⟨b.values.length,by omega⟩;dsimp only at hx;show(cX (numT a.values.length) (numT b.values.length) 1).1::[]=_;rw [hx]
   ·exact lL (oneT_len hb _) hsr
theorem dyad_wf{f:Int}{a b:TyP}(ha:WfT a)(hb:WfT b):WfT (pI f a b).1:=by
 unfold pI;split
 ·exact rho_wf ha
 ·split
  ·exact part_wf ha hb
  ·split
   ·exact part_wf ha hb
   ·split
    ·exact cat_wf ha hb
    ·split
     ·exact lL ha.len ha.sr
     ·obtain⟨e1,e2,e3⟩:=eachT_wf (op:=vA f) (b:=b) (fun o h=>opR h) ha
      by_cases hs:a.sides=[]
      ·rw [if_pos hs];refine⟨hb.len,hb.sr,e1,fun k=>?_,e3⟩;obtain⟨k1,k2,k3⟩:=e2 k;show(kC (vA f) a b).1.length≤4∧(b.sides=[]∧(kC (vA f) a b).1.length=1∨b.sides=[numT (kC (vA f) a b).1.length]);rw [k3];split
       ·exact⟨pA hb,(hb.kn k2).2⟩
       ·rename_i h
        have hbs:b.sides=[]:=by
         by_cases e:b.sides=[]
         ·exact e
         ·exact absurd ⟨hs,e⟩ h
        exact⟨pA ha,.inl ⟨hbs,wS ha k1 hs⟩⟩
      ·rw [if_neg hs];refine⟨ha.len,ha.sr,e1,fun k=>?_,e3⟩;obtain⟨k1,k2,k3⟩:=e2 k;show(kC (vA f) a b).1.length≤4∧(a.sides=[]∧(kC (vA f) a b).1.length=1∨a.sides=[numT (kC (vA f) a b).1.length]);rw [k3,if_neg (fun h=>hs h.1)];exact⟨pA ha,(ha.kn k1).2⟩
theorem bLk{k:Bs}{t:TyP}: ∀{N:jL},zV k N=some t→ ∃p∈N,p.2=t
 | [],h=>by cases h
 | p::r,h=>by
  rw [zV] at h;split at h
  ·injection h with h
   exact⟨p,List.mem_cons_self ..,h⟩
  ·obtain⟨q,hq,e⟩:=bLk h;exact⟨q,List.mem_cons_of_mem _ hq,e⟩
def oW (N:jL):Prop:= ∀q∈N,WfT q.2
theorem look_wf{N:jL}(h:oW N){k:Bs}{t:TyP}(e:zV k N=some t):WfT t:=by
 obtain⟨p,hp,rfl⟩:=bLk e;exact h p hp
theorem name_wf{N:jL}(h:oW N){s:Bs}{t:TyP}(e:nameT N s=some t):WfT t:=by
 unfold nameT at e;split at e
 ·rename_i h1;cases e;exact look_wf h h1
 ·split at e
  ·rename_i h1;cases e;exact look_wf h h1
  ·exact look_wf h e
theorem none_wf:WfT ⟨[],false,[]⟩:=lL (by simp) (fun s h=>(by cases h))
theorem headW{st:List TyP}(h: ∀t∈st,WfT t)(k:1≤st.length):WfT (st.headD default):=by
 match st,k with
 | a::l,_=>exact h a (List.mem_cons_self ..)
theorem secondW{st:List TyP}(h: ∀t∈st,WfT t)(k:2≤st.length):WfT (st.tail.headD default):=by
 match st,k with
 | a::b::l,_=>exact h b (List.mem_cons_of_mem _ (List.mem_cons_self ..))
theorem item_wf{N:jL}(hN:oW N){it:fI}{st:List TyP}(hs: ∀t∈st,WfT t)(hd:hO it≤st.length)(hnum:it.how=1→it.nums≠[])(h17:1≤it.how∧it.how≤7)(h0:(iI N it st).2=0):WfT (iI N it st).1:=by
 have h1:it.how=3∨it.how=5∨it.how=6→1≤st.length:=fun h=>by rw [tD h] at hd;exact hd
 have h2:it.how=4∨it.how=7→2≤st.length:=fun h=>by rw [xL h] at hd;exact hd
 unfold iI at h0⊢;split
 ·exact literal_wf (hnum ‹_›)
 ·split
  ·split
   ·rename_i e;exact name_wf hN e
   ·exact none_wf
  ·split
   ·exact monad_wf (headW hs (h1 (by omega)))
   ·split
    ·have hw:=headW hs (h1 (by omega));dsimp only;split
     ·exact hw
     ·exact lL (by rw [List.length_take];have:=hw.len;omega) (fun s h=>hw.sr s (List.mem_of_mem_take h))
    ·split
     ·have hw:=headW hs (h1 (by omega));dsimp only;split
      ·exact hw
      ·exact lL hw.len hw.sr
     ·split
      ·exact dyad_wf (secondW hs (h2 (by omega))) (headW hs (h2 (by omega) |>Nat.le_of_succ_le))
      ·rename_i n1 n2 n3 n5 n6 n4;rw [if_neg n1,if_neg n2,if_neg n3,if_neg n5,if_neg n6,if_neg n4] at h0;have hx:=secondW hs (h2 (by omega));have hu:=headW hs (h2 (by omega) |>Nat.le_of_succ_le);refine lL ?_ (fun s h=>?_)
       ·rw [List.length_append];dsimp only at h0;split at h0
        ·cases h0
        ·omega
       ·rcases List.mem_append.1 h with h | h
        ·exact hx.sr s h
        ·exact hu.sr s h
theorem varT_wf(k:Nat):WfT (varT k):=⟨by simp [varT],fun s h=>(by cases h),fun v h=>by rw [List.mem_singleton.1 h];exact bCk _,fun _=>⟨by simp [varT],.inl ⟨rfl,rfl⟩⟩,fun h=>(by cases h)⟩
theorem varsT_wf: ∀{vars:List Bs} {k:Nat} {N:jL},oW N→oW (bEg vars k N)
 | [],_,_,h=>h
 | s::r,k,N,h=>by
  show oW (bEg r (k+1) ((s,varT k)::N));refine varsT_wf (fun q hq=>?_)
  rcases List.mem_cons.1 hq with rfl | hq
  ·exact varT_wf k
  ·exact h q hq
theorem insT_wf{vars:List Bs}: ∀{l:List iS} {N:jL},(∀x∈l,x.sides.length≤4)→oW N→oW (insT vars l N)
 | [],_,_,h=>h
 | x::r,N,hl,h=>by
  show oW (insT vars r ((nIn++x.name,inT vars x)::N));refine insT_wf (fun y hy=>hl y (List.mem_cons_of_mem _ hy)) (fun q hq=>?_)
  rcases List.mem_cons.1 hq with rfl | hq
  ·refine lL ?_ (fun s hs=>?_)
   ·rw [List.length_map];exact hl x (List.mem_cons_self ..)
   ·obtain⟨d,_,rfl⟩:=List.mem_map.1 hs;unfold sideT';split
    ·exact bCk _
    ·exact nE _
  ·exact h q hq
theorem check_wf{p:iM}(h:(fH p).2=true):oW (yB p):=
 insT_wf (fun x hx=>((xJ h).input x hx).2.1) (varsT_wf (fun q hq=>(by cases hq)))
theorem badT_a{n:Int}(h:n<0):oF n=true:=by simp [oF,h]
theorem badT_b{n:Int}(h:65536<n):oF n=true:=by simp [oF,h]
theorem badT_c{n:Int}(h: ¬n<0)(k: ¬65536<n):oF n=false:=by simp [oF,h,k]
def rowT (s:Sl TyV):List TyP:=s.list.map TyV.t
def bKc (s:Sl TyV):Fact:=((tyE.sl (.slice s.addr s.list.length s.cap) s.list).and (Fact.each s.list tyF)).and (Fact.pure (s.list.length≤s.cap))
def pK (N:jL)(l:List fI)(j:Nat)(hv ow:List TyV):Prop:=xX N l [] []=xX N (l.drop j) (stT hv) (ow.map TyV.t)∧qT (l.drop j) hv.length=some 1∧(∀a∈hv,WfT a.t)∧hv.length≤j∧ow.length=j
section
variable {N : jL} {l : List fI} {j : Nat} {hv ow : List TyV} {x : fI} {y z : TyV}
theorem tsT_start(hd:qT l 0=some 1):pK N l 0 [] []:=⟨rfl,hd,fun a ha=>(by simp at ha),Nat.le_refl _,rfl⟩
theorem tsT_dep(h:pK N l j hv ow)(hx:l[j]?=some x):(hO x≤hv.length∧1≤x.how∧x.how≤7∧(x.how=1→x.nums≠[]∧x.nums.length≤65536))∧qT (l.drop (j+1)) (hv.length-hO x+1)=some 1:=by
 have hd:=h.2.1;rw [mB hx,qT] at hd;split at hd
 ·rename_i hb;exact⟨hb,hd⟩
 ·cases hd
theorem stT_wf(h: ∀a∈hv,WfT a.t): ∀t∈stT hv,WfT t:=fun t ht=>by
 unfold stT at ht;rw [List.mem_reverse] at ht;obtain⟨b,hb,rfl⟩:=List.mem_map.1 ht;exact h b hb
theorem stT_length(hv:List TyV):(stT hv).length=hv.length:=by simp [stT]
theorem tsT_err(h:pK N l j hv ow)(hx:l[j]?=some x)(he:(iI N x (stT hv)).2≠0):xX N l [] []= .error (x.at_,(iI N x (stT hv)).2):=by
 rw [h.1,mB hx,xX,if_pos he]
theorem tsT_wf(hN:oW N)(h:pK N l j hv ow)(hx:l[j]?=some x)(he:(iI N x (stT hv)).2=0)(hy:y.t=(iI N x (stT hv)).1):WfT y.t:=by
 obtain⟨⟨h1,h2,h3,h4⟩,_⟩:=tsT_dep h hx;rw [hy];exact item_wf hN (stT_wf h.2.2.1) (by rw [stT_length];exact h1) (fun e=>(h4 e).1) ⟨h2,h3⟩ he
theorem tsT_step(h:pK N l j hv ow)(hx:l[j]?=some x)(he:(iI N x (stT hv)).2=0)(hy:y.t=(iI N x (stT hv)).1)(hw:WfT y.t)(hz:z.t=y.t):pK N l (j+1) (hv.take (hv.length-hO x)++[y]) (ow++[z]):=by
 obtain⟨⟨h1,_⟩,hd⟩:=tsT_dep h hx;have hl:(hv.take (hv.length-hO x)++[y]).length=hv.length-hO x+1:=by rw [List.length_append,List.length_take];simp
 refine⟨?_,by rw [hl];exact hd,fun a ha=>?_,by rw [hl];have:=h.2.2.2.1;omega,by rw [List.length_append,h.2.2.2.2];rfl⟩
 ·rw [h.1,mB hx,xX,if_neg (by simp [he]),stT_push (T:=hO x) rfl,List.map_append,List.map_singleton,hz,hy]
 ·rcases List.mem_append.1 ha with ha | ha
  ·exact h.2.2.1 a (List.mem_of_mem_take ha)
  ·rw [List.mem_singleton.1 ha];exact hw
theorem tsT_end(h:pK N l j hv ow)(hj:l.length≤j): ∃a,hv=[a]∧xX N l [] []= .ok ([a.t],ow.map TyV.t)∧WfT a.t:=by
 obtain⟨h1,h2,h3,_,_⟩:=h;rw [rI hj,qT] at h2;injection h2 with h2
 match hv,h2 with
 | [a],_=>
  refine⟨a,rfl,?_,h3 a (List.mem_cons_self ..)⟩;rw [h1,rI hj];rfl
end
def wJ (ls:List pC)(i:Nat)(kv:KVS)(NV:NamesTV)(xs:List (Sl TyV))(r:List (List TyP)×Flt):Prop:=qO kv NV∧oW (iZ NV)∧r=bCw (iZ NV) (ls.drop i) (xs.map rowT)∧xs.length=i
section
variable {ls : List pC} {i : Nat} {kv : KVS} {NV : NamesTV} {xs : List (Sl TyV)} {r : List (List TyP) × Flt} {l : pC} {a : TyV} {s : Sl TyV} {f : Flt}
theorem lsT_err(h:wJ ls i kv NV xs r)(hx:ls[i]?=some l)(hl:xX (iZ NV) l.items [] []= .error f):r=([],f):=by
 rw [h.2.2.1,mB hx,bCw,hl]
theorem lsT_step(h:wJ ls i kv NV xs r)(hx:ls[i]?=some l)(hl:xX (iZ NV) l.items [] []= .ok ([a.t],s.list.map TyV.t))(ha:WfT a.t):wJ ls (i+1) (mN (sA++l.name) (tyC a) kv) ((sA++l.name,a)::NV) (xs++[s]) r:=by
 refine⟨nrT_add h.1 _ a,fun p hp=>?_,?_,by rw [List.length_append,h.2.2.2];rfl⟩
 ·rcases List.mem_cons.1 hp with rfl | hp
  ·exact ha
  ·exact h.2.1 p hp
 ·rw [h.2.2.1,mB hx,bCw,hl,List.map_append];rfl
theorem lsT_end(h:wJ ls i kv NV xs r)(hi:ls.length≤i):r=(xs.map rowT,(0,0)):=by
 rw [h.2.2.1,rI hi];rfl
end
theorem ty_no{p:iM}(h:(fH p).2=false):jY p=([],(0,50)):=if_pos h
theorem ty_few{p:iM}{x:iS}(h:(fH p).2=true)(hf:p.inputs.find? (fewB (varsP p))=some x):jY p=([],(x.at_,80)):=by
 unfold jY;rw [if_neg (by simp [h]),hf]
theorem ty_go{p:iM}(h:(fH p).2=true)(hf:p.inputs.find? (fewB (varsP p))=none):jY p=bCw (yB p) p.lines []:=by
 unfold jY;rw [if_neg (by simp [h]),hf]
set_option maxRecDepth 100000 in
theorem bGt(P:ProgV)(hP:vK P)(hl1:P.inputs.list.length≤140737488355328)(hl2:P.lines.list.length≤140737488355328):dM Tryz.prog 21 [.agg #[.slice P.inputs.addr P.inputs.list.length P.inputs.cap,.slice P.lines.addr P.lines.list.length P.lines.cap]] [] [iA,lD.sl (.slice P.inputs.addr P.inputs.list.length P.inputs.cap) P.inputs.list,jH P.inputs.list,rB.sl (.slice P.lines.addr P.lines.list.length P.lines.cap) P.lines.list,nB P.lines.list] (fun(x:Option Addr×Nat×List (Sl TyV))=> .tuple #[.slice x.1 x.2.2.length x.2.1,.agg #[.int .i64 (jY P.pr).2.1,.int .i64 (jY P.pr).2.2]]) (fun _=>[]) (fun(x:Option Addr×Nat×List (Sl TyV))=>[zM.sl (.slice x.1 x.2.2.length x.2.1) x.2.2,Fact.each x.2.2 bKc,Fact.pure (x.2.2.map rowT=(jY P.pr).1∧x.2.2.length≤x.2.1)]):=by
 have hT:=fC;generalize hR:jY P.pr=r;refine cQ Tryz.func21 rfl Tryz.ntmps21 rfl ?_;intro β hM;refine sr<|gC rfl rfl rfl rfl rfl rfl fun b1=>?_;refine sp hT ?_;refine cC rfl rfl rfl rfl yT rfl fun b2=>?_;refine nn<|bB<|sr<|ss (ldN hT (bJ kT1)) ?_;refine bQ Tryz.func41 (sRight_spec P hP hl1 hl2) rfl rfl .nil ⟨(Has.of mT0),(Has.of mT1),(Has.of mT2),(Has.of mT3),(Has.of mT4),trivial⟩ fun _=>?_;refine sp hT ?_;refine nn<|bK rfl (fun hc22=>?_) (fun hc22=>?_)
 ·have hc22:=fT hc22;refine sr<|ss (cF rfl rfl (uY _)) ?_;refine sp hT ?_;refine sto hT .head ?_;refine nn<|bF<|bA ?_;have hr:=hR.symm.trans (ty_no ‹_›);subst hr;exact bO (none,0,[]) rfl (bE rfl) (bN hT (bJ .head) rfl rfl rfl rfl) .nil ⟨rT,Has.each_nil,Has.pure ⟨rfl,Nat.le_refl 0⟩,trivial⟩ rfl
 have hc22:=fM hc22;refine bM<|bC<|bB ?_;have hrt:(fH P.pr).2=true:=by assumption
 have hfine:=xJ hrt;have hs: ∀x∈P.inputs.list,x.sides.list.length≤4:=fun x hx=>by have h1:=(hfine.input x.inp (zN hx)).2.1;have h2:x.inp.sides.length=x.sides.list.length:=List.length_map _;omega
 have hTT:=bAo hrt;have hpl:P.pr.inputs.length=P.inputs.list.length:=List.length_map _;refine bD<|ss (ldN hT (bJ kT1)) ?_;refine bQ Tryz.func12 (bKi P hl1 (fun x hx=>Nat.le_trans (hs x hx) (by decide)) (by omega)) rfl rfl .nil ⟨(Has.of mT1),(Has.of mT2),trivial⟩ fun⟨V,cv⟩=>?_;have hvl:(varsP P.pr).length≤256:=Nat.le_trans (vars_le P.pr) hTT;refine sp hT ?_;refine nn<|bB<|sr<|sp hT ?_;refine ss (ldO hT (bJ kT1)) ?_;refine sp2 hT ?_;refine nn<|bU<|dC (ι:=Nat) [(1,_),(3,_),(4,_),(27,_),(28,_)] ⟨rfl,rfl,rfl,rfl,rfl,trivial⟩ (fun i=>[(29,.int .i64 (i:Nat))]) (fun _=>[]) (fun i=>[Fact.pure (i≤P.inputs.list.length∧bAm (varsP P.pr) P.pr.inputs i)]) (fun i=>P.inputs.list.length-i) 0 ⟨rfl,trivial⟩ .nil ⟨Has.pure (⟨by omega,few_start⟩),trivial⟩ ?_;rintro i;refine bP (Has.of mT0) fun hinv5=>?_;refine sr<|sp hT ?_;refine nn<|bB<|bK rfl (fun hc30=>?_) (fun hc30=>?_)
 ·have hc30:=of_decide_eq_true hc30;refine bM<|bC<|bB<|bU<|sr ?_
  obtain⟨x3,hx4⟩: ∃x',P.inputs.list[i]?=some x':=⟨_,List.getElem?_eq_getElem (by omega)⟩
  refine ss (bV hT (k:=i) (bL (Has.of mT4)) rfl rfl rfl rfl rfl rfl rfl (by omega)) ?_;refine ss (fA hT (cP.knows (bL (Has.of mT4)) (k:=i) (x:=x3) hx4 0) rfl rfl rfl rfl rfl) ?_;refine cC rfl rfl rfl rfl jJ rfl fun b5=>?_;refine sto hT .head ?_;refine nn<|bB ?_;have hx0:P.pr.inputs[i]?=some x3.inp:=uA hx4;have hxs:=hs x3 (List.mem_of_getElem? hx4);refine bH (qV x3) (Has.each (Has.of mT5) (List.mem_of_getElem? hx4)) ?_;refine bD<|sp hT ?_;refine ss (ldO hT (dH .head)) ?_;refine sp2 hT ?_;refine nn<|bU<|dC (ι:=Nat) [(1,_),(3,_),(4,_),(6,_),(27,_),(28,_),(29,_),(34,_),(35,_)] ⟨rfl,rfl,rfl,rfl,rfl,rfl,rfl,rfl,rfl,trivial⟩ (fun j=>[(36,.int .i64 (j:Nat))]) (fun _=>[]) (fun j=>[Fact.pure (j≤x3.sides.list.length∧bDt (varsP P.pr) x3.inp.sides j)]) (fun j=>x3.sides.list.length-j) 0 ⟨rfl,trivial⟩ .nil ⟨Has.pure (⟨by omega,few_in⟩),trivial⟩ ?_;rintro j;refine bP (Has.of mT0) fun hinv8=>?_;refine sr<|sp hT ?_;refine nn<|bB<|bK rfl (fun hc37=>?_) (fun hc37=>?_)
  ·have hc37:=of_decide_eq_true hc37;refine bM<|bC<|bB<|bU<|sr ?_
   obtain⟨x6,hx7⟩: ∃x',x3.sides.list[j]?=some x':=⟨_,List.getElem?_eq_getElem (by omega)⟩
   refine ss (bV hT (k:=j) (bL (Has.of mT1)) rfl rfl rfl rfl rfl rfl rfl (by omega)) ?_;refine ss (fA hT (cP.knows (bL (Has.of mT1)) (k:=j) (x:=x6) hx7 0) rfl rfl rfl rfl rfl) ?_;refine cC rfl rfl rfl rfl tU rfl fun b8=>?_;refine sto hT .head ?_;refine nn<|bB ?_;have hd0:x3.inp.sides[j]?=some x6.sd:=uA hx7;refine bD<|sp hT ?_;refine ss (ldO hT (bJ .head)) ?_;refine sp2 hT ?_;refine cB (fun hg43=>?_) (fun hg43=>?_)
   ·have hg43:x6.name=([]:Bs):=eq_of_beq hg43;refine sp hT ?_;refine ss (ldO hT (fK .head)) ?_;refine sp2 hT ?_;refine cB (fun hg47=>?_) (fun hg47=>?_)
    ·have hg47:=of_decide_eq_true hg47;refine sk3 ?_;refine sp3 hT ?_;refine sk4 ?_;refine sk ?_;refine sp hT ?_;refine nn<|cH rfl rfl ?_;refine bB<|dD _ _ [(true,0),(true,1),(true,2),(true,3),(false,4)] dG (by decide+kernel) (.cons .head (.cons .head (.cons kT1 .nil))) bI.self ?_;refine puM hT ?_;refine stM rfl (ldO hT (fK kT1)) ?_;refine stM rfl (cF rfl rfl (tS _ _)) ?_;refine puM hT ?_;refine cM (o:=_) rfl ?_;refine sto hT kT2 ?_;refine cN (.cons kT1 (.cons kT1 (.cons kT1 .nil))) (bI.drop 0) ?_;refine cS<|bC<|bF<|bG<|bA<|bA<|bG<|bG<|bA<|bA<|bG<|bA ?_;have hr:=hR.symm.trans (ty_few hrt (bFk hinv5.2 hx0 hinv8.2 hd0 (by first | exact fs_a ‹_› (by first | exact badT_a (show x6.n<0 by omega) | exact badT_b (show 65536<x6.n by omega)) | exact fs_b (show 6≤jF x6.name (varsP P.pr) 0 by omega))));subst hr;exact bO (none,0,[]) rfl (bE rfl) (bN hT (bJ .head) rfl rfl rfl rfl) .nil ⟨rT,Has.each_nil,Has.pure ⟨rfl,Nat.le_refl 0⟩,trivial⟩ rfl
    have hg47:=Int.not_lt.1 (of_decide_eq_false hg47);refine sp hT ?_;refine ss (ldO hT (fK .head)) ?_;refine sp4 hT ?_;refine cB (fun hg53=>?_) (fun hg53=>?_)
    ·have hg53:=of_decide_eq_true hg53;refine sk4 ?_;refine sk ?_;refine sp hT ?_;refine nn<|cH rfl rfl ?_;refine bB<|dD _ _ [(true,0),(true,1),(true,2),(true,3),(false,4)] dG (by decide+kernel) (.cons .head (.cons .head (.cons kT1 .nil))) bI.self ?_;refine puM hT ?_;refine stM rfl (ldO hT (fK kT1)) ?_;refine stM rfl (cF rfl rfl (tS _ _)) ?_;refine puM hT ?_;refine cM (o:=_) rfl ?_;refine sto hT kT2 ?_;refine cN (.cons kT1 (.cons kT1 (.cons kT1 .nil))) (bI.drop 0) ?_;refine cS<|bC<|bF<|bG<|bA<|bA<|bG<|bG<|bA<|bA<|bG<|bA ?_;have hr:=hR.symm.trans (ty_few hrt (bFk hinv5.2 hx0 hinv8.2 hd0 (by first | exact fs_a ‹_› (by first | exact badT_a (show x6.n<0 by omega) | exact badT_b (show 65536<x6.n by omega)) | exact fs_b (show 6≤jF x6.name (varsP P.pr) 0 by omega))));subst hr;exact bO (none,0,[]) rfl (bE rfl) (bN hT (bJ .head) rfl rfl rfl rfl) .nil ⟨rT,Has.each_nil,Has.pure ⟨rfl,Nat.le_refl 0⟩,trivial⟩ rfl
    have hg53:=Int.not_lt.1 (of_decide_eq_false hg53);refine sp2 hT ?_;refine ss (ldO hT (bJ .head)) ?_;refine bQ Tryz.func42 (wN _ _ _ (by omega) x6.name) rfl rfl .nil ⟨Has.of mT3,trivial⟩ fun _=>?_;refine sp2 hT ?_;refine nn<|bK rfl (fun hc59=>?_) (fun hc59=>?_)
    ·have hc59:=of_decide_eq_true hc59;refine bB<|dD _ _ [(true,0),(true,1),(true,2),(true,3),(false,4)] dG (by decide+kernel) (.cons .head (.cons .head (.cons kT1 .nil))) bI.self ?_;refine puM hT ?_;refine stM rfl (ldO hT (fK kT1)) ?_;refine stM rfl (cF rfl rfl (tS _ _)) ?_;refine puM hT ?_;refine cM (o:=_) rfl ?_;refine sto hT kT2 ?_;refine cN (.cons kT1 (.cons kT1 (.cons kT1 .nil))) (bI.drop 0) ?_;refine cS<|bC<|bF<|bG<|bA<|bA<|bG<|bG<|bA<|bA<|bG<|bA ?_;have hr:=hR.symm.trans (ty_few hrt (bFk hinv5.2 hx0 hinv8.2 hd0 (by first | exact fs_a ‹_› (by first | exact badT_a (show x6.n<0 by omega) | exact badT_b (show 65536<x6.n by omega)) | exact fs_b (show 6≤jF x6.name (varsP P.pr) 0 by omega))));subst hr;exact bO (none,0,[]) rfl (bE rfl) (bN hT (bJ .head) rfl rfl rfl rfl) .nil ⟨rT,Has.each_nil,Has.pure ⟨rfl,Nat.le_refl 0⟩,trivial⟩ rfl
    have hc59:=Int.not_le.1 (of_decide_eq_false hc59);refine bM<|bZ<|bC<|bD<|sp hT ?_;refine bT (z':=(((j+1):Nat):Int)) (cO (by omega) (by omega)) ?_;refine sp hT ?_;refine nn ?_;exact cL (j+1) (by omega) ⟨rfl,trivial⟩ ⟨rfl,rfl,rfl,rfl,rfl,rfl,rfl,rfl,rfl,trivial⟩ (.cons kT1 (.cons kT1 (.cons kT1 .nil))) ⟨Has.pure (⟨by omega,few_next hinv8.2 hd0 (by first | exact fs_c (badT_c (show ¬x6.n<0 by omega) (show ¬65536<x6.n by omega)) (show jF x6.name (varsP P.pr) 0<6 by omega) | exact fs_d ‹_› (show jF x6.name (varsP P.pr) 0<6 by omega))⟩),trivial⟩ (bI.drop 1)
   have hg43:x6.name≠([]:Bs):=fun h=>absurd (beq_iff_eq.2 h) (by rw [show(x6.name==([]:Bs))=false from hg43];simp);refine sk4 ?_;refine sk4 ?_;refine sp4 hT ?_;refine ss (ldO hT (bJ .head)) ?_;refine bQ Tryz.func42 (wN _ _ _ (by omega) x6.name) rfl rfl .nil ⟨Has.of mT3,trivial⟩ fun _=>?_;refine sp2 hT ?_;refine nn<|bK rfl (fun hc59=>?_) (fun hc59=>?_)
   ·have hc59:=of_decide_eq_true hc59;refine bB<|dD _ _ [(true,0),(true,1),(true,2),(true,3),(false,4)] dG (by decide+kernel) (.cons .head (.cons .head (.cons kT1 .nil))) bI.self ?_;refine puM hT ?_;refine stM rfl (ldO hT (fK kT1)) ?_;refine stM rfl (cF rfl rfl (tS _ _)) ?_;refine puM hT ?_;refine cM (o:=_) rfl ?_;refine sto hT kT2 ?_;refine cN (.cons kT1 (.cons kT1 (.cons kT1 .nil))) (bI.drop 0) ?_;refine cS<|bC<|bF<|bG<|bA<|bA<|bG<|bG<|bA<|bA<|bG<|bA ?_;have hr:=hR.symm.trans (ty_few hrt (bFk hinv5.2 hx0 hinv8.2 hd0 (by first | exact fs_a ‹_› (by first | exact badT_a (show x6.n<0 by omega) | exact badT_b (show 65536<x6.n by omega)) | exact fs_b (show 6≤jF x6.name (varsP P.pr) 0 by omega))));subst hr;exact bO (none,0,[]) rfl (bE rfl) (bN hT (bJ .head) rfl rfl rfl rfl) .nil ⟨rT,Has.each_nil,Has.pure ⟨rfl,Nat.le_refl 0⟩,trivial⟩ rfl
   have hc59:=Int.not_le.1 (of_decide_eq_false hc59);refine bM<|bZ<|bC<|bD<|sp hT ?_;refine bT (z':=(((j+1):Nat):Int)) (cO (by omega) (by omega)) ?_;refine sp hT ?_;refine nn ?_;exact cL (j+1) (by omega) ⟨rfl,trivial⟩ ⟨rfl,rfl,rfl,rfl,rfl,rfl,rfl,rfl,rfl,trivial⟩ (.cons kT1 (.cons kT1 (.cons kT1 .nil))) ⟨Has.pure (⟨by omega,few_next hinv8.2 hd0 (by first | exact fs_c (badT_c (show ¬x6.n<0 by omega) (show ¬65536<x6.n by omega)) (show jF x6.name (varsP P.pr) 0<6 by omega) | exact fs_d ‹_› (show jF x6.name (varsP P.pr) 0<6 by omega))⟩),trivial⟩ (bI.drop 1)
  have hc37:=Int.not_lt.1 (of_decide_eq_false hc37);refine cY<|cJ<|cJ<|cZ<|bZ<|bC<|bD<|sp hT ?_;refine bT (z':=(((i+1):Nat):Int)) (cO (by omega) (by omega)) ?_;refine sp hT ?_;refine nn ?_;exact cL (i+1) (by omega) ⟨rfl,trivial⟩ ⟨rfl,rfl,rfl,rfl,rfl,trivial⟩ (.cons kT1 (.cons kT1 .nil)) ⟨Has.pure (⟨by omega,few_out hinv5.2 hx0 hinv8.2 (by show(x3.sides.list.map iX.sd).length≤j;rw [List.length_map];omega)⟩),trivial⟩ (bI.drop 3)
 have hc30:=Int.not_lt.1 (of_decide_eq_false hc30);refine cY<|cJ<|cJ<|cZ<|bC<|sr<|ss (ldN hT (bJ kT1)) ?_;refine bQ Tryz.func43 (newT_spec P hl1 hrt) rfl rfl .nil ⟨(Has.of mT3),(Has.of mT4),(Has.of mT5),trivial⟩ fun⟨cb,mb,kv0,NV0⟩=>?_;refine bP (Has.of mT1) fun hnr=>?_;refine sp hT ?_;refine nn<|sr<|sp hT ?_;refine nn<|bB<|bB ?_;have hfn:=few_end hinv5.2 (by omega);have hbg:=hR.symm.trans (ty_go hrt hfn);rw [←hnr.2] at hbg;have hNW:oW (iZ NV0):=by rw [hnr.2];exact check_wf hrt
 have hdep:=right_depth hrt;have hpl2:P.pr.lines.length=P.lines.list.length:=List.length_map _;refine dS (t:=64) zM ?_;refine bH (Fact.each ([]:List (Sl TyV)) bKc) (Has.each_nil) ?_;refine bD<|sp hT ?_;refine ss (ldO hT (fK kT4)) ?_;refine sp2 hT ?_;refine nn<|bU<|dC (ι:=Nat×KVS×NamesTV×List (Sl TyV)×Option Addr×Nat) [(3,_),(9,_),(68,_),(69,_)] ⟨rfl,rfl,rfl,rfl,trivial⟩ (fun⟨i,kv,NV,xs,A1,c1⟩=>[(10,.slice A1 xs.length c1),(70,.int .i64 (i:Nat))]) (fun⟨i,kv,NV,xs,A1,c1⟩=>[rS mb kv,zM.row (.slice A1 xs.length c1) 64 xs]) (fun⟨i,kv,NV,xs,A1,c1⟩=>[Fact.pure (i≤P.lines.list.length∧wJ P.pr.lines i kv NV xs r),oC NV,Fact.each xs bKc]) (fun⟨i,kv,NV,xs,A1,c1⟩=>P.lines.list.length-i) (0,kv0,NV0,[],none,0) ⟨rfl,rfl,trivial⟩ (.cons kT2 (.cons .head .nil)) ⟨Has.pure (⟨by omega,hnr.1,hNW,hbg,rfl⟩),Has.of mT1,Has.of mT0,trivial⟩ ?_;rintro⟨i,kv,NV,xs,A1,c1⟩;dsimp only;refine bP (Has.of mT0) fun hinv17=>?_;refine sr<|sp hT ?_;refine nn<|bB<|bK rfl (fun hc71=>?_) (fun hc71=>?_)
 ·have hc71:=of_decide_eq_true hc71;refine bM<|bC<|bB<|bU<|sr ?_
  obtain⟨x9,hx10⟩: ∃x',P.lines.list[i]?=some x':=⟨_,List.getElem?_eq_getElem (by omega)⟩
  refine ss (bV hT (k:=i) (bL (Has.of kV)) rfl rfl rfl rfl rfl rfl rfl (by omega)) ?_;refine ss (fA hT (cP.knows (bL (Has.of kV)) (k:=i) (x:=x9) hx10 0) rfl rfl rfl rfl rfl) ?_;refine cC rfl rfl rfl rfl qE rfl fun b11=>?_;refine sto hT .head ?_;refine nn<|sr<|sp2 hT ?_;refine nn<|bB<|bB ?_;have hx0:P.pr.lines[i]?=some x9.ln:=uA hx10;have hdp:=hdep x9.ln (List.mem_of_getElem? hx0);have hfl:=hfine.line x9.ln (List.mem_of_getElem? hx0);have hlnm:x9.name.length≤16:=hfl.1;have hil:=hfl.2.1;have hie:x9.ln.items.length=x9.items.list.length:=List.length_map _;refine bH (lN.sl (.slice x9.items.addr x9.items.list.length x9.items.cap) x9.items.list) (Has.left (Has.each (Has.of lB) (List.mem_of_getElem? hx10))) ?_;refine bH (mD x9.items.list) (Has.right (Has.each (Has.of yG) (List.mem_of_getElem? hx10))) ?_;refine dS (t:=67) tyE ?_;refine bH (Fact.each ([]:List TyV) tyF) (Has.each_nil) ?_;refine dS (t:=67) tyE ?_;refine bH (Fact.each ([]:List TyV) tyF) (Has.each_nil) ?_;refine bD<|sp hT ?_;refine ss (ldO hT (dH kT2)) ?_;refine sp2 hT ?_;refine nn<|bU<|dC (ι:=Nat×List TyV×Option Addr×Nat×List TyV×Option Addr×Nat) [(3,_),(9,_),(10,_),(12,_),(68,_),(69,_),(70,_),(75,_),(76,_)] ⟨rfl,rfl,rfl,rfl,rfl,rfl,rfl,rfl,rfl,trivial⟩ (fun⟨j,hv,A2,c2,ow,A4,c4⟩=>[(13,.slice A2 hv.length c2),(14,.slice A4 ow.length c4),(77,.int .i64 (j:Nat))]) (fun⟨j,hv,A2,c2,ow,A4,c4⟩=>[tyE.row (.slice A2 hv.length c2) 67 hv,tyE.row (.slice A4 ow.length c4) 67 ow]) (fun⟨j,hv,A2,c2,ow,A4,c4⟩=>[Fact.pure (j≤x9.items.list.length∧pK (iZ NV) x9.ln.items j hv ow),Fact.each hv tyF,Fact.each ow tyF]) (fun⟨j,hv,A2,c2,ow,A4,c4⟩=>x9.items.list.length-j) (0,[],none,0,[],none,0) ⟨rfl,rfl,rfl,trivial⟩ (.cons kT1 (.cons .head .nil)) ⟨Has.pure (⟨by omega,tsT_start hdp⟩),Has.of mT1,Has.of mT0,trivial⟩ ?_;rintro⟨j,hv,A2,c2,ow,A4,c4⟩;dsimp only;refine bP (Has.of mT0) fun hinv21=>?_;have hvj:=hinv21.2.2.2.2.1;have hwj:=hinv21.2.2.2.2.2;refine sr<|sp hT ?_;refine nn<|bB<|bK rfl (fun hc78=>?_) (fun hc78=>?_)
  ·have hc78:=of_decide_eq_true hc78;refine bM<|bC<|bB<|bU<|sr ?_
   obtain⟨x12,hx13⟩: ∃x',x9.items.list[j]?=some x':=⟨_,List.getElem?_eq_getElem (by omega)⟩
   refine ss (bV hT (k:=j) (bL (Has.of mT6)) rfl rfl rfl rfl rfl rfl rfl (by omega)) ?_;refine ss (fA hT (cP.knows (bL (Has.of mT6)) (k:=j) (x:=x12) hx13 0) rfl rfl rfl rfl rfl) ?_;refine cC rfl rfl rfl rfl lU rfl fun b14=>?_;refine sto hT .head ?_;refine nn<|bB ?_;have hi0:x9.ln.items[j]?=some x12.it:=uA hx13;have hdd:=(tsT_dep hinv21.2 hi0).1;have hitn:=(hfl.2.2 x12.it (List.mem_of_getElem? hi0)).1;have htk0:=hdd.1;refine bH (numF x12) (Has.each (Has.of mT5) (List.mem_of_getElem? hx13)) ?_;refine bD<|sp hT ?_;refine ss (ldN hT (bJ .head)) ?_;refine sp hT ?_;refine bQ Tryz.func44 (itemTS_spec cb mb kv NV hinv17.2.1 x12 A2 c2 hv hinv21.2.2.2.1 (by omega) hdd.1 ⟨hdd.2.1,hdd.2.2.1⟩ (fun h=>(hdd.2.2.2 h).2) (fun _=>Nat.le_trans hitn (by decide))) rfl rfl (.cons kT6 (.cons kT4 (.cons kT1 .nil))) ⟨(Has.of mT0),(Has.of mT2),(Has.of mT9),trivial⟩ fun y15=>?_;refine bP (Has.of mT1) fun hy=>?_;refine sp4 hT ?_;refine cC rfl rfl rfl rfl oE rfl fun b16=>?_;refine sto hT .head ?_;refine sp2 hT ?_;refine nn<|bB<|sr<|sp2 hT ?_;refine nn<|bK rfl (fun hc90=>?_) (fun hc90=>?_)
   ·have hc90:=bne_iff_ne.1 hc90;refine bB<|dD _ _ [(true,0),(true,1),(true,2),(true,3),(true,4),(false,5)] dG (by decide+kernel) (.cons .head (.cons .head (.cons .head (.cons .head (.cons .head (.cons .head (.cons .head (.cons .head (.cons kT1 .nil))))))))) bI.self ?_;refine puM hT ?_;refine stM rfl (ldO hT (fK kT4)) ?_;refine puM hT ?_;refine stM rfl (cF rfl rfl (tS _ _)) ?_;refine puM hT ?_;refine cM (o:=_) rfl ?_;refine sto hT kT8 ?_;refine cN (.cons kT1 (.cons kT1 (.cons kT1 (.cons kT1 (.cons kT1 (.cons kT1 (.cons kT1 (.cons kT1 (.cons kT1 .nil))))))))) (bI.drop 0) ?_;refine cS<|bC<|bF<|bA<|bG<|bA<|bA<|bG<|bA<|bG<|bA<|bA<|bG<|bA ?_;have hr:=lsT_err hinv17.2 hx0 (tsT_err hinv21.2 hi0 ‹_›);subst hr;exact bO (none,0,[]) rfl (bE rfl) (bN hT (bJ .head) rfl rfl rfl rfl) .nil ⟨rT,Has.each_nil,Has.pure ⟨rfl,Nat.le_refl 0⟩,trivial⟩ rfl
   have hc90:=bne_eq_false_iff_eq.1 hc90;refine bM<|bC<|sr<|sp hT ?_;refine ss (ldN hT (bJ .head)) ?_;have hwy:=tsT_wf hinv17.2.2.1 hinv21.2 hi0 (by omega) hy;refine bQ Tryz.func45 (ownT_spec y15 hwy) rfl rfl .nil ⟨(Has.of mT0),trivial⟩ fun z17=>?_;refine bP (Has.of mT1) fun hz=>?_;refine bDc (m:=z17) rfl rfl rfl rfl rfl fun b18=>?_;refine bCn kT6 (dE .head rfl) rfl rfl rfl rfl rfl rfl rfl (by simp;omega) fun A19 c20=>?_;refine bH (Fact.each (ow++[z17]) tyF) (Has.each_snoc (Has.of mT7) (Has.of mT0)) ?_;refine sp hT ?_;refine nn<|qH _ _ (.fl 0 (.fl 1 (.fl 2 (.fl 3 (.fl 4 (.fl 6 (.two 5 7 (.op 7 (.op 8 (.fl 9 .nil))) (.op 5 (.op 8 (.fl 9 .nil)))))))))) dG (by decide+kernel) (.cons .head (.cons .head (.cons .head (.cons .head (.cons .head (.cons kT1 (.cons kT1 (.cons kT1 (.cons kT1 (.cons kT1 .nil)))))))))) bI.self ?_;refine pvT hT ?_;refine pvT hT ?_;refine pvT hT ?_;refine pvT hT ?_;refine pvT hT ?_;refine bT (z':=(((hv.length-(hO x12.it)):Nat):Int)) (cO (by omega) (by omega)) ?_;refine sqT rfl (ldN hT (bJ kT2)) ?_;refine mW (o:=_) (o':=_) rfl rfl ?_ ?_
   ·refine iQ hT (k:=(hv.length-hO x12.it)) kT5 rfl rfl rfl rfl rfl rfl rfl rfl rfl (by omega) ?_;refine dB (.cons kT1 (.cons kT1 (.cons kT1 (.cons kT1 (.cons kT1 (.cons kT1 (.cons kT1 (.cons kT1 (.cons kT1 (.cons kT1 .nil)))))))))) (bI.drop 0) ?_;refine fB (o:=_) rfl ?_;refine bDc (m:=y15) rfl rfl rfl rfl rfl fun b21=>?_;refine dB (.cons kT2 (.cons kT2 (.cons kT2 (.cons kT2 (.cons kT2 (.cons kT2 (.cons kT2 (.cons kT2 (.cons kT2 (.cons kT2 .nil)))))))))) (bI.drop 0) ?_;refine fB (o:=_) rfl ?_;refine bCn kT1 (dE .head rfl) rfl rfl rfl rfl rfl rfl rfl (by simp;omega) fun A22 c23=>?_;refine bH (Fact.each (hv.take (hv.length-hO x12.it)++[y15]) tyF) (Has.each_snoc (bLf (Has.of mT7) _) (Has.of mT3)) ?_;refine dB (.cons kT2 (.cons kT2 (.cons kT2 (.cons kT2 (.cons kT2 (.cons kT2 (.cons kT2 (.cons kT2 (.cons kT2 (.cons kT2 .nil)))))))))) (bI.drop 1) ?_;refine pvT hT ?_;refine gX<|bZ<|bC<|bD<|sp hT ?_;refine bT (z':=(((j+1):Nat):Int)) (cO (by omega) (by omega)) ?_;refine sp hT ?_;refine nn ?_;exact cL (j+1,hv.take (hv.length-hO x12.it)++[y15],A22,c23,ow++[z17],A19,c20) (by dsimp only;omega) ⟨rfl,rfl,rfl,trivial⟩ ⟨rfl,rfl,rfl,rfl,rfl,rfl,rfl,rfl,rfl,trivial⟩ (.cons .head (.cons kT1 (.cons kT6 (.cons kT4 (.cons kT5 (.cons kT3 (.cons kT4 (.cons kT4 .nil)))))))) ⟨Has.pure (⟨by dsimp only;omega,tsT_step hinv21.2 hi0 (by omega) hy hwy hz⟩),Has.of mT0,Has.of mT1,trivial⟩ (bI.drop 10)
   refine bDc (m:=y15) rfl rfl rfl rfl rfl fun b24=>?_;refine dB (.cons kT1 (.cons kT1 (.cons kT1 (.cons kT1 (.cons kT1 (.cons kT2 (.cons kT2 (.cons kT2 (.cons kT2 (.cons kT2 .nil)))))))))) (bI.drop 0) ?_;refine fB (o:=_) rfl ?_;refine iQ hT (k:=(hv.length-hO x12.it)) kT6 rfl rfl rfl rfl rfl rfl rfl rfl rfl (by omega) ?_;refine dB (.cons kT2 (.cons kT2 (.cons kT2 (.cons kT2 (.cons kT2 (.cons kT2 (.cons kT2 (.cons kT2 (.cons kT2 (.cons kT2 .nil)))))))))) (bI.drop 0) ?_;refine fB (o:=_) rfl ?_;refine bCn .head (dE kT1 rfl) rfl rfl rfl rfl rfl rfl rfl (by simp;omega) fun A25 c26=>?_;refine bH (Fact.each (hv.take (hv.length-hO x12.it)++[y15]) tyF) (Has.each_snoc (bLf (Has.of mT7) _) (Has.of mT3)) ?_;refine dB (.cons kT2 (.cons kT2 (.cons kT2 (.cons kT2 (.cons kT2 (.cons kT2 (.cons kT2 (.cons kT2 (.cons kT2 (.cons kT2 .nil)))))))))) (bI.drop 1) ?_;refine pvT hT ?_;refine gX<|bZ<|bC<|bD<|sp hT ?_;refine bT (z':=(((j+1):Nat):Int)) (cO (by omega) (by omega)) ?_;refine sp hT ?_;refine nn ?_;exact cL (j+1,hv.take (hv.length-hO x12.it)++[y15],A25,c26,ow++[z17],A19,c20) (by dsimp only;omega) ⟨rfl,rfl,rfl,trivial⟩ ⟨rfl,rfl,rfl,rfl,rfl,rfl,rfl,rfl,rfl,trivial⟩ (.cons .head (.cons kT1 (.cons kT6 (.cons kT4 (.cons kT5 (.cons kT3 (.cons kT4 (.cons kT4 .nil)))))))) ⟨Has.pure (⟨by dsimp only;omega,tsT_step hinv21.2 hi0 (by omega) hy hwy hz⟩),Has.of mT0,Has.of mT1,trivial⟩ (bI.drop 10)
  have hc78:=Int.not_lt.1 (of_decide_eq_false hc78);refine cY<|cJ<|cJ<|cZ<|bC<|bB ?_;obtain⟨a,hva,hle,hra⟩:=tsT_end hinv21.2 (by omega);have hv0:hv[0]?=some a:=by rw [hva];rfl
  have hvl:hv.length=1:=by rw [hva];rfl
  have hxl:=hinv17.2.2.2.2;have hfln:=hfine.lns;refine bH (tyF a) (Has.each (Has.of mT1) (List.mem_of_getElem? hv0)) ?_;refine hQ kT1 fun hc_ow=>?_;refine cT kT1 ?_;refine bH (bKc (⟨A4,c4,ow⟩:Sl TyV)) ((Has.and (Has.and (Has.of mT0) (Has.of mT4)) (Has.pure hc_ow))) ?_;refine bH (oC ((sA++x9.name,a)::NV)) (Has.each_cons (Has.of mT2) (Has.of oD)) ?_;refine bD<|sp2 hT ?_;refine at_one_rows (m:=(⟨A4,c4,ow⟩:Sl TyV)) rfl rfl rfl rfl rfl fun b27=>?_;refine at_app_rows kT4 (dE .head rfl) rfl rfl rfl rfl rfl rfl rfl (by simp;omega) fun A28 c29=>?_;refine bH (Fact.each (xs++[(⟨A4,c4,ow⟩:Sl TyV)]) bKc) (Has.each_snoc (Has.of lB) (Has.of mT1)) ?_;refine sp hT ?_;refine nn<|dD _ _ [(true,0),(true,1),(true,2),(true,3),(true,4),(true,5),(true,6),(true,7),(true,8),(true,9),(false,10)] dG (by decide+kernel) (.cons .head (.cons .head (.cons .head (.cons .head (.cons kT1 (.cons kT1 (.cons kT1 .nil))))))) bI.self ?_;refine puM hT ?_;refine puM hT ?_;refine puM hT ?_;refine stM rfl (ldO hT (bJ kT4)) ?_;refine puM hT ?_;refine stM rfl (ldO hT (bJ kT3)) ?_;refine stM rfl (iH rfl rfl rfl (by simp;omega)) ?_;refine puM hT ?_;refine stM rfl (bV hT (k:=0) (cK kT2) rfl rfl rfl rfl rfl rfl rfl (by omega)) ?_;refine stM rfl (fA hT (cP.knows (cK kT2) (k:=0) (x:=a) hv0 0) rfl rfl rfl rfl rfl) ?_;refine cM (o:=_) rfl ?_;refine mM kT4 rfl (.inl rfl) rfl mapT Tryz.underlying9 rfl rfl rfl ?_;refine cN (.cons kT1 (.cons kT1 (.cons kT1 (.cons kT1 (.cons kT1 (.cons kT1 (.cons kT1 .nil))))))) (bI.drop 0) ?_;refine cS<|bZ<|bC<|bD<|sp hT ?_;refine bT (z':=(((i+1):Nat):Int)) (cO (by omega) (by omega)) ?_;refine sp hT ?_;refine nn ?_;exact cL (i+1,_,(sA++x9.name,a)::NV,xs++[(⟨A4,c4,ow⟩:Sl TyV)],A28,c29) (by dsimp only;omega) ⟨rfl,rfl,trivial⟩ ⟨rfl,rfl,rfl,rfl,trivial⟩ (.cons .head (.cons .head (.cons kT3 (.cons kT3 (.cons kT3 .nil))))) ⟨Has.pure (⟨by dsimp only;omega,lsT_step (s:=(⟨A4,c4,ow⟩:Sl TyV)) hinv17.2 hx0 hle hra⟩),Has.of mT1,Has.of mT0,trivial⟩ (bI.drop 15)
 have hc71:=Int.not_lt.1 (of_decide_eq_false hc71);refine cY<|cJ<|cJ<|cZ<|bC<|sr<|sp hT ?_;refine ss (cF rfl rfl (vW)) ?_;refine sp hT ?_;refine sto hT kT3 ?_;refine nn<|bF ?_;have hr:=lsT_end hinv17.2 (by rw [hpl2];omega);subst hr;refine hQ kT2 fun hc_o=>?_;refine cT kT2 ?_;exact bO (A1,c1,xs) rfl (bE rfl) (bN hT (bJ .head) rfl rfl rfl rfl) .nil ⟨(Has.of mT0),(Has.of mT3),Has.pure ⟨rfl,hc_o⟩,trivial⟩ rfl
theorem rowT_len(x:Sl TyV):(rowT x).length=x.list.length:=List.length_map _
theorem rowF_s{F:List Fact}{x:Sl TyV}(h:Has F (bKc x)):Has F (tyE.sl (.slice x.addr x.list.length x.cap) x.list):=h.left.left
theorem rowF_e{F:List Fact}{x:Sl TyV}(h:Has F (bKc x)):Has F (Fact.each x.list tyF):=h.left.right
def s91:Bs:=[105,110,32,120,32,110,10,111,117,116,32,120,32,99,97,116,32,120]
def s92:Bs:=[105,110,32,120,32,110,10,111,117,116,32,120,32,43,32,49,32,50]
def s93:Bs:=[105,110,32,120,32,110,10,111,117,116,32,49,32,116,97,107,101,32,120]
def s94:Bs:=[111,117,116,32,50,32,51,32,114,104,111,32,49]
theorem p91:(gP s91).2=(0,0):=by decide+kernel
theorem p92:(gP s92).2=(0,0):=by decide+kernel
theorem p93:(gP s93).2=(0,0):=by decide+kernel
theorem p94:(gP s94).2=(0,0):=by decide+kernel
def tV (s:Bs):List TyP:=(jY (gP s).1).1.getLast?.getD []
def lastTy(s:Bs):TyP:=(tV s).getLast?.getD default
theorem f91:(jY (gP s91).1).2=(0,0)∧(jY (gP s91).1).1.getLast?=some (tV s91)∧(tV s91).getLast?=some (lastTy s91)∧(lastTy s91).sides=[[⟨2,1,0,0,0,0,0⟩]]:=by decide+kernel
theorem f94:(jY (gP s94).1).2=(0,0)∧(jY (gP s94).1).1.getLast?=some (tV s94)∧(tV s94).getLast?=some (lastTy s94)∧(lastTy s94).sides.length=2:=by decide+kernel
theorem f92:jY (gP s92).1=([],(13,91)):=by decide+kernel
theorem f93:jY (gP s93).1=([],(13,93)):=by decide+kernel
theorem l91:(jY (gP s91).1).1.length≤1000∧(tV s91).length≤1000:=by decide+kernel
theorem l94:(jY (gP s94).1).1.length≤1000∧(tV s94).length≤1000:=by decide+kernel
theorem last_at{α β:Type}{g:α→β}{xs:List α}{T:List β}{r:β}(h:xs.map g=T)(h1:T.getLast?=some r): ∃x,xs[xs.length-1]?=some x∧g x=r∧1≤xs.length:=by
 subst h;rw [List.getLast?_eq_getElem?,List.length_map,List.getElem?_map] at h1
 cases e:xs[xs.length-1]? with
 | none=>rw [e] at h1;cases h1
 | some x=>
  rw [e] at h1;cases h1;have:=(List.getElem?_eq_some_iff.1 e).1;exact⟨x,rfl,rfl,by omega⟩
theorem one_pol9{l:List PolV}{q:Pol}(h:cD l=[q]): ∃p,l=[p]∧p.list=q:=by
 match l,h with
 | [p],h=>
  unfold cD at h;simp only [List.map_cons,List.map_nil,List.cons.injEq,and_true] at h;exact⟨p,rfl,h⟩
set_option maxRecDepth 100000 in
theorem bDs(s:Bs)(hs:s.length≤65536)(h0:(gP s).2=(0,0))(T:List (List TyP))(row:List TyP)(t:TyP)(hT9:jY (gP s).1=(T,(0,0)))(h1:T.getLast?=some row)(h2:row.getLast?=some t)(hTl:T.length≤1000)(hrl:row.length≤1000):dM Tryz.prog 40 [.string (bs s)] [] [iA] (fun(x:TyV)=> .tuple #[tyC x,.agg #[.int .i64 0,.int .i64 0]]) (fun _=>[]) (fun(x:TyV)=>[tyF x,Fact.pure (x.t=t)]):=by
 have hT:=fC;refine cQ Tryz.func40 rfl Tryz.ntmps40 rfl ?_;intro β hM;refine sr<|cC rfl rfl rfl rfl oE rfl fun b1=>?_;refine cC rfl rfl rfl rfl yT rfl fun b2=>?_;refine nn<|sr<|sp hT ?_;have psp:=bJi s (Nat.le_trans hs (by decide));rw [h0] at psp;refine bQ Tryz.func18 psp rfl rfl .nil ⟨(Has.of mT0),trivial⟩ fun X3=>?_;refine bP (Has.of mT1) fun hpr=>?_;refine bH (lD.sl (.slice X3.inputs.addr X3.inputs.list.length X3.inputs.cap) X3.inputs.list) (Has.left (Has.left (Has.of mT0))) ?_;refine bH (jH X3.inputs.list) (Has.right (Has.left (Has.of mT1))) ?_;refine bH (rB.sl (.slice X3.lines.addr X3.lines.list.length X3.lines.cap) X3.lines.list) (Has.left (Has.right (Has.of mT2))) ?_;refine bH (nB X3.lines.list) (Has.right (Has.right (Has.of mT3))) ?_;have hrd:=bMl h0;rw [←hpr] at hrd;have hfine:=xJ hrd.1;have hok:=hfine.ok hrd.2;refine sp3 hT ?_;refine cC rfl rfl rfl rfl nP rfl fun b4=>?_;refine cC rfl rfl rfl rfl yT rfl fun b5=>?_;refine sto hT kT1 ?_;refine sto hT kT1 ?_;refine nn<|bB<|sr<|ss (ldN hT (bJ .head)) ?_;refine ss (cF rfl rfl (vW)) ?_;refine ss (fP ⟨0,0⟩ ⟨0,0⟩ rfl rfl rfl) ?_;refine cA (t':=false) (by first | decide | rfl | simp) ?_;refine nn<|cG rfl rfl ?_;refine bM<|bC<|sr<|ss (ldN hT (bJ kT1)) ?_;have tsp:=bGt X3 hok.1 hok.2.1 hok.2.2;rw [hpr,hT9] at tsp;refine bQ Tryz.func21 tsp rfl rfl .nil ⟨(Has.of mT6),(Has.of mT3),(Has.of mT2),(Has.of mT1),(Has.of mT0),trivial⟩ fun⟨A6,c7,xs8⟩=>?_;refine kG (v':= .tuple #[.slice A6 xs8.length c7,.agg #[.int .i64 0,.int .i64 0]]) rfl ?_;refine bP (Has.of mT2) fun hts=>?_;refine bH (zM.sl (.slice A6 xs8.length c7) xs8) ((Has.of mT0)) ?_;refine bH (Fact.each xs8 bKc) ((Has.of mT2)) ?_;obtain⟨rw0,hx1,hx2,hx3⟩:=last_at hts.1 h1;obtain⟨ty0,hy1,hy2,hy3⟩:=last_at (g:=TyV.t) hx2 h2;have hx4:1≤xs8.length:=hx3;have hxl:xs8.length≤1000:=by have:=congrArg List.length hts.1;rw [List.length_map] at this;have h3:xs8.length=T.length:=this;omega
 have hyl:rw0.list.length≤1000:=by have:=congrArg List.length hx2;rw [rowT_len] at this;omega
 refine bH (bKc rw0) (Has.each (Has.of mT0) (List.mem_of_getElem? hx1)) ?_;refine bH (tyE.sl (.slice rw0.addr rw0.list.length rw0.cap) rw0.list) (rowF_s (Has.of mT0)) ?_;refine bH (tyF ty0) (Has.each (rowF_e (Has.of mT1)) (List.mem_of_getElem? hy1)) ?_;refine sp4 hT ?_;refine sto hT .head ?_;refine nn<|bB<|sr<|ss (ldN hT (bJ .head)) ?_;refine ss (cF rfl rfl (vW)) ?_;refine ss (fP ⟨0,0⟩ ⟨0,0⟩ rfl rfl rfl) ?_;refine cA (t':=false) (by first | decide | rfl | simp) ?_;refine sp4 hT ?_;refine cA (t':=false) (beq_eq_false_iff_ne.2 (by omega)) ?_;refine sp4 hT ?_;refine sp2 hT ?_;refine bT (z':=(((xs8.length-1):Nat):Int)) (cO (by omega) (by omega)) ?_;refine ss (bV hT (k:=(xs8.length-1)) (bL (Has.of mT4)) rfl rfl rfl rfl rfl rfl rfl (by omega)) ?_;refine ss (cE hT (cP.knows (bL (Has.of mT4)) (k:=(xs8.length-1)) (x:=rw0) hx1 0) rfl rfl rfl rfl rfl) ?_;refine sp2 hT ?_;refine cA (t':=false) (beq_eq_false_iff_ne.2 (by omega)) ?_;refine sp hT ?_;refine nn<|cG rfl rfl ?_;refine bM<|bC<|sr<|sp4 hT ?_;refine bT (z':=(((xs8.length-1):Nat):Int)) (cO (by omega) (by omega)) ?_;refine ss (bV hT (k:=(xs8.length-1)) (bL (Has.of mT4)) rfl rfl rfl rfl rfl rfl rfl (by omega)) ?_;refine ss (cE hT (cP.knows (bL (Has.of mT4)) (k:=(xs8.length-1)) (x:=rw0) hx1 0) rfl rfl rfl rfl rfl) ?_;refine sp hT ?_;refine nn<|bB<|dD _ _ [(true,0),(true,1),(true,2),(true,3),(true,4),(true,5),(true,6),(false,7),(false,8)] dG (by decide+kernel) (.cons .head (.cons .head .nil)) bI.self ?_;refine puM hT ?_;refine puM hT ?_;refine puM hT ?_;refine puM hT ?_;refine bT (z':=(((rw0.list.length-1):Nat):Int)) (cO (by omega) (by omega)) ?_;refine stM rfl (bV hT (k:=(rw0.list.length-1)) (bL (Has.of mT1)) rfl rfl rfl rfl rfl rfl rfl (by omega)) ?_;refine stM rfl (fA hT (cP.knows (bL (Has.of mT1)) (k:=(rw0.list.length-1)) (x:=ty0) hy1 0) rfl rfl rfl rfl rfl) ?_;refine stM rfl (ldN hT (bJ .head)) ?_;refine cM (o:=_) rfl ?_;refine sto hT kT3 ?_;refine cN (.cons kT1 (.cons kT1 .nil)) (bI.drop 0) ?_;refine cM (o:=_) rfl ?_;refine sto hT kT3 ?_;refine cN (.cons kT2 (.cons kT2 .nil)) (bI.drop 0) ?_;refine cS<|bC<|bF ?_;exact bO (ty0:TyV) rfl (bN hT (bJ kT1) rfl rfl rfl rfl) (bN hT (bJ .head) rfl rfl rfl rfl) .nil ⟨(Has.of mT0),Has.pure hy2,trivial⟩ rfl
set_option maxRecDepth 100000 in
theorem bAb(s:Bs)(hs:s.length≤65536)(h0:(gP s).2=(0,0))(f:Flt)(hf:f.2≠0)(hT9:jY (gP s).1=([],f)):dM Tryz.prog 40 [.string (bs s)] [] [iA] (fun(x:TyV)=> .tuple #[tyC x,.agg #[.int .i64 f.1,.int .i64 f.2]]) (fun _=>[]) (fun(x:TyV)=>[tyF x,Fact.pure (x.t=⟨[],false,[]⟩)]):=by
 have hT:=fC;refine cQ Tryz.func40 rfl Tryz.ntmps40 rfl ?_;intro β hM;refine sr<|cC rfl rfl rfl rfl oE rfl fun b1=>?_;refine cC rfl rfl rfl rfl yT rfl fun b2=>?_;refine nn<|sr<|sp hT ?_;have psp:=bJi s (Nat.le_trans hs (by decide));rw [h0] at psp;refine bQ Tryz.func18 psp rfl rfl .nil ⟨(Has.of mT0),trivial⟩ fun X3=>?_;refine bP (Has.of mT1) fun hpr=>?_;refine bH (lD.sl (.slice X3.inputs.addr X3.inputs.list.length X3.inputs.cap) X3.inputs.list) (Has.left (Has.left (Has.of mT0))) ?_;refine bH (jH X3.inputs.list) (Has.right (Has.left (Has.of mT1))) ?_;refine bH (rB.sl (.slice X3.lines.addr X3.lines.list.length X3.lines.cap) X3.lines.list) (Has.left (Has.right (Has.of mT2))) ?_;refine bH (nB X3.lines.list) (Has.right (Has.right (Has.of mT3))) ?_;have hrd:=bMl h0;rw [←hpr] at hrd;have hfine:=xJ hrd.1;have hok:=hfine.ok hrd.2;refine sp3 hT ?_;refine cC rfl rfl rfl rfl nP rfl fun b4=>?_;refine cC rfl rfl rfl rfl yT rfl fun b5=>?_;refine sto hT kT1 ?_;refine sto hT kT1 ?_;refine nn<|bB<|sr<|ss (ldN hT (bJ .head)) ?_;refine ss (cF rfl rfl (vW)) ?_;refine ss (fP ⟨0,0⟩ ⟨0,0⟩ rfl rfl rfl) ?_;refine cA (t':=false) (by first | decide | rfl | simp) ?_;refine nn<|cG rfl rfl ?_;refine bM<|bC<|sr<|ss (ldN hT (bJ kT1)) ?_;have tsp:=bGt X3 hok.1 hok.2.1 hok.2.2;rw [hpr,hT9] at tsp;refine bQ Tryz.func21 tsp rfl rfl .nil ⟨(Has.of mT6),(Has.of mT3),(Has.of mT2),(Has.of mT1),(Has.of mT0),trivial⟩ fun⟨A6,c7,xs8⟩=>?_;refine kG (v':= .tuple #[.slice A6 xs8.length c7,.agg #[.int .i64 f.1,.int .i64 f.2]]) rfl ?_;refine bP (Has.of mT2) fun hts=>?_;refine bH (zM.sl (.slice A6 xs8.length c7) xs8) ((Has.of mT0)) ?_;refine bH (Fact.each xs8 bKc) ((Has.of mT2)) ?_;refine sp4 hT ?_;refine sto hT .head ?_;refine nn<|bB<|sr<|ss (ldN hT (bJ .head)) ?_;refine ss (cF rfl rfl (vW)) ?_;refine ss (fP ⟨f.1,f.2⟩ ⟨0,0⟩ rfl rfl rfl) ?_;refine cA (t':=true) (flt_bad hf) ?_;refine sp hT ?_;refine sk3 ?_;refine sp2 hT ?_;refine sk4 ?_;refine sk4 ?_;refine sp hT ?_;refine nn<|cH rfl rfl ?_;refine bB<|dD _ _ [(true,0),(true,1),(false,2),(false,3)] dG (by decide+kernel) (.cons .head (.cons .head .nil)) bI.self ?_;refine stM rfl (cF rfl rfl (uE)) ?_;refine stM rfl (ldN hT (bJ .head)) ?_;refine cM (o:=_) rfl ?_;refine sto hT kT3 ?_;refine cN (.cons kT1 (.cons kT1 .nil)) (bI.drop 0) ?_;refine cM (o:=_) rfl ?_;refine sto hT kT3 ?_;refine cN (.cons kT2 (.cons kT2 .nil)) (bI.drop 0) ?_;refine cS<|bC<|bF<|bA ?_;exact bO (noTy:TyV) rfl (bN hT (bJ kT1) rfl rfl rfl rfl) (bN hT (bJ .head) rfl rfl rfl rfl) .nil ⟨noTy_F,Has.pure rfl,trivial⟩ rfl
set_option maxRecDepth 100000 in
theorem shown9_spec:dM Tryz.prog 20 [] [] [iA] (fun(_:Unit)=> .bool true) (fun _=>[]) (fun _=>[]):=by
 have hT:=fC;refine cQ Tryz.func20 rfl Tryz.ntmps20 rfl ?_;intro β hM;refine sr<|sp hT ?_;refine nn<|sr<|bQ Tryz.func40 (bDs s91 (by decide) p91 _ _ _ (Prod.ext rfl f91.1) f91.2.1 f91.2.2.1 l91.1 l91.2) rfl rfl .nil ⟨(Has.of mT0),trivial⟩ fun u1=>?_;refine bP (Has.of mT1) fun hu1=>?_;obtain⟨pl,hpl,hpm⟩:=one_pol9 ((congrArg TyP.sides hu1).trans f91.2.2.2);refine bH (dP u1.sides) (lT (Has.of mT0)) ?_;refine bH (cI.sl (.slice u1.sides.addr u1.sides.list.length u1.sides.cap) u1.sides.list) (dJ (Has.of mT0)) ?_;refine bH (cW u1.sides.list) (dN (Has.of mT1)) ?_;refine bP (dT (Has.of mT2)) fun hc_u1s=>?_;refine bH (dP u1.values) (lO (Has.of mT3)) ?_;refine bH (cI.sl (.slice u1.values.addr u1.values.list.length u1.values.cap) u1.values.list) (dJ (Has.of mT0)) ?_;refine bH (cW u1.values.list) (dN (Has.of mT1)) ?_;refine bP (dT (Has.of mT2)) fun hc_u1v=>?_;refine bH (lC.sl (.slice pl.addr pl.list.length pl.cap) pl.list) (vM (Has.each (Has.of mT3) (by rw [hpl];exact List.mem_singleton.2 rfl))) ?_;have hpl1:u1.sides.list.length=1:=by rw [hpl];rfl
 have hpm1:pl.list.length=1:=by rw [hpm];rfl
 refine sp3 hT ?_;refine cC rfl rfl rfl rfl oE rfl fun b1=>?_;refine cC rfl rfl rfl rfl yT rfl fun b2=>?_;refine sto hT kT1 ?_;refine sto hT kT1 ?_;refine nn<|sr<|bQ Tryz.func40 (bAb s92 (by decide) p92 (13,91) (by decide) f92) rfl rfl .nil ⟨(Has.of mT9),trivial⟩ fun u2=>?_;refine bP (Has.of mT1) fun hu2=>?_;refine sp3 hT ?_;refine cC rfl rfl rfl rfl oE rfl fun b3=>?_;refine cC rfl rfl rfl rfl yT rfl fun b4=>?_;refine sto hT kT1 ?_;refine sto hT kT1 ?_;refine nn<|sr<|bQ Tryz.func40 (bAb s93 (by decide) p93 (13,93) (by decide) f93) rfl rfl .nil ⟨(Has.of oD),trivial⟩ fun u3=>?_;refine bP (Has.of mT1) fun hu3=>?_;refine sp3 hT ?_;refine cC rfl rfl rfl rfl oE rfl fun b5=>?_;refine cC rfl rfl rfl rfl yT rfl fun b6=>?_;refine sto hT kT1 ?_;refine sto hT kT1 ?_;refine nn<|sr<|bQ Tryz.func40 (bDs s94 (by decide) p94 _ _ _ (Prod.ext rfl f94.1) f94.2.1 f94.2.2.1 l94.1 l94.2) rfl rfl .nil ⟨(Has.of lB),trivial⟩ fun u4=>?_;refine bP (Has.of mT1) fun hu4=>?_;have hu41:u4.sides.list.length=2:=by have:=(congrArg (fun t:TyP=>t.sides.length) hu4).trans f94.2.2.2;have this:(cD u4.sides.list).length=2:=this;rwa [bX] at this
 refine bH (dP u4.sides) (lT (Has.of mT0)) ?_;refine bH (cI.sl (.slice u4.sides.addr u4.sides.list.length u4.sides.cap) u4.sides.list) (dJ (Has.of mT0)) ?_;refine bH (cW u4.sides.list) (dN (Has.of mT1)) ?_;refine bP (dT (Has.of mT2)) fun hc_u4s=>?_;refine bH (dP u4.values) (lO (Has.of mT3)) ?_;refine bH (cI.sl (.slice u4.values.addr u4.values.list.length u4.values.cap) u4.values.list) (dJ (Has.of mT0)) ?_;refine bH (cW u4.values.list) (dN (Has.of mT1)) ?_;refine bP (dT (Has.of mT2)) fun hc_u4v=>?_;refine sp3 hT ?_;refine cC rfl rfl rfl rfl oE rfl fun b7=>?_;refine cC rfl rfl rfl rfl yT rfl fun b8=>?_;refine sto hT kT1 ?_;refine sto hT kT1 ?_;refine nn<|bB<|sr<|ss (ldN hT (bJ kT6)) ?_;refine ss (cF rfl rfl (vW)) ?_;refine ss (fP ⟨0,0⟩ ⟨0,0⟩ rfl rfl rfl) ?_;refine cA (t':=false) (by first | decide | rfl | simp) ?_;refine sp hT ?_;refine ss (ldN hT (bJ .head)) ?_;refine ss (cF rfl rfl (vW)) ?_;refine ss (fP ⟨0,0⟩ ⟨0,0⟩ rfl rfl rfl) ?_;refine cA (t':=false) (by first | decide | rfl | simp) ?_;refine sp3 hT ?_;refine ss (ldO hT (bJ kT7)) ?_;refine sp2 hT ?_;refine cA (t':=false) (bne_eq_false_iff_eq.2 (by omega)) ?_;refine sp3 hT ?_;refine ss (ldO hT (bJ kT7)) ?_;refine ss (bV hT (k:=0) (bL (Has.of (.tail _ (.tail _ (.tail _ (.tail _ (.tail _ (.tail _ (.tail _ (.tail _ (.tail _ (.tail _ (.tail _ (.tail _ (.tail _ (.tail _ (.tail _ (.tail _ (.tail _ mT0))))))))))))))))))) rfl rfl rfl rfl rfl rfl rfl (by omega)) ?_;refine ss (cE hT (cP.knows (bL (Has.of (.tail _ (.tail _ (.tail _ (.tail _ (.tail _ (.tail _ (.tail _ (.tail _ (.tail _ (.tail _ (.tail _ (.tail _ (.tail _ (.tail _ (.tail _ (.tail _ (.tail _ mT0))))))))))))))))))) (k:=0) (x:=pl) (by rw [hpl];rfl) 0) rfl rfl rfl rfl rfl) ?_;refine sp2 hT ?_;refine cA (t':=false) (bne_eq_false_iff_eq.2 (by omega)) ?_;refine sp3 hT ?_;refine ss (ldO hT (bJ kT1)) ?_;refine sp2 hT ?_;refine cA (t':=false) (bne_eq_false_iff_eq.2 (by omega)) ?_;refine sp hT ?_;refine nn<|cG rfl rfl ?_;refine bM<|bC<|sr<|sp hT ?_;refine ss (ldO hT (bJ kT7)) ?_;refine ss (bV hT (k:=0) (bL (Has.of (.tail _ (.tail _ (.tail _ (.tail _ (.tail _ (.tail _ (.tail _ (.tail _ (.tail _ (.tail _ (.tail _ (.tail _ (.tail _ (.tail _ (.tail _ (.tail _ (.tail _ mT0))))))))))))))))))) rfl rfl rfl rfl rfl rfl rfl (by omega)) ?_;refine ss (cE hT (cP.knows (bL (Has.of (.tail _ (.tail _ (.tail _ (.tail _ (.tail _ (.tail _ (.tail _ (.tail _ (.tail _ (.tail _ (.tail _ (.tail _ (.tail _ (.tail _ (.tail _ (.tail _ (.tail _ mT0))))))))))))))))))) (k:=0) (x:=pl) (by rw [hpl];rfl) 0) rfl rfl rfl rfl rfl) ?_;refine ss (bV hT (k:=0) (bL (Has.of kV)) rfl rfl rfl rfl rfl rfl rfl (by omega)) ?_;refine sp hT ?_;refine ss (cE hT (cP.knows (bL (Has.of kV)) (k:=0) (x:=(⟨2,1,0,0,0,0,0⟩:Mono)) (by rw [hpm];rfl) 0) rfl rfl rfl rfl rfl) ?_;refine sp hT ?_;refine cA (t':=true) (by rfl) ?_;refine sp hT ?_;refine ss (ldN hT (bJ kT4)) ?_;refine ss (cF rfl rfl (tS _ _)) ?_;refine ss (wG ⟨13,91⟩ ⟨13,91⟩ rfl rfl rfl) ?_;refine cA (t':=true) (by first | decide | rfl | simp) ?_;refine sp2 hT ?_;refine ss (ldN hT (bJ kT2)) ?_;refine ss (cF rfl rfl (tS _ _)) ?_;refine ss (wG ⟨13,93⟩ ⟨13,93⟩ rfl rfl rfl) ?_;refine cA (t':=true) (by first | decide | rfl | simp) ?_;refine sp2 hT ?_;refine nn<|bF ?_;exact bS () rfl (bE rfl) .nil trivial (rfl)
def pB (ds:List Int)(p:Pol)(z:Int):Bool:=decide ((gM p ds).2=0∧(gM p ds).1=z)
def qC (ds:List Int)(p:Pol)(z:Int):Bool:= !(decide ((gM p ds).2=20) || decide ((gM p ds).2=0∧(gM p ds).1≠z))
def sY (f:Pol→Int→Bool)(ps:List Pol)(zs:List Int):Bool:=(ps.zip zs).all fun q=>f q.1 q.2
def sB (t:TyP)(ds:List Int)(a:Arr):Bool:=jA a&&(decide (t.sides.length=a.sides.length)&&(sY (pB ds) t.sides a.sides&&(!t.known || (decide (t.values.length=a.data.length)&&sY (qC ds) t.values a.data))))
def pS (f:Pol→Int→Bool)(l:List PolV)(zs:List Int)(i:Nat):Prop:=(((cD l).zip zs).take i).all (fun q=>f q.1 q.2)=true
section
variable {f : Pol → Int → Bool} {l : List PolV} {zs : List Int} {i : Nat} {p : PolV} {z : Int}
theorem oH:pS f l zs 0:=rfl
theorem zipT_at(hp:l[i]?=some p)(hz:zs[i]?=some z):((cD l).zip zs)[i]?=some (p.list,z):=by
 rw [List.getElem?_zip_eq_some];exact⟨iO hp,hz⟩
theorem lW(h:pS f l zs i)(hp:l[i]?=some p)(hz:zs[i]?=some z)(k:f p.list z=true):pS f l zs (i+1):=by
 obtain⟨hi,e⟩:=List.getElem?_eq_some_iff.1 (zipT_at hp hz);unfold pS at*;rw [List.take_succ_eq_append_getElem hi,e,List.all_append,h];simp [k]
theorem kP(hp:l[i]?=some p)(hz:zs[i]?=some z)(k:f p.list z=false):sY f (cD l) zs=false:=by
 unfold sY;rw [List.all_eq_false];exact⟨_,List.mem_of_getElem? (zipT_at hp hz),by simp [k]⟩
theorem pQ(h:pS f l zs i)(hi:l.length≤i):sY f (cD l) zs=true:=by
 unfold pS at h
 rwa [List.take_of_length_le (by rw [List.length_zip,bX];omega)] at h
end
section
variable {ds : List Int} {p : Pol} {z : Int}
theorem xK(h:(gM p ds).2≠0∨(gM p ds).1≠z):pB ds p z=false:=decide_eq_false (by rintro⟨a,b⟩;rcases h with h | h;exact h a;exact h b)
theorem side_ok(h:(gM p ds).2=0)(k:(gM p ds).1=z):pB ds p z=true:=decide_eq_true ⟨h,k⟩
theorem bCg(h:(gM p ds).2=20∨(gM p ds).2=0∧(gM p ds).1≠z):qC ds p z=false:=by
 unfold qC
 rcases h with h | h<;>simp [h]
theorem bCq(h:(gM p ds).2≠20)(k:(gM p ds).2≠0∨(gM p ds).1=z):qC ds p z=true:=by
 unfold qC
 rcases k with k | k<;>simp [h,k]
end
section
variable {t : TyV} {ds : List Int} {a : rM}
theorem sQ(h:jA a.arr=false):Value.bool false= .bool (sB t.t ds a.arr):=by unfold sB;rw [h];rfl
theorem bGq(h:t.sides.list.length≠a.sides.list.length):Value.bool false= .bool (sB t.t ds a.arr):=by
 unfold sB;rw [decide_eq_false (show ¬t.t.sides.length=a.arr.sides.length from (show ¬(cD t.sides.list).length=a.sides.list.length by rw [bX];exact h))];simp
theorem bCm(k:t.known=true)(h:t.values.list.length≠a.data.list.length):Value.bool false= .bool (sB t.t ds a.arr):=by
 unfold sB;rw [decide_eq_false (show ¬t.t.values.length=a.arr.data.length from (show ¬(cD t.values.list).length=a.data.list.length by rw [bX];exact h)),show t.t.known=true from k];simp
theorem bBw(h:sY (pB ds) (cD t.sides.list) a.sides.list=false):Value.bool false= .bool (sB t.t ds a.arr):=by
 unfold sB;rw [show sY (pB ds) t.t.sides a.arr.sides=false from h];simp
theorem bCi(k:t.known=true)(h:sY (qC ds) (cD t.values.list) a.data.list=false):Value.bool false= .bool (sB t.t ds a.arr):=by
 unfold sB;rw [show sY (qC ds) t.t.values a.arr.data=false from h,show t.t.known=true from k];simp
theorem bCx(h1:jA a.arr=true)(h2:t.sides.list.length=a.sides.list.length)(h3:sY (pB ds) (cD t.sides.list) a.sides.list=true)(h4:t.known=true→t.values.list.length=a.data.list.length∧sY (qC ds) (cD t.values.list) a.data.list=true):Value.bool true= .bool (sB t.t ds a.arr):=by
 unfold sB;rw [h1,decide_eq_true (show t.t.sides.length=a.arr.sides.length from (show(cD t.sides.list).length=a.sides.list.length by rw [bX];exact h2)),show sY (pB ds) t.t.sides a.arr.sides=true from h3]
 cases k:t.known with
 | false=>rw [show t.t.known=false from k];rfl
 | true=>
  obtain⟨a1,a2⟩:=h4 k;rw [show t.t.known=true from k,decide_eq_true (show t.t.values.length=a.arr.data.length from (show(cD t.values.list).length=a.data.list.length by rw [bX];exact a1)),show sY (qC ds) t.t.values a.arr.data=true from a2];rfl
end
set_option maxRecDepth 100000 in
theorem fits_spec(t:TyV)(D:Option Addr)(cd:Nat)(ds:List Int)(a:rM)(hs1:t.sides.list.length≤140737488355328)(hv1:t.values.list.length≤140737488355328)(hs2:a.sides.list.length≤140737488355328)(hds:ds.length≤140737488355328):dM Tryz.prog 28 [.agg #[.slice t.sides.addr t.sides.list.length t.sides.cap,.bool t.known,.slice t.values.addr t.values.list.length t.values.cap],.slice D ds.length cd,.agg #[.slice a.sides.addr a.sides.list.length a.sides.cap,.slice a.data.addr a.data.list.length a.data.cap]] [] [tyF t,mR.sl (.slice D ds.length cd) ds,mR.sl (.slice a.sides.addr a.sides.list.length a.sides.cap) a.sides.list,mR.sl (.slice a.data.addr a.data.list.length a.data.cap) a.data.list] (fun(_:Unit)=> .bool (sB t.t ds a.arr)) (fun _=>[]) (fun _=>[]):=by
 have hT:=fC;refine cQ Tryz.func28 rfl Tryz.ntmps28 rfl ?_;intro β hM;refine bB<|bH (dP t.sides) (lT (Has.of mT0)) ?_;refine bH (cI.sl (.slice t.sides.addr t.sides.list.length t.sides.cap) t.sides.list) (dJ (Has.of mT0)) ?_;refine bH (cW t.sides.list) (dN (Has.of mT1)) ?_;refine bP (dT (Has.of mT2)) fun hc_ts=>?_;refine bH (dP t.values) (lO (Has.of mT3)) ?_;refine bH (cI.sl (.slice t.values.addr t.values.list.length t.values.cap) t.values.list) (dJ (Has.of mT0)) ?_;refine bH (cW t.values.list) (dN (Has.of mT1)) ?_;refine bP (dT (Has.of mT2)) fun hc_tv=>?_;refine bD<|gC rfl rfl rfl rfl rfl rfl fun b1=>?_;refine gC rfl rfl rfl rfl rfl rfl fun b2=>?_;refine sp hT ?_;refine nn<|bB<|sr<|ss (ldN hT (bJ .head)) ?_;refine bQ Tryz.func17 (right_spec a hs2) rfl rfl .nil ⟨(Has.of mT8),trivial⟩ fun _=>?_;refine sp2 hT ?_;refine cB (fun hg18=>?_) (fun hg18=>?_)
 ·have hg18:=fT hg18;refine sk4 ?_;refine sk3 ?_;refine sp2 hT ?_;refine sk4 ?_;refine sk4 ?_;refine sk3 ?_;refine sp hT ?_;refine nn<|cH rfl rfl ?_;refine sr<|sp hT ?_;refine nn<|bF<|bA ?_;exact bS () rfl (bE rfl) .nil trivial ((by first | exact sQ (by simpa using (by assumption:(!jA _)=true)) | exact sQ ‹_› | exact bGq (by omega) | exact bCm ‹_› (by omega)))
 have hg18:=fM hg18;refine sp hT ?_;refine ss (ldO hT (bJ kT1)) ?_;refine sp2 hT ?_;refine ss (ldO hT (bJ .head)) ?_;refine sp4 hT ?_;refine cB (fun hg27=>?_) (fun hg27=>?_)
 ·have hg27:=bne_iff_ne.1 hg27;refine sk4 ?_;refine sk4 ?_;refine sk3 ?_;refine sp hT ?_;refine nn<|cH rfl rfl ?_;refine sr<|sp hT ?_;refine nn<|bF<|bA ?_;exact bS () rfl (bE rfl) .nil trivial ((by first | exact sQ (by simpa using (by assumption:(!jA _)=true)) | exact sQ ‹_› | exact bGq (by omega) | exact bCm ‹_› (by omega)))
 have hg27:=bne_eq_false_iff_eq.1 hg27;refine sp hT ?_;refine ss (ldO hT (fK kT1)) ?_;refine sp hT ?_;refine cB (fun hg30=>?_) (fun hg30=>?_)
 ·refine sp hT ?_;refine ss (ldO hT (dH kT1)) ?_;refine sp2 hT ?_;refine ss (ldO hT (fK .head)) ?_;refine sp4 hT ?_;refine nn<|bK rfl (fun hc39=>?_) (fun hc39=>?_)
  ·have hc39:=bne_iff_ne.1 hc39;refine sr<|sp hT ?_;refine nn<|bF<|bA ?_;exact bS () rfl (bE rfl) .nil trivial ((by first | exact sQ (by simpa using (by assumption:(!jA _)=true)) | exact sQ ‹_› | exact bGq (by omega) | exact bCm ‹_› (by omega)))
  have hc39:=bne_eq_false_iff_eq.1 hc39;refine bM<|bC<|bB<|bB ?_;have hra:jA a.arr=true:=by first | assumption | simpa using (by assumption:(!jA _)=false)
  have hsl:t.sides.list.length=a.sides.list.length:=by omega
  have hvl:t.known=true→t.values.list.length=a.data.list.length:=fun kn=>by first | omega | exact absurd (kn.symm.trans (by assumption:t.known=false)) (by decide)
  refine bD<|sp hT ?_;refine ss (ldO hT (bJ kT1)) ?_;refine sp2 hT ?_;refine nn<|bU<|dC (ι:=Nat) [(1,_),(3,_),(5,_),(41,_),(42,_)] ⟨rfl,rfl,rfl,rfl,rfl,trivial⟩ (fun i=>[(43,.int .i64 (i:Nat))]) (fun _=>[]) (fun i=>[Fact.pure (i≤t.sides.list.length∧pS (pB ds) t.sides.list a.sides.list i)]) (fun i=>t.sides.list.length-i) 0 ⟨rfl,trivial⟩ .nil ⟨Has.pure (⟨by omega,oH⟩),trivial⟩ ?_;rintro i;refine bP (Has.of mT0) fun hinv4=>?_;refine sr<|sp hT ?_;refine nn<|bB<|bK rfl (fun hc44=>?_) (fun hc44=>?_)
  ·have hc44:=of_decide_eq_true hc44;refine bM<|bC<|bB<|bU<|sr<|sp hT ?_
   obtain⟨x3,hx4⟩: ∃x',t.sides.list[i]?=some x':=⟨_,List.getElem?_eq_getElem (by omega)⟩
   refine ss (bV hT (k:=i) (bL (Has.of mT5)) rfl rfl rfl rfl rfl rfl rfl (by omega)) ?_;refine ss (cE hT (cP.knows (bL (Has.of mT5)) (k:=i) (x:=x3) hx4 0) rfl rfl rfl rfl rfl) ?_;refine sp2 hT ?_;refine nn<|sr<|sp2 hT ?_;refine bP (dO (Has.each (Has.of mT4) (List.mem_of_getElem? hx4))) fun hpl5=>?_;refine bQ Tryz.func55 (wP x3 D cd ds hpl5 hds) rfl rfl .nil ⟨(Has.each (Has.of mT4) (List.mem_of_getElem? hx4)),(Has.of mT8),trivial⟩ fun _=>?_;refine sp4 hT ?_;refine sp hT ?_;refine nn<|sr<|sp3 hT ?_;refine cB (fun hg56=>?_) (fun hg56=>?_)
   ·have hg56:=bne_iff_ne.1 hg56;refine sk4 ?_;refine sk3 ?_;refine sp hT ?_;refine nn<|cH rfl rfl ?_;refine sr<|sp hT ?_;refine nn<|bF<|bG<|bA<|bA<|bG<|bA ?_;exact bS () rfl (bE rfl) .nil trivial (bBw (kP hx4 (List.getElem?_eq_getElem (i:=i) (by omega)) (xK (by first | exact .inl ‹_› | exact .inr ‹_› | exact .inl (by omega) | exact .inr (by omega)))))
   have hg56:=bne_eq_false_iff_eq.1 hg56;refine sp2 hT ?_;refine ss (ldO hT (bJ .head)) ?_;refine sp hT ?_
   obtain⟨x6,hx7⟩: ∃x',a.sides.list[i]?=some x':=⟨_,List.getElem?_eq_getElem (by omega)⟩
   refine ss (bV hT (k:=i) (bL (Has.of mT9)) rfl rfl rfl rfl rfl rfl rfl (by omega)) ?_;refine ss (cE hT (cP.knows (bL (Has.of mT9)) (k:=i) (x:=x6) hx7 0) rfl rfl rfl rfl rfl) ?_;refine sp2 hT ?_;refine nn<|bK rfl (fun hc64=>?_) (fun hc64=>?_)
   ·have hc64:=bne_iff_ne.1 hc64;refine sr<|sp hT ?_;refine nn<|bF<|bG<|bA<|bA<|bG<|bA ?_;exact bS () rfl (bE rfl) .nil trivial (bBw (kP hx4 hx7 (xK (by first | exact .inl ‹_› | exact .inr ‹_› | exact .inl (by omega) | exact .inr (by omega)))))
   have hc64:=bne_eq_false_iff_eq.1 hc64;refine bM<|bZ<|bC<|bD<|sp hT ?_;refine bT (z':=(((i+1):Nat):Int)) (cO (by omega) (by omega)) ?_;refine sp hT ?_;refine nn ?_;exact cL (i+1) (by omega) ⟨rfl,trivial⟩ ⟨rfl,rfl,rfl,rfl,rfl,trivial⟩ (.cons .head (.cons .head .nil)) ⟨Has.pure (⟨by omega,lW hinv4.2 hx4 hx7 (side_ok (by omega) (by omega))⟩),trivial⟩ (bI.drop 1)
  have hc44:=Int.not_lt.1 (of_decide_eq_false hc44);refine cY<|cJ<|cJ<|cZ<|bC<|bB<|bB ?_;have hsd:=pQ hinv4.2 (by omega);refine bD<|sp hT ?_;refine ss (ldO hT (dH kT1)) ?_;refine sp2 hT ?_;refine nn<|bU<|dC (ι:=Nat) [(1,_),(3,_),(5,_),(67,_),(68,_)] ⟨rfl,rfl,rfl,rfl,rfl,trivial⟩ (fun k=>[(69,.int .i64 (k:Nat))]) (fun _=>[]) (fun k=>[Fact.pure (k≤t.values.list.length∧(t.known=true→pS (qC ds) t.values.list a.data.list k))]) (fun k=>t.values.list.length-k) 0 ⟨rfl,trivial⟩ .nil ⟨Has.pure (⟨by omega,fun _=>oH⟩),trivial⟩ ?_;rintro k;refine bP (Has.of mT0) fun hinv11=>?_;refine sr<|sp hT ?_;refine nn<|bB<|bK rfl (fun hc70=>?_) (fun hc70=>?_)
  ·have hc70:=of_decide_eq_true hc70;refine bM<|bC<|bB<|bU<|sr<|sp hT ?_
   obtain⟨x8,hx9⟩: ∃x',t.values.list[k]?=some x':=⟨_,List.getElem?_eq_getElem (by omega)⟩
   refine ss (bV hT (k:=k) (bL (Has.of mT3)) rfl rfl rfl rfl rfl rfl rfl (by omega)) ?_;refine ss (cE hT (cP.knows (bL (Has.of mT3)) (k:=k) (x:=x8) hx9 0) rfl rfl rfl rfl rfl) ?_;refine sp2 hT ?_;refine nn<|bB<|sr<|sp hT ?_;refine ss (ldO hT (fK kT1)) ?_;refine sp hT ?_;refine nn<|bK rfl (fun hc76=>?_) (fun hc76=>?_)
   ·have hc76:=fT hc76;refine cY<|cJ<|yI rfl ?_;refine cJ<|cJ<|cZ<|bC<|sr<|sp hT ?_;refine nn<|bF ?_;exact bS () rfl (bE rfl) .nil trivial (bCx hra hsl hsd (fun kn=>⟨hvl kn,by first | exact pQ (hinv11.2 kn) (by omega) | exact absurd (kn.symm.trans (by assumption:t.known=false)) (by decide)⟩))
   have hc76:=fM hc76;refine bM<|bC<|sr<|sp2 hT ?_;refine bP (dO (Has.each (Has.of mT2) (List.mem_of_getElem? hx9))) fun hpl10=>?_;refine bQ Tryz.func55 (wP x8 D cd ds hpl10 hds) rfl rfl .nil ⟨(Has.each (Has.of mT2) (List.mem_of_getElem? hx9)),(Has.of mT9),trivial⟩ fun _=>?_;refine sp4 hT ?_;refine sp hT ?_;refine nn<|sr<|sp3 hT ?_;refine cB (fun hg85=>?_) (fun hg85=>?_)
   ·have hg85:=eq_of_beq hg85;refine sk4 ?_;refine sk4 ?_;refine sk3 ?_;refine sp hT ?_;refine nn<|cH rfl rfl ?_;refine sr<|sp hT ?_;refine nn<|bF<|bG<|bA<|bA<|bG<|bA ?_;exact bS () rfl (bE rfl) .nil trivial (bCi ‹_› (kP hx9 (List.getElem?_eq_getElem (i:=k) (by have:=hvl ‹_›;omega)) (bCg (by first | exact .inl (by omega) | exact .inr ⟨by omega,by omega⟩))))
   have hg85:=beq_eq_false_iff_ne.1 hg85;refine sp3 hT ?_;refine cB (fun hg88=>?_) (fun hg88=>?_)
   ·have hg88:=eq_of_beq hg88;refine sp2 hT ?_;refine ss (ldO hT (fK .head)) ?_;refine sp hT ?_
    obtain⟨x11,hx12⟩: ∃x',a.data.list[k]?=some x':=⟨_,List.getElem?_eq_getElem (by have:=hvl ‹_›;omega)⟩
    refine ss (bV hT (k:=k) (bL (Has.of oD)) rfl rfl rfl rfl rfl rfl rfl (by have:=hvl ‹_›;omega)) ?_;refine ss (cE hT (cP.knows (bL (Has.of oD)) (k:=k) (x:=x11) hx12 0) rfl rfl rfl rfl rfl) ?_;refine sp3 hT ?_;refine nn<|bK rfl (fun hc97=>?_) (fun hc97=>?_)
    ·have hc97:=bne_iff_ne.1 hc97;refine sr<|sp hT ?_;refine nn<|bF<|bG<|bA<|bA<|bG<|bA ?_;exact bS () rfl (bE rfl) .nil trivial (bCi ‹_› (kP hx9 hx12 (bCg (by first | exact .inl (by omega) | exact .inr ⟨by omega,by omega⟩))))
    have hc97:=bne_eq_false_iff_eq.1 hc97;refine bM<|bZ<|bC<|bD<|sp hT ?_;refine bT (z':=(((k+1):Nat):Int)) (cO (by omega) (by omega)) ?_;refine sp hT ?_;refine nn ?_;exact cL (k+1) (by omega) ⟨rfl,trivial⟩ ⟨rfl,rfl,rfl,rfl,rfl,trivial⟩ (.cons .head (.cons .head .nil)) ⟨Has.pure (⟨by omega,fun kn=>lW (hinv11.2 kn) hx9 hx12 (bCq (by omega) (by first | exact .inl (by omega) | exact .inr (by omega)))⟩),trivial⟩ (bI.drop 1)
   have hg88:=beq_eq_false_iff_ne.1 hg88;refine sk4 ?_;refine sk3 ?_;refine sp2 hT ?_;refine nn<|cG rfl rfl ?_;refine bM<|bZ<|bC<|bD<|sp hT ?_;refine bT (z':=(((k+1):Nat):Int)) (cO (by omega) (by omega)) ?_;refine sp hT ?_;refine nn ?_;exact cL (k+1) (by omega) ⟨rfl,trivial⟩ ⟨rfl,rfl,rfl,rfl,rfl,trivial⟩ (.cons .head (.cons .head .nil)) ⟨Has.pure (⟨by omega,fun kn=>lW (hinv11.2 kn) hx9 (List.getElem?_eq_getElem (i:=k) (by have:=hvl kn;omega)) (bCq (by omega) (by first | exact .inl (by omega) | exact .inr (by omega)))⟩),trivial⟩ (bI.drop 1)
  have hc70:=Int.not_lt.1 (of_decide_eq_false hc70);refine cY<|cJ<|cJ<|cZ<|bC<|sr<|sp hT ?_;refine nn<|bF ?_;exact bS () rfl (bE rfl) .nil trivial (bCx hra hsl hsd (fun kn=>⟨hvl kn,by first | exact pQ (hinv11.2 kn) (by omega) | exact absurd (kn.symm.trans (by assumption:t.known=false)) (by decide)⟩))
 refine sk4 ?_;refine sk3 ?_;refine sp2 hT ?_;refine nn<|cG rfl rfl ?_;refine bM<|bC<|bB<|bB ?_;have hra:jA a.arr=true:=by first | assumption | simpa using (by assumption:(!jA _)=false)
 have hsl:t.sides.list.length=a.sides.list.length:=by omega
 have hvl:t.known=true→t.values.list.length=a.data.list.length:=fun kn=>by first | omega | exact absurd (kn.symm.trans (by assumption:t.known=false)) (by decide)
 refine bD<|sp hT ?_;refine ss (ldO hT (bJ kT1)) ?_;refine sp2 hT ?_;refine nn<|bU<|dC (ι:=Nat) [(1,_),(3,_),(5,_),(41,_),(42,_)] ⟨rfl,rfl,rfl,rfl,rfl,trivial⟩ (fun i=>[(43,.int .i64 (i:Nat))]) (fun _=>[]) (fun i=>[Fact.pure (i≤t.sides.list.length∧pS (pB ds) t.sides.list a.sides.list i)]) (fun i=>t.sides.list.length-i) 0 ⟨rfl,trivial⟩ .nil ⟨Has.pure (⟨by omega,oH⟩),trivial⟩ ?_;rintro i;refine bP (Has.of mT0) fun hinv4=>?_;refine sr<|sp hT ?_;refine nn<|bB<|bK rfl (fun hc44=>?_) (fun hc44=>?_)
 ·have hc44:=of_decide_eq_true hc44;refine bM<|bC<|bB<|bU<|sr<|sp hT ?_
  obtain⟨x13,hx14⟩: ∃x',t.sides.list[i]?=some x':=⟨_,List.getElem?_eq_getElem (by omega)⟩
  refine ss (bV hT (k:=i) (bL (Has.of mT5)) rfl rfl rfl rfl rfl rfl rfl (by omega)) ?_;refine ss (cE hT (cP.knows (bL (Has.of mT5)) (k:=i) (x:=x13) hx14 0) rfl rfl rfl rfl rfl) ?_;refine sp2 hT ?_;refine nn<|sr<|sp2 hT ?_;refine bP (dO (Has.each (Has.of mT4) (List.mem_of_getElem? hx14))) fun hpl15=>?_;refine bQ Tryz.func55 (wP x13 D cd ds hpl15 hds) rfl rfl .nil ⟨(Has.each (Has.of mT4) (List.mem_of_getElem? hx14)),(Has.of mT8),trivial⟩ fun _=>?_;refine sp4 hT ?_;refine sp hT ?_;refine nn<|sr<|sp3 hT ?_;refine cB (fun hg56=>?_) (fun hg56=>?_)
  ·have hg56:=bne_iff_ne.1 hg56;refine sk4 ?_;refine sk3 ?_;refine sp hT ?_;refine nn<|cH rfl rfl ?_;refine sr<|sp hT ?_;refine nn<|bF<|bG<|bA<|bA<|bG<|bA ?_;exact bS () rfl (bE rfl) .nil trivial (bBw (kP hx14 (List.getElem?_eq_getElem (i:=i) (by omega)) (xK (by first | exact .inl ‹_› | exact .inr ‹_› | exact .inl (by omega) | exact .inr (by omega)))))
  have hg56:=bne_eq_false_iff_eq.1 hg56;refine sp2 hT ?_;refine ss (ldO hT (bJ .head)) ?_;refine sp hT ?_
  obtain⟨x16,hx17⟩: ∃x',a.sides.list[i]?=some x':=⟨_,List.getElem?_eq_getElem (by omega)⟩
  refine ss (bV hT (k:=i) (bL (Has.of mT9)) rfl rfl rfl rfl rfl rfl rfl (by omega)) ?_;refine ss (cE hT (cP.knows (bL (Has.of mT9)) (k:=i) (x:=x16) hx17 0) rfl rfl rfl rfl rfl) ?_;refine sp2 hT ?_;refine nn<|bK rfl (fun hc64=>?_) (fun hc64=>?_)
  ·have hc64:=bne_iff_ne.1 hc64;refine sr<|sp hT ?_;refine nn<|bF<|bG<|bA<|bA<|bG<|bA ?_;exact bS () rfl (bE rfl) .nil trivial (bBw (kP hx14 hx17 (xK (by first | exact .inl ‹_› | exact .inr ‹_› | exact .inl (by omega) | exact .inr (by omega)))))
  have hc64:=bne_eq_false_iff_eq.1 hc64;refine bM<|bZ<|bC<|bD<|sp hT ?_;refine bT (z':=(((i+1):Nat):Int)) (cO (by omega) (by omega)) ?_;refine sp hT ?_;refine nn ?_;exact cL (i+1) (by omega) ⟨rfl,trivial⟩ ⟨rfl,rfl,rfl,rfl,rfl,trivial⟩ (.cons .head (.cons .head .nil)) ⟨Has.pure (⟨by omega,lW hinv4.2 hx14 hx17 (side_ok (by omega) (by omega))⟩),trivial⟩ (bI.drop 1)
 have hc44:=Int.not_lt.1 (of_decide_eq_false hc44);refine cY<|cJ<|cJ<|cZ<|bC<|bB<|bB ?_;have hsd:=pQ hinv4.2 (by omega);refine bD<|sp hT ?_;refine ss (ldO hT (dH kT1)) ?_;refine sp2 hT ?_;refine nn<|bU<|dC (ι:=Nat) [(1,_),(3,_),(5,_),(67,_),(68,_)] ⟨rfl,rfl,rfl,rfl,rfl,trivial⟩ (fun k=>[(69,.int .i64 (k:Nat))]) (fun _=>[]) (fun k=>[Fact.pure (k≤t.values.list.length∧(t.known=true→pS (qC ds) t.values.list a.data.list k))]) (fun k=>t.values.list.length-k) 0 ⟨rfl,trivial⟩ .nil ⟨Has.pure (⟨by omega,fun _=>oH⟩),trivial⟩ ?_;rintro k;refine bP (Has.of mT0) fun hinv11=>?_;refine sr<|sp hT ?_;refine nn<|bB<|bK rfl (fun hc70=>?_) (fun hc70=>?_)
 ·have hc70:=of_decide_eq_true hc70;refine bM<|bC<|bB<|bU<|sr<|sp hT ?_
  obtain⟨x18,hx19⟩: ∃x',t.values.list[k]?=some x':=⟨_,List.getElem?_eq_getElem (by omega)⟩
  refine ss (bV hT (k:=k) (bL (Has.of mT3)) rfl rfl rfl rfl rfl rfl rfl (by omega)) ?_;refine ss (cE hT (cP.knows (bL (Has.of mT3)) (k:=k) (x:=x18) hx19 0) rfl rfl rfl rfl rfl) ?_;refine sp2 hT ?_;refine nn<|bB<|sr<|sp hT ?_;refine ss (ldO hT (fK kT1)) ?_;refine sp hT ?_;refine nn<|bK rfl (fun hc76=>?_) (fun hc76=>?_)
  ·have hc76:=fT hc76;refine cY<|cJ<|yI rfl ?_;refine cJ<|cJ<|cZ<|bC<|sr<|sp hT ?_;refine nn<|bF ?_;exact bS () rfl (bE rfl) .nil trivial (bCx hra hsl hsd (fun kn=>⟨hvl kn,by first | exact pQ (hinv11.2 kn) (by omega) | exact absurd (kn.symm.trans (by assumption:t.known=false)) (by decide)⟩))
  have hc76:=fM hc76;refine bM<|bC<|sr<|sp2 hT ?_;refine bP (dO (Has.each (Has.of mT2) (List.mem_of_getElem? hx19))) fun hpl20=>?_;refine bQ Tryz.func55 (wP x18 D cd ds hpl20 hds) rfl rfl .nil ⟨(Has.each (Has.of mT2) (List.mem_of_getElem? hx19)),(Has.of mT9),trivial⟩ fun _=>?_;refine sp4 hT ?_;refine sp hT ?_;refine nn<|sr<|sp3 hT ?_;refine cB (fun hg85=>?_) (fun hg85=>?_)
  ·have hg85:=eq_of_beq hg85;refine sk4 ?_;refine sk4 ?_;refine sk3 ?_;refine sp hT ?_;refine nn<|cH rfl rfl ?_;refine sr<|sp hT ?_;refine nn<|bF<|bG<|bA<|bA<|bG<|bA ?_;exact bS () rfl (bE rfl) .nil trivial (bCi ‹_› (kP hx19 (List.getElem?_eq_getElem (i:=k) (by have:=hvl ‹_›;omega)) (bCg (by first | exact .inl (by omega) | exact .inr ⟨by omega,by omega⟩))))
  have hg85:=beq_eq_false_iff_ne.1 hg85;refine sp3 hT ?_;refine cB (fun hg88=>?_) (fun hg88=>?_)
  ·have hg88:=eq_of_beq hg88;refine sp2 hT ?_;refine ss (ldO hT (fK .head)) ?_;refine sp hT ?_
   obtain⟨x21,hx22⟩: ∃x',a.data.list[k]?=some x':=⟨_,List.getElem?_eq_getElem (by have:=hvl ‹_›;omega)⟩
   refine ss (bV hT (k:=k) (bL (Has.of oD)) rfl rfl rfl rfl rfl rfl rfl (by have:=hvl ‹_›;omega)) ?_;refine ss (cE hT (cP.knows (bL (Has.of oD)) (k:=k) (x:=x21) hx22 0) rfl rfl rfl rfl rfl) ?_;refine sp3 hT ?_;refine nn<|bK rfl (fun hc97=>?_) (fun hc97=>?_)
   ·have hc97:=bne_iff_ne.1 hc97;refine sr<|sp hT ?_;refine nn<|bF<|bG<|bA<|bA<|bG<|bA ?_;exact bS () rfl (bE rfl) .nil trivial (bCi ‹_› (kP hx19 hx22 (bCg (by first | exact .inl (by omega) | exact .inr ⟨by omega,by omega⟩))))
   have hc97:=bne_eq_false_iff_eq.1 hc97;refine bM<|bZ<|bC<|bD<|sp hT ?_;refine bT (z':=(((k+1):Nat):Int)) (cO (by omega) (by omega)) ?_;refine sp hT ?_;refine nn ?_;exact cL (k+1) (by omega) ⟨rfl,trivial⟩ ⟨rfl,rfl,rfl,rfl,rfl,trivial⟩ (.cons .head (.cons .head .nil)) ⟨Has.pure (⟨by omega,fun kn=>lW (hinv11.2 kn) hx19 hx22 (bCq (by omega) (by first | exact .inl (by omega) | exact .inr (by omega)))⟩),trivial⟩ (bI.drop 1)
  have hg88:=beq_eq_false_iff_ne.1 hg88;refine sk4 ?_;refine sk3 ?_;refine sp2 hT ?_;refine nn<|cG rfl rfl ?_;refine bM<|bZ<|bC<|bD<|sp hT ?_;refine bT (z':=(((k+1):Nat):Int)) (cO (by omega) (by omega)) ?_;refine sp hT ?_;refine nn ?_;exact cL (k+1) (by omega) ⟨rfl,trivial⟩ ⟨rfl,rfl,rfl,rfl,rfl,trivial⟩ (.cons .head (.cons .head .nil)) ⟨Has.pure (⟨by omega,fun kn=>lW (hinv11.2 kn) hx19 (List.getElem?_eq_getElem (i:=k) (by have:=hvl kn;omega)) (bCq (by omega) (by first | exact .inl (by omega) | exact .inr (by omega)))⟩),trivial⟩ (bI.drop 1)
 have hc70:=Int.not_lt.1 (of_decide_eq_false hc70);refine cY<|cJ<|cJ<|cZ<|bC<|sr<|sp hT ?_;refine nn<|bF ?_;exact bS () rfl (bE rfl) .nil trivial (bCx hra hsl hsd (fun kn=>⟨hvl kn,by first | exact pQ (hinv11.2 kn) (by omega) | exact absurd (kn.symm.trans (by assumption:t.known=false)) (by decide)⟩))
set_option maxRecDepth 100000
set_option maxHeartbeats 1000000 in
theorem above_any(a b:Mono)(w:World):
  Calls Tryz.prog 171 #[.agg #[.int .i64 a.n,.int .u8 a.e0.toNat,.int .u8 a.e1.toNat,.int .u8 a.e2.toNat,.int .u8 a.e3.toNat,.int .u8 a.e4.toNat,.int .u8 a.e5.toNat],.agg #[.int .i64 b.n,.int .u8 b.e0.toNat,.int .u8 b.e1.toNat,.int .u8 b.e2.toNat,.int .u8 b.e3.toNat,.int .u8 b.e4.toNat,.int .u8 b.e5.toNat]] w fun e w'=>e= .returned (.int .i64 (bLg a b))∧Below w.heap.size w w':=by
 go_enter Tryz.func171,Tryz.ntmps171
 go_wp2
 refine wp_loop_rounds 7 ?_
 repeat any_goals (first | (rw [rounds_succ];go_wp2) | (go_quiet (fail);go_wp2))
 all_goals go_ret
 all_goals refine⟨wX ?_,?_⟩
 all_goals first | ((repeat refine rY ?_ _);go_grown;done) | (go_light;simp [bLg,Mono.E,wI, *];done) | (go_light;simp [bLg,Mono.E,wI, *];rfl)
end Go.Proofs.YtbgdphbebhjpiaaGreatDoor
