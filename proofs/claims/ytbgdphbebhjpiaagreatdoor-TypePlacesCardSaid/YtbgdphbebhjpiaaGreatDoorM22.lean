/- Texts of one proof, one behind the other: WfP, TypeS, SamT, TypU, Shown9, TypL, TypePlacesW. -/
import Derived.Test.YtbgdphbebhjpiaaGreatDoorM21
import Derived.Test.YtbgdphbebhjpiaaGreatDoorM15
import Derived.Test.YtbgdphbebhjpiaaGreatDoorM14
import Derived.Test.YtbgdphbebhjpiaaGreatDoorM6
import Derived.Test.YtbgdphbebhjpiaaGreatDoorM16
namespace Go.Proofs.YtbgdphbebhjpiaaGreatDoor
open Go.RowKit
theorem nI(n:Int):fG (numT n)=true:=bEl n
theorem zipT_len{op:pM}: ∀{X Y l:List Pol},xO op X Y=some l→l.length=X.length
 | [],_,l,h=>by cases h;rfl
 | _::_,[],_,h=>by cases h
 | p::x,q::y,l,h=>by
  unfold xO at h;split at h
  ·cases h
  ·cases e:xO op x y with
   | none=>rw [e] at h;cases h
   | some k=>
    rw [e] at h;cases h;simp [zipT_len e]
theorem zipT_all{op:pM}{g:Pol→Prop}(ho: ∀p q,g (op p q).1): ∀{X Y l:List Pol},xO op X Y=some l→ ∀v∈l,g v
 | [],_,l,h=>by cases h;intro v hv;cases hv
 | _::_,[],_,h=>by cases h
 | p::x,q::y,l,h=>by
  unfold xO at h;split at h
  ·cases h
  ·cases e:xO op x y with
   | none=>rw [e] at h;cases h
   | some k=>
    rw [e] at h;cases h;intro v hv
    rcases List.mem_cons.1 hv with rfl | hv
    ·exact ho p q
    ·exact zipT_all ho e v hv
def bAy (op:pM):Prop:= ∀p q,fG (op p q).1=true
theorem addR:bAy addO:=fun p q=>oR p q 1
theorem subR:bAy vQ:=fun p q=>oR p q (-1)
theorem mulR:bAy pN:=fun p q=>bBx p q
theorem opR{f:Int}{op:pM}(h:vA f=some op):bAy op:=by
 unfold vA at h;split at h
 ·cases h;exact addR
 ·split at h
  ·cases h;exact subR
  ·split at h
   ·cases h;exact mulR
   ·cases h
theorem repT_len(x:List Pol)(n:Nat)(h:x.length=1):(repT x n).length=n:=by
 unfold repT;rw [List.length_flatten];simp [h]
theorem leftT_len{a b:TyP}(ha:WfT a)(h1:a.known=true):(uV a b).length=if a.sides=[]∧b.sides≠[] then b.values.length else a.values.length:=by
 unfold uV;split
 ·rename_i h;exact repT_len _ _ (xD ha h1 h.1)
 ·rfl
theorem eachT_wf{op:Option pM}{a b:TyP}(ho: ∀o,op=some o→bAy o)(ha:WfT a):
  (∀v∈(kK op a b).1,fG v=true)∧((kK op a b).2=true→a.known=true∧b.known=true∧(kK op a b).1.length=if a.sides=[]∧b.sides≠[] then b.values.length else a.values.length)∧((kK op a b).2=false→(kK op a b).1=[]):=by
 cases op with
 | none=>exact⟨fun v h=>(by cases h),fun h=>(by cases h),fun _=>rfl⟩
 | some o=>
  by_cases hk:a.known=false∨b.known=false
  ·rw [bCv hk];exact⟨fun v h=>(by cases h),fun h=>(by cases h),fun _=>rfl⟩
  ·have h1:a.known=true:=by cases h:a.known;exact absurd (.inl h) hk;rfl
   have h2:b.known=true:=by cases h:b.known;exact absurd (.inr h) hk;rfl
   cases e:xO o (uV a b) (sJ a b) with
   | none=>
    rw [qS e h1 h2];exact⟨fun v h=>(by cases h),fun h=>(by cases h),fun _=>rfl⟩
   | some l=>
    rw [rE e h1 h2];exact⟨zipT_all (g:=fun v=>fG v=true) (ho o rfl) e,fun _=>⟨h1,h2,by rw [zipT_len e,leftT_len ha h1]⟩,fun h=>(by cases h)⟩
theorem lH{S:List Pol}(h:S.length≤4)(k: ∀s∈S,fG s=true):WfT ⟨S,false,[]⟩:=⟨h,k,fun _ h=>(by cases h),fun h=>(by cases h),fun _=>rfl⟩
theorem literal_wf{nums:List Int}(h:nums≠[]):WfT (jI nums):=by
 have hs:(if 1<nums.length then [numT nums.length] else ([]:List Pol)).length≤4∧ ∀s∈(if 1<nums.length then [numT nums.length] else ([]:List Pol)),fG s=true:=by
  split
  ·exact⟨by simp,fun s hs=>by rw [List.mem_singleton.1 hs];exact nI _⟩
  ·exact⟨by simp,fun s hs=>(by cases hs)⟩
 unfold jI;split
 ·exact lH hs.1 hs.2
 ·rename_i hn;rw [not_or] at hn;refine⟨hs.1,hs.2,fun v hv=>?_,fun _=>⟨by simp;omega,?_⟩,fun h=>(by cases h)⟩
  ·obtain⟨n,_,rfl⟩:=List.mem_map.1 hv;exact nI n
  ·show(if _ then _ else _)=_∧_∨(if _ then _ else _)=_;rw [List.length_map];split
   ·exact .inr rfl
   ·refine .inl ⟨rfl,?_⟩
    cases nums with
    | nil=>exact absurd rfl h
    | cons a l=>simp at*;omega
theorem mul1: ∀k:Fin 5,pN (numT 1) (numT (k.1:Nat))=(numT (k.1:Nat),0):=by decide+kernel
theorem add_num: ∀j k:Fin 5,(cX (numT (j.1:Nat)) (numT (k.1:Nat)) 1).1=numT ((j.1+k.1:Nat):Int):=by decide+kernel
theorem sub_num: ∀j k:Fin 5,k.1≤j.1→(cX (numT (j.1:Nat)) (numT (k.1:Nat)) (-1)).1=numT ((j.1-k.1:Nat):Int):=by decide+kernel
theorem bDk: ∀{S:List Pol} {p q:Pol},fG p=true→pB p S=some q→fG q=true
 | [],p,q,hp,h=>by cases h;exact hp
 | s::r,p,q,hp,h=>by
  unfold pB at h;split at h
  ·cases h
  ·exact bDk (bBx p s) h
theorem wf_head{a:TyP}(h:WfT a)(k:a.known=true)(hs:a.sides=[]):fG (a.values.headD [])=true:=by
 have:=xD h k hs
 match hv:a.values,this with
 | [v],_=>exact h.vr v (by rw [hv];exact List.mem_singleton.2 rfl)
theorem negW:WfT ⟨[],true,[[]]⟩:=⟨by simp,fun _ h=>(by cases h),fun v h=>by rw [List.mem_singleton.1 h];rfl,fun _=>⟨by simp,.inl ⟨rfl,rfl⟩⟩,fun h=>(by cases h)⟩
theorem monad_wf{f:Int}{a:TyP}(ha:WfT a):WfT (gM f a).1:=by
 unfold gM;split
 ·split
  ·exact ha
  ·rename_i hs;split
   ·exact ha
   ·rename_i hk;split
    ·exact ha
    ·exact lH (by simp) (fun s h=>by rw [List.mem_singleton.1 h];exact wf_head ha (by simpa using hk) (by simpa using hs))
 ·split
  ·refine⟨by simp,fun s h=>?_,ha.sr,fun _=>⟨ha.len,.inr rfl⟩,fun h=>(by cases h)⟩;rw [List.mem_singleton.1 h];exact nI _
  ·split
   ·split
    ·exact ha
    ·rename_i p hp;refine⟨by simp,fun s h=>?_,ha.vr,fun k=>⟨(ha.kn k).1,.inr ?_⟩,ha.un⟩
     ·rw [List.mem_singleton.1 h];exact bDk (nI 1) hp
     ·have hl:=(ha.kn k).1
      rcases (ha.kn k).2 with h | h
      ·rw [h.1] at hp;cases hp;show [numT 1]=[numT _];rw [h.2];rfl
      ·rw [h] at hp;have hm:=mul1 ⟨a.values.length,by omega⟩;unfold pB at hp;dsimp only at hm;rw [hm] at hp;cases hp;rfl
   ·split
    ·dsimp only;split
     ·refine⟨ha.len,ha.sr,fun v h=>ha.vr v (List.mem_reverse.1 h),fun k=>?_,fun k=>by show a.values.reverse=[];rw [ha.un k];rfl⟩;show a.values.reverse.length≤4∧(a.sides=[]∧a.values.reverse.length=1∨a.sides=[numT a.values.reverse.length]);rw [List.length_reverse];exact ha.kn k
     ·exact ha
    ·split
     ·refine⟨by show a.sides.reverse.length≤4;rw [List.length_reverse];exact ha.len,fun s h=>ha.sr s (List.mem_reverse.1 h),ha.vr,fun k=>⟨(ha.kn k).1,?_⟩,ha.un⟩
      rcases (ha.kn k).2 with h | h
      ·exact .inl ⟨by show a.sides.reverse=[];rw [h.1];rfl,h.2⟩
      ·exact .inr (by show a.sides.reverse=_;rw [h];rfl)
     ·split
      ·exact ha
      ·split
       ·obtain⟨e1,e2,e3⟩:=eachT_wf (op:=some vQ) (b:=a) (fun o h=>by cases h;exact subR) negW;refine⟨ha.len,ha.sr,e1,fun k=>?_,e3⟩;obtain⟨_,k2,k3⟩:=e2 k;show(kK (some vQ) ⟨[],true,[[]]⟩ a).1.length≤4∧(a.sides=[]∧(kK (some vQ) ⟨[],true,[[]]⟩ a).1.length=1∨a.sides=[numT (kK (some vQ) ⟨[],true,[[]]⟩ a).1.length]);rw [k3];split
        ·exact⟨pE ha,(ha.kn k2).2⟩
        ·rename_i hs;refine⟨by simp,.inl ⟨?_,rfl⟩⟩
         simpa using hs
       ·exact lH ha.len ha.sr
theorem rho_wf{a b:TyP}(ha:WfT a):WfT (zH a b).1:=by
 unfold zH;split
 ·exact ha
 ·split
  ·exact ha
  ·split
   ·exact ha
   ·split
    ·exact ha
    ·exact lH (pE ha) ha.vr
theorem cut_all{tk:Bool}{n:Int}{l:List Pol}{g:Pol→Prop}(h: ∀v∈l,g v): ∀v∈vB tk n l,g v:=by
 unfold vB;split
 ·exact fun v hv=>h v (List.mem_of_mem_take hv)
 ·exact fun v hv=>h v (List.mem_of_mem_drop hv)
theorem cut_len{tk:Bool}{n:Int}{l:List Pol}(h:max n (-n)≤l.length):(vB tk n l).length=if tk=true then (max n (-n)).toNat else l.length-(max n (-n)).toNat:=by
 unfold vB;cases tk
 ·rw [if_neg (show ¬(false=true) by decide)]
  by_cases hn:(0:Int)≤n
  ·rw [decide_eq_true hn,if_neg (by decide),List.length_drop,if_neg (by omega)];omega
  ·rw [decide_eq_false hn,if_pos rfl,List.length_take,if_pos (by omega)];omega
 ·rw [if_pos (show true=true from rfl)]
  by_cases hn:(0:Int)≤n
  ·rw [decide_eq_true hn,if_pos rfl,List.length_take,if_neg (by omega)];omega
  ·rw [decide_eq_false hn,if_neg (by decide),List.length_drop,if_pos (by omega)];omega
theorem bHp{S:List Pol}{s:Pol}(h:s∈S.tail):s∈S:=List.mem_of_mem_tail h
theorem part_wf{tk:Bool}{a b:TyP}(ha:WfT a)(hb:WfT b):WfT (lO tk a b).1:=by
 unfold lO;split
 ·exact ha
 ·rename_i hs;rw [not_or] at hs;split
  ·exact ha
  ·split
   ·exact ha
   ·rename_i n hn;split
    ·exact ha
    ·rename_i hc;have hc:gN (b.sides.headD []) (max n (-n))=true:=by simpa using hc
     have hlen: ∀p:Pol,(p::b.sides.tail).length≤4:=fun p=>by
      have:=hb.len;have h0:b.sides≠[]:=hs.2
      cases e:b.sides with
      | nil=>exact absurd e h0
      | cons s l=>rw [e] at this;exact this
     have hm:b.known=true→b.sides=[numT b.values.length]∧max n (-n)≤b.values.length∧b.values.length≤4:=fun k=>by
      rcases (hb.kn k).2 with h | h
      ·exact absurd h.1 hs.2
      ·rw [h] at hc;exact⟨h,bHw hc,(hb.kn k).1⟩
     have hun:b.known=false→(if b.known=true then vB tk n b.values else b.values)=[]:=fun k=>by rw [k];exact hb.un k
     have hvr: ∀v∈(if b.known=true then vB tk n b.values else b.values),fG v=true:=by
      split
      ·exact cut_all hb.vr
      ·exact hb.vr
     split
     ·rename_i ht;subst ht;refine⟨hlen _,fun s h=>?_,hvr,fun k=>?_,hun⟩
      ·rcases List.mem_cons.1 h with rfl | h
       ·exact nI _
       ·exact hb.sr s (bHp h)
      ·have k:b.known=true:=k;obtain⟨h1,h2,h3⟩:=hm k;show(if b.known=true then vB true n b.values else b.values).length≤4∧(_∨numT (max n (-n))::b.sides.tail=[numT (if b.known=true then vB true n b.values else b.values).length]);rw [if_pos k,cut_len h2,if_pos rfl,h1];refine⟨by omega,.inr ?_⟩;rw [show(((max n (-n)).toNat:Nat):Int)=max n (-n) by omega];rfl
     ·rename_i ht;have ht:tk=false:=by simpa using ht
      subst ht;split
      ·exact ha
      ·refine⟨hlen _,fun s h=>?_,hvr,fun k=>?_,hun⟩
       ·rcases List.mem_cons.1 h with rfl | h
        ·exact oR _ _ _
        ·exact hb.sr s (bHp h)
       ·have k:b.known=true:=k;obtain⟨h1,h2,h3⟩:=hm k;show(if b.known=true then vB false n b.values else b.values).length≤4∧(_∨(cX (b.sides.headD []) (numT (max n (-n))) (-1)).1::b.sides.tail=[numT (if b.known=true then vB false n b.values else b.values).length]);rw [if_pos k,cut_len h2,if_neg (by decide),h1];refine⟨by omega,.inr ?_⟩;have hx:=sub_num ⟨b.values.length,by omega⟩ ⟨(max n (-n)).toNat,by omega⟩ (by show(max n (-n)).toNat≤b.values.length;omega);dsimp only at hx;rw [show(((max n (-n)).toNat:Nat):Int)=max n (-n) by omega] at hx;show(cX (numT b.values.length) _ _).1::[]=_;rw [hx]
theorem oneT_num{a:TyP}(ha:WfT a)(k:a.known=true):dV a.sides=[numT a.values.length]:=by
 unfold dV
 rcases (ha.kn k).2 with h | h
 ·rw [if_pos h.1,h.2];rfl
 ·rw [h,if_neg (by simp)]
theorem oneT_right{a:TyP}(ha:WfT a): ∀s∈dV a.sides,fG s=true:=by
 unfold dV;split
 ·exact fun s h=>by rw [List.mem_singleton.1 h];exact nI _
 ·exact ha.sr
theorem oneT_len{a:TyP}(ha:WfT a)(p:Pol):(p::(dV a.sides).tail).length≤4:=by
 unfold dV;split
 ·simp
 ·rename_i h0;have:=ha.len
  cases e:a.sides with
  | nil=>exact absurd e h0
  | cons s l=>rw [e] at this;exact this
theorem cat_wf{a b:TyP}(ha:WfT a)(hb:WfT b):WfT (yH a b).1:=by
 unfold yH;split
 ·exact ha
 ·split
  ·exact ha
  ·have hsr: ∀s∈(cX ((dV a.sides).headD []) ((dV b.sides).headD []) 1).1::(dV b.sides).tail,fG s=true:=fun s h=>by
    rcases List.mem_cons.1 h with rfl | h
    ·exact oR _ _ _
    ·exact oneT_right hb s (bHp h)
   split
   ·rename_i hk;refine⟨oneT_len hb _,hsr,fun v h=>?_,fun _=>⟨?_,.inr ?_⟩,fun h=>(by cases h)⟩
    ·rcases List.mem_append.1 h with h | h
     ·exact ha.vr v h
     ·exact hb.vr v h
    ·show(a.values++b.values).length≤4;rw [List.length_append];exact hk.2.2
    ·show(cX ((dV a.sides).headD []) ((dV b.sides).headD []) 1).1::(dV b.sides).tail=[numT (a.values++b.values).length];rw [oneT_num ha hk.1,oneT_num hb hk.2.1,List.length_append];have hx:=add_num ⟨a.values.length,by omega⟩ ⟨b.values.length,by omega⟩;dsimp only at hx;show(cX (numT a.values.length) (numT b.values.length) 1).1::[]=_;rw [hx]
   ·exact lH (oneT_len hb _) hsr
theorem dyad_wf{f:Int}{a b:TyP}(ha:WfT a)(hb:WfT b):WfT (pP f a b).1:=by
 unfold pP;split
 ·exact rho_wf ha
 ·split
  ·exact part_wf ha hb
  ·split
   ·exact part_wf ha hb
   ·split
    ·exact cat_wf ha hb
    ·split
     ·exact lH ha.len ha.sr
     ·obtain⟨e1,e2,e3⟩:=eachT_wf (op:=vA f) (b:=b) (fun o h=>opR h) ha
      by_cases hs:a.sides=[]
      ·rw [if_pos hs];refine⟨hb.len,hb.sr,e1,fun k=>?_,e3⟩;obtain⟨k1,k2,k3⟩:=e2 k;show(kK (vA f) a b).1.length≤4∧(b.sides=[]∧(kK (vA f) a b).1.length=1∨b.sides=[numT (kK (vA f) a b).1.length]);rw [k3];split
       ·exact⟨pE hb,(hb.kn k2).2⟩
       ·rename_i h
        have hbs:b.sides=[]:=by
         by_cases e:b.sides=[]
         ·exact e
         ·exact absurd ⟨hs,e⟩ h
        exact⟨pE ha,.inl ⟨hbs,xD ha k1 hs⟩⟩
      ·rw [if_neg hs];refine⟨ha.len,ha.sr,e1,fun k=>?_,e3⟩;obtain⟨k1,k2,k3⟩:=e2 k;show(kK (vA f) a b).1.length≤4∧(a.sides=[]∧(kK (vA f) a b).1.length=1∨a.sides=[numT (kK (vA f) a b).1.length]);rw [k3,if_neg (fun h=>hs h.1)];exact⟨pE ha,(ha.kn k1).2⟩
theorem bMo{k:Bs}{t:TyP}: ∀{N:iL},bBd k N=some t→ ∃p∈N,p.2=t
 | [],h=>by cases h
 | p::r,h=>by
  rw [bBd] at h;split at h
  ·injection h with h
   exact⟨p,List.mem_cons_self ..,h⟩
  ·obtain⟨q,hq,e⟩:=bMo h;exact⟨q,List.mem_cons_of_mem _ hq,e⟩
def nF (N:iL):Prop:= ∀q∈N,WfT q.2
theorem look_wf{N:iL}(h:nF N){k:Bs}{t:TyP}(e:bBd k N=some t):WfT t:=by
 obtain⟨p,hp,rfl⟩:=bMo e;exact h p hp
theorem name_wf{N:iL}(h:nF N){s:Bs}{t:TyP}(e:nameT N s=some t):WfT t:=by
 unfold nameT at e;split at e
 ·rename_i h1;cases e;exact look_wf h h1
 ·split at e
  ·rename_i h1;cases e;exact look_wf h h1
  ·exact look_wf h e
theorem none_wf:WfT ⟨[],false,[]⟩:=lH (by simp) (fun s h=>(by cases h))
theorem headW{st:List TyP}(h: ∀t∈st,WfT t)(k:1≤st.length):WfT (st.headD default):=by
 match st,k with
 | a::l,_=>exact h a (List.mem_cons_self ..)
theorem secondW{st:List TyP}(h: ∀t∈st,WfT t)(k:2≤st.length):WfT (st.tail.headD default):=by
 match st,k with
 | a::b::l,_=>exact h b (List.mem_cons_of_mem _ (List.mem_cons_self ..))
theorem item_wf{N:iL}(hN:nF N){it:dN}{st:List TyP}(hs: ∀t∈st,WfT t)(hd:gU it≤st.length)(hnum:it.how=1→it.nums≠[])(h17:1≤it.how∧it.how≤7)(h0:(gX N it st).2=0):WfT (gX N it st).1:=by
 have h1:it.how=3∨it.how=5∨it.how=6→1≤st.length:=fun h=>by rw [tH h] at hd;exact hd
 have h2:it.how=4∨it.how=7→2≤st.length:=fun h=>by rw [wU h] at hd;exact hd
 unfold gX at h0⊢;split
 ·exact literal_wf (hnum ‹_›)
 ·split
  ·split
   ·rename_i e;exact name_wf hN e
   ·exact none_wf
  ·split
   ·exact monad_wf (headW hs (h1 (by omega)))
   ·split
    ·have hw:=headW hs (h1 (by omega));dsimp only;split
     ·exact hw
     ·exact lH (by rw [List.length_take];have:=hw.len;omega) (fun s h=>hw.sr s (List.mem_of_mem_take h))
    ·split
     ·have hw:=headW hs (h1 (by omega));dsimp only;split
      ·exact hw
      ·exact lH hw.len hw.sr
     ·split
      ·exact dyad_wf (secondW hs (h2 (by omega))) (headW hs (h2 (by omega) |>Nat.le_of_succ_le))
      ·rename_i n1 n2 n3 n5 n6 n4;rw [if_neg n1,if_neg n2,if_neg n3,if_neg n5,if_neg n6,if_neg n4] at h0;have hx:=secondW hs (h2 (by omega));have hu:=headW hs (h2 (by omega) |>Nat.le_of_succ_le);refine lH ?_ (fun s h=>?_)
       ·rw [List.length_append];dsimp only at h0;split at h0
        ·cases h0
        ·omega
       ·rcases List.mem_append.1 h with h | h
        ·exact hx.sr s h
        ·exact hu.sr s h
theorem varT_wf(k:Nat):WfT (varT k):=⟨by simp [varT],fun s h=>(by cases h),fun v h=>by rw [List.mem_singleton.1 h];exact bCy _,fun _=>⟨by simp [varT],.inl ⟨rfl,rfl⟩⟩,fun h=>(by cases h)⟩
theorem varsT_wf: ∀{vars:List Bs} {k:Nat} {N:iL},nF N→nF (bEp vars k N)
 | [],_,_,h=>h
 | s::r,k,N,h=>by
  show nF (bEp r (k+1) ((s,varT k)::N));refine varsT_wf (fun q hq=>?_)
  rcases List.mem_cons.1 hq with rfl | hq
  ·exact varT_wf k
  ·exact h q hq
theorem insT_wf{vars:List Bs}: ∀{l:List fX} {N:iL},(∀x∈l,x.sides.length≤4)→nF N→nF (bKh vars l N)
 | [],_,_,h=>h
 | x::r,N,hl,h=>by
  show nF (bKh vars r ((nIn++x.name,inT vars x)::N));refine insT_wf (fun y hy=>hl y (List.mem_cons_of_mem _ hy)) (fun q hq=>?_)
  rcases List.mem_cons.1 hq with rfl | hq
  ·refine lH ?_ (fun s hs=>?_)
   ·rw [List.length_map];exact hl x (List.mem_cons_self ..)
   ·obtain⟨d,_,rfl⟩:=List.mem_map.1 hs;unfold sideT';split
    ·exact bCy _
    ·exact nI _
  ·exact h q hq
theorem check_wf{p:gG}(h:(dF p).2=true):nF (rL p):=
 insT_wf (fun x hx=>((rV h).input x hx).2.1) (varsT_wf (fun q hq=>(by cases hq)))
theorem badT_a{n:Int}(h:n<0):bIl n=true:=by simp [bIl,h]
theorem badT_b{n:Int}(h:65536<n):bIl n=true:=by simp [bIl,h]
theorem badT_c{n:Int}(h: ¬n<0)(k: ¬65536<n):bIl n=false:=by simp [bIl,h,k]
def uC (s:Sl TyV):List TyP:=s.list.map TyV.t
def zY (s:Sl TyV):Fact:=((tyE.sl (.slice s.addr s.list.length s.cap) s.list).and (Fact.each s.list tyF)).and (Fact.pure (s.list.length≤s.cap))
def pR (N:iL)(l:List dN)(j:Nat)(hv ow:List TyV):Prop:=nK N l [] []=nK N (l.drop j) (stT hv) (ow.map TyV.t)∧nC (l.drop j) hv.length=some 1∧(∀a∈hv,WfT a.t)∧hv.length≤j∧ow.length=j
section
variable {N : iL} {l : List dN} {j : Nat} {hv ow : List TyV} {x : dN} {y z : TyV}
theorem tsT_start(hd:nC l 0=some 1):pR N l 0 [] []:=⟨rfl,hd,fun a ha=>(by simp at ha),Nat.le_refl _,rfl⟩
theorem tsT_dep(h:pR N l j hv ow)(hx:l[j]?=some x):(gU x≤hv.length∧1≤x.how∧x.how≤7∧(x.how=1→x.nums≠[]∧x.nums.length≤65536))∧nC (l.drop (j+1)) (hv.length-gU x+1)=some 1:=by
 have hd:=h.2.1;rw [mF hx,nC] at hd;split at hd
 ·rename_i hb;exact⟨hb,hd⟩
 ·cases hd
theorem stT_wf(h: ∀a∈hv,WfT a.t): ∀t∈stT hv,WfT t:=fun t ht=>by
 unfold stT at ht;rw [List.mem_reverse] at ht;obtain⟨b,hb,rfl⟩:=List.mem_map.1 ht;exact h b hb
theorem stT_length(hv:List TyV):(stT hv).length=hv.length:=by simp [stT]
theorem tsT_err(h:pR N l j hv ow)(hx:l[j]?=some x)(he:(gX N x (stT hv)).2≠0):nK N l [] []= .error (x.at_,(gX N x (stT hv)).2):=by
 rw [h.1,mF hx,nK,if_pos he]
theorem tsT_wf(hN:nF N)(h:pR N l j hv ow)(hx:l[j]?=some x)(he:(gX N x (stT hv)).2=0)(hy:y.t=(gX N x (stT hv)).1):WfT y.t:=by
 obtain⟨⟨h1,h2,h3,h4⟩,_⟩:=tsT_dep h hx;rw [hy];exact item_wf hN (stT_wf h.2.2.1) (by rw [stT_length];exact h1) (fun e=>(h4 e).1) ⟨h2,h3⟩ he
theorem tsT_step(h:pR N l j hv ow)(hx:l[j]?=some x)(he:(gX N x (stT hv)).2=0)(hy:y.t=(gX N x (stT hv)).1)(hw:WfT y.t)(hz:z.t=y.t):pR N l (j+1) (hv.take (hv.length-gU x)++[y]) (ow++[z]):=by
 obtain⟨⟨h1,_⟩,hd⟩:=tsT_dep h hx;have hl:(hv.take (hv.length-gU x)++[y]).length=hv.length-gU x+1:=by rw [List.length_append,List.length_take];simp
 refine⟨?_,by rw [hl];exact hd,fun a ha=>?_,by rw [hl];have:=h.2.2.2.1;omega,by rw [List.length_append,h.2.2.2.2];rfl⟩
 ·rw [h.1,mF hx,nK,if_neg (by simp [he]),stT_push (T:=gU x) rfl,List.map_append,List.map_singleton,hz,hy]
 ·rcases List.mem_append.1 ha with ha | ha
  ·exact h.2.2.1 a (List.mem_of_mem_take ha)
  ·rw [List.mem_singleton.1 ha];exact hw
theorem tsT_end(h:pR N l j hv ow)(hj:l.length≤j): ∃a,hv=[a]∧nK N l [] []= .ok ([a.t],ow.map TyV.t)∧WfT a.t:=by
 obtain⟨h1,h2,h3,_,_⟩:=h;rw [rH hj,nC] at h2;injection h2 with h2
 match hv,h2 with
 | [a],_=>
  refine⟨a,rfl,?_,h3 a (List.mem_cons_self ..)⟩;rw [h1,rH hj];rfl
end
def wI (ls:List jR)(i:Nat)(kv:KVS)(NV:NamesTV)(xs:List (Sl TyV))(r:List (List TyP)×Flt):Prop:=qH kv NV∧nF (jF NV)∧r=mL (jF NV) (ls.drop i) (xs.map uC)∧xs.length=i
section
variable {ls : List jR} {i : Nat} {kv : KVS} {NV : NamesTV} {xs : List (Sl TyV)} {r : List (List TyP) × Flt} {l : jR} {a : TyV} {s : Sl TyV} {f : Flt}
theorem lsT_err(h:wI ls i kv NV xs r)(hx:ls[i]?=some l)(hl:nK (jF NV) l.items [] []= .error f):r=([],f):=by
 rw [h.2.2.1,mF hx,mL,hl]
theorem lsT_step(h:wI ls i kv NV xs r)(hx:ls[i]?=some l)(hl:nK (jF NV) l.items [] []= .ok ([a.t],s.list.map TyV.t))(ha:WfT a.t):wI ls (i+1) (mW (qE++l.name) (tyC a) kv) ((qE++l.name,a)::NV) (xs++[s]) r:=by
 refine⟨nrT_add h.1 _ a,fun p hp=>?_,?_,by rw [List.length_append,h.2.2.2];rfl⟩
 ·rcases List.mem_cons.1 hp with rfl | hp
  ·exact ha
  ·exact h.2.1 p hp
 ·rw [h.2.2.1,mF hx,mL,hl,List.map_append];rfl
theorem lsT_end(h:wI ls i kv NV xs r)(hi:ls.length≤i):r=(xs.map uC,(0,0)):=by
 rw [h.2.2.1,rH hi];rfl
end
theorem ty_no{p:gG}(h:(dF p).2=false):gA p=([],(0,50)):=if_pos h
theorem ty_few{p:gG}{x:fX}(h:(dF p).2=true)(hf:p.inputs.find? (xM (varsP p))=some x):gA p=([],(x.at_,80)):=by
 unfold gA;rw [if_neg (by simp [h]),hf]
theorem ty_go{p:gG}(h:(dF p).2=true)(hf:p.inputs.find? (xM (varsP p))=none):gA p=mL (rL p) p.lines []:=by
 unfold gA;rw [if_neg (by simp [h]),hf]
set_option maxRecDepth 100000 in
theorem uH(P:ProgV)(hP:pS P)(hl1:P.inputs.list.length≤140737488355328)(hl2:P.lines.list.length≤140737488355328):dT Tryz.prog 21 [.agg #[.slice P.inputs.addr P.inputs.list.length P.inputs.cap,.slice P.lines.addr P.lines.list.length P.lines.cap]] [] [iC,jE.sl (.slice P.inputs.addr P.inputs.list.length P.inputs.cap) P.inputs.list,iK P.inputs.list,mP.sl (.slice P.lines.addr P.lines.list.length P.lines.cap) P.lines.list,kP P.lines.list] (fun(x:Option Addr×Nat×List (Sl TyV))=> .tuple #[.slice x.1 x.2.2.length x.2.1,.agg #[.int .i64 (gA P.pr).2.1,.int .i64 (gA P.pr).2.2]]) (fun _=>[]) (fun(x:Option Addr×Nat×List (Sl TyV))=>[tK.sl (.slice x.1 x.2.2.length x.2.1) x.2.2,Fact.each x.2.2 zY,Fact.pure (x.2.2.map uC=(gA P.pr).1∧x.2.2.length≤x.2.1)]):=by
 have hT:=fF;generalize hR:gA P.pr=r;refine cU Tryz.func21 rfl Tryz.ntmps21 rfl ?_;intro β hM;refine sr<|gP rfl rfl rfl rfl rfl rfl fun b1=>?_;refine sp hT ?_;refine bY rfl rfl rfl rfl yR rfl fun b2=>?_;refine nn<|bB<|sr<|ss (ldN hT (bJ kT1)) ?_;refine bQ Tryz.func41 (sRight_spec P hP hl1 hl2) rfl rfl .nil ⟨(Has.of mT0),(Has.of mT1),(Has.of mT2),(Has.of mT3),(Has.of mT4),trivial⟩ fun _=>?_;refine sp hT ?_;refine nn<|bK rfl (fun hc22=>?_) (fun hc22=>?_)
 ·have hc22:=fV hc22;refine sr<|ss (cC rfl rfl (vD _)) ?_;refine sp hT ?_;refine sto hT .head ?_;refine nn<|bG<|bA ?_;have hr:=hR.symm.trans (ty_no ‹_›);subst hr;exact bO (none,0,[]) rfl (bF rfl) (bL hT (bJ .head) rfl rfl rfl rfl) .nil ⟨sB,Has.each_nil,Has.pure ⟨rfl,Nat.le_refl 0⟩,trivial⟩ rfl
 have hc22:=fP hc22;refine bN<|bC<|bB ?_;have hrt:(dF P.pr).2=true:=by assumption
 have hfine:=rV hrt;have hs: ∀x∈P.inputs.list,x.sides.list.length≤4:=fun x hx=>by have h1:=(hfine.input x.inp (bBf hx)).2.1;have h2:x.inp.sides.length=x.sides.list.length:=List.length_map _;omega
 have hTT:=bAp hrt;have hpl:P.pr.inputs.length=P.inputs.list.length:=List.length_map _;refine bD<|ss (ldN hT (bJ kT1)) ?_;refine bQ Tryz.func12 (bMg P hl1 (fun x hx=>Nat.le_trans (hs x hx) (by decide)) (by omega)) rfl rfl .nil ⟨(Has.of mT1),(Has.of mT2),trivial⟩ fun⟨V,cv⟩=>?_;have hvl:(varsP P.pr).length≤256:=Nat.le_trans (vars_le P.pr) hTT;refine sp hT ?_;refine nn<|bB<|sr<|sp hT ?_;refine ss (ldO hT (bJ kT1)) ?_;refine sp2 hT ?_;refine nn<|bX<|dI (ι:=Nat) [(1,_),(3,_),(4,_),(27,_),(28,_)] ⟨rfl,rfl,rfl,rfl,rfl,trivial⟩ (fun i=>[(29,.int .i64 (i:Nat))]) (fun _=>[]) (fun i=>[Fact.pure (i≤P.inputs.list.length∧zZ (varsP P.pr) P.pr.inputs i)]) (fun i=>P.inputs.list.length-i) 0 ⟨rfl,trivial⟩ .nil ⟨Has.pure (⟨by omega,few_start⟩),trivial⟩ ?_;rintro i;refine bR (Has.of mT0) fun hinv5=>?_;refine sr<|sp hT ?_;refine nn<|bB<|bK rfl (fun hc30=>?_) (fun hc30=>?_)
 ·have hc30:=of_decide_eq_true hc30;refine bN<|bC<|bB<|bX<|sr ?_
  obtain⟨x3,hx4⟩: ∃x',P.inputs.list[i]?=some x':=⟨_,List.getElem?_eq_getElem (by omega)⟩
  refine ss (bV hT (k:=i) (bM (Has.of mT4)) rfl rfl rfl rfl rfl rfl rfl (by omega)) ?_;refine ss (dU hT (cP.knows (bM (Has.of mT4)) (k:=i) (x:=x3) hx4 0) rfl rfl rfl rfl rfl) ?_;refine bY rfl rfl rfl rfl jT rfl fun b5=>?_;refine sto hT .head ?_;refine nn<|bB ?_;have hx0:P.pr.inputs[i]?=some x3.inp:=tU hx4;have hxs:=hs x3 (List.mem_of_getElem? hx4);refine bE (rC x3) (Has.each (Has.of mT5) (List.mem_of_getElem? hx4)) ?_;refine bD<|sp hT ?_;refine ss (ldO hT (dJ .head)) ?_;refine sp2 hT ?_;refine nn<|bX<|dI (ι:=Nat) [(1,_),(3,_),(4,_),(6,_),(27,_),(28,_),(29,_),(34,_),(35,_)] ⟨rfl,rfl,rfl,rfl,rfl,rfl,rfl,rfl,rfl,trivial⟩ (fun j=>[(36,.int .i64 (j:Nat))]) (fun _=>[]) (fun j=>[Fact.pure (j≤x3.sides.list.length∧bEj (varsP P.pr) x3.inp.sides j)]) (fun j=>x3.sides.list.length-j) 0 ⟨rfl,trivial⟩ .nil ⟨Has.pure (⟨by omega,few_in⟩),trivial⟩ ?_;rintro j;refine bR (Has.of mT0) fun hinv8=>?_;refine sr<|sp hT ?_;refine nn<|bB<|bK rfl (fun hc37=>?_) (fun hc37=>?_)
  ·have hc37:=of_decide_eq_true hc37;refine bN<|bC<|bB<|bX<|sr ?_
   obtain⟨x6,hx7⟩: ∃x',x3.sides.list[j]?=some x':=⟨_,List.getElem?_eq_getElem (by omega)⟩
   refine ss (bV hT (k:=j) (bM (Has.of mT1)) rfl rfl rfl rfl rfl rfl rfl (by omega)) ?_;refine ss (dU hT (cP.knows (bM (Has.of mT1)) (k:=j) (x:=x6) hx7 0) rfl rfl rfl rfl rfl) ?_;refine bY rfl rfl rfl rfl tQ rfl fun b8=>?_;refine sto hT .head ?_;refine nn<|bB ?_;have hd0:x3.inp.sides[j]?=some x6.sd:=tU hx7;refine bD<|sp hT ?_;refine ss (ldO hT (bJ .head)) ?_;refine sp2 hT ?_;refine cF (fun hg43=>?_) (fun hg43=>?_)
   ·have hg43:x6.name=([]:Bs):=eq_of_beq hg43;refine sp hT ?_;refine ss (ldO hT (fN .head)) ?_;refine sp2 hT ?_;refine cF (fun hg47=>?_) (fun hg47=>?_)
    ·have hg47:=of_decide_eq_true hg47;refine sk3 ?_;refine sp3 hT ?_;refine sk4 ?_;refine sk ?_;refine sp hT ?_;refine nn<|cH rfl rfl ?_;refine bB<|cZ _ _ [(true,0),(true,1),(true,2),(true,3),(false,4)] dD (by decide+kernel) (.cons .head (.cons .head (.cons kT1 .nil))) bI.self ?_;refine puM hT ?_;refine stM rfl (ldO hT (fN kT1)) ?_;refine stM rfl (cC rfl rfl (uL _ _)) ?_;refine puM hT ?_;refine cL (o:=_) rfl ?_;refine sto hT kT2 ?_;refine cK (.cons kT1 (.cons kT1 (.cons kT1 .nil))) (bI.drop 0) ?_;refine cN<|bC<|bG<|bH<|bA<|bA<|bH<|bH<|bA<|bA<|bH<|bA ?_;have hr:=hR.symm.trans (ty_few hrt (bFk hinv5.2 hx0 hinv8.2 hd0 (by first | exact fs_a ‹_› (by first | exact badT_a (show x6.n<0 by omega) | exact badT_b (show 65536<x6.n by omega)) | exact fs_b (show 6≤jL x6.name (varsP P.pr) 0 by omega))));subst hr;exact bO (none,0,[]) rfl (bF rfl) (bL hT (bJ .head) rfl rfl rfl rfl) .nil ⟨sB,Has.each_nil,Has.pure ⟨rfl,Nat.le_refl 0⟩,trivial⟩ rfl
    have hg47:=Int.not_lt.1 (of_decide_eq_false hg47);refine sp hT ?_;refine ss (ldO hT (fN .head)) ?_;refine sp4 hT ?_;refine cF (fun hg53=>?_) (fun hg53=>?_)
    ·have hg53:=of_decide_eq_true hg53;refine sk4 ?_;refine sk ?_;refine sp hT ?_;refine nn<|cH rfl rfl ?_;refine bB<|cZ _ _ [(true,0),(true,1),(true,2),(true,3),(false,4)] dD (by decide+kernel) (.cons .head (.cons .head (.cons kT1 .nil))) bI.self ?_;refine puM hT ?_;refine stM rfl (ldO hT (fN kT1)) ?_;refine stM rfl (cC rfl rfl (uL _ _)) ?_;refine puM hT ?_;refine cL (o:=_) rfl ?_;refine sto hT kT2 ?_;refine cK (.cons kT1 (.cons kT1 (.cons kT1 .nil))) (bI.drop 0) ?_;refine cN<|bC<|bG<|bH<|bA<|bA<|bH<|bH<|bA<|bA<|bH<|bA ?_;have hr:=hR.symm.trans (ty_few hrt (bFk hinv5.2 hx0 hinv8.2 hd0 (by first | exact fs_a ‹_› (by first | exact badT_a (show x6.n<0 by omega) | exact badT_b (show 65536<x6.n by omega)) | exact fs_b (show 6≤jL x6.name (varsP P.pr) 0 by omega))));subst hr;exact bO (none,0,[]) rfl (bF rfl) (bL hT (bJ .head) rfl rfl rfl rfl) .nil ⟨sB,Has.each_nil,Has.pure ⟨rfl,Nat.le_refl 0⟩,trivial⟩ rfl
    have hg53:=Int.not_lt.1 (of_decide_eq_false hg53);refine sp2 hT ?_;refine ss (ldO hT (bJ .head)) ?_;refine bQ Tryz.func42 (wN _ _ _ (by omega) x6.name) rfl rfl .nil ⟨Has.of mT3,trivial⟩ fun _=>?_;refine sp2 hT ?_;refine nn<|bK rfl (fun hc59=>?_) (fun hc59=>?_)
    ·have hc59:=of_decide_eq_true hc59;refine bB<|cZ _ _ [(true,0),(true,1),(true,2),(true,3),(false,4)] dD (by decide+kernel) (.cons .head (.cons .head (.cons kT1 .nil))) bI.self ?_;refine puM hT ?_;refine stM rfl (ldO hT (fN kT1)) ?_;refine stM rfl (cC rfl rfl (uL _ _)) ?_;refine puM hT ?_;refine cL (o:=_) rfl ?_;refine sto hT kT2 ?_;refine cK (.cons kT1 (.cons kT1 (.cons kT1 .nil))) (bI.drop 0) ?_;refine cN<|bC<|bG<|bH<|bA<|bA<|bH<|bH<|bA<|bA<|bH<|bA ?_;have hr:=hR.symm.trans (ty_few hrt (bFk hinv5.2 hx0 hinv8.2 hd0 (by first | exact fs_a ‹_› (by first | exact badT_a (show x6.n<0 by omega) | exact badT_b (show 65536<x6.n by omega)) | exact fs_b (show 6≤jL x6.name (varsP P.pr) 0 by omega))));subst hr;exact bO (none,0,[]) rfl (bF rfl) (bL hT (bJ .head) rfl rfl rfl rfl) .nil ⟨sB,Has.each_nil,Has.pure ⟨rfl,Nat.le_refl 0⟩,trivial⟩ rfl
    have hc59:=Int.not_le.1 (of_decide_eq_false hc59);refine bN<|cD<|bC<|bD<|sp hT ?_;refine bT (z':=(((j+1):Nat):Int)) (cQ (by omega) (by omega)) ?_;refine sp hT ?_;refine nn ?_;exact cO (j+1) (by omega) ⟨rfl,trivial⟩ ⟨rfl,rfl,rfl,rfl,rfl,rfl,rfl,rfl,rfl,trivial⟩ (.cons kT1 (.cons kT1 (.cons kT1 .nil))) ⟨Has.pure (⟨by omega,few_next hinv8.2 hd0 (by first | exact fs_c (badT_c (show ¬x6.n<0 by omega) (show ¬65536<x6.n by omega)) (show jL x6.name (varsP P.pr) 0<6 by omega) | exact fs_d ‹_› (show jL x6.name (varsP P.pr) 0<6 by omega))⟩),trivial⟩ (bI.drop 1)
   have hg43:x6.name≠([]:Bs):=fun h=>absurd (beq_iff_eq.2 h) (by rw [show(x6.name==([]:Bs))=false from hg43];simp);refine sk4 ?_;refine sk4 ?_;refine sp4 hT ?_;refine ss (ldO hT (bJ .head)) ?_;refine bQ Tryz.func42 (wN _ _ _ (by omega) x6.name) rfl rfl .nil ⟨Has.of mT3,trivial⟩ fun _=>?_;refine sp2 hT ?_;refine nn<|bK rfl (fun hc59=>?_) (fun hc59=>?_)
   ·have hc59:=of_decide_eq_true hc59;refine bB<|cZ _ _ [(true,0),(true,1),(true,2),(true,3),(false,4)] dD (by decide+kernel) (.cons .head (.cons .head (.cons kT1 .nil))) bI.self ?_;refine puM hT ?_;refine stM rfl (ldO hT (fN kT1)) ?_;refine stM rfl (cC rfl rfl (uL _ _)) ?_;refine puM hT ?_;refine cL (o:=_) rfl ?_;refine sto hT kT2 ?_;refine cK (.cons kT1 (.cons kT1 (.cons kT1 .nil))) (bI.drop 0) ?_;refine cN<|bC<|bG<|bH<|bA<|bA<|bH<|bH<|bA<|bA<|bH<|bA ?_;have hr:=hR.symm.trans (ty_few hrt (bFk hinv5.2 hx0 hinv8.2 hd0 (by first | exact fs_a ‹_› (by first | exact badT_a (show x6.n<0 by omega) | exact badT_b (show 65536<x6.n by omega)) | exact fs_b (show 6≤jL x6.name (varsP P.pr) 0 by omega))));subst hr;exact bO (none,0,[]) rfl (bF rfl) (bL hT (bJ .head) rfl rfl rfl rfl) .nil ⟨sB,Has.each_nil,Has.pure ⟨rfl,Nat.le_refl 0⟩,trivial⟩ rfl
   have hc59:=Int.not_le.1 (of_decide_eq_false hc59);refine bN<|cD<|bC<|bD<|sp hT ?_;refine bT (z':=(((j+1):Nat):Int)) (cQ (by omega) (by omega)) ?_;refine sp hT ?_;refine nn ?_;exact cO (j+1) (by omega) ⟨rfl,trivial⟩ ⟨rfl,rfl,rfl,rfl,rfl,rfl,rfl,rfl,rfl,trivial⟩ (.cons kT1 (.cons kT1 (.cons kT1 .nil))) ⟨Has.pure (⟨by omega,few_next hinv8.2 hd0 (by first | exact fs_c (badT_c (show ¬x6.n<0 by omega) (show ¬65536<x6.n by omega)) (show jL x6.name (varsP P.pr) 0<6 by omega) | exact fs_d ‹_› (show jL x6.name (varsP P.pr) 0<6 by omega))⟩),trivial⟩ (bI.drop 1)
  have hc37:=Int.not_lt.1 (of_decide_eq_false hc37);refine dC<|cM<|cM<|dB<|cD<|bC<|bD<|sp hT ?_;refine bT (z':=(((i+1):Nat):Int)) (cQ (by omega) (by omega)) ?_;refine sp hT ?_;refine nn ?_;exact cO (i+1) (by omega) ⟨rfl,trivial⟩ ⟨rfl,rfl,rfl,rfl,rfl,trivial⟩ (.cons kT1 (.cons kT1 .nil)) ⟨Has.pure (⟨by omega,few_out hinv5.2 hx0 hinv8.2 (by show(x3.sides.list.map jA.sd).length≤j;rw [List.length_map];omega)⟩),trivial⟩ (bI.drop 3)
 have hc30:=Int.not_lt.1 (of_decide_eq_false hc30);refine dC<|cM<|cM<|dB<|bC<|sr<|ss (ldN hT (bJ kT1)) ?_;refine bQ Tryz.func43 (newT_spec P hl1 hrt) rfl rfl .nil ⟨(Has.of mT3),(Has.of mT4),(Has.of mT5),trivial⟩ fun⟨cb,mb,kv0,NV0⟩=>?_;refine bR (Has.of mT1) fun hnr=>?_;refine sp hT ?_;refine nn<|sr<|sp hT ?_;refine nn<|bB<|bB ?_;have hfn:=few_end hinv5.2 (by omega);have hbg:=hR.symm.trans (ty_go hrt hfn);rw [←hnr.2] at hbg;have hNW:nF (jF NV0):=by rw [hnr.2];exact check_wf hrt
 have hdep:=bEh hrt;have hpl2:P.pr.lines.length=P.lines.list.length:=List.length_map _;refine dR (t:=64) tK ?_;refine bE (Fact.each ([]:List (Sl TyV)) zY) (Has.each_nil) ?_;refine bD<|sp hT ?_;refine ss (ldO hT (fN kT4)) ?_;refine sp2 hT ?_;refine nn<|bX<|dI (ι:=Nat×KVS×NamesTV×List (Sl TyV)×Option Addr×Nat) [(3,_),(9,_),(68,_),(69,_)] ⟨rfl,rfl,rfl,rfl,trivial⟩ (fun⟨i,kv,NV,xs,A1,c1⟩=>[(10,.slice A1 xs.length c1),(70,.int .i64 (i:Nat))]) (fun⟨i,kv,NV,xs,A1,c1⟩=>[rU mb kv,tK.row (.slice A1 xs.length c1) 64 xs]) (fun⟨i,kv,NV,xs,A1,c1⟩=>[Fact.pure (i≤P.lines.list.length∧wI P.pr.lines i kv NV xs r),oG NV,Fact.each xs zY]) (fun⟨i,kv,NV,xs,A1,c1⟩=>P.lines.list.length-i) (0,kv0,NV0,[],none,0) ⟨rfl,rfl,trivial⟩ (.cons kT2 (.cons .head .nil)) ⟨Has.pure (⟨by omega,hnr.1,hNW,hbg,rfl⟩),Has.of mT1,Has.of mT0,trivial⟩ ?_;rintro⟨i,kv,NV,xs,A1,c1⟩;dsimp only;refine bR (Has.of mT0) fun hinv17=>?_;refine sr<|sp hT ?_;refine nn<|bB<|bK rfl (fun hc71=>?_) (fun hc71=>?_)
 ·have hc71:=of_decide_eq_true hc71;refine bN<|bC<|bB<|bX<|sr ?_
  obtain⟨x9,hx10⟩: ∃x',P.lines.list[i]?=some x':=⟨_,List.getElem?_eq_getElem (by omega)⟩
  refine ss (bV hT (k:=i) (bM (Has.of lC)) rfl rfl rfl rfl rfl rfl rfl (by omega)) ?_;refine ss (dU hT (cP.knows (bM (Has.of lC)) (k:=i) (x:=x9) hx10 0) rfl rfl rfl rfl rfl) ?_;refine bY rfl rfl rfl rfl qC rfl fun b11=>?_;refine sto hT .head ?_;refine nn<|sr<|sp2 hT ?_;refine nn<|bB<|bB ?_;have hx0:P.pr.lines[i]?=some x9.ln:=tU hx10;have hdp:=hdep x9.ln (List.mem_of_getElem? hx0);have hfl:=hfine.line x9.ln (List.mem_of_getElem? hx0);have hlnm:x9.name.length≤16:=hfl.1;have hil:=hfl.2.1;have hie:x9.ln.items.length=x9.items.list.length:=List.length_map _;refine bE (kY.sl (.slice x9.items.addr x9.items.list.length x9.items.cap) x9.items.list) (Has.left (Has.each (Has.of lD) (List.mem_of_getElem? hx10))) ?_;refine bE (mJ x9.items.list) (Has.right (Has.each (Has.of zF) (List.mem_of_getElem? hx10))) ?_;refine dR (t:=67) tyE ?_;refine bE (Fact.each ([]:List TyV) tyF) (Has.each_nil) ?_;refine dR (t:=67) tyE ?_;refine bE (Fact.each ([]:List TyV) tyF) (Has.each_nil) ?_;refine bD<|sp hT ?_;refine ss (ldO hT (dJ kT2)) ?_;refine sp2 hT ?_;refine nn<|bX<|dI (ι:=Nat×List TyV×Option Addr×Nat×List TyV×Option Addr×Nat) [(3,_),(9,_),(10,_),(12,_),(68,_),(69,_),(70,_),(75,_),(76,_)] ⟨rfl,rfl,rfl,rfl,rfl,rfl,rfl,rfl,rfl,trivial⟩ (fun⟨j,hv,A2,c2,ow,A4,c4⟩=>[(13,.slice A2 hv.length c2),(14,.slice A4 ow.length c4),(77,.int .i64 (j:Nat))]) (fun⟨j,hv,A2,c2,ow,A4,c4⟩=>[tyE.row (.slice A2 hv.length c2) 67 hv,tyE.row (.slice A4 ow.length c4) 67 ow]) (fun⟨j,hv,A2,c2,ow,A4,c4⟩=>[Fact.pure (j≤x9.items.list.length∧pR (jF NV) x9.ln.items j hv ow),Fact.each hv tyF,Fact.each ow tyF]) (fun⟨j,hv,A2,c2,ow,A4,c4⟩=>x9.items.list.length-j) (0,[],none,0,[],none,0) ⟨rfl,rfl,rfl,trivial⟩ (.cons kT1 (.cons .head .nil)) ⟨Has.pure (⟨by omega,tsT_start hdp⟩),Has.of mT1,Has.of mT0,trivial⟩ ?_;rintro⟨j,hv,A2,c2,ow,A4,c4⟩;dsimp only;refine bR (Has.of mT0) fun hinv21=>?_;have hvj:=hinv21.2.2.2.2.1;have hwj:=hinv21.2.2.2.2.2;refine sr<|sp hT ?_;refine nn<|bB<|bK rfl (fun hc78=>?_) (fun hc78=>?_)
  ·have hc78:=of_decide_eq_true hc78;refine bN<|bC<|bB<|bX<|sr ?_
   obtain⟨x12,hx13⟩: ∃x',x9.items.list[j]?=some x':=⟨_,List.getElem?_eq_getElem (by omega)⟩
   refine ss (bV hT (k:=j) (bM (Has.of mT6)) rfl rfl rfl rfl rfl rfl rfl (by omega)) ?_;refine ss (dU hT (cP.knows (bM (Has.of mT6)) (k:=j) (x:=x12) hx13 0) rfl rfl rfl rfl rfl) ?_;refine bY rfl rfl rfl rfl mG rfl fun b14=>?_;refine sto hT .head ?_;refine nn<|bB ?_;have hi0:x9.ln.items[j]?=some x12.it:=tU hx13;have hdd:=(tsT_dep hinv21.2 hi0).1;have hitn:=(hfl.2.2 x12.it (List.mem_of_getElem? hi0)).1;have htk0:=hdd.1;refine bE (numF x12) (Has.each (Has.of mT5) (List.mem_of_getElem? hx13)) ?_;refine bD<|sp hT ?_;refine ss (ldN hT (bJ .head)) ?_;refine sp hT ?_;refine bQ Tryz.func44 (itemTS_spec cb mb kv NV hinv17.2.1 x12 A2 c2 hv hinv21.2.2.2.1 (by omega) hdd.1 ⟨hdd.2.1,hdd.2.2.1⟩ (fun h=>(hdd.2.2.2 h).2) (fun _=>Nat.le_trans hitn (by decide))) rfl rfl (.cons kT6 (.cons kT4 (.cons kT1 .nil))) ⟨(Has.of mT0),(Has.of mT2),(Has.of mT9),trivial⟩ fun y15=>?_;refine bR (Has.of mT1) fun hy=>?_;refine sp4 hT ?_;refine bY rfl rfl rfl rfl oM rfl fun b16=>?_;refine sto hT .head ?_;refine sp2 hT ?_;refine nn<|bB<|sr<|sp2 hT ?_;refine nn<|bK rfl (fun hc90=>?_) (fun hc90=>?_)
   ·have hc90:=bne_iff_ne.1 hc90;refine bB<|cZ _ _ [(true,0),(true,1),(true,2),(true,3),(true,4),(false,5)] dD (by decide+kernel) (.cons .head (.cons .head (.cons .head (.cons .head (.cons .head (.cons .head (.cons .head (.cons .head (.cons kT1 .nil))))))))) bI.self ?_;refine puM hT ?_;refine stM rfl (ldO hT (fN kT4)) ?_;refine puM hT ?_;refine stM rfl (cC rfl rfl (uL _ _)) ?_;refine puM hT ?_;refine cL (o:=_) rfl ?_;refine sto hT kT8 ?_;refine cK (.cons kT1 (.cons kT1 (.cons kT1 (.cons kT1 (.cons kT1 (.cons kT1 (.cons kT1 (.cons kT1 (.cons kT1 .nil))))))))) (bI.drop 0) ?_;refine cN<|bC<|bG<|bA<|bH<|bA<|bA<|bH<|bA<|bH<|bA<|bA<|bH<|bA ?_;have hr:=lsT_err hinv17.2 hx0 (tsT_err hinv21.2 hi0 ‹_›);subst hr;exact bO (none,0,[]) rfl (bF rfl) (bL hT (bJ .head) rfl rfl rfl rfl) .nil ⟨sB,Has.each_nil,Has.pure ⟨rfl,Nat.le_refl 0⟩,trivial⟩ rfl
   have hc90:=bne_eq_false_iff_eq.1 hc90;refine bN<|bC<|sr<|sp hT ?_;refine ss (ldN hT (bJ .head)) ?_;have hwy:=tsT_wf hinv17.2.2.1 hinv21.2 hi0 (by omega) hy;refine bQ Tryz.func45 (ownT_spec y15 hwy) rfl rfl .nil ⟨(Has.of mT0),trivial⟩ fun z17=>?_;refine bR (Has.of mT1) fun hz=>?_;refine bCt (m:=z17) rfl rfl rfl rfl rfl fun b18=>?_;refine bCc kT6 (dE .head rfl) rfl rfl rfl rfl rfl rfl rfl (by simp;omega) fun A19 c20=>?_;refine bE (Fact.each (ow++[z17]) tyF) (Has.each_snoc (Has.of mT7) (Has.of mT0)) ?_;refine sp hT ?_;refine nn<|qL _ _ (.fl 0 (.fl 1 (.fl 2 (.fl 3 (.fl 4 (.fl 6 (.two 5 7 (.op 7 (.op 8 (.fl 9 .nil))) (.op 5 (.op 8 (.fl 9 .nil)))))))))) dD (by decide+kernel) (.cons .head (.cons .head (.cons .head (.cons .head (.cons .head (.cons kT1 (.cons kT1 (.cons kT1 (.cons kT1 (.cons kT1 .nil)))))))))) bI.self ?_;refine pvT hT ?_;refine pvT hT ?_;refine pvT hT ?_;refine pvT hT ?_;refine pvT hT ?_;refine bT (z':=(((hv.length-(gU x12.it)):Nat):Int)) (cQ (by omega) (by omega)) ?_;refine sqT rfl (ldN hT (bJ kT2)) ?_;refine nA (o:=_) (o':=_) rfl rfl ?_ ?_
   ·refine iW hT (k:=(hv.length-gU x12.it)) kT5 rfl rfl rfl rfl rfl rfl rfl rfl rfl (by omega) ?_;refine dA (.cons kT1 (.cons kT1 (.cons kT1 (.cons kT1 (.cons kT1 (.cons kT1 (.cons kT1 (.cons kT1 (.cons kT1 (.cons kT1 .nil)))))))))) (bI.drop 0) ?_;refine fB (o:=_) rfl ?_;refine bCt (m:=y15) rfl rfl rfl rfl rfl fun b21=>?_;refine dA (.cons kT2 (.cons kT2 (.cons kT2 (.cons kT2 (.cons kT2 (.cons kT2 (.cons kT2 (.cons kT2 (.cons kT2 (.cons kT2 .nil)))))))))) (bI.drop 0) ?_;refine fB (o:=_) rfl ?_;refine bCc kT1 (dE .head rfl) rfl rfl rfl rfl rfl rfl rfl (by simp;omega) fun A22 c23=>?_;refine bE (Fact.each (hv.take (hv.length-gU x12.it)++[y15]) tyF) (Has.each_snoc (bKw (Has.of mT7) _) (Has.of mT3)) ?_;refine dA (.cons kT2 (.cons kT2 (.cons kT2 (.cons kT2 (.cons kT2 (.cons kT2 (.cons kT2 (.cons kT2 (.cons kT2 (.cons kT2 .nil)))))))))) (bI.drop 1) ?_;refine pvT hT ?_;refine gZ<|cD<|bC<|bD<|sp hT ?_;refine bT (z':=(((j+1):Nat):Int)) (cQ (by omega) (by omega)) ?_;refine sp hT ?_;refine nn ?_;exact cO (j+1,hv.take (hv.length-gU x12.it)++[y15],A22,c23,ow++[z17],A19,c20) (by dsimp only;omega) ⟨rfl,rfl,rfl,trivial⟩ ⟨rfl,rfl,rfl,rfl,rfl,rfl,rfl,rfl,rfl,trivial⟩ (.cons .head (.cons kT1 (.cons kT6 (.cons kT4 (.cons kT5 (.cons kT3 (.cons kT4 (.cons kT4 .nil)))))))) ⟨Has.pure (⟨by dsimp only;omega,tsT_step hinv21.2 hi0 (by omega) hy hwy hz⟩),Has.of mT0,Has.of mT1,trivial⟩ (bI.drop 10)
   refine bCt (m:=y15) rfl rfl rfl rfl rfl fun b24=>?_;refine dA (.cons kT1 (.cons kT1 (.cons kT1 (.cons kT1 (.cons kT1 (.cons kT2 (.cons kT2 (.cons kT2 (.cons kT2 (.cons kT2 .nil)))))))))) (bI.drop 0) ?_;refine fB (o:=_) rfl ?_;refine iW hT (k:=(hv.length-gU x12.it)) kT6 rfl rfl rfl rfl rfl rfl rfl rfl rfl (by omega) ?_;refine dA (.cons kT2 (.cons kT2 (.cons kT2 (.cons kT2 (.cons kT2 (.cons kT2 (.cons kT2 (.cons kT2 (.cons kT2 (.cons kT2 .nil)))))))))) (bI.drop 0) ?_;refine fB (o:=_) rfl ?_;refine bCc .head (dE kT1 rfl) rfl rfl rfl rfl rfl rfl rfl (by simp;omega) fun A25 c26=>?_;refine bE (Fact.each (hv.take (hv.length-gU x12.it)++[y15]) tyF) (Has.each_snoc (bKw (Has.of mT7) _) (Has.of mT3)) ?_;refine dA (.cons kT2 (.cons kT2 (.cons kT2 (.cons kT2 (.cons kT2 (.cons kT2 (.cons kT2 (.cons kT2 (.cons kT2 (.cons kT2 .nil)))))))))) (bI.drop 1) ?_;refine pvT hT ?_;refine gZ<|cD<|bC<|bD<|sp hT ?_;refine bT (z':=(((j+1):Nat):Int)) (cQ (by omega) (by omega)) ?_;refine sp hT ?_;refine nn ?_;exact cO (j+1,hv.take (hv.length-gU x12.it)++[y15],A25,c26,ow++[z17],A19,c20) (by dsimp only;omega) ⟨rfl,rfl,rfl,trivial⟩ ⟨rfl,rfl,rfl,rfl,rfl,rfl,rfl,rfl,rfl,trivial⟩ (.cons .head (.cons kT1 (.cons kT6 (.cons kT4 (.cons kT5 (.cons kT3 (.cons kT4 (.cons kT4 .nil)))))))) ⟨Has.pure (⟨by dsimp only;omega,tsT_step hinv21.2 hi0 (by omega) hy hwy hz⟩),Has.of mT0,Has.of mT1,trivial⟩ (bI.drop 10)
  have hc78:=Int.not_lt.1 (of_decide_eq_false hc78);refine dC<|cM<|cM<|dB<|bC<|bB ?_;obtain⟨a,hva,hle,hra⟩:=tsT_end hinv21.2 (by omega);have hv0:hv[0]?=some a:=by rw [hva];rfl
  have hvl:hv.length=1:=by rw [hva];rfl
  have hxl:=hinv17.2.2.2.2;have hfln:=hfine.lns;refine bE (tyF a) (Has.each (Has.of mT1) (List.mem_of_getElem? hv0)) ?_;refine iD kT1 fun hc_ow=>?_;refine cS kT1 ?_;refine bE (zY (⟨A4,c4,ow⟩:Sl TyV)) ((Has.and (Has.and (Has.of mT0) (Has.of mT4)) (Has.pure hc_ow))) ?_;refine bE (oG ((qE++x9.name,a)::NV)) (Has.each_cons (Has.of mT2) (Has.of rK)) ?_;refine bD<|sp2 hT ?_;refine at_one_rows (m:=(⟨A4,c4,ow⟩:Sl TyV)) rfl rfl rfl rfl rfl fun b27=>?_;refine at_app_rows kT4 (dE .head rfl) rfl rfl rfl rfl rfl rfl rfl (by simp;omega) fun A28 c29=>?_;refine bE (Fact.each (xs++[(⟨A4,c4,ow⟩:Sl TyV)]) zY) (Has.each_snoc (Has.of lD) (Has.of mT1)) ?_;refine sp hT ?_;refine nn<|cZ _ _ [(true,0),(true,1),(true,2),(true,3),(true,4),(true,5),(true,6),(true,7),(true,8),(true,9),(false,10)] dD (by decide+kernel) (.cons .head (.cons .head (.cons .head (.cons .head (.cons kT1 (.cons kT1 (.cons kT1 .nil))))))) bI.self ?_;refine puM hT ?_;refine puM hT ?_;refine puM hT ?_;refine stM rfl (ldO hT (bJ kT4)) ?_;refine puM hT ?_;refine stM rfl (ldO hT (bJ kT3)) ?_;refine stM rfl (iU rfl rfl rfl (by simp;omega)) ?_;refine puM hT ?_;refine stM rfl (bV hT (k:=0) (cJ kT2) rfl rfl rfl rfl rfl rfl rfl (by omega)) ?_;refine stM rfl (dU hT (cP.knows (cJ kT2) (k:=0) (x:=a) hv0 0) rfl rfl rfl rfl rfl) ?_;refine cL (o:=_) rfl ?_;refine mO kT4 rfl (.inl rfl) rfl mapT Tryz.underlying9 rfl rfl rfl ?_;refine cK (.cons kT1 (.cons kT1 (.cons kT1 (.cons kT1 (.cons kT1 (.cons kT1 (.cons kT1 .nil))))))) (bI.drop 0) ?_;refine cN<|cD<|bC<|bD<|sp hT ?_;refine bT (z':=(((i+1):Nat):Int)) (cQ (by omega) (by omega)) ?_;refine sp hT ?_;refine nn ?_;exact cO (i+1,_,(qE++x9.name,a)::NV,xs++[(⟨A4,c4,ow⟩:Sl TyV)],A28,c29) (by dsimp only;omega) ⟨rfl,rfl,trivial⟩ ⟨rfl,rfl,rfl,rfl,trivial⟩ (.cons .head (.cons .head (.cons kT3 (.cons kT3 (.cons kT3 .nil))))) ⟨Has.pure (⟨by dsimp only;omega,lsT_step (s:=(⟨A4,c4,ow⟩:Sl TyV)) hinv17.2 hx0 hle hra⟩),Has.of mT1,Has.of mT0,trivial⟩ (bI.drop 15)
 have hc71:=Int.not_lt.1 (of_decide_eq_false hc71);refine dC<|cM<|cM<|dB<|bC<|sr<|sp hT ?_;refine ss (cC rfl rfl (wM)) ?_;refine sp hT ?_;refine sto hT kT3 ?_;refine nn<|bG ?_;have hr:=lsT_end hinv17.2 (by rw [hpl2];omega);subst hr;refine iD kT2 fun hc_o=>?_;refine cS kT2 ?_;exact bO (A1,c1,xs) rfl (bF rfl) (bL hT (bJ .head) rfl rfl rfl rfl) .nil ⟨(Has.of mT0),(Has.of mT3),Has.pure ⟨rfl,hc_o⟩,trivial⟩ rfl
theorem same2_spec(p q:PolV)(hp:p.list.length≤140737488355328):dT Tryz.prog 94 [.slice p.addr p.list.length p.cap,.slice q.addr q.list.length q.cap] [] [mK p,mK q] (fun _:Unit=> .bool (decide (p.list=q.list))) (fun _=>[]) (fun _=>[]):=by
 have e:decide (p.list=q.list)=rD p.list q.list:=by rw [Bool.eq_iff_iff,bLt];simp
 rw [e];exact kN fun _ w hS h=>same_any _ _ _ _ _ _ w (jW hS (h _ mT0)) (jW hS (h _ mT1)) hp
theorem tEq_1{a b:TyV}(h:cB a.sides.list≠cB b.sides.list):Value.bool false= .bool (decide (a.t=b.t)):=by
 rw [decide_eq_false (fun e=>h (congrArg TyP.sides e))]
theorem tEq_2{a b:TyV}(h:a.known≠b.known):Value.bool false= .bool (decide (a.t=b.t)):=by
 rw [decide_eq_false (fun e=>h (congrArg TyP.known e))]
theorem tEq_3{a b:TyV}(h:cB a.sides.list=cB b.sides.list)(k:a.known=b.known):Value.bool (decide (cB a.values.list=cB b.values.list))= .bool (decide (a.t=b.t)):=by
 congr 1
 rw [Bool.eq_iff_iff,decide_eq_true_iff,decide_eq_true_iff];constructor
 ·intro e;unfold TyV.t;rw [h,e,k]
 ·exact fun e=>congrArg TyP.values e
theorem xI{xs:List (Sl TyV)}{i:Nat}{x:Sl TyV}(h:xs[i]?=some x):(xs.map uC)[i]?=some (uC x):=qK h
theorem tL(x:Sl TyV):(uC x).length=x.list.length:=List.length_map _
theorem rowF_s{F:List Fact}{x:Sl TyV}(h:Has F (zY x)):Has F (tyE.sl (.slice x.addr x.list.length x.cap) x.list):=h.left.left
theorem rowF_e{F:List Fact}{x:Sl TyV}(h:Has F (zY x)):Has F (Fact.each x.list tyF):=h.left.right
theorem rowsF_len{x y:Sl TyV}(h:x.list.length≠y.list.length):uC x≠uC y:=fun e=>h (by have:=congrArg List.length e;rwa [tL,tL] at this)
theorem rowsE_len{xs ys:List (Sl TyV)}(h:xs.length≠ys.length):xs.map uC≠ys.map uC:=fun e=>h (by have:=congrArg List.length e;rwa [List.length_map,List.length_map] at this)
set_option maxRecDepth 100000 in
theorem bDy(A B:Option Addr)(ca cb:Nat)(a b:List PolV)(hl:a.length≤140737488355328):dT Tryz.prog 49 [.slice A a.length ca,.slice B b.length cb] [] [cE.sl (.slice A a.length ca) a,cT a,cE.sl (.slice B b.length cb) b,cT b] (fun(_:Unit)=> .bool (decide (cB a=cB b))) (fun _=>[]) (fun _=>[]):=by
 have hT:=fF;refine cU Tryz.func49 rfl Tryz.ntmps49 rfl ?_;intro β hM;refine sr<|sp hT ?_;refine nn<|bB<|sr<|sp4 hT ?_;refine sp hT ?_;refine nn<|bK rfl (fun hc10=>?_) (fun hc10=>?_)
 ·have hc10:=bne_iff_ne.1 hc10;refine sr<|sp hT ?_;refine nn<|bG<|bA ?_;exact bW () rfl (bF rfl) .nil trivial (tW (fun e=>by have:=congrArg List.length e;rw [bU,bU] at this;omega))
 have hc10:=bne_eq_false_iff_eq.1 hc10;refine bN<|bC<|bB<|sr<|sp hT ?_;refine nn<|bX<|dI (ι:=Nat) [(0,_),(1,_)] ⟨rfl,rfl,trivial⟩ (fun i=>[(5,.int .i64 (i:Nat))]) (fun _=>[]) (fun i=>[Fact.pure (i≤a.length∧(cB a).take i=(cB b).take i)]) (fun i=>a.length-i) 0 ⟨rfl,trivial⟩ .nil ⟨Has.pure (⟨by omega,rfl⟩),trivial⟩ ?_;rintro i;refine bR (Has.of mT0) fun hinv4=>?_;refine bB<|sr<|sp4 hT ?_;refine nn<|bK rfl (fun hc14=>?_) (fun hc14=>?_)
 ·have hc14:=of_decide_eq_true hc14;refine bN<|bC<|bB<|bX<|bB<|cZ _ _ [(true,0),(true,1),(true,2),(true,3),(true,4),(true,5),(true,6),(true,7),(false,8),(true,9)] dD (by decide+kernel) .nil bI.self ?_;refine puM hT ?_;refine puM hT ?_
  obtain⟨x1,hx2⟩: ∃x',a[i]?=some x':=⟨_,List.getElem?_eq_getElem (by omega)⟩
  refine stM rfl (bV hT (k:=i) (bM (Has.of mT1)) rfl rfl rfl rfl rfl rfl rfl (by omega)) ?_;refine stM rfl (cI hT (cP.knows (bM (Has.of mT1)) (k:=i) (x:=x1) hx2 0) rfl rfl rfl rfl rfl) ?_;refine puM hT ?_;refine puM hT ?_
  obtain⟨x3,hx4⟩: ∃x',b[i]?=some x':=⟨_,List.getElem?_eq_getElem (by omega)⟩
  refine stM rfl (bV hT (k:=i) (bM (Has.of mT3)) rfl rfl rfl rfl rfl rfl rfl (by omega)) ?_;refine stM rfl (cI hT (cP.knows (bM (Has.of mT3)) (k:=i) (x:=x3) hx4 0) rfl rfl rfl rfl rfl) ?_;refine cL (o:=_) rfl ?_;refine bR (fD (Has.each (Has.of mT2) (List.mem_of_getElem? hx2))) fun hxl=>?_;refine bQ Tryz.func94 (same2_spec x1 x3 hxl) rfl rfl .nil ⟨(Has.each (Has.of mT2) (List.mem_of_getElem? hx2)),(Has.each (Has.of mT4) (List.mem_of_getElem? hx4)),trivial⟩ fun _=>?_;refine cK .nil (bI.drop 0) ?_;refine puM hT ?_;refine cN<|bC<|bK rfl (fun hc26=>?_) (fun hc26=>?_)
  ·have hc26:=fV hc26;refine sr<|sp hT ?_;refine nn<|bG<|bH<|bA<|bA<|bH<|bA ?_;exact bW () rfl (bF rfl) .nil trivial (tW (tF (hU hx2) (hU hx4) (bJy ‹_›)))
  have hc26:=fP hc26;refine bN<|cD<|bC<|bD<|sp2 hT ?_;refine bT (z':=(((i+1):Nat):Int)) (cQ (by omega) (by omega)) ?_;refine sp hT ?_;refine nn ?_;exact cO (i+1) (by omega) ⟨rfl,trivial⟩ ⟨rfl,rfl,trivial⟩ .nil ⟨Has.pure (⟨by omega,tD hinv4.2 (hU hx2) (hU hx4) (oB ‹_›)⟩),trivial⟩ (bI.drop 1)
 have hc14:=Int.not_lt.1 (of_decide_eq_false hc14);refine dC<|cM<|cM<|dB<|bC<|sr<|sp hT ?_;refine nn<|bG ?_;exact bW () rfl (bF rfl) .nil trivial (eqT_of (wL hinv4.2 (by rw [bU];omega) (by rw [bU];omega)))
set_option maxRecDepth 100000 in
theorem same9_spec(a b:TyV)(hs:a.sides.list.length≤140737488355328)(hv:a.values.list.length≤140737488355328):dT Tryz.prog 24 [.agg #[.slice a.sides.addr a.sides.list.length a.sides.cap,.bool a.known,.slice a.values.addr a.values.list.length a.values.cap],.agg #[.slice b.sides.addr b.sides.list.length b.sides.cap,.bool b.known,.slice b.values.addr b.values.list.length b.values.cap]] [] [tyF a,tyF b] (fun(_:Unit)=> .bool (decide (a.t=b.t))) (fun _=>[]) (fun _=>[]):=by
 have hT:=fF;refine cU Tryz.func24 rfl Tryz.ntmps24 rfl ?_;intro β hM;refine bB<|bE (dP a.sides) (lP (Has.of mT0)) ?_;refine bE (cE.sl (.slice a.sides.addr a.sides.list.length a.sides.cap) a.sides.list) (dL (Has.of mT0)) ?_;refine bE (cT a.sides.list) (dO (Has.of mT1)) ?_;refine bR (dS (Has.of mT2)) fun hc_as=>?_;refine bE (dP a.values) (lK (Has.of mT3)) ?_;refine bE (cE.sl (.slice a.values.addr a.values.list.length a.values.cap) a.values.list) (dL (Has.of mT0)) ?_;refine bE (cT a.values.list) (dO (Has.of mT1)) ?_;refine bR (dS (Has.of mT2)) fun hc_av=>?_;refine bE (dP b.sides) (lP (Has.of mT7)) ?_;refine bE (cE.sl (.slice b.sides.addr b.sides.list.length b.sides.cap) b.sides.list) (dL (Has.of mT0)) ?_;refine bE (cT b.sides.list) (dO (Has.of mT1)) ?_;refine bR (dS (Has.of mT2)) fun hc_bs=>?_;refine bE (dP b.values) (lK (Has.of qB)) ?_;refine bE (cE.sl (.slice b.values.addr b.values.list.length b.values.cap) b.values.list) (dL (Has.of mT0)) ?_;refine bE (cT b.values.list) (dO (Has.of mT1)) ?_;refine bR (dS (Has.of mT2)) fun hc_bv=>?_;refine bD<|gP rfl rfl rfl rfl rfl rfl fun b1=>?_;refine gP rfl rfl rfl rfl rfl rfl fun b2=>?_;refine sp hT ?_;refine nn<|sr<|sp hT ?_;refine ss (ldO hT (bJ kT1)) ?_;refine sp hT ?_;refine ss (ldO hT (bJ .head)) ?_;refine bQ Tryz.func49 (bDy a.sides.addr b.sides.addr a.sides.cap b.sides.cap a.sides.list b.sides.list (by omega)) rfl rfl .nil ⟨(Has.of qB),(Has.of mT9),(Has.of mT4),(Has.of mT3),trivial⟩ fun _=>?_;refine sp hT ?_;refine cF (fun hg10=>?_) (fun hg10=>?_)
 ·refine sp hT ?_;refine ss (ldO hT (fN kT1)) ?_;refine sp hT ?_;refine ss (ldO hT (fN .head)) ?_;refine sp3 hT ?_;refine cF (fun hg17=>?_) (fun hg17=>?_)
  ·have hg17:=eq_of_beq hg17;refine sp hT ?_;refine ss (ldO hT (dJ kT1)) ?_;refine sp hT ?_;refine ss (ldO hT (dJ .head)) ?_;refine bQ Tryz.func49 (bDy a.values.addr b.values.addr a.values.cap b.values.cap a.values.list b.values.list (by omega)) rfl rfl .nil ⟨(Has.of mT7),(Has.of mT6),(Has.of mT1),(Has.of mT0),trivial⟩ fun _=>?_;refine sp2 hT ?_;refine nn<|bG ?_;exact bW () rfl (bF rfl) .nil trivial (tEq_3 (of_decide_eq_true hg10) hg17)
  have hg17:=beq_eq_false_iff_ne.1 hg17;refine sk4 ?_;refine sk ?_;refine sp2 hT ?_;refine nn<|bG ?_;exact bW () rfl (bF rfl) .nil trivial (tEq_2 hg17)
 refine sk4 ?_;refine sk ?_;refine sp2 hT ?_;refine sk4 ?_;refine sk ?_;refine sp2 hT ?_;refine nn<|bG ?_;exact bW () rfl (bF rfl) .nil trivial (tEq_1 (of_decide_eq_false hg10))
set_option maxRecDepth 100000 in
theorem sameL9_spec(A B:Option Addr)(ca cb:Nat)(xs ys:List (Sl TyV))(hl:xs.length≤140737488355328)(hr: ∀x∈xs,x.list.length≤140737488355328∧ ∀t∈x.list,t.sides.list.length≤140737488355328∧t.values.list.length≤140737488355328):dT Tryz.prog 23 [.slice A xs.length ca,.slice B ys.length cb] [] [tK.sl (.slice A xs.length ca) xs,Fact.each xs zY,tK.sl (.slice B ys.length cb) ys,Fact.each ys zY] (fun(_:Unit)=> .bool (decide (xs.map uC=ys.map uC))) (fun _=>[]) (fun _=>[]):=by
 have hT:=fF;refine cU Tryz.func23 rfl Tryz.ntmps23 rfl ?_;intro β hM;refine sr<|sp hT ?_;refine nn<|bB<|sr<|sp4 hT ?_;refine sp hT ?_;refine nn<|bK rfl (fun hc11=>?_) (fun hc11=>?_)
 ·have hc11:=bne_iff_ne.1 hc11;refine sr<|sp hT ?_;refine nn<|bG<|bA ?_;exact bW () rfl (bF rfl) .nil trivial (tW (rowsE_len (by omega)))
 have hc11:=bne_eq_false_iff_eq.1 hc11;refine bN<|bC<|bB<|sr<|sp3 hT ?_;refine nn<|bX<|dI (ι:=Nat) [(0,_),(1,_),(13,_)] ⟨rfl,rfl,rfl,trivial⟩ (fun i=>[(14,.int .i64 (i:Nat))]) (fun _=>[]) (fun i=>[Fact.pure (i≤xs.length∧(xs.map uC).take i=(ys.map uC).take i)]) (fun i=>xs.length-i) 0 ⟨rfl,trivial⟩ .nil ⟨Has.pure (⟨by omega,rfl⟩),trivial⟩ ?_;rintro i;refine bR (Has.of mT0) fun hinv4=>?_;refine sr<|sp hT ?_;refine nn<|bB<|bK rfl (fun hc15=>?_) (fun hc15=>?_)
 ·have hc15:=of_decide_eq_true hc15;refine bN<|bC<|bB<|bX<|sr<|sp2 hT ?_;refine nn<|bB<|bB<|cZ _ _ [(true,0),(true,1),(true,2),(true,3),(true,4),(true,5),(true,6),(true,7),(true,8),(true,9),(true,10)] dD (by decide+kernel) .nil bI.self ?_;refine puM hT ?_;refine puM hT ?_
  obtain⟨x1,hx2⟩: ∃x',xs[i]?=some x':=⟨_,List.getElem?_eq_getElem (by omega)⟩
  refine stM rfl (bV hT (k:=i) (bM (Has.of mT1)) rfl rfl rfl rfl rfl rfl rfl (by omega)) ?_;refine stM rfl (cI hT (cP.knows (bM (Has.of mT1)) (k:=i) (x:=x1) hx2 0) rfl rfl rfl rfl rfl) ?_;refine puM hT ?_;refine puM hT ?_;refine puM hT ?_
  obtain⟨x3,hx4⟩: ∃x',ys[i]?=some x':=⟨_,List.getElem?_eq_getElem (by omega)⟩
  refine stM rfl (bV hT (k:=i) (bM (Has.of mT3)) rfl rfl rfl rfl rfl rfl rfl (by omega)) ?_;refine stM rfl (cI hT (cP.knows (bM (Has.of mT3)) (k:=i) (x:=x3) hx4 0) rfl rfl rfl rfl rfl) ?_;refine puM hT ?_;refine puM hT ?_;refine cN<|bC<|bK rfl (fun hc27=>?_) (fun hc27=>?_)
  ·have hc27:=bne_iff_ne.1 hc27;refine sr<|sp hT ?_;refine nn<|bG<|bA<|bH<|bA<|bA<|bH<|bA ?_;exact bW () rfl (bF rfl) .nil trivial (tW (tF (xI hx2) (xI hx4) (rowsF_len (by omega))))
  have hc27:=bne_eq_false_iff_eq.1 hc27;refine bN<|bC<|bB<|bE (tyE.sl (.slice x1.addr x1.list.length x1.cap) x1.list) (rowF_s (Has.each (Has.of mT2) (List.mem_of_getElem? hx2))) ?_;refine bE (Fact.each x1.list tyF) (rowF_e (Has.each (Has.of mT3) (List.mem_of_getElem? hx2))) ?_;refine bE (tyE.sl (.slice x3.addr x3.list.length x3.cap) x3.list) (rowF_s (Has.each (Has.of mT6) (List.mem_of_getElem? hx4))) ?_;refine bE (Fact.each x3.list tyF) (rowF_e (Has.each (Has.of mT7) (List.mem_of_getElem? hx4))) ?_;have hrx:=hr x1 (List.mem_of_getElem? hx2);refine bD<|sp2 hT ?_;refine ss (bV hT (k:=i) (bM (Has.of mT5)) rfl rfl rfl rfl rfl rfl rfl (by omega)) ?_;refine ss (cI hT (cP.knows (bM (Has.of mT5)) (k:=i) (x:=x1) hx2 0) rfl rfl rfl rfl rfl) ?_;refine sp2 hT ?_;refine nn<|bX<|dI (ι:=Nat) [(0,_),(1,_),(5,_),(13,_),(14,_),(32,_)] ⟨rfl,rfl,rfl,rfl,rfl,rfl,trivial⟩ (fun j=>[(33,.int .i64 (j:Nat))]) (fun _=>[]) (fun j=>[Fact.pure (j≤x1.list.length∧(x1.list.map TyV.t).take j=(x3.list.map TyV.t).take j)]) (fun j=>x1.list.length-j) 0 ⟨rfl,trivial⟩ .nil ⟨Has.pure (⟨by omega,rfl⟩),trivial⟩ ?_;rintro j;refine bR (Has.of mT0) fun hinv9=>?_;refine sr<|sp hT ?_;refine nn<|bB<|bK rfl (fun hc34=>?_) (fun hc34=>?_)
  ·have hc34:=of_decide_eq_true hc34;refine bN<|bC<|bB<|bX<|sr<|sp2 hT ?_;refine nn<|bB<|cZ _ _ [(true,0),(true,1),(true,2),(true,3),(true,4),(true,5),(true,6),(true,7),(true,8),(true,9),(true,10),(true,11),(true,12),(true,13),(false,14),(true,15)] dD (by decide+kernel) .nil bI.self ?_;refine puM hT ?_;refine puM hT ?_;refine stM rfl (bV hT (k:=i) (bM (Has.of mT6)) rfl rfl rfl rfl rfl rfl rfl (by omega)) ?_;refine stM rfl (cI hT (cP.knows (bM (Has.of mT6)) (k:=i) (x:=x1) hx2 0) rfl rfl rfl rfl rfl) ?_;refine puM hT ?_
   obtain⟨x5,hx6⟩: ∃x',x1.list[j]?=some x':=⟨_,List.getElem?_eq_getElem (by omega)⟩
   refine stM rfl (bV hT (k:=j) (bM (Has.of mT4)) rfl rfl rfl rfl rfl rfl rfl (by omega)) ?_;refine stM rfl (dU hT (cP.knows (bM (Has.of mT4)) (k:=j) (x:=x5) hx6 0) rfl rfl rfl rfl rfl) ?_;refine puM hT ?_;refine puM hT ?_;refine stM rfl (bV hT (k:=i) (bM (Has.of mT8)) rfl rfl rfl rfl rfl rfl rfl (by omega)) ?_;refine stM rfl (cI hT (cP.knows (bM (Has.of mT8)) (k:=i) (x:=x3) hx4 0) rfl rfl rfl rfl rfl) ?_;refine puM hT ?_
   obtain⟨x7,hx8⟩: ∃x',x3.list[j]?=some x':=⟨_,List.getElem?_eq_getElem (by omega)⟩
   refine stM rfl (bV hT (k:=j) (bM (Has.of mT2)) rfl rfl rfl rfl rfl rfl rfl (by omega)) ?_;refine stM rfl (dU hT (cP.knows (bM (Has.of mT2)) (k:=j) (x:=x7) hx8 0) rfl rfl rfl rfl rfl) ?_;refine cL (o:=_) rfl ?_;have hrt:=hrx.2 x5 (List.mem_of_getElem? hx6);refine bQ Tryz.func24 (same9_spec x5 x7 hrt.1 hrt.2) rfl rfl .nil ⟨Has.each (Has.of mT3) (List.mem_of_getElem? hx6),Has.each (Has.of mT1) (List.mem_of_getElem? hx8),trivial⟩ fun _=>?_;refine cK .nil (bI.drop 0) ?_;refine puM hT ?_;refine cN<|bC<|bK rfl (fun hc51=>?_) (fun hc51=>?_)
   ·have hc51:=fV hc51;refine sr<|sp hT ?_;refine nn<|bG<|bH<|bA<|bA<|bH<|bH<|bA<|bA<|bH<|bA ?_;exact bW () rfl (bF rfl) .nil trivial (tW (tF (xI hx2) (xI hx4) (tF (qK hx6) (qK hx8) (bJy ‹_›))))
   have hc51:=fP hc51;refine bN<|cD<|bC<|bD<|sp hT ?_;refine bT (z':=(((j+1):Nat):Int)) (cQ (by omega) (by omega)) ?_;refine sp hT ?_;refine nn ?_;exact cO (j+1) (by omega) ⟨rfl,trivial⟩ ⟨rfl,rfl,rfl,rfl,rfl,rfl,trivial⟩ .nil ⟨Has.pure (⟨by omega,tD hinv9.2 (qK hx6) (qK hx8) (oB ‹_›)⟩),trivial⟩ (bI.drop 1)
  have hc34:=Int.not_lt.1 (of_decide_eq_false hc34);refine dC<|cM<|cM<|dB<|cD<|bC<|bD<|sp hT ?_;refine bT (z':=(((i+1):Nat):Int)) (cQ (by omega) (by omega)) ?_;refine sp hT ?_;refine nn ?_;exact cO (i+1) (by omega) ⟨rfl,trivial⟩ ⟨rfl,rfl,rfl,trivial⟩ .nil ⟨Has.pure (⟨by omega,tD hinv4.2 (xI hx2) (xI hx4) (wL hinv9.2 (by rw [tL];omega) (by rw [tL];omega))⟩),trivial⟩ (bI.drop 6)
 have hc15:=Int.not_lt.1 (of_decide_eq_false hc15);refine dC<|cM<|cM<|dB<|bC<|sr<|sp hT ?_;refine nn<|bG ?_;exact bW () rfl (bF rfl) .nil trivial (eqT_of (wL hinv4.2 (by rw [List.length_map];omega) (by rw [List.length_map];omega)))
theorem lineT_un(N:iL): ∀(l:List dN) (st all:List TyP),nK N (jS l) st all=match nK N l st all with
  | .error f=> .error (0,f.2)
  | .ok r=> .ok r
 | [],st,all=>rfl
 | x::l,st,all=>by
  have e:nK N (jS (x::l)) st all=if (gX N x st).2≠0 then .error (0,(gX N x st).2) else nK N (jS l) ((gX N x st).1::st.drop (gU x)) (all++[(gX N x st).1]):=rfl
  rw [e,nK]
  by_cases h:(gX N x st).2≠0
  ·rw [if_pos h,if_pos h]
  ·rw [if_neg h,if_neg h];exact lineT_un N l _ _
theorem bLw: ∀(ls:List jR) (N:iL) (out:List (List TyP)),mL N (ls.map jR.un) out=((mL N ls out).1,(0,(mL N ls out).2.2))
 | [],N,out=>rfl
 | l::ls,N,out=>by
  have e:mL N ((l::ls).map jR.un) out=match nK N (jS l.items) [] [] with
    | .error f=>([],f)
    | .ok (st,all)=>mL ((qE++l.name,st.getLastD default)::N) (ls.map jR.un) (out++[all]):=rfl
  rw [e,lineT_un,mL]
  cases nK N l.items [] [] with
  | error f=>rfl
  | ok r=>exact bLw ls _ _
theorem insT_un(vars:List Bs): ∀(l:List fX) (N:iL),bKh vars (l.map fX.un) N=bKh vars l N
 | [],N=>rfl
 | x::l,N=>by
  show bKh vars (l.map fX.un) ((nIn++x.name,inT vars x)::N)=bKh vars l ((nIn++x.name,inT vars x)::N);exact insT_un vars l _
theorem check_un(p:gG):rL p.un=rL p:=by
 unfold rL;rw [vars_un];exact insT_un _ _ _
theorem types_un(p:gG):gA p.un=((gA p).1,(0,(gA p).2.2)):=by
 unfold gA;rw [program_un,vars_un,check_un];have e:p.un.inputs=p.inputs.map fX.un:=rfl;rw [e,find_un];split
 ·rfl
 ·cases p.inputs.find? (xM (varsP p)) with
  | some x=>rfl
  | none=>exact bLw _ _ _
theorem types_same{p q:gG}(h:q.un=p.un):(gA q).1=(gA p).1∧(gA q).2.2=(gA p).2.2:=by
 have a:=types_un p;have b:=types_un q;rw [h,a] at b;injection b with b1 b2
 injection b2 with _ b2
 exact⟨b1.symm,b2.symm⟩
def s91:Bs:=[105,110,32,120,32,110,10,111,117,116,32,120,32,99,97,116,32,120]
def s92:Bs:=[105,110,32,120,32,110,10,111,117,116,32,120,32,43,32,49,32,50]
def s93:Bs:=[105,110,32,120,32,110,10,111,117,116,32,49,32,116,97,107,101,32,120]
def s94:Bs:=[111,117,116,32,50,32,51,32,114,104,111,32,49]
theorem p91:(fZ s91).2=(0,0):=by decide+kernel
theorem p92:(fZ s92).2=(0,0):=by decide+kernel
theorem p93:(fZ s93).2=(0,0):=by decide+kernel
theorem p94:(fZ s94).2=(0,0):=by decide+kernel
def tX (s:Bs):List TyP:=(gA (fZ s).1).1.getLast?.getD []
def lastTy(s:Bs):TyP:=(tX s).getLast?.getD default
theorem f91:(gA (fZ s91).1).2=(0,0)∧(gA (fZ s91).1).1.getLast?=some (tX s91)∧(tX s91).getLast?=some (lastTy s91)∧(lastTy s91).sides=[[⟨2,1,0,0,0,0,0⟩]]:=by decide+kernel
theorem f94:(gA (fZ s94).1).2=(0,0)∧(gA (fZ s94).1).1.getLast?=some (tX s94)∧(tX s94).getLast?=some (lastTy s94)∧(lastTy s94).sides.length=2:=by decide+kernel
theorem f92:gA (fZ s92).1=([],(13,91)):=by decide+kernel
theorem f93:gA (fZ s93).1=([],(13,93)):=by decide+kernel
theorem l91:(gA (fZ s91).1).1.length≤1000∧(tX s91).length≤1000:=by decide+kernel
theorem l94:(gA (fZ s94).1).1.length≤1000∧(tX s94).length≤1000:=by decide+kernel
theorem last_at{α β:Type}{g:α→β}{xs:List α}{T:List β}{r:β}(h:xs.map g=T)(h1:T.getLast?=some r): ∃x,xs[xs.length-1]?=some x∧g x=r∧1≤xs.length:=by
 subst h;rw [List.getLast?_eq_getElem?,List.length_map,List.getElem?_map] at h1
 cases e:xs[xs.length-1]? with
 | none=>rw [e] at h1;cases h1
 | some x=>
  rw [e] at h1;cases h1;have:=(List.getElem?_eq_some_iff.1 e).1;exact⟨x,rfl,rfl,by omega⟩
theorem one_pol9{l:List PolV}{q:Pol}(h:cB l=[q]): ∃p,l=[p]∧p.list=q:=by
 match l,h with
 | [p],h=>
  unfold cB at h;simp only [List.map_cons,List.map_nil,List.cons.injEq,and_true] at h;exact⟨p,rfl,h⟩
set_option maxRecDepth 100000 in
theorem bDn(s:Bs)(hs:s.length≤65536)(h0:(fZ s).2=(0,0))(T:List (List TyP))(row:List TyP)(t:TyP)(hT9:gA (fZ s).1=(T,(0,0)))(h1:T.getLast?=some row)(h2:row.getLast?=some t)(hTl:T.length≤1000)(hrl:row.length≤1000):dT Tryz.prog 40 [.string (bs s)] [] [iC] (fun(x:TyV)=> .tuple #[tyC x,.agg #[.int .i64 0,.int .i64 0]]) (fun _=>[]) (fun(x:TyV)=>[tyF x,Fact.pure (x.t=t)]):=by
 have hT:=fF;refine cU Tryz.func40 rfl Tryz.ntmps40 rfl ?_;intro β hM;refine sr<|bY rfl rfl rfl rfl oM rfl fun b1=>?_;refine bY rfl rfl rfl rfl yR rfl fun b2=>?_;refine nn<|sr<|sp hT ?_;have psp:=yT s (Nat.le_trans hs (by decide));rw [h0] at psp;refine bQ Tryz.func18 psp rfl rfl .nil ⟨(Has.of mT0),trivial⟩ fun X3=>?_;refine bR (Has.of mT1) fun hpr=>?_;refine bE (jE.sl (.slice X3.inputs.addr X3.inputs.list.length X3.inputs.cap) X3.inputs.list) (Has.left (Has.left (Has.of mT0))) ?_;refine bE (iK X3.inputs.list) (Has.right (Has.left (Has.of mT1))) ?_;refine bE (mP.sl (.slice X3.lines.addr X3.lines.list.length X3.lines.cap) X3.lines.list) (Has.left (Has.right (Has.of mT2))) ?_;refine bE (kP X3.lines.list) (Has.right (Has.right (Has.of mT3))) ?_;have hrd:=bCn h0;rw [←hpr] at hrd;have hfine:=rV hrd.1;have hok:=hfine.ok hrd.2;refine sp3 hT ?_;refine bY rfl rfl rfl rfl nU rfl fun b4=>?_;refine bY rfl rfl rfl rfl yR rfl fun b5=>?_;refine sto hT kT1 ?_;refine sto hT kT1 ?_;refine nn<|bB<|sr<|ss (ldN hT (bJ .head)) ?_;refine ss (cC rfl rfl (wM)) ?_;refine ss (fQ ⟨0,0⟩ ⟨0,0⟩ rfl rfl rfl) ?_;refine cA (t':=false) (by first | decide | rfl | simp) ?_;refine nn<|cG rfl rfl ?_;refine bN<|bC<|sr<|ss (ldN hT (bJ kT1)) ?_;have tsp:=uH X3 hok.1 hok.2.1 hok.2.2;rw [hpr,hT9] at tsp;refine bQ Tryz.func21 tsp rfl rfl .nil ⟨(Has.of mT6),(Has.of mT3),(Has.of mT2),(Has.of mT1),(Has.of mT0),trivial⟩ fun⟨A6,c7,xs8⟩=>?_;refine jU (v':= .tuple #[.slice A6 xs8.length c7,.agg #[.int .i64 0,.int .i64 0]]) rfl ?_;refine bR (Has.of mT2) fun hts=>?_;refine bE (tK.sl (.slice A6 xs8.length c7) xs8) ((Has.of mT0)) ?_;refine bE (Fact.each xs8 zY) ((Has.of mT2)) ?_;obtain⟨rw0,hx1,hx2,hx3⟩:=last_at hts.1 h1;obtain⟨ty0,hy1,hy2,hy3⟩:=last_at (g:=TyV.t) hx2 h2;have hx4:1≤xs8.length:=hx3;have hxl:xs8.length≤1000:=by have:=congrArg List.length hts.1;rw [List.length_map] at this;have h3:xs8.length=T.length:=this;omega
 have hyl:rw0.list.length≤1000:=by have:=congrArg List.length hx2;rw [tL] at this;omega
 refine bE (zY rw0) (Has.each (Has.of mT0) (List.mem_of_getElem? hx1)) ?_;refine bE (tyE.sl (.slice rw0.addr rw0.list.length rw0.cap) rw0.list) (rowF_s (Has.of mT0)) ?_;refine bE (tyF ty0) (Has.each (rowF_e (Has.of mT1)) (List.mem_of_getElem? hy1)) ?_;refine sp4 hT ?_;refine sto hT .head ?_;refine nn<|bB<|sr<|ss (ldN hT (bJ .head)) ?_;refine ss (cC rfl rfl (wM)) ?_;refine ss (fQ ⟨0,0⟩ ⟨0,0⟩ rfl rfl rfl) ?_;refine cA (t':=false) (by first | decide | rfl | simp) ?_;refine sp4 hT ?_;refine cA (t':=false) (beq_eq_false_iff_ne.2 (by omega)) ?_;refine sp4 hT ?_;refine sp2 hT ?_;refine bT (z':=(((xs8.length-1):Nat):Int)) (cQ (by omega) (by omega)) ?_;refine ss (bV hT (k:=(xs8.length-1)) (bM (Has.of mT4)) rfl rfl rfl rfl rfl rfl rfl (by omega)) ?_;refine ss (cI hT (cP.knows (bM (Has.of mT4)) (k:=(xs8.length-1)) (x:=rw0) hx1 0) rfl rfl rfl rfl rfl) ?_;refine sp2 hT ?_;refine cA (t':=false) (beq_eq_false_iff_ne.2 (by omega)) ?_;refine sp hT ?_;refine nn<|cG rfl rfl ?_;refine bN<|bC<|sr<|sp4 hT ?_;refine bT (z':=(((xs8.length-1):Nat):Int)) (cQ (by omega) (by omega)) ?_;refine ss (bV hT (k:=(xs8.length-1)) (bM (Has.of mT4)) rfl rfl rfl rfl rfl rfl rfl (by omega)) ?_;refine ss (cI hT (cP.knows (bM (Has.of mT4)) (k:=(xs8.length-1)) (x:=rw0) hx1 0) rfl rfl rfl rfl rfl) ?_;refine sp hT ?_;refine nn<|bB<|cZ _ _ [(true,0),(true,1),(true,2),(true,3),(true,4),(true,5),(true,6),(false,7),(false,8)] dD (by decide+kernel) (.cons .head (.cons .head .nil)) bI.self ?_;refine puM hT ?_;refine puM hT ?_;refine puM hT ?_;refine puM hT ?_;refine bT (z':=(((rw0.list.length-1):Nat):Int)) (cQ (by omega) (by omega)) ?_;refine stM rfl (bV hT (k:=(rw0.list.length-1)) (bM (Has.of mT1)) rfl rfl rfl rfl rfl rfl rfl (by omega)) ?_;refine stM rfl (dU hT (cP.knows (bM (Has.of mT1)) (k:=(rw0.list.length-1)) (x:=ty0) hy1 0) rfl rfl rfl rfl rfl) ?_;refine stM rfl (ldN hT (bJ .head)) ?_;refine cL (o:=_) rfl ?_;refine sto hT kT3 ?_;refine cK (.cons kT1 (.cons kT1 .nil)) (bI.drop 0) ?_;refine cL (o:=_) rfl ?_;refine sto hT kT3 ?_;refine cK (.cons kT2 (.cons kT2 .nil)) (bI.drop 0) ?_;refine cN<|bC<|bG ?_;exact bO (ty0:TyV) rfl (bL hT (bJ kT1) rfl rfl rfl rfl) (bL hT (bJ .head) rfl rfl rfl rfl) .nil ⟨(Has.of mT0),Has.pure hy2,trivial⟩ rfl
set_option maxRecDepth 100000 in
theorem zM(s:Bs)(hs:s.length≤65536)(h0:(fZ s).2=(0,0))(f:Flt)(hf:f.2≠0)(hT9:gA (fZ s).1=([],f)):dT Tryz.prog 40 [.string (bs s)] [] [iC] (fun(x:TyV)=> .tuple #[tyC x,.agg #[.int .i64 f.1,.int .i64 f.2]]) (fun _=>[]) (fun(x:TyV)=>[tyF x,Fact.pure (x.t=⟨[],false,[]⟩)]):=by
 have hT:=fF;refine cU Tryz.func40 rfl Tryz.ntmps40 rfl ?_;intro β hM;refine sr<|bY rfl rfl rfl rfl oM rfl fun b1=>?_;refine bY rfl rfl rfl rfl yR rfl fun b2=>?_;refine nn<|sr<|sp hT ?_;have psp:=yT s (Nat.le_trans hs (by decide));rw [h0] at psp;refine bQ Tryz.func18 psp rfl rfl .nil ⟨(Has.of mT0),trivial⟩ fun X3=>?_;refine bR (Has.of mT1) fun hpr=>?_;refine bE (jE.sl (.slice X3.inputs.addr X3.inputs.list.length X3.inputs.cap) X3.inputs.list) (Has.left (Has.left (Has.of mT0))) ?_;refine bE (iK X3.inputs.list) (Has.right (Has.left (Has.of mT1))) ?_;refine bE (mP.sl (.slice X3.lines.addr X3.lines.list.length X3.lines.cap) X3.lines.list) (Has.left (Has.right (Has.of mT2))) ?_;refine bE (kP X3.lines.list) (Has.right (Has.right (Has.of mT3))) ?_;have hrd:=bCn h0;rw [←hpr] at hrd;have hfine:=rV hrd.1;have hok:=hfine.ok hrd.2;refine sp3 hT ?_;refine bY rfl rfl rfl rfl nU rfl fun b4=>?_;refine bY rfl rfl rfl rfl yR rfl fun b5=>?_;refine sto hT kT1 ?_;refine sto hT kT1 ?_;refine nn<|bB<|sr<|ss (ldN hT (bJ .head)) ?_;refine ss (cC rfl rfl (wM)) ?_;refine ss (fQ ⟨0,0⟩ ⟨0,0⟩ rfl rfl rfl) ?_;refine cA (t':=false) (by first | decide | rfl | simp) ?_;refine nn<|cG rfl rfl ?_;refine bN<|bC<|sr<|ss (ldN hT (bJ kT1)) ?_;have tsp:=uH X3 hok.1 hok.2.1 hok.2.2;rw [hpr,hT9] at tsp;refine bQ Tryz.func21 tsp rfl rfl .nil ⟨(Has.of mT6),(Has.of mT3),(Has.of mT2),(Has.of mT1),(Has.of mT0),trivial⟩ fun⟨A6,c7,xs8⟩=>?_;refine jU (v':= .tuple #[.slice A6 xs8.length c7,.agg #[.int .i64 f.1,.int .i64 f.2]]) rfl ?_;refine bR (Has.of mT2) fun hts=>?_;refine bE (tK.sl (.slice A6 xs8.length c7) xs8) ((Has.of mT0)) ?_;refine bE (Fact.each xs8 zY) ((Has.of mT2)) ?_;refine sp4 hT ?_;refine sto hT .head ?_;refine nn<|bB<|sr<|ss (ldN hT (bJ .head)) ?_;refine ss (cC rfl rfl (wM)) ?_;refine ss (fQ ⟨f.1,f.2⟩ ⟨0,0⟩ rfl rfl rfl) ?_;refine cA (t':=true) (flt_bad hf) ?_;refine sp hT ?_;refine sk3 ?_;refine sp2 hT ?_;refine sk4 ?_;refine sk4 ?_;refine sp hT ?_;refine nn<|cH rfl rfl ?_;refine bB<|cZ _ _ [(true,0),(true,1),(false,2),(false,3)] dD (by decide+kernel) (.cons .head (.cons .head .nil)) bI.self ?_;refine stM rfl (cC rfl rfl (uE)) ?_;refine stM rfl (ldN hT (bJ .head)) ?_;refine cL (o:=_) rfl ?_;refine sto hT kT3 ?_;refine cK (.cons kT1 (.cons kT1 .nil)) (bI.drop 0) ?_;refine cL (o:=_) rfl ?_;refine sto hT kT3 ?_;refine cK (.cons kT2 (.cons kT2 .nil)) (bI.drop 0) ?_;refine cN<|bC<|bG<|bA ?_;exact bO (noTy:TyV) rfl (bL hT (bJ kT1) rfl rfl rfl rfl) (bL hT (bJ .head) rfl rfl rfl rfl) .nil ⟨noTy_F,Has.pure rfl,trivial⟩ rfl
set_option maxRecDepth 100000 in
theorem shown9_spec:dT Tryz.prog 20 [] [] [iC] (fun(_:Unit)=> .bool true) (fun _=>[]) (fun _=>[]):=by
 have hT:=fF;refine cU Tryz.func20 rfl Tryz.ntmps20 rfl ?_;intro β hM;refine sr<|sp hT ?_;refine nn<|sr<|bQ Tryz.func40 (bDn s91 (by decide) p91 _ _ _ (Prod.ext rfl f91.1) f91.2.1 f91.2.2.1 l91.1 l91.2) rfl rfl .nil ⟨(Has.of mT0),trivial⟩ fun u1=>?_;refine bR (Has.of mT1) fun hu1=>?_;obtain⟨pl,hpl,hpm⟩:=one_pol9 ((congrArg TyP.sides hu1).trans f91.2.2.2);refine bE (dP u1.sides) (lP (Has.of mT0)) ?_;refine bE (cE.sl (.slice u1.sides.addr u1.sides.list.length u1.sides.cap) u1.sides.list) (dL (Has.of mT0)) ?_;refine bE (cT u1.sides.list) (dO (Has.of mT1)) ?_;refine bR (dS (Has.of mT2)) fun hc_u1s=>?_;refine bE (dP u1.values) (lK (Has.of mT3)) ?_;refine bE (cE.sl (.slice u1.values.addr u1.values.list.length u1.values.cap) u1.values.list) (dL (Has.of mT0)) ?_;refine bE (cT u1.values.list) (dO (Has.of mT1)) ?_;refine bR (dS (Has.of mT2)) fun hc_u1v=>?_;refine bE (mI.sl (.slice pl.addr pl.list.length pl.cap) pl.list) (vN (Has.each (Has.of mT3) (by rw [hpl];exact List.mem_singleton.2 rfl))) ?_;have hpl1:u1.sides.list.length=1:=by rw [hpl];rfl
 have hpm1:pl.list.length=1:=by rw [hpm];rfl
 refine sp3 hT ?_;refine bY rfl rfl rfl rfl oM rfl fun b1=>?_;refine bY rfl rfl rfl rfl yR rfl fun b2=>?_;refine sto hT kT1 ?_;refine sto hT kT1 ?_;refine nn<|sr<|bQ Tryz.func40 (zM s92 (by decide) p92 (13,91) (by decide) f92) rfl rfl .nil ⟨(Has.of mT9),trivial⟩ fun u2=>?_;refine bR (Has.of mT1) fun hu2=>?_;refine sp3 hT ?_;refine bY rfl rfl rfl rfl oM rfl fun b3=>?_;refine bY rfl rfl rfl rfl yR rfl fun b4=>?_;refine sto hT kT1 ?_;refine sto hT kT1 ?_;refine nn<|sr<|bQ Tryz.func40 (zM s93 (by decide) p93 (13,93) (by decide) f93) rfl rfl .nil ⟨(Has.of rK),trivial⟩ fun u3=>?_;refine bR (Has.of mT1) fun hu3=>?_;refine sp3 hT ?_;refine bY rfl rfl rfl rfl oM rfl fun b5=>?_;refine bY rfl rfl rfl rfl yR rfl fun b6=>?_;refine sto hT kT1 ?_;refine sto hT kT1 ?_;refine nn<|sr<|bQ Tryz.func40 (bDn s94 (by decide) p94 _ _ _ (Prod.ext rfl f94.1) f94.2.1 f94.2.2.1 l94.1 l94.2) rfl rfl .nil ⟨(Has.of lD),trivial⟩ fun u4=>?_;refine bR (Has.of mT1) fun hu4=>?_;have hu41:u4.sides.list.length=2:=by have:=(congrArg (fun t:TyP=>t.sides.length) hu4).trans f94.2.2.2;have this:(cB u4.sides.list).length=2:=this;rwa [bU] at this
 refine bE (dP u4.sides) (lP (Has.of mT0)) ?_;refine bE (cE.sl (.slice u4.sides.addr u4.sides.list.length u4.sides.cap) u4.sides.list) (dL (Has.of mT0)) ?_;refine bE (cT u4.sides.list) (dO (Has.of mT1)) ?_;refine bR (dS (Has.of mT2)) fun hc_u4s=>?_;refine bE (dP u4.values) (lK (Has.of mT3)) ?_;refine bE (cE.sl (.slice u4.values.addr u4.values.list.length u4.values.cap) u4.values.list) (dL (Has.of mT0)) ?_;refine bE (cT u4.values.list) (dO (Has.of mT1)) ?_;refine bR (dS (Has.of mT2)) fun hc_u4v=>?_;refine sp3 hT ?_;refine bY rfl rfl rfl rfl oM rfl fun b7=>?_;refine bY rfl rfl rfl rfl yR rfl fun b8=>?_;refine sto hT kT1 ?_;refine sto hT kT1 ?_;refine nn<|bB<|sr<|ss (ldN hT (bJ kT6)) ?_;refine ss (cC rfl rfl (wM)) ?_;refine ss (fQ ⟨0,0⟩ ⟨0,0⟩ rfl rfl rfl) ?_;refine cA (t':=false) (by first | decide | rfl | simp) ?_;refine sp hT ?_;refine ss (ldN hT (bJ .head)) ?_;refine ss (cC rfl rfl (wM)) ?_;refine ss (fQ ⟨0,0⟩ ⟨0,0⟩ rfl rfl rfl) ?_;refine cA (t':=false) (by first | decide | rfl | simp) ?_;refine sp3 hT ?_;refine ss (ldO hT (bJ kT7)) ?_;refine sp2 hT ?_;refine cA (t':=false) (bne_eq_false_iff_eq.2 (by omega)) ?_;refine sp3 hT ?_;refine ss (ldO hT (bJ kT7)) ?_;refine ss (bV hT (k:=0) (bM (Has.of (.tail _ (.tail _ (.tail _ (.tail _ (.tail _ (.tail _ (.tail _ (.tail _ (.tail _ (.tail _ (.tail _ (.tail _ (.tail _ (.tail _ (.tail _ (.tail _ (.tail _ mT0))))))))))))))))))) rfl rfl rfl rfl rfl rfl rfl (by omega)) ?_;refine ss (cI hT (cP.knows (bM (Has.of (.tail _ (.tail _ (.tail _ (.tail _ (.tail _ (.tail _ (.tail _ (.tail _ (.tail _ (.tail _ (.tail _ (.tail _ (.tail _ (.tail _ (.tail _ (.tail _ (.tail _ mT0))))))))))))))))))) (k:=0) (x:=pl) (by rw [hpl];rfl) 0) rfl rfl rfl rfl rfl) ?_;refine sp2 hT ?_;refine cA (t':=false) (bne_eq_false_iff_eq.2 (by omega)) ?_;refine sp3 hT ?_;refine ss (ldO hT (bJ kT1)) ?_;refine sp2 hT ?_;refine cA (t':=false) (bne_eq_false_iff_eq.2 (by omega)) ?_;refine sp hT ?_;refine nn<|cG rfl rfl ?_;refine bN<|bC<|sr<|sp hT ?_;refine ss (ldO hT (bJ kT7)) ?_;refine ss (bV hT (k:=0) (bM (Has.of (.tail _ (.tail _ (.tail _ (.tail _ (.tail _ (.tail _ (.tail _ (.tail _ (.tail _ (.tail _ (.tail _ (.tail _ (.tail _ (.tail _ (.tail _ (.tail _ (.tail _ mT0))))))))))))))))))) rfl rfl rfl rfl rfl rfl rfl (by omega)) ?_;refine ss (cI hT (cP.knows (bM (Has.of (.tail _ (.tail _ (.tail _ (.tail _ (.tail _ (.tail _ (.tail _ (.tail _ (.tail _ (.tail _ (.tail _ (.tail _ (.tail _ (.tail _ (.tail _ (.tail _ (.tail _ mT0))))))))))))))))))) (k:=0) (x:=pl) (by rw [hpl];rfl) 0) rfl rfl rfl rfl rfl) ?_;refine ss (bV hT (k:=0) (bM (Has.of lC)) rfl rfl rfl rfl rfl rfl rfl (by omega)) ?_;refine sp hT ?_;refine ss (cI hT (cP.knows (bM (Has.of lC)) (k:=0) (x:=(⟨2,1,0,0,0,0,0⟩:Mono)) (by rw [hpm];rfl) 0) rfl rfl rfl rfl rfl) ?_;refine sp hT ?_;refine cA (t':=true) (by rfl) ?_;refine sp hT ?_;refine ss (ldN hT (bJ kT4)) ?_;refine ss (cC rfl rfl (uL _ _)) ?_;refine ss (rT ⟨13,91⟩ ⟨13,91⟩ rfl rfl rfl) ?_;refine cA (t':=true) (by first | decide | rfl | simp) ?_;refine sp2 hT ?_;refine ss (ldN hT (bJ kT2)) ?_;refine ss (cC rfl rfl (uL _ _)) ?_;refine ss (rT ⟨13,93⟩ ⟨13,93⟩ rfl rfl rfl) ?_;refine cA (t':=true) (by first | decide | rfl | simp) ?_;refine sp2 hT ?_;refine nn<|bG ?_;exact bW () rfl (bF rfl) .nil trivial (rfl)
theorem lineT_wf{N:iL}(hN:nF N): ∀{l:List dN} {st all:List TyP} {r:List TyP×List TyP},nC l st.length=some 1→(∀t∈st,WfT t)→(∀t∈all,WfT t)→nK N l st all= .ok r→(∀t∈r.1,WfT t)∧(∀t∈r.2,WfT t)∧r.2.length=all.length+l.length∧r.1.length=1
 | [],st,all,r,hd,hs,ha,h=>by
  cases h;rw [nC] at hd;injection hd with hd
  exact⟨hs,ha,by simp,hd⟩
 | x::l,st,all,r,hd,hs,ha,h=>by
  rw [nC] at hd;split at hd
  ·rename_i hb;rw [nK] at h;split at h
   ·cases h
   ·rename_i he;have he:(gX N x st).2=0:=by simpa using he
    have hw:=item_wf hN hs hb.1 (fun e=>(hb.2.2.2 e).1) ⟨hb.2.1,hb.2.2.1⟩ he;have hl:((gX N x st).1::st.drop (gU x)).length=st.length-gU x+1:=by simp
    obtain⟨a,b,c,d⟩:=lineT_wf hN (by rw [hl];exact hd) (fun t ht=>by
     rcases List.mem_cons.1 ht with rfl | ht
     ·exact hw
     ·exact hs t (List.mem_of_mem_drop ht)) (fun t ht=>by
     rcases List.mem_append.1 ht with ht | ht
     ·exact ha t ht
     ·rw [List.mem_singleton.1 ht];exact hw) h
    exact⟨a,b,by rw [c,List.length_append,List.length_cons];simp;omega,d⟩
  ·cases hd
theorem bLj: ∀{ls:List jR} {N:iL} {out:List (List TyP)},nF N→(∀l∈ls,nC l.items 0=some 1∧l.items.length≤255)→(∀o∈out,o.length≤255∧ ∀t∈o,WfT t)→(∀o∈(mL N ls out).1,o.length≤255∧ ∀t∈o,WfT t)∧(mL N ls out).1.length≤out.length+ls.length
 | [],N,out,_,_,ho=>⟨ho,by simp [mL]⟩
 | l::ls,N,out,hN,hl,ho=>by
  rw [mL];have hd:=hl l (List.mem_cons_self ..)
  cases e:nK N l.items [] [] with
  | error f=>exact⟨fun o h=>(by cases h),by simp⟩
  | ok r=>
   obtain⟨a,b,c,d⟩:=lineT_wf hN hd.1 (fun t h=>(by cases h)) (fun t h=>(by cases h)) e;obtain⟨st,all⟩:=r
   have hst:WfT (st.getLastD default):=by
    match st,d with
    | [t],_=>exact a t (List.mem_singleton.2 rfl)
   have:=bLj (ls:=ls) (N:=(qE++l.name,st.getLastD default)::N) (out:=out++[all]) (fun q hq=>by
    rcases List.mem_cons.1 hq with rfl | hq
    ·exact hst
    ·exact hN q hq) (fun m hm=>hl m (List.mem_cons_of_mem _ hm)) (fun o h=>by
    rcases List.mem_append.1 h with h | h
    ·exact ho o h
    ·rw [List.mem_singleton.1 h]
     exact⟨by have:=hd.2;simp at c;omega,b⟩)
   refine⟨this.1,Nat.le_trans this.2 ?_⟩;simp;omega
theorem types_wf(p:gG):(∀o∈(gA p).1,o.length≤255∧ ∀t∈o,WfT t)∧(gA p).1.length≤64:=by
 unfold gA;split
 ·exact⟨fun o h=>(by cases h),by simp⟩
 ·rename_i hr;have hr:(dF p).2=true:=by simpa using hr
  cases p.inputs.find? (xM (varsP p)) with
  | some x=>exact⟨fun o h=>(by cases h),by simp⟩
  | none=>
   have hf:=rV hr;have hd:=bEh hr;have:=bLj (ls:=p.lines) (N:=rL p) (out:=[]) (check_wf hr) (fun l hl=>⟨hd l hl,(hf.line l hl).2.1⟩) (fun o h=>(by cases h));exact⟨this.1,Nat.le_trans this.2 (by have:=hf.lns;simp;omega)⟩
theorem rows_few{xs:List (Sl TyV)}{p:gG}(h:xs.map uC=(gA p).1):xs.length≤140737488355328:=by
 have:=(types_wf p).2;rw [←h,List.length_map] at this;omega
theorem rows_big{xs:List (Sl TyV)}{p:gG}(h:xs.map uC=(gA p).1): ∀x∈xs,x.list.length≤140737488355328∧ ∀t∈x.list,t.sides.list.length≤140737488355328∧t.values.list.length≤140737488355328:=fun x hx=>by
 obtain⟨h1,h2⟩:=(types_wf p).1 (uC x) (by rw [←h];exact List.mem_map_of_mem hx);rw [tL] at h1;refine⟨by omega,fun t ht=>?_⟩;have hw:=h2 t.t (List.mem_map_of_mem ht);have a:=vE hw;have b:=bFr hw;omega
end Go.Proofs.YtbgdphbebhjpiaaGreatDoor
namespace Go.Proofs.YtbgdphbebhjpiaaGreatDoor.typePlaces
open Go.ChangeShapes Go.WideShapes Go.ChangeAt Go.RowKit
set_option maxRecDepth 100000 in
theorem law_spec(P:ProgV)(hP:pS P)(hl1:P.inputs.list.length≤140737488355328)(hl2:P.lines.list.length≤140737488355328):dT Tryz.prog 9 [.agg #[.slice P.inputs.addr P.inputs.list.length P.inputs.cap,.slice P.lines.addr P.lines.list.length P.lines.cap]] [] [iC,jE.sl (.slice P.inputs.addr P.inputs.list.length P.inputs.cap) P.inputs.list,iK P.inputs.list,mP.sl (.slice P.lines.addr P.lines.list.length P.lines.cap) P.lines.list,kP P.lines.list] (fun(_:Unit)=> .bool true) (fun _=>[]) (fun _=>[]):=by
 have hT:=fF;refine cU Tryz.func9 rfl Tryz.ntmps9 rfl ?_;intro β hM;refine sr<|gP rfl rfl rfl rfl rfl rfl fun b1=>?_;refine sp hT ?_;refine nn<|sr<|bQ Tryz.func20 (shown9_spec) rfl rfl .nil ⟨Has.of mT0,trivial⟩ fun _=>?_;refine sp hT ?_;refine nn<|sr<|ss (ldN hT (bJ .head)) ?_;refine bQ Tryz.func27 (sShow_spec P hP hl1 hl2) rfl rfl .nil ⟨(Has.of mT0),(Has.of mT1),(Has.of mT2),(Has.of mT3),(Has.of mT4),trivial⟩ fun _=>?_;refine sp4 hT ?_;refine sp hT ?_;refine nn<|bB<|sr<|sp2 hT ?_;refine nn<|bK rfl (fun hc19=>?_) (fun hc19=>?_)
 ·have hc19:=bne_iff_ne.1 hc19;refine sr<|sp2 hT ?_;refine nn<|bG<|bA ?_;exact bW () rfl (bF rfl) .nil trivial (rfl)
 have hc19:=bne_eq_false_iff_eq.1 hc19;refine bN<|bC<|sr<|sp hT ?_;refine bQ Tryz.func18 (yT (lR P.pr).1 (Nat.le_trans (show_len hc19) (by decide))) rfl rfl .nil ⟨(Has.of mT0),trivial⟩ fun X2=>?_;refine bR (Has.of mT1) fun hprq=>?_;refine bE (jE.sl (.slice X2.inputs.addr X2.inputs.list.length X2.inputs.cap) X2.inputs.list) (Has.left (Has.left (Has.of mT0))) ?_;refine bE (iK X2.inputs.list) (Has.right (Has.left (Has.of mT1))) ?_;refine bE (mP.sl (.slice X2.lines.addr X2.lines.list.length X2.lines.cap) X2.lines.list) (Has.left (Has.right (Has.of mT2))) ?_;refine bE (kP X2.lines.list) (Has.right (Has.right (Has.of mT3))) ?_;have hback:=back_law (rng_of hP) hc19;have hrd:=bCn hback.2.1;rw [←hprq] at hback hrd;have hfine:=rV hrd.1;have hokq:=hfine.ok hrd.2;have hms:=types_same hback.2.2.symm;refine sp3 hT ?_;refine bY rfl rfl rfl rfl nU rfl fun b3=>?_;refine bY rfl rfl rfl rfl yR rfl fun b4=>?_;refine sto hT kT1 ?_;refine sto hT kT1 ?_;refine nn<|sr<|ss (ldN hT (bJ kT2)) ?_;refine bQ Tryz.func21 (uH P hP hl1 hl2) rfl rfl .nil ⟨(Has.of mT6),(Has.of mT7),(Has.of mT8),(Has.of mT9),(Has.of qB),trivial⟩ fun⟨A5,c6,xs7⟩=>?_;refine jU (v':= .tuple #[.slice A5 xs7.length c6,.agg #[.int .i64 (gA P.pr).2.1,.int .i64 (gA P.pr).2.2]]) rfl ?_;refine bR (Has.of mT2) fun htp=>?_;refine bE (tK.sl (.slice A5 xs7.length c6) xs7) ((Has.of mT0)) ?_;refine bE (Fact.each xs7 zY) ((Has.of mT2)) ?_;have htp1:xs7.map uC=(gA P.pr).1:=htp.1;refine sp3 hT ?_;refine bY rfl rfl rfl rfl yR rfl fun b8=>?_;refine sp hT ?_;refine sto hT .head ?_;refine nn<|sr<|ss (ldN hT (bJ kT2)) ?_;refine bQ Tryz.func21 (uH X2 hokq.1 hokq.2.1 hokq.2.2) rfl rfl .nil ⟨(Has.of rK),(Has.of mT8),(Has.of mT7),(Has.of mT6),(Has.of mT5),trivial⟩ fun⟨A9,c10,xs11⟩=>?_;refine jU (v':= .tuple #[.slice A9 xs11.length c10,.agg #[.int .i64 (gA X2.pr).2.1,.int .i64 (gA X2.pr).2.2]]) rfl ?_;refine bR (Has.of mT2) fun htq=>?_;refine bE (tK.sl (.slice A9 xs11.length c10) xs11) ((Has.of mT0)) ?_;refine bE (Fact.each xs11 zY) ((Has.of mT2)) ?_;have htq1:xs11.map uC=(gA X2.pr).1:=htq.1;refine sp3 hT ?_;refine bY rfl rfl rfl rfl yR rfl fun b12=>?_;refine sp hT ?_;refine sto hT .head ?_;refine nn<|sr<|sp2 hT ?_;refine ss (ldN hT (bJ kT2)) ?_;refine ss (cC rfl rfl (wM)) ?_;refine ss (rT ⟨(fZ (lR P.pr).1).2.1,(fZ (lR P.pr).1).2.2⟩ ⟨0,0⟩ rfl rfl rfl) ?_;refine cA (t':=true) (flt_t hback.2.1) ?_;refine sp3 hT ?_;refine ss (ldO hT (fN kT1)) ?_;refine sp hT ?_;refine ss (ldO hT (fN .head)) ?_;refine sp hT ?_;refine cA (t':=true) (by rw [beq_iff_eq];exact hms.2) ?_;refine sp4 hT ?_;refine bQ Tryz.func23 (sameL9_spec A5 A9 c6 c10 xs7 xs11 (rows_few htp1) (rows_big htp1)) rfl rfl .nil ⟨(Has.of mT6),(Has.of mT5),(Has.of mT1),(Has.of mT0),trivial⟩ fun _=>?_;refine cA (t':=true) (decide_eq_true (by rw [htp1,htq1];exact hms.1)) ?_;refine sp2 hT ?_;refine nn<|bG ?_;exact bW () rfl (bF rfl) .nil trivial (rfl)
end Go.Proofs.YtbgdphbebhjpiaaGreatDoor.typePlaces
