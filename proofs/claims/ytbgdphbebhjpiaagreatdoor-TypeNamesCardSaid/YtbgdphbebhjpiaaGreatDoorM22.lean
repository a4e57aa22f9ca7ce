/- Texts of one proof, one behind the other: WfP, TypeS, SamT, TypU, FreshP, NamesL, Shown9, TypL. -/
import Derived.Test.YtbgdphbebhjpiaaGreatDoorM21
import Derived.Test.YtbgdphbebhjpiaaGreatDoorM15
import Derived.Test.YtbgdphbebhjpiaaGreatDoorM14
import Derived.Test.YtbgdphbebhjpiaaGreatDoorM16
import Derived.Test.YtbgdphbebhjpiaaGreatDoorM6
namespace Go.Proofs.YtbgdphbebhjpiaaGreatDoor
open Go.RowKit
theorem nH(n:Int):fF (numT n)=true:=bDl n
theorem zipT_len{op:pR}: ∀{X Y l:List Pol},xH op X Y=some l→l.length=X.length
 | [],_,l,h=>by cases h;rfl
 | _::_,[],_,h=>by cases h
 | p::x,q::y,l,h=>by
  unfold xH at h;split at h
  ·cases h
  ·cases e:xH op x y with
   | none=>rw [e] at h;cases h
   | some k=>
    rw [e] at h;cases h;simp [zipT_len e]
theorem zipT_all{op:pR}{g:Pol→Prop}(ho: ∀p q,g (op p q).1): ∀{X Y l:List Pol},xH op X Y=some l→ ∀v∈l,g v
 | [],_,l,h=>by cases h;intro v hv;cases hv
 | _::_,[],_,h=>by cases h
 | p::x,q::y,l,h=>by
  unfold xH at h;split at h
  ·cases h
  ·cases e:xH op x y with
   | none=>rw [e] at h;cases h
   | some k=>
    rw [e] at h;cases h;intro v hv
    rcases List.mem_cons.1 hv with rfl | hv
    ·exact ho p q
    ·exact zipT_all ho e v hv
def zS (op:pR):Prop:= ∀p q,fF (op p q).1=true
theorem addR:zS addO:=fun p q=>oT p q 1
theorem subR:zS vJ:=fun p q=>oT p q (-1)
theorem mulR:zS pP:=fun p q=>bBl p q
theorem opR{f:Int}{op:pR}(h:uU f=some op):zS op:=by
 unfold uU at h;split at h
 ·cases h;exact addR
 ·split at h
  ·cases h;exact subR
  ·split at h
   ·cases h;exact mulR
   ·cases h
theorem repT_len(x:List Pol)(n:Nat)(h:x.length=1):(repT x n).length=n:=by
 unfold repT;rw [List.length_flatten];simp [h]
theorem leftT_len{a b:TyP}(ha:WfT a)(h1:a.known=true):(uO a b).length=if a.sides=[]∧b.sides≠[] then b.values.length else a.values.length:=by
 unfold uO;split
 ·rename_i h;exact repT_len _ _ (xE ha h1 h.1)
 ·rfl
theorem eachT_wf{op:Option pR}{a b:TyP}(ho: ∀o,op=some o→zS o)(ha:WfT a):
  (∀v∈(kN op a b).1,fF v=true)∧((kN op a b).2=true→a.known=true∧b.known=true∧(kN op a b).1.length=if a.sides=[]∧b.sides≠[] then b.values.length else a.values.length)∧((kN op a b).2=false→(kN op a b).1=[]):=by
 cases op with
 | none=>exact⟨fun v h=>(by cases h),fun h=>(by cases h),fun _=>rfl⟩
 | some o=>
  by_cases hk:a.known=false∨b.known=false
  ·rw [bBy hk];exact⟨fun v h=>(by cases h),fun h=>(by cases h),fun _=>rfl⟩
  ·have h1:a.known=true:=by cases h:a.known;exact absurd (.inl h) hk;rfl
   have h2:b.known=true:=by cases h:b.known;exact absurd (.inr h) hk;rfl
   cases e:xH o (uO a b) (sE a b) with
   | none=>
    rw [rC e h1 h2];exact⟨fun v h=>(by cases h),fun h=>(by cases h),fun _=>rfl⟩
   | some l=>
    rw [qU e h1 h2];exact⟨zipT_all (g:=fun v=>fF v=true) (ho o rfl) e,fun _=>⟨h1,h2,by rw [zipT_len e,leftT_len ha h1]⟩,fun h=>(by cases h)⟩
theorem lN{S:List Pol}(h:S.length≤4)(k: ∀s∈S,fF s=true):WfT ⟨S,false,[]⟩:=⟨h,k,fun _ h=>(by cases h),fun h=>(by cases h),fun _=>rfl⟩
theorem literal_wf{nums:List Int}(h:nums≠[]):WfT (jM nums):=by
 have hs:(if 1<nums.length then [numT nums.length] else ([]:List Pol)).length≤4∧ ∀s∈(if 1<nums.length then [numT nums.length] else ([]:List Pol)),fF s=true:=by
  split
  ·exact⟨by simp,fun s hs=>by rw [List.mem_singleton.1 hs];exact nH _⟩
  ·exact⟨by simp,fun s hs=>(by cases hs)⟩
 unfold jM;split
 ·exact lN hs.1 hs.2
 ·rename_i hn;rw [not_or] at hn;refine⟨hs.1,hs.2,fun v hv=>?_,fun _=>⟨by simp;omega,?_⟩,fun h=>(by cases h)⟩
  ·obtain⟨n,_,rfl⟩:=List.mem_map.1 hv;exact nH n
  ·show(if _ then _ else _)=_∧_∨(if _ then _ else _)=_;rw [List.length_map];split
   ·exact .inr rfl
   ·refine .inl ⟨rfl,?_⟩
    cases nums with
    | nil=>exact absurd rfl h
    | cons a l=>simp at*;omega
theorem mul1: ∀k:Fin 5,pP (numT 1) (numT (k.1:Nat))=(numT (k.1:Nat),0):=by decide+kernel
theorem add_num: ∀j k:Fin 5,(cX (numT (j.1:Nat)) (numT (k.1:Nat)) 1).1=numT ((j.1+k.1:Nat):Int):=by decide+kernel
theorem sub_num: ∀j k:Fin 5,k.1≤j.1→(cX (numT (j.1:Nat)) (numT (k.1:Nat)) (-1)).1=numT ((j.1-k.1:Nat):Int):=by decide+kernel
theorem bEh: ∀{S:List Pol} {p q:Pol},fF p=true→oM p S=some q→fF q=true
 | [],p,q,hp,h=>by cases h;exact hp
 | s::r,p,q,hp,h=>by
  unfold oM at h;split at h
  ·cases h
  ·exact bEh (bBl p s) h
theorem wf_head{a:TyP}(h:WfT a)(k:a.known=true)(hs:a.sides=[]):fF (a.values.headD [])=true:=by
 have:=xE h k hs
 match hv:a.values,this with
 | [v],_=>exact h.vr v (by rw [hv];exact List.mem_singleton.2 rfl)
theorem negW:WfT ⟨[],true,[[]]⟩:=⟨by simp,fun _ h=>(by cases h),fun v h=>by rw [List.mem_singleton.1 h];rfl,fun _=>⟨by simp,.inl ⟨rfl,rfl⟩⟩,fun h=>(by cases h)⟩
theorem monad_wf{f:Int}{a:TyP}(ha:WfT a):WfT (gQ f a).1:=by
 unfold gQ;split
 ·split
  ·exact ha
  ·rename_i hs;split
   ·exact ha
   ·rename_i hk;split
    ·exact ha
    ·exact lN (by simp) (fun s h=>by rw [List.mem_singleton.1 h];exact wf_head ha (by simpa using hk) (by simpa using hs))
 ·split
  ·refine⟨by simp,fun s h=>?_,ha.sr,fun _=>⟨ha.len,.inr rfl⟩,fun h=>(by cases h)⟩;rw [List.mem_singleton.1 h];exact nH _
  ·split
   ·split
    ·exact ha
    ·rename_i p hp;refine⟨by simp,fun s h=>?_,ha.vr,fun k=>⟨(ha.kn k).1,.inr ?_⟩,ha.un⟩
     ·rw [List.mem_singleton.1 h];exact bEh (nH 1) hp
     ·have hl:=(ha.kn k).1
      rcases (ha.kn k).2 with h | h
      ·rw [h.1] at hp;cases hp;show [numT 1]=[numT _];rw [h.2];rfl
      ·rw [h] at hp;have hm:=mul1 ⟨a.values.length,by omega⟩;unfold oM at hp;dsimp only at hm;rw [hm] at hp;cases hp;rfl
   ·split
    ·dsimp only;split
     ·refine⟨ha.len,ha.sr,fun v h=>ha.vr v (List.mem_reverse.1 h),fun k=>?_,fun k=>by show a.values.reverse=[];rw [ha.un k];rfl⟩;show a.values.reverse.length≤4∧(a.sides=[]∧a.values.reverse.length=1∨a.sides=[numT a.values.reverse.length]);rw [List.length_reverse];exact ha.kn k
     ·exact ha
    ·split
     ·refine⟨by show a.sides.reverse.length≤4;rw [List.length_reverse];exact ha.len,fun s h=>ha.sr s (List.mem_reverse.1 h),ha.vr,fun k=>⟨(ha.kn k).1,?_⟩,ha.un⟩
      rcases (ha.kn k).2 with h | h
      ·exact .inl ⟨by show a.sides.reverse=[];rw [h.1];rfl,h.2⟩
      ·exact .inr (by show a.sides.reverse=_;rw [h];rfl)
     ·split
      ·exact ha
      ·split
       ·obtain⟨e1,e2,e3⟩:=eachT_wf (op:=some vJ) (b:=a) (fun o h=>by cases h;exact subR) negW;refine⟨ha.len,ha.sr,e1,fun k=>?_,e3⟩;obtain⟨_,k2,k3⟩:=e2 k;show(kN (some vJ) ⟨[],true,[[]]⟩ a).1.length≤4∧(a.sides=[]∧(kN (some vJ) ⟨[],true,[[]]⟩ a).1.length=1∨a.sides=[numT (kN (some vJ) ⟨[],true,[[]]⟩ a).1.length]);rw [k3];split
        ·exact⟨pD ha,(ha.kn k2).2⟩
        ·rename_i hs;refine⟨by simp,.inl ⟨?_,rfl⟩⟩
         simpa using hs
       ·exact lN ha.len ha.sr
theorem rho_wf{a b:TyP}(ha:WfT a):WfT (yL a b).1:=by
 unfold yL;split
 ·exact ha
 ·split
  ·exact ha
  ·split
   ·exact ha
   ·split
    ·exact ha
    ·exact lN (pD ha) ha.vr
theorem cut_all{tk:Bool}{n:Int}{l:List Pol}{g:Pol→Prop}(h: ∀v∈l,g v): ∀v∈uX tk n l,g v:=by
 unfold uX;split
 ·exact fun v hv=>h v (List.mem_of_mem_take hv)
 ·exact fun v hv=>h v (List.mem_of_mem_drop hv)
theorem cut_len{tk:Bool}{n:Int}{l:List Pol}(h:max n (-n)≤l.length):(uX tk n l).length=if tk=true then (max n (-n)).toNat else l.length-(max n (-n)).toNat:=by
 unfold uX;cases tk
 ·rw [if_neg (show ¬(false=true) by decide)]
  by_cases hn:(0:Int)≤n
  ·rw [decide_eq_true hn,if_neg (by decide),List.length_drop,if_neg (by omega)];omega
  ·rw [decide_eq_false hn,if_pos rfl,List.length_take,if_pos (by omega)];omega
 ·rw [if_pos (show true=true from rfl)]
  by_cases hn:(0:Int)≤n
  ·rw [decide_eq_true hn,if_pos rfl,List.length_take,if_neg (by omega)];omega
  ·rw [decide_eq_false hn,if_neg (by decide),List.length_drop,if_pos (by omega)];omega
theorem bIv{S:List Pol}{s:Pol}(h:s∈S.tail):s∈S:=List.mem_of_mem_tail h
theorem part_wf{tk:Bool}{a b:TyP}(ha:WfT a)(hb:WfT b):WfT (lU tk a b).1:=by
 unfold lU;split
 ·exact ha
 ·rename_i hs;rw [not_or] at hs;split
  ·exact ha
  ·split
   ·exact ha
   ·rename_i n hn;split
    ·exact ha
    ·rename_i hc;have hc:gR (b.sides.headD []) (max n (-n))=true:=by simpa using hc
     have hlen: ∀p:Pol,(p::b.sides.tail).length≤4:=fun p=>by
      have:=hb.len;have h0:b.sides≠[]:=hs.2
      cases e:b.sides with
      | nil=>exact absurd e h0
      | cons s l=>rw [e] at this;exact this
     have hm:b.known=true→b.sides=[numT b.values.length]∧max n (-n)≤b.values.length∧b.values.length≤4:=fun k=>by
      rcases (hb.kn k).2 with h | h
      ·exact absurd h.1 hs.2
      ·rw [h] at hc;exact⟨h,bJq hc,(hb.kn k).1⟩
     have hun:b.known=false→(if b.known=true then uX tk n b.values else b.values)=[]:=fun k=>by rw [k];exact hb.un k
     have hvr: ∀v∈(if b.known=true then uX tk n b.values else b.values),fF v=true:=by
      split
      ·exact cut_all hb.vr
      ·exact hb.vr
     split
     ·rename_i ht;subst ht;refine⟨hlen _,fun s h=>?_,hvr,fun k=>?_,hun⟩
      ·rcases List.mem_cons.1 h with rfl | h
       ·exact nH _
       ·exact hb.sr s (bIv h)
      ·have k:b.known=true:=k;obtain⟨h1,h2,h3⟩:=hm k;show(if b.known=true then uX true n b.values else b.values).length≤4∧(_∨numT (max n (-n))::b.sides.tail=[numT (if b.known=true then uX true n b.values else b.values).length]);rw [if_pos k,cut_len h2,if_pos rfl,h1];refine⟨by omega,.inr ?_⟩;rw [show(((max n (-n)).toNat:Nat):Int)=max n (-n) by omega];rfl
     ·rename_i ht;have ht:tk=false:=by simpa using ht
      subst ht;split
      ·exact ha
      ·refine⟨hlen _,fun s h=>?_,hvr,fun k=>?_,hun⟩
       ·rcases List.mem_cons.1 h with rfl | h
        ·exact oT _ _ _
        ·exact hb.sr s (bIv h)
       ·have k:b.known=true:=k;obtain⟨h1,h2,h3⟩:=hm k;show(if b.known=true then uX false n b.values else b.values).length≤4∧(_∨(cX (b.sides.headD []) (numT (max n (-n))) (-1)).1::b.sides.tail=[numT (if b.known=true then uX false n b.values else b.values).length]);rw [if_pos k,cut_len h2,if_neg (by decide),h1];refine⟨by omega,.inr ?_⟩;have hx:=sub_num ⟨b.values.length,by omega⟩ ⟨(max n (-n)).toNat,by omega⟩ (by show(max n (-n)).toNat≤b.values.length;omega);dsimp only at hx;rw [show(((max n (-n)).toNat:Nat):Int)=max n (-n) by omega] at hx;show(cX (numT b.values.length) _ _).1::[]=_;rw [hx]
theorem oneT_num{a:TyP}(ha:WfT a)(k:a.known=true):dV a.sides=[numT a.values.length]:=by
 unfold dV
 rcases (ha.kn k).2 with h | h
 ·rw [if_pos h.1,h.2];rfl
 ·rw [h,if_neg (by simp)]
theorem oneT_right{a:TyP}(ha:WfT a): ∀s∈dV a.sides,fF s=true:=by
 unfold dV;split
 ·exact fun s h=>by rw [List.mem_singleton.1 h];exact nH _
 ·exact ha.sr
theorem oneT_len{a:TyP}(ha:WfT a)(p:Pol):(p::(dV a.sides).tail).length≤4:=by
 unfold dV;split
 ·simp
 ·rename_i h0;have:=ha.len
  cases e:a.sides with
  | nil=>exact absurd e h0
  | cons s l=>rw [e] at this;exact this
theorem cat_wf{a b:TyP}(ha:WfT a)(hb:WfT b):WfT (yX a b).1:=by
 unfold yX;split
 ·exact ha
 ·split
  ·exact ha
  ·have hsr: ∀s∈(cX ((dV a.sides).headD []) ((dV b.sides).headD []) 1).1::(dV b.sides).tail,fF s=true:=fun s h=>by
    rcases List.mem_cons.1 h with rfl | h
    ·exact oT _ _ _
    ·exact oneT_right hb s (bIv h)
   split
   ·rename_i hk;refine⟨oneT_len hb _,hsr,fun v h=>?_,fun _=>⟨?_,.inr ?_⟩,fun h=>(by cases h)⟩
    ·rcases List.mem_append.1 h with h | h
     ·exact ha.vr v h
     ·exact hb.vr v h
    ·show(a.values++b.values).length≤4;rw [List.length_append];exact hk.2.2
    ·show(cX ((dV a.sides).headD []) ((dV b.sides).headD []) 1).1::(dV b.sides).tail=[numT (a.values++b.values).length];rw [oneT_num ha hk.1,oneT_num hb hk.2.1,List.length_append];have hx:=add_num ⟨a.values.length,by omega⟩ ⟨b.values.length,by omega⟩;dsimp only at hx;show(cX (numT a.values.length) (numT b.values.length) 1).1::[]=_;rw [hx]
   ·exact lN (oneT_len hb _) hsr
theorem dyad_wf{f:Int}{a b:TyP}(ha:WfT a)(hb:WfT b):WfT (pO f a b).1:=by
 unfold pO;split
 ·exact rho_wf ha
 ·split
  ·exact part_wf ha hb
  ·split
   ·exact part_wf ha hb
   ·split
    ·exact cat_wf ha hb
    ·split
     ·exact lN ha.len ha.sr
     ·obtain⟨e1,e2,e3⟩:=eachT_wf (op:=uU f) (b:=b) (fun o h=>opR h) ha
      by_cases hs:a.sides=[]
      ·rw [if_pos hs];refine⟨hb.len,hb.sr,e1,fun k=>?_,e3⟩;obtain⟨k1,k2,k3⟩:=e2 k;show(kN (uU f) a b).1.length≤4∧(b.sides=[]∧(kN (uU f) a b).1.length=1∨b.sides=[numT (kN (uU f) a b).1.length]);rw [k3];split
       ·exact⟨pD hb,(hb.kn k2).2⟩
       ·rename_i h
        have hbs:b.sides=[]:=by
         by_cases e:b.sides=[]
         ·exact e
         ·exact absurd ⟨hs,e⟩ h
        exact⟨pD ha,.inl ⟨hbs,xE ha k1 hs⟩⟩
      ·rw [if_neg hs];refine⟨ha.len,ha.sr,e1,fun k=>?_,e3⟩;obtain⟨k1,k2,k3⟩:=e2 k;show(kN (uU f) a b).1.length≤4∧(a.sides=[]∧(kN (uU f) a b).1.length=1∨a.sides=[numT (kN (uU f) a b).1.length]);rw [k3,if_neg (fun h=>hs h.1)];exact⟨pD ha,(ha.kn k1).2⟩
theorem bMu{k:Bs}{t:TyP}: ∀{N:gM},nY k N=some t→ ∃p∈N,p.2=t
 | [],h=>by cases h
 | p::r,h=>by
  rw [nY] at h;split at h
  ·injection h with h
   exact⟨p,List.mem_cons_self ..,h⟩
  ·obtain⟨q,hq,e⟩:=bMu h;exact⟨q,List.mem_cons_of_mem _ hq,e⟩
def nF (N:gM):Prop:= ∀q∈N,WfT q.2
theorem look_wf{N:gM}(h:nF N){k:Bs}{t:TyP}(e:nY k N=some t):WfT t:=by
 obtain⟨p,hp,rfl⟩:=bMu e;exact h p hp
theorem name_wf{N:gM}(h:nF N){s:Bs}{t:TyP}(e:nameT N s=some t):WfT t:=by
 unfold nameT at e;split at e
 ·rename_i h1;cases e;exact look_wf h h1
 ·split at e
  ·rename_i h1;cases e;exact look_wf h h1
  ·exact look_wf h e
theorem none_wf:WfT ⟨[],false,[]⟩:=lN (by simp) (fun s h=>(by cases h))
theorem headW{st:List TyP}(h: ∀t∈st,WfT t)(k:1≤st.length):WfT (st.headD default):=by
 match st,k with
 | a::l,_=>exact h a (List.mem_cons_self ..)
theorem secondW{st:List TyP}(h: ∀t∈st,WfT t)(k:2≤st.length):WfT (st.tail.headD default):=by
 match st,k with
 | a::b::l,_=>exact h b (List.mem_cons_of_mem _ (List.mem_cons_self ..))
theorem item_wf{N:gM}(hN:nF N){it:dJ}{st:List TyP}(hs: ∀t∈st,WfT t)(hd:gZ it≤st.length)(hnum:it.how=1→it.nums≠[])(h17:1≤it.how∧it.how≤7)(h0:(gC N it st).2=0):WfT (gC N it st).1:=by
 have h1:it.how=3∨it.how=5∨it.how=6→1≤st.length:=fun h=>by rw [sY h] at hd;exact hd
 have h2:it.how=4∨it.how=7→2≤st.length:=fun h=>by rw [wN h] at hd;exact hd
 unfold gC at h0⊢;split
 ·exact literal_wf (hnum ‹_›)
 ·split
  ·split
   ·rename_i e;exact name_wf hN e
   ·exact none_wf
  ·split
   ·exact monad_wf (headW hs (h1 (by omega)))
   ·split
    ·have hw:=headW hs (h1 (by omega));dsimp only;split
     ·exact hw
     ·exact lN (by rw [List.length_take];have:=hw.len;omega) (fun s h=>hw.sr s (List.mem_of_mem_take h))
    ·split
     ·have hw:=headW hs (h1 (by omega));dsimp only;split
      ·exact hw
      ·exact lN hw.len hw.sr
     ·split
      ·exact dyad_wf (secondW hs (h2 (by omega))) (headW hs (h2 (by omega) |>Nat.le_of_succ_le))
      ·rename_i n1 n2 n3 n5 n6 n4;rw [if_neg n1,if_neg n2,if_neg n3,if_neg n5,if_neg n6,if_neg n4] at h0;have hx:=secondW hs (h2 (by omega));have hu:=headW hs (h2 (by omega) |>Nat.le_of_succ_le);refine lN ?_ (fun s h=>?_)
       ·rw [List.length_append];dsimp only at h0;split at h0
        ·cases h0
        ·omega
       ·rcases List.mem_append.1 h with h | h
        ·exact hx.sr s h
        ·exact hu.sr s h
theorem varT_wf(k:Nat):WfT (varT k):=⟨by simp [varT],fun s h=>(by cases h),fun v h=>by rw [List.mem_singleton.1 h];exact bCw _,fun _=>⟨by simp [varT],.inl ⟨rfl,rfl⟩⟩,fun h=>(by cases h)⟩
theorem varsT_wf: ∀{vars:List Bs} {k:Nat} {N:gM},nF N→nF (bDm vars k N)
 | [],_,_,h=>h
 | s::r,k,N,h=>by
  show nF (bDm r (k+1) ((s,varT k)::N));refine varsT_wf (fun q hq=>?_)
  rcases List.mem_cons.1 hq with rfl | hq
  ·exact varT_wf k
  ·exact h q hq
theorem insT_wf{vars:List Bs}: ∀{l:List gG} {N:gM},(∀x∈l,x.sides.length≤4)→nF N→nF (bJz vars l N)
 | [],_,_,h=>h
 | x::r,N,hl,h=>by
  show nF (bJz vars r ((nIn++x.name,inT vars x)::N));refine insT_wf (fun y hy=>hl y (List.mem_cons_of_mem _ hy)) (fun q hq=>?_)
  rcases List.mem_cons.1 hq with rfl | hq
  ·refine lN ?_ (fun s hs=>?_)
   ·rw [List.length_map];exact hl x (List.mem_cons_self ..)
   ·obtain⟨d,_,rfl⟩:=List.mem_map.1 hs;unfold sideT';split
    ·exact bCw _
    ·exact nH _
  ·exact h q hq
theorem check_wf{p:Prog}(h:(dQ p).2=true):nF (nU p):=
 insT_wf (fun x hx=>((oD h).input x hx).2.1) (varsT_wf (fun q hq=>(by cases hq)))
theorem badT_a{n:Int}(h:n<0):bGb n=true:=by simp [bGb,h]
theorem badT_b{n:Int}(h:65536<n):bGb n=true:=by simp [bGb,h]
theorem badT_c{n:Int}(h: ¬n<0)(k: ¬65536<n):bGb n=false:=by simp [bGb,h,k]
def bGw (s:Sl TyV):List TyP:=s.list.map TyV.t
def bAr (s:Sl TyV):Fact:=((tyE.sl (.slice s.addr s.list.length s.cap) s.list).and (Fact.each s.list tyF)).and (Fact.pure (s.list.length≤s.cap))
def pS (N:gM)(l:List dJ)(j:Nat)(hv ow:List TyV):Prop:=gL N l [] []=gL N (l.drop j) (stT hv) (ow.map TyV.t)∧lG (l.drop j) hv.length=some 1∧(∀a∈hv,WfT a.t)∧hv.length≤j∧ow.length=j
section
variable {N : gM} {l : List dJ} {j : Nat} {hv ow : List TyV} {x : dJ} {y z : TyV}
theorem tsT_start(hd:lG l 0=some 1):pS N l 0 [] []:=⟨rfl,hd,fun a ha=>(by simp at ha),Nat.le_refl _,rfl⟩
theorem tsT_dep(h:pS N l j hv ow)(hx:l[j]?=some x):(gZ x≤hv.length∧1≤x.how∧x.how≤7∧(x.how=1→x.nums≠[]∧x.nums.length≤65536))∧lG (l.drop (j+1)) (hv.length-gZ x+1)=some 1:=by
 have hd:=h.2.1;rw [mD hx,lG] at hd;split at hd
 ·rename_i hb;exact⟨hb,hd⟩
 ·cases hd
theorem stT_wf(h: ∀a∈hv,WfT a.t): ∀t∈stT hv,WfT t:=fun t ht=>by
 unfold stT at ht;rw [List.mem_reverse] at ht;obtain⟨b,hb,rfl⟩:=List.mem_map.1 ht;exact h b hb
theorem stT_length(hv:List TyV):(stT hv).length=hv.length:=by simp [stT]
theorem tsT_err(h:pS N l j hv ow)(hx:l[j]?=some x)(he:(gC N x (stT hv)).2≠0):gL N l [] []= .error (x.at_,(gC N x (stT hv)).2):=by
 rw [h.1,mD hx,gL,if_pos he]
theorem tsT_wf(hN:nF N)(h:pS N l j hv ow)(hx:l[j]?=some x)(he:(gC N x (stT hv)).2=0)(hy:y.t=(gC N x (stT hv)).1):WfT y.t:=by
 obtain⟨⟨h1,h2,h3,h4⟩,_⟩:=tsT_dep h hx;rw [hy];exact item_wf hN (stT_wf h.2.2.1) (by rw [stT_length];exact h1) (fun e=>(h4 e).1) ⟨h2,h3⟩ he
theorem tsT_step(h:pS N l j hv ow)(hx:l[j]?=some x)(he:(gC N x (stT hv)).2=0)(hy:y.t=(gC N x (stT hv)).1)(hw:WfT y.t)(hz:z.t=y.t):pS N l (j+1) (hv.take (hv.length-gZ x)++[y]) (ow++[z]):=by
 obtain⟨⟨h1,_⟩,hd⟩:=tsT_dep h hx;have hl:(hv.take (hv.length-gZ x)++[y]).length=hv.length-gZ x+1:=by rw [List.length_append,List.length_take];simp
 refine⟨?_,by rw [hl];exact hd,fun a ha=>?_,by rw [hl];have:=h.2.2.2.1;omega,by rw [List.length_append,h.2.2.2.2];rfl⟩
 ·rw [h.1,mD hx,gL,if_neg (by simp [he]),stT_push (T:=gZ x) rfl,List.map_append,List.map_singleton,hz,hy]
 ·rcases List.mem_append.1 ha with ha | ha
  ·exact h.2.2.1 a (List.mem_of_mem_take ha)
  ·rw [List.mem_singleton.1 ha];exact hw
theorem tsT_end(h:pS N l j hv ow)(hj:l.length≤j): ∃a,hv=[a]∧gL N l [] []= .ok ([a.t],ow.map TyV.t)∧WfT a.t:=by
 obtain⟨h1,h2,h3,_,_⟩:=h;rw [qX hj,lG] at h2;injection h2 with h2
 match hv,h2 with
 | [a],_=>
  refine⟨a,rfl,?_,h3 a (List.mem_cons_self ..)⟩;rw [h1,qX hj];rfl
end
def vH (ls:List kL)(i:Nat)(kv:KVS)(NV:NamesTV)(xs:List (Sl TyV))(r:List (List TyP)×Flt):Prop:=qP kv NV∧nF (jJ NV)∧r=jT (jJ NV) (ls.drop i) (xs.map bGw)∧xs.length=i
section
variable {ls : List kL} {i : Nat} {kv : KVS} {NV : NamesTV} {xs : List (Sl TyV)} {r : List (List TyP) × Flt} {l : kL} {a : TyV} {s : Sl TyV} {f : Flt}
theorem lsT_err(h:vH ls i kv NV xs r)(hx:ls[i]?=some l)(hl:gL (jJ NV) l.items [] []= .error f):r=([],f):=by
 rw [h.2.2.1,mD hx,jT,hl]
theorem lsT_step(h:vH ls i kv NV xs r)(hx:ls[i]?=some l)(hl:gL (jJ NV) l.items [] []= .ok ([a.t],s.list.map TyV.t))(ha:WfT a.t):vH ls (i+1) (mP (jS++l.name) (tyC a) kv) ((jS++l.name,a)::NV) (xs++[s]) r:=by
 refine⟨nrT_add h.1 _ a,fun p hp=>?_,?_,by rw [List.length_append,h.2.2.2];rfl⟩
 ·rcases List.mem_cons.1 hp with rfl | hp
  ·exact ha
  ·exact h.2.1 p hp
 ·rw [h.2.2.1,mD hx,jT,hl,List.map_append];rfl
theorem lsT_end(h:vH ls i kv NV xs r)(hi:ls.length≤i):r=(xs.map bGw,(0,0)):=by
 rw [h.2.2.1,qX hi];rfl
end
theorem ty_no{p:Prog}(h:(dQ p).2=false):fK p=([],(0,50)):=if_pos h
theorem ty_few{p:Prog}{x:gG}(h:(dQ p).2=true)(hf:p.inputs.find? (rN (varsP p))=some x):fK p=([],(x.at_,80)):=by
 unfold fK;rw [if_neg (by simp [h]),hf]
theorem ty_go{p:Prog}(h:(dQ p).2=true)(hf:p.inputs.find? (rN (varsP p))=none):fK p=jT (nU p) p.lines []:=by
 unfold fK;rw [if_neg (by simp [h]),hf]
set_option maxRecDepth 100000 in
theorem uL(P:ProgV)(hP:tT P)(hl1:P.inputs.list.length≤140737488355328)(hl2:P.lines.list.length≤140737488355328):dX Tryz.prog 21 [.agg #[.slice P.inputs.addr P.inputs.list.length P.inputs.cap,.slice P.lines.addr P.lines.list.length P.lines.cap]] [] [iK,kU.sl (.slice P.inputs.addr P.inputs.list.length P.inputs.cap) P.inputs.list,jA P.inputs.list,pH.sl (.slice P.lines.addr P.lines.list.length P.lines.cap) P.lines.list,lT P.lines.list] (fun(x:Option Addr×Nat×List (Sl TyV))=> .tuple #[.slice x.1 x.2.2.length x.2.1,.agg #[.int .i64 (fK P.pr).2.1,.int .i64 (fK P.pr).2.2]]) (fun _=>[]) (fun(x:Option Addr×Nat×List (Sl TyV))=>[wH.sl (.slice x.1 x.2.2.length x.2.1) x.2.2,Fact.each x.2.2 bAr,Fact.pure (x.2.2.map bGw=(fK P.pr).1∧x.2.2.length≤x.2.1)]):=by
 have hT:=fI;generalize hR:fK P.pr=r;refine cW Tryz.func21 rfl Tryz.ntmps21 rfl ?_;intro β hM;refine sr<|hQ rfl rfl rfl rfl rfl rfl fun b1=>?_;refine sp hT ?_;refine bY rfl rfl rfl rfl xY rfl fun b2=>?_;refine nn<|bA<|sr<|ss (ldN hT (bJ kT1)) ?_;refine bR Tryz.func41 (sRight_spec P hP hl1 hl2) rfl rfl .nil ⟨(Has.of mT0),(Has.of mT1),(Has.of mT2),(Has.of mT3),(Has.of mT4),trivial⟩ fun _=>?_;refine sp hT ?_;refine nn<|bL rfl (fun hc22=>?_) (fun hc22=>?_)
 ·have hc22:=fX hc22;refine sr<|ss (cC rfl rfl (uV _)) ?_;refine sp hT ?_;refine sto hT .head ?_;refine nn<|bF<|bB ?_;have hr:=hR.symm.trans (ty_no ‹_›);subst hr;exact bO (none,0,[]) rfl (bG rfl) (bM hT (bJ .head) rfl rfl rfl rfl) .nil ⟨rQ,Has.each_nil,Has.pure ⟨rfl,Nat.le_refl 0⟩,trivial⟩ rfl
 have hc22:=fP hc22;refine bN<|bC<|bA ?_;have hrt:(dQ P.pr).2=true:=by assumption
 have hfine:=oD hrt;have hs: ∀x∈P.inputs.list,x.sides.list.length≤4:=fun x hx=>by have h1:=(hfine.input x.inp (xG hx)).2.1;have h2:x.inp.sides.length=x.sides.list.length:=List.length_map _;omega
 have hTT:=bAc hrt;have hpl:P.pr.inputs.length=P.inputs.list.length:=List.length_map _;refine bD<|ss (ldN hT (bJ kT1)) ?_;refine bR Tryz.func12 (bMl P hl1 (fun x hx=>Nat.le_trans (hs x hx) (by decide)) (by omega)) rfl rfl .nil ⟨(Has.of mT1),(Has.of mT2),trivial⟩ fun⟨V,cv⟩=>?_;have hvl:(varsP P.pr).length≤256:=Nat.le_trans (vars_le P.pr) hTT;refine sp hT ?_;refine nn<|bA<|sr<|sp hT ?_;refine ss (ldO hT (bJ kT1)) ?_;refine sp2 hT ?_;refine nn<|bX<|dG (ι:=Nat) [(1,_),(3,_),(4,_),(27,_),(28,_)] ⟨rfl,rfl,rfl,rfl,rfl,trivial⟩ (fun i=>[(29,.int .i64 (i:Nat))]) (fun _=>[]) (fun i=>[Fact.pure (i≤P.inputs.list.length∧zB (varsP P.pr) P.pr.inputs i)]) (fun i=>P.inputs.list.length-i) 0 ⟨rfl,trivial⟩ .nil ⟨Has.pure (⟨by omega,few_start⟩),trivial⟩ ?_;rintro i;refine bS (Has.of mT0) fun hinv5=>?_;refine sr<|sp hT ?_;refine nn<|bA<|bL rfl (fun hc30=>?_) (fun hc30=>?_)
 ·have hc30:=of_decide_eq_true hc30;refine bN<|bC<|bA<|bX<|sr ?_
  obtain⟨x3,hx4⟩: ∃x',P.inputs.list[i]?=some x':=⟨_,List.getElem?_eq_getElem (by omega)⟩
  refine ss (bU hT (k:=i) (bK (Has.of mT4)) rfl rfl rfl rfl rfl rfl rfl (by omega)) ?_;refine ss (dU hT (cN.knows (bK (Has.of mT4)) (k:=i) (x:=x3) hx4 0) rfl rfl rfl rfl rfl) ?_;refine bY rfl rfl rfl rfl jW rfl fun b5=>?_;refine sto hT .head ?_;refine nn<|bA ?_;have hx0:P.pr.inputs[i]?=some x3.inp:=tL hx4;have hxs:=hs x3 (List.mem_of_getElem? hx4);refine bE (pG x3) (Has.each (Has.of mT5) (List.mem_of_getElem? hx4)) ?_;refine bD<|sp hT ?_;refine ss (ldO hT (dI .head)) ?_;refine sp2 hT ?_;refine nn<|bX<|dG (ι:=Nat) [(1,_),(3,_),(4,_),(6,_),(27,_),(28,_),(29,_),(34,_),(35,_)] ⟨rfl,rfl,rfl,rfl,rfl,rfl,rfl,rfl,rfl,trivial⟩ (fun j=>[(36,.int .i64 (j:Nat))]) (fun _=>[]) (fun j=>[Fact.pure (j≤x3.sides.list.length∧bEm (varsP P.pr) x3.inp.sides j)]) (fun j=>x3.sides.list.length-j) 0 ⟨rfl,trivial⟩ .nil ⟨Has.pure (⟨by omega,few_in⟩),trivial⟩ ?_;rintro j;refine bS (Has.of mT0) fun hinv8=>?_;refine sr<|sp hT ?_;refine nn<|bA<|bL rfl (fun hc37=>?_) (fun hc37=>?_)
  ·have hc37:=of_decide_eq_true hc37;refine bN<|bC<|bA<|bX<|sr ?_
   obtain⟨x6,hx7⟩: ∃x',x3.sides.list[j]?=some x':=⟨_,List.getElem?_eq_getElem (by omega)⟩
   refine ss (bU hT (k:=j) (bK (Has.of mT1)) rfl rfl rfl rfl rfl rfl rfl (by omega)) ?_;refine ss (dU hT (cN.knows (bK (Has.of mT1)) (k:=j) (x:=x6) hx7 0) rfl rfl rfl rfl rfl) ?_;refine bY rfl rfl rfl rfl tZ rfl fun b8=>?_;refine sto hT .head ?_;refine nn<|bA ?_;have hd0:x3.inp.sides[j]?=some x6.sd:=tL hx7;refine bD<|sp hT ?_;refine ss (ldO hT (bJ .head)) ?_;refine sp2 hT ?_;refine cF (fun hg43=>?_) (fun hg43=>?_)
   ·have hg43:x6.name=([]:Bs):=eq_of_beq hg43;refine sp hT ?_;refine ss (ldO hT (fN .head)) ?_;refine sp2 hT ?_;refine cF (fun hg47=>?_) (fun hg47=>?_)
    ·have hg47:=of_decide_eq_true hg47;refine sk3 ?_;refine sp3 hT ?_;refine sk4 ?_;refine sk ?_;refine sp hT ?_;refine nn<|cI rfl rfl ?_;refine bA<|cZ _ _ [(true,0),(true,1),(true,2),(true,3),(false,4)] dD (by decide+kernel) (.cons .head (.cons .head (.cons kT1 .nil))) bI.self ?_;refine puM hT ?_;refine stM rfl (ldO hT (fN kT1)) ?_;refine stM rfl (cC rfl rfl (tI _ _)) ?_;refine puM hT ?_;refine cK (o:=_) rfl ?_;refine sto hT kT2 ?_;refine cL (.cons kT1 (.cons kT1 (.cons kT1 .nil))) (bI.drop 0) ?_;refine cQ<|bC<|bF<|bH<|bB<|bB<|bH<|bH<|bB<|bB<|bH<|bB ?_;have hr:=hR.symm.trans (ty_few hrt (bFp hinv5.2 hx0 hinv8.2 hd0 (by first | exact fs_a ‹_› (by first | exact badT_a (show x6.n<0 by omega) | exact badT_b (show 65536<x6.n by omega)) | exact fs_b (show 6≤jR x6.name (varsP P.pr) 0 by omega))));subst hr;exact bO (none,0,[]) rfl (bG rfl) (bM hT (bJ .head) rfl rfl rfl rfl) .nil ⟨rQ,Has.each_nil,Has.pure ⟨rfl,Nat.le_refl 0⟩,trivial⟩ rfl
    have hg47:=Int.not_lt.1 (of_decide_eq_false hg47);refine sp hT ?_;refine ss (ldO hT (fN .head)) ?_;refine sp4 hT ?_;refine cF (fun hg53=>?_) (fun hg53=>?_)
    ·have hg53:=of_decide_eq_true hg53;refine sk4 ?_;refine sk ?_;refine sp hT ?_;refine nn<|cI rfl rfl ?_;refine bA<|cZ _ _ [(true,0),(true,1),(true,2),(true,3),(false,4)] dD (by decide+kernel) (.cons .head (.cons .head (.cons kT1 .nil))) bI.self ?_;refine puM hT ?_;refine stM rfl (ldO hT (fN kT1)) ?_;refine stM rfl (cC rfl rfl (tI _ _)) ?_;refine puM hT ?_;refine cK (o:=_) rfl ?_;refine sto hT kT2 ?_;refine cL (.cons kT1 (.cons kT1 (.cons kT1 .nil))) (bI.drop 0) ?_;refine cQ<|bC<|bF<|bH<|bB<|bB<|bH<|bH<|bB<|bB<|bH<|bB ?_;have hr:=hR.symm.trans (ty_few hrt (bFp hinv5.2 hx0 hinv8.2 hd0 (by first | exact fs_a ‹_› (by first | exact badT_a (show x6.n<0 by omega) | exact badT_b (show 65536<x6.n by omega)) | exact fs_b (show 6≤jR x6.name (varsP P.pr) 0 by omega))));subst hr;exact bO (none,0,[]) rfl (bG rfl) (bM hT (bJ .head) rfl rfl rfl rfl) .nil ⟨rQ,Has.each_nil,Has.pure ⟨rfl,Nat.le_refl 0⟩,trivial⟩ rfl
    have hg53:=Int.not_lt.1 (of_decide_eq_false hg53);refine sp2 hT ?_;refine ss (ldO hT (bJ .head)) ?_;refine bR Tryz.func42 (vB _ _ _ (by omega) x6.name) rfl rfl .nil ⟨Has.of mT3,trivial⟩ fun _=>?_;refine sp2 hT ?_;refine nn<|bL rfl (fun hc59=>?_) (fun hc59=>?_)
    ·have hc59:=of_decide_eq_true hc59;refine bA<|cZ _ _ [(true,0),(true,1),(true,2),(true,3),(false,4)] dD (by decide+kernel) (.cons .head (.cons .head (.cons kT1 .nil))) bI.self ?_;refine puM hT ?_;refine stM rfl (ldO hT (fN kT1)) ?_;refine stM rfl (cC rfl rfl (tI _ _)) ?_;refine puM hT ?_;refine cK (o:=_) rfl ?_;refine sto hT kT2 ?_;refine cL (.cons kT1 (.cons kT1 (.cons kT1 .nil))) (bI.drop 0) ?_;refine cQ<|bC<|bF<|bH<|bB<|bB<|bH<|bH<|bB<|bB<|bH<|bB ?_;have hr:=hR.symm.trans (ty_few hrt (bFp hinv5.2 hx0 hinv8.2 hd0 (by first | exact fs_a ‹_› (by first | exact badT_a (show x6.n<0 by omega) | exact badT_b (show 65536<x6.n by omega)) | exact fs_b (show 6≤jR x6.name (varsP P.pr) 0 by omega))));subst hr;exact bO (none,0,[]) rfl (bG rfl) (bM hT (bJ .head) rfl rfl rfl rfl) .nil ⟨rQ,Has.each_nil,Has.pure ⟨rfl,Nat.le_refl 0⟩,trivial⟩ rfl
    have hc59:=Int.not_le.1 (of_decide_eq_false hc59);refine bN<|cD<|bC<|bD<|sp hT ?_;refine bT (z':=(((j+1):Nat):Int)) (cP (by omega) (by omega)) ?_;refine sp hT ?_;refine nn ?_;exact cO (j+1) (by omega) ⟨rfl,trivial⟩ ⟨rfl,rfl,rfl,rfl,rfl,rfl,rfl,rfl,rfl,trivial⟩ (.cons kT1 (.cons kT1 (.cons kT1 .nil))) ⟨Has.pure (⟨by omega,few_next hinv8.2 hd0 (by first | exact fs_c (badT_c (show ¬x6.n<0 by omega) (show ¬65536<x6.n by omega)) (show jR x6.name (varsP P.pr) 0<6 by omega) | exact fs_d ‹_› (show jR x6.name (varsP P.pr) 0<6 by omega))⟩),trivial⟩ (bI.drop 1)
   have hg43:x6.name≠([]:Bs):=fun h=>absurd (beq_iff_eq.2 h) (by rw [show(x6.name==([]:Bs))=false from hg43];simp);refine sk4 ?_;refine sk4 ?_;refine sp4 hT ?_;refine ss (ldO hT (bJ .head)) ?_;refine bR Tryz.func42 (vB _ _ _ (by omega) x6.name) rfl rfl .nil ⟨Has.of mT3,trivial⟩ fun _=>?_;refine sp2 hT ?_;refine nn<|bL rfl (fun hc59=>?_) (fun hc59=>?_)
   ·have hc59:=of_decide_eq_true hc59;refine bA<|cZ _ _ [(true,0),(true,1),(true,2),(true,3),(false,4)] dD (by decide+kernel) (.cons .head (.cons .head (.cons kT1 .nil))) bI.self ?_;refine puM hT ?_;refine stM rfl (ldO hT (fN kT1)) ?_;refine stM rfl (cC rfl rfl (tI _ _)) ?_;refine puM hT ?_;refine cK (o:=_) rfl ?_;refine sto hT kT2 ?_;refine cL (.cons kT1 (.cons kT1 (.cons kT1 .nil))) (bI.drop 0) ?_;refine cQ<|bC<|bF<|bH<|bB<|bB<|bH<|bH<|bB<|bB<|bH<|bB ?_;have hr:=hR.symm.trans (ty_few hrt (bFp hinv5.2 hx0 hinv8.2 hd0 (by first | exact fs_a ‹_› (by first | exact badT_a (show x6.n<0 by omega) | exact badT_b (show 65536<x6.n by omega)) | exact fs_b (show 6≤jR x6.name (varsP P.pr) 0 by omega))));subst hr;exact bO (none,0,[]) rfl (bG rfl) (bM hT (bJ .head) rfl rfl rfl rfl) .nil ⟨rQ,Has.each_nil,Has.pure ⟨rfl,Nat.le_refl 0⟩,trivial⟩ rfl
   have hc59:=Int.not_le.1 (of_decide_eq_false hc59);refine bN<|cD<|bC<|bD<|sp hT ?_;refine bT (z':=(((j+1):Nat):Int)) (cP (by omega) (by omega)) ?_;refine sp hT ?_;refine nn ?_;exact cO (j+1) (by omega) ⟨rfl,trivial⟩ ⟨rfl,rfl,rfl,rfl,rfl,rfl,rfl,rfl,rfl,trivial⟩ (.cons kT1 (.cons kT1 (.cons kT1 .nil))) ⟨Has.pure (⟨by omega,few_next hinv8.2 hd0 (by first | exact fs_c (badT_c (show ¬x6.n<0 by omega) (show ¬65536<x6.n by omega)) (show jR x6.name (varsP P.pr) 0<6 by omega) | exact fs_d ‹_› (show jR x6.name (varsP P.pr) 0<6 by omega))⟩),trivial⟩ (bI.drop 1)
  have hc37:=Int.not_lt.1 (of_decide_eq_false hc37);refine dC<|cM<|cM<|dB<|cD<|bC<|bD<|sp hT ?_;refine bT (z':=(((i+1):Nat):Int)) (cP (by omega) (by omega)) ?_;refine sp hT ?_;refine nn ?_;exact cO (i+1) (by omega) ⟨rfl,trivial⟩ ⟨rfl,rfl,rfl,rfl,rfl,trivial⟩ (.cons kT1 (.cons kT1 .nil)) ⟨Has.pure (⟨by omega,few_out hinv5.2 hx0 hinv8.2 (by show(x3.sides.list.map jL.sd).length≤j;rw [List.length_map];omega)⟩),trivial⟩ (bI.drop 3)
 have hc30:=Int.not_lt.1 (of_decide_eq_false hc30);refine dC<|cM<|cM<|dB<|bC<|sr<|ss (ldN hT (bJ kT1)) ?_;refine bR Tryz.func43 (newT_spec P hl1 hrt) rfl rfl .nil ⟨(Has.of mT3),(Has.of mT4),(Has.of mT5),trivial⟩ fun⟨cb,mb,kv0,NV0⟩=>?_;refine bS (Has.of mT1) fun hnr=>?_;refine sp hT ?_;refine nn<|sr<|sp hT ?_;refine nn<|bA<|bA ?_;have hfn:=few_end hinv5.2 (by omega);have hbg:=hR.symm.trans (ty_go hrt hfn);rw [←hnr.2] at hbg;have hNW:nF (jJ NV0):=by rw [hnr.2];exact check_wf hrt
 have hdep:=vA hrt;have hpl2:P.pr.lines.length=P.lines.list.length:=List.length_map _;refine dR (t:=64) wH ?_;refine bE (Fact.each ([]:List (Sl TyV)) bAr) (Has.each_nil) ?_;refine bD<|sp hT ?_;refine ss (ldO hT (fN kT4)) ?_;refine sp2 hT ?_;refine nn<|bX<|dG (ι:=Nat×KVS×NamesTV×List (Sl TyV)×Option Addr×Nat) [(3,_),(9,_),(68,_),(69,_)] ⟨rfl,rfl,rfl,rfl,trivial⟩ (fun⟨i,kv,NV,xs,A1,c1⟩=>[(10,.slice A1 xs.length c1),(70,.int .i64 (i:Nat))]) (fun⟨i,kv,NV,xs,A1,c1⟩=>[sB mb kv,wH.row (.slice A1 xs.length c1) 64 xs]) (fun⟨i,kv,NV,xs,A1,c1⟩=>[Fact.pure (i≤P.lines.list.length∧vH P.pr.lines i kv NV xs r),nZ NV,Fact.each xs bAr]) (fun⟨i,kv,NV,xs,A1,c1⟩=>P.lines.list.length-i) (0,kv0,NV0,[],none,0) ⟨rfl,rfl,trivial⟩ (.cons kT2 (.cons .head .nil)) ⟨Has.pure (⟨by omega,hnr.1,hNW,hbg,rfl⟩),Has.of mT1,Has.of mT0,trivial⟩ ?_;rintro⟨i,kv,NV,xs,A1,c1⟩;dsimp only;refine bS (Has.of mT0) fun hinv17=>?_;refine sr<|sp hT ?_;refine nn<|bA<|bL rfl (fun hc71=>?_) (fun hc71=>?_)
 ·have hc71:=of_decide_eq_true hc71;refine bN<|bC<|bA<|bX<|sr ?_
  obtain⟨x9,hx10⟩: ∃x',P.lines.list[i]?=some x':=⟨_,List.getElem?_eq_getElem (by omega)⟩
  refine ss (bU hT (k:=i) (bK (Has.of jV)) rfl rfl rfl rfl rfl rfl rfl (by omega)) ?_;refine ss (dU hT (cN.knows (bK (Has.of jV)) (k:=i) (x:=x9) hx10 0) rfl rfl rfl rfl rfl) ?_;refine bY rfl rfl rfl rfl qG rfl fun b11=>?_;refine sto hT .head ?_;refine nn<|sr<|sp2 hT ?_;refine nn<|bA<|bA ?_;have hx0:P.pr.lines[i]?=some x9.ln:=tL hx10;have hdp:=hdep x9.ln (List.mem_of_getElem? hx0);have hfl:=hfine.line x9.ln (List.mem_of_getElem? hx0);have hlnm:x9.name.length≤16:=hfl.1;have hil:=hfl.2.1;have hie:x9.ln.items.length=x9.items.list.length:=List.length_map _;refine bE (lH.sl (.slice x9.items.addr x9.items.list.length x9.items.cap) x9.items.list) (Has.left (Has.each (Has.of lE) (List.mem_of_getElem? hx10))) ?_;refine bE (mG x9.items.list) (Has.right (Has.each (Has.of vP) (List.mem_of_getElem? hx10))) ?_;refine dR (t:=67) tyE ?_;refine bE (Fact.each ([]:List TyV) tyF) (Has.each_nil) ?_;refine dR (t:=67) tyE ?_;refine bE (Fact.each ([]:List TyV) tyF) (Has.each_nil) ?_;refine bD<|sp hT ?_;refine ss (ldO hT (dI kT2)) ?_;refine sp2 hT ?_;refine nn<|bX<|dG (ι:=Nat×List TyV×Option Addr×Nat×List TyV×Option Addr×Nat) [(3,_),(9,_),(10,_),(12,_),(68,_),(69,_),(70,_),(75,_),(76,_)] ⟨rfl,rfl,rfl,rfl,rfl,rfl,rfl,rfl,rfl,trivial⟩ (fun⟨j,hv,A2,c2,ow,A4,c4⟩=>[(13,.slice A2 hv.length c2),(14,.slice A4 ow.length c4),(77,.int .i64 (j:Nat))]) (fun⟨j,hv,A2,c2,ow,A4,c4⟩=>[tyE.row (.slice A2 hv.length c2) 67 hv,tyE.row (.slice A4 ow.length c4) 67 ow]) (fun⟨j,hv,A2,c2,ow,A4,c4⟩=>[Fact.pure (j≤x9.items.list.length∧pS (jJ NV) x9.ln.items j hv ow),Fact.each hv tyF,Fact.each ow tyF]) (fun⟨j,hv,A2,c2,ow,A4,c4⟩=>x9.items.list.length-j) (0,[],none,0,[],none,0) ⟨rfl,rfl,rfl,trivial⟩ (.cons kT1 (.cons .head .nil)) ⟨Has.pure (⟨by omega,tsT_start hdp⟩),Has.of mT1,Has.of mT0,trivial⟩ ?_;rintro⟨j,hv,A2,c2,ow,A4,c4⟩;dsimp only;refine bS (Has.of mT0) fun hinv21=>?_;have hvj:=hinv21.2.2.2.2.1;have hwj:=hinv21.2.2.2.2.2;refine sr<|sp hT ?_;refine nn<|bA<|bL rfl (fun hc78=>?_) (fun hc78=>?_)
  ·have hc78:=of_decide_eq_true hc78;refine bN<|bC<|bA<|bX<|sr ?_
   obtain⟨x12,hx13⟩: ∃x',x9.items.list[j]?=some x':=⟨_,List.getElem?_eq_getElem (by omega)⟩
   refine ss (bU hT (k:=j) (bK (Has.of mT6)) rfl rfl rfl rfl rfl rfl rfl (by omega)) ?_;refine ss (dU hT (cN.knows (bK (Has.of mT6)) (k:=j) (x:=x12) hx13 0) rfl rfl rfl rfl rfl) ?_;refine bY rfl rfl rfl rfl mA rfl fun b14=>?_;refine sto hT .head ?_;refine nn<|bA ?_;have hi0:x9.ln.items[j]?=some x12.it:=tL hx13;have hdd:=(tsT_dep hinv21.2 hi0).1;have hitn:=(hfl.2.2 x12.it (List.mem_of_getElem? hi0)).1;have htk0:=hdd.1;refine bE (numF x12) (Has.each (Has.of mT5) (List.mem_of_getElem? hx13)) ?_;refine bD<|sp hT ?_;refine ss (ldN hT (bJ .head)) ?_;refine sp hT ?_;refine bR Tryz.func44 (itemTS_spec cb mb kv NV hinv17.2.1 x12 A2 c2 hv hinv21.2.2.2.1 (by omega) hdd.1 ⟨hdd.2.1,hdd.2.2.1⟩ (fun h=>(hdd.2.2.2 h).2) (fun _=>Nat.le_trans hitn (by decide))) rfl rfl (.cons kT6 (.cons kT4 (.cons kT1 .nil))) ⟨(Has.of mT0),(Has.of mT2),(Has.of mT9),trivial⟩ fun y15=>?_;refine bS (Has.of mT1) fun hy=>?_;refine sp4 hT ?_;refine bY rfl rfl rfl rfl oH rfl fun b16=>?_;refine sto hT .head ?_;refine sp2 hT ?_;refine nn<|bA<|sr<|sp2 hT ?_;refine nn<|bL rfl (fun hc90=>?_) (fun hc90=>?_)
   ·have hc90:=bne_iff_ne.1 hc90;refine bA<|cZ _ _ [(true,0),(true,1),(true,2),(true,3),(true,4),(false,5)] dD (by decide+kernel) (.cons .head (.cons .head (.cons .head (.cons .head (.cons .head (.cons .head (.cons .head (.cons .head (.cons kT1 .nil))))))))) bI.self ?_;refine puM hT ?_;refine stM rfl (ldO hT (fN kT4)) ?_;refine puM hT ?_;refine stM rfl (cC rfl rfl (tI _ _)) ?_;refine puM hT ?_;refine cK (o:=_) rfl ?_;refine sto hT kT8 ?_;refine cL (.cons kT1 (.cons kT1 (.cons kT1 (.cons kT1 (.cons kT1 (.cons kT1 (.cons kT1 (.cons kT1 (.cons kT1 .nil))))))))) (bI.drop 0) ?_;refine cQ<|bC<|bF<|bB<|bH<|bB<|bB<|bH<|bB<|bH<|bB<|bB<|bH<|bB ?_;have hr:=lsT_err hinv17.2 hx0 (tsT_err hinv21.2 hi0 ‹_›);subst hr;exact bO (none,0,[]) rfl (bG rfl) (bM hT (bJ .head) rfl rfl rfl rfl) .nil ⟨rQ,Has.each_nil,Has.pure ⟨rfl,Nat.le_refl 0⟩,trivial⟩ rfl
   have hc90:=bne_eq_false_iff_eq.1 hc90;refine bN<|bC<|sr<|sp hT ?_;refine ss (ldN hT (bJ .head)) ?_;have hwy:=tsT_wf hinv17.2.2.1 hinv21.2 hi0 (by omega) hy;refine bR Tryz.func45 (ownT_spec y15 hwy) rfl rfl .nil ⟨(Has.of mT0),trivial⟩ fun z17=>?_;refine bS (Has.of mT1) fun hz=>?_;refine bBz (m:=z17) rfl rfl rfl rfl rfl fun b18=>?_;refine bBk kT6 (dF .head rfl) rfl rfl rfl rfl rfl rfl rfl (by simp;omega) fun A19 c20=>?_;refine bE (Fact.each (ow++[z17]) tyF) (Has.each_snoc (Has.of mT7) (Has.of mT0)) ?_;refine sp hT ?_;refine nn<|qH _ _ (.fl 0 (.fl 1 (.fl 2 (.fl 3 (.fl 4 (.fl 6 (.two 5 7 (.op 7 (.op 8 (.fl 9 .nil))) (.op 5 (.op 8 (.fl 9 .nil)))))))))) dD (by decide+kernel) (.cons .head (.cons .head (.cons .head (.cons .head (.cons .head (.cons kT1 (.cons kT1 (.cons kT1 (.cons kT1 (.cons kT1 .nil)))))))))) bI.self ?_;refine pvT hT ?_;refine pvT hT ?_;refine pvT hT ?_;refine pvT hT ?_;refine pvT hT ?_;refine bT (z':=(((hv.length-(gZ x12.it)):Nat):Int)) (cP (by omega) (by omega)) ?_;refine sqT rfl (ldN hT (bJ kT2)) ?_;refine nA (o:=_) (o':=_) rfl rfl ?_ ?_
   ·refine iZ hT (k:=(hv.length-gZ x12.it)) kT5 rfl rfl rfl rfl rfl rfl rfl rfl rfl (by omega) ?_;refine dA (.cons kT1 (.cons kT1 (.cons kT1 (.cons kT1 (.cons kT1 (.cons kT1 (.cons kT1 (.cons kT1 (.cons kT1 (.cons kT1 .nil)))))))))) (bI.drop 0) ?_;refine fB (o:=_) rfl ?_;refine bBz (m:=y15) rfl rfl rfl rfl rfl fun b21=>?_;refine dA (.cons kT2 (.cons kT2 (.cons kT2 (.cons kT2 (.cons kT2 (.cons kT2 (.cons kT2 (.cons kT2 (.cons kT2 (.cons kT2 .nil)))))))))) (bI.drop 0) ?_;refine fB (o:=_) rfl ?_;refine bBk kT1 (dF .head rfl) rfl rfl rfl rfl rfl rfl rfl (by simp;omega) fun A22 c23=>?_;refine bE (Fact.each (hv.take (hv.length-gZ x12.it)++[y15]) tyF) (Has.each_snoc (bLq (Has.of mT7) _) (Has.of mT3)) ?_;refine dA (.cons kT2 (.cons kT2 (.cons kT2 (.cons kT2 (.cons kT2 (.cons kT2 (.cons kT2 (.cons kT2 (.cons kT2 (.cons kT2 .nil)))))))))) (bI.drop 1) ?_;refine pvT hT ?_;refine iD<|cD<|bC<|bD<|sp hT ?_;refine bT (z':=(((j+1):Nat):Int)) (cP (by omega) (by omega)) ?_;refine sp hT ?_;refine nn ?_;exact cO (j+1,hv.take (hv.length-gZ x12.it)++[y15],A22,c23,ow++[z17],A19,c20) (by dsimp only;omega) ⟨rfl,rfl,rfl,trivial⟩ ⟨rfl,rfl,rfl,rfl,rfl,rfl,rfl,rfl,rfl,trivial⟩ (.cons .head (.cons kT1 (.cons kT6 (.cons kT4 (.cons kT5 (.cons kT3 (.cons kT4 (.cons kT4 .nil)))))))) ⟨Has.pure (⟨by dsimp only;omega,tsT_step hinv21.2 hi0 (by omega) hy hwy hz⟩),Has.of mT0,Has.of mT1,trivial⟩ (bI.drop 10)
   refine bBz (m:=y15) rfl rfl rfl rfl rfl fun b24=>?_;refine dA (.cons kT1 (.cons kT1 (.cons kT1 (.cons kT1 (.cons kT1 (.cons kT2 (.cons kT2 (.cons kT2 (.cons kT2 (.cons kT2 .nil)))))))))) (bI.drop 0) ?_;refine fB (o:=_) rfl ?_;refine iZ hT (k:=(hv.length-gZ x12.it)) kT6 rfl rfl rfl rfl rfl rfl rfl rfl rfl (by omega) ?_;refine dA (.cons kT2 (.cons kT2 (.cons kT2 (.cons kT2 (.cons kT2 (.cons kT2 (.cons kT2 (.cons kT2 (.cons kT2 (.cons kT2 .nil)))))))))) (bI.drop 0) ?_;refine fB (o:=_) rfl ?_;refine bBk .head (dF kT1 rfl) rfl rfl rfl rfl rfl rfl rfl (by simp;omega) fun A25 c26=>?_;refine bE (Fact.each (hv.take (hv.length-gZ x12.it)++[y15]) tyF) (Has.each_snoc (bLq (Has.of mT7) _) (Has.of mT3)) ?_;refine dA (.cons kT2 (.cons kT2 (.cons kT2 (.cons kT2 (.cons kT2 (.cons kT2 (.cons kT2 (.cons kT2 (.cons kT2 (.cons kT2 .nil)))))))))) (bI.drop 1) ?_;refine pvT hT ?_;refine iD<|cD<|bC<|bD<|sp hT ?_;refine bT (z':=(((j+1):Nat):Int)) (cP (by omega) (by omega)) ?_;refine sp hT ?_;refine nn ?_;exact cO (j+1,hv.take (hv.length-gZ x12.it)++[y15],A25,c26,ow++[z17],A19,c20) (by dsimp only;omega) ⟨rfl,rfl,rfl,trivial⟩ ⟨rfl,rfl,rfl,rfl,rfl,rfl,rfl,rfl,rfl,trivial⟩ (.cons .head (.cons kT1 (.cons kT6 (.cons kT4 (.cons kT5 (.cons kT3 (.cons kT4 (.cons kT4 .nil)))))))) ⟨Has.pure (⟨by dsimp only;omega,tsT_step hinv21.2 hi0 (by omega) hy hwy hz⟩),Has.of mT0,Has.of mT1,trivial⟩ (bI.drop 10)
  have hc78:=Int.not_lt.1 (of_decide_eq_false hc78);refine dC<|cM<|cM<|dB<|bC<|bA ?_;obtain⟨a,hva,hle,hra⟩:=tsT_end hinv21.2 (by omega);have hv0:hv[0]?=some a:=by rw [hva];rfl
  have hvl:hv.length=1:=by rw [hva];rfl
  have hxl:=hinv17.2.2.2.2;have hfln:=hfine.lns;refine bE (tyF a) (Has.each (Has.of mT1) (List.mem_of_getElem? hv0)) ?_;refine iI kT1 fun hc_ow=>?_;refine cS kT1 ?_;refine bE (bAr (⟨A4,c4,ow⟩:Sl TyV)) ((Has.and (Has.and (Has.of mT0) (Has.of mT4)) (Has.pure hc_ow))) ?_;refine bE (nZ ((jS++x9.name,a)::NV)) (Has.each_cons (Has.of mT2) (Has.of pZ)) ?_;refine bD<|sp2 hT ?_;refine at_one_rows (m:=(⟨A4,c4,ow⟩:Sl TyV)) rfl rfl rfl rfl rfl fun b27=>?_;refine at_app_rows kT4 (dF .head rfl) rfl rfl rfl rfl rfl rfl rfl (by simp;omega) fun A28 c29=>?_;refine bE (Fact.each (xs++[(⟨A4,c4,ow⟩:Sl TyV)]) bAr) (Has.each_snoc (Has.of lE) (Has.of mT1)) ?_;refine sp hT ?_;refine nn<|cZ _ _ [(true,0),(true,1),(true,2),(true,3),(true,4),(true,5),(true,6),(true,7),(true,8),(true,9),(false,10)] dD (by decide+kernel) (.cons .head (.cons .head (.cons .head (.cons .head (.cons kT1 (.cons kT1 (.cons kT1 .nil))))))) bI.self ?_;refine puM hT ?_;refine puM hT ?_;refine puM hT ?_;refine stM rfl (ldO hT (bJ kT4)) ?_;refine puM hT ?_;refine stM rfl (ldO hT (bJ kT3)) ?_;refine stM rfl (gI rfl rfl rfl (by simp;omega)) ?_;refine puM hT ?_;refine stM rfl (bU hT (k:=0) (cJ kT2) rfl rfl rfl rfl rfl rfl rfl (by omega)) ?_;refine stM rfl (dU hT (cN.knows (cJ kT2) (k:=0) (x:=a) hv0 0) rfl rfl rfl rfl rfl) ?_;refine cK (o:=_) rfl ?_;refine mO kT4 rfl (.inl rfl) rfl mapT Tryz.underlying9 rfl rfl rfl ?_;refine cL (.cons kT1 (.cons kT1 (.cons kT1 (.cons kT1 (.cons kT1 (.cons kT1 (.cons kT1 .nil))))))) (bI.drop 0) ?_;refine cQ<|cD<|bC<|bD<|sp hT ?_;refine bT (z':=(((i+1):Nat):Int)) (cP (by omega) (by omega)) ?_;refine sp hT ?_;refine nn ?_;exact cO (i+1,_,(jS++x9.name,a)::NV,xs++[(⟨A4,c4,ow⟩:Sl TyV)],A28,c29) (by dsimp only;omega) ⟨rfl,rfl,trivial⟩ ⟨rfl,rfl,rfl,rfl,trivial⟩ (.cons .head (.cons .head (.cons kT3 (.cons kT3 (.cons kT3 .nil))))) ⟨Has.pure (⟨by dsimp only;omega,lsT_step (s:=(⟨A4,c4,ow⟩:Sl TyV)) hinv17.2 hx0 hle hra⟩),Has.of mT1,Has.of mT0,trivial⟩ (bI.drop 15)
 have hc71:=Int.not_lt.1 (of_decide_eq_false hc71);refine dC<|cM<|cM<|dB<|bC<|sr<|sp hT ?_;refine ss (cC rfl rfl (vZ)) ?_;refine sp hT ?_;refine sto hT kT3 ?_;refine nn<|bF ?_;have hr:=lsT_end hinv17.2 (by rw [hpl2];omega);subst hr;refine iI kT2 fun hc_o=>?_;refine cS kT2 ?_;exact bO (A1,c1,xs) rfl (bG rfl) (bM hT (bJ .head) rfl rfl rfl rfl) .nil ⟨(Has.of mT0),(Has.of mT3),Has.pure ⟨rfl,hc_o⟩,trivial⟩ rfl
theorem same2_spec(p q:PolV)(hp:p.list.length≤140737488355328):dX Tryz.prog 94 [.slice p.addr p.list.length p.cap,.slice q.addr q.list.length q.cap] [] [mN p,mN q] (fun _:Unit=> .bool (decide (p.list=q.list))) (fun _=>[]) (fun _=>[]):=by
 have e:decide (p.list=q.list)=rD p.list q.list:=by rw [Bool.eq_iff_iff,bMz];simp
 rw [e];exact kS fun _ w hS h=>same_any _ _ _ _ _ _ w (kD hS (h _ mT0)) (kD hS (h _ mT1)) hp
theorem tEq_1{a b:TyV}(h:cB a.sides.list≠cB b.sides.list):Value.bool false= .bool (decide (a.t=b.t)):=by
 rw [decide_eq_false (fun e=>h (congrArg TyP.sides e))]
theorem tEq_2{a b:TyV}(h:a.known≠b.known):Value.bool false= .bool (decide (a.t=b.t)):=by
 rw [decide_eq_false (fun e=>h (congrArg TyP.known e))]
theorem tEq_3{a b:TyV}(h:cB a.sides.list=cB b.sides.list)(k:a.known=b.known):Value.bool (decide (cB a.values.list=cB b.values.list))= .bool (decide (a.t=b.t)):=by
 congr 1
 rw [Bool.eq_iff_iff,decide_eq_true_iff,decide_eq_true_iff];constructor
 ·intro e;unfold TyV.t;rw [h,e,k]
 ·exact fun e=>congrArg TyP.values e
theorem rowT_len(x:Sl TyV):(bGw x).length=x.list.length:=List.length_map _
theorem rowF_s{F:List Fact}{x:Sl TyV}(h:Has F (bAr x)):Has F (tyE.sl (.slice x.addr x.list.length x.cap) x.list):=h.left.left
theorem rowF_e{F:List Fact}{x:Sl TyV}(h:Has F (bAr x)):Has F (Fact.each x.list tyF):=h.left.right
set_option maxRecDepth 100000 in
theorem bDp(A B:Option Addr)(ca cb:Nat)(a b:List PolV)(hl:a.length≤140737488355328):dX Tryz.prog 49 [.slice A a.length ca,.slice B b.length cb] [] [cH.sl (.slice A a.length ca) a,cT a,cH.sl (.slice B b.length cb) b,cT b] (fun(_:Unit)=> .bool (decide (cB a=cB b))) (fun _=>[]) (fun _=>[]):=by
 have hT:=fI;refine cW Tryz.func49 rfl Tryz.ntmps49 rfl ?_;intro β hM;refine sr<|sp hT ?_;refine nn<|bA<|sr<|sp4 hT ?_;refine sp hT ?_;refine nn<|bL rfl (fun hc10=>?_) (fun hc10=>?_)
 ·have hc10:=bne_iff_ne.1 hc10;refine sr<|sp hT ?_;refine nn<|bF<|bB ?_;exact bV () rfl (bG rfl) .nil trivial (bBx (fun e=>by have:=congrArg List.length e;rw [bW,bW] at this;omega))
 have hc10:=bne_eq_false_iff_eq.1 hc10;refine bN<|bC<|bA<|sr<|sp hT ?_;refine nn<|bX<|dG (ι:=Nat) [(0,_),(1,_)] ⟨rfl,rfl,trivial⟩ (fun i=>[(5,.int .i64 (i:Nat))]) (fun _=>[]) (fun i=>[Fact.pure (i≤a.length∧(cB a).take i=(cB b).take i)]) (fun i=>a.length-i) 0 ⟨rfl,trivial⟩ .nil ⟨Has.pure (⟨by omega,rfl⟩),trivial⟩ ?_;rintro i;refine bS (Has.of mT0) fun hinv4=>?_;refine bA<|sr<|sp4 hT ?_;refine nn<|bL rfl (fun hc14=>?_) (fun hc14=>?_)
 ·have hc14:=of_decide_eq_true hc14;refine bN<|bC<|bA<|bX<|bA<|cZ _ _ [(true,0),(true,1),(true,2),(true,3),(true,4),(true,5),(true,6),(true,7),(false,8),(true,9)] dD (by decide+kernel) .nil bI.self ?_;refine puM hT ?_;refine puM hT ?_
  obtain⟨x1,hx2⟩: ∃x',a[i]?=some x':=⟨_,List.getElem?_eq_getElem (by omega)⟩
  refine stM rfl (bU hT (k:=i) (bK (Has.of mT1)) rfl rfl rfl rfl rfl rfl rfl (by omega)) ?_;refine stM rfl (cE hT (cN.knows (bK (Has.of mT1)) (k:=i) (x:=x1) hx2 0) rfl rfl rfl rfl rfl) ?_;refine puM hT ?_;refine puM hT ?_
  obtain⟨x3,hx4⟩: ∃x',b[i]?=some x':=⟨_,List.getElem?_eq_getElem (by omega)⟩
  refine stM rfl (bU hT (k:=i) (bK (Has.of mT3)) rfl rfl rfl rfl rfl rfl rfl (by omega)) ?_;refine stM rfl (cE hT (cN.knows (bK (Has.of mT3)) (k:=i) (x:=x3) hx4 0) rfl rfl rfl rfl rfl) ?_;refine cK (o:=_) rfl ?_;refine bS (fC (Has.each (Has.of mT2) (List.mem_of_getElem? hx2))) fun hxl=>?_;refine bR Tryz.func94 (same2_spec x1 x3 hxl) rfl rfl .nil ⟨(Has.each (Has.of mT2) (List.mem_of_getElem? hx2)),(Has.each (Has.of mT4) (List.mem_of_getElem? hx4)),trivial⟩ fun _=>?_;refine cL .nil (bI.drop 0) ?_;refine puM hT ?_;refine cQ<|bC<|bL rfl (fun hc26=>?_) (fun hc26=>?_)
  ·have hc26:=fX hc26;refine sr<|sp hT ?_;refine nn<|bF<|bH<|bB<|bB<|bH<|bB ?_;exact bV () rfl (bG rfl) .nil trivial (bBx (bIj (iA hx2) (iA hx4) (nd_t ‹_›)))
  have hc26:=fP hc26;refine bN<|cD<|bC<|bD<|sp2 hT ?_;refine bT (z':=(((i+1):Nat):Int)) (cP (by omega) (by omega)) ?_;refine sp hT ?_;refine nn ?_;exact cO (i+1) (by omega) ⟨rfl,trivial⟩ ⟨rfl,rfl,trivial⟩ .nil ⟨Has.pure (⟨by omega,bBo hinv4.2 (iA hx2) (iA hx4) (oG ‹_›)⟩),trivial⟩ (bI.drop 1)
 have hc14:=Int.not_lt.1 (of_decide_eq_false hc14);refine dC<|cM<|cM<|dB<|bC<|sr<|sp hT ?_;refine nn<|bF ?_;exact bV () rfl (bG rfl) .nil trivial (eqT_of (bIo hinv4.2 (by rw [bW];omega) (by rw [bW];omega)))
set_option maxRecDepth 100000 in
theorem same9_spec(a b:TyV)(hs:a.sides.list.length≤140737488355328)(hv:a.values.list.length≤140737488355328):dX Tryz.prog 24 [.agg #[.slice a.sides.addr a.sides.list.length a.sides.cap,.bool a.known,.slice a.values.addr a.values.list.length a.values.cap],.agg #[.slice b.sides.addr b.sides.list.length b.sides.cap,.bool b.known,.slice b.values.addr b.values.list.length b.values.cap]] [] [tyF a,tyF b] (fun(_:Unit)=> .bool (decide (a.t=b.t))) (fun _=>[]) (fun _=>[]):=by
 have hT:=fI;refine cW Tryz.func24 rfl Tryz.ntmps24 rfl ?_;intro β hM;refine bA<|bE (dO a.sides) (lV (Has.of mT0)) ?_;refine bE (cH.sl (.slice a.sides.addr a.sides.list.length a.sides.cap) a.sides.list) (dL (Has.of mT0)) ?_;refine bE (cT a.sides.list) (dN (Has.of mT1)) ?_;refine bS (dT (Has.of mT2)) fun hc_as=>?_;refine bE (dO a.values) (lO (Has.of mT3)) ?_;refine bE (cH.sl (.slice a.values.addr a.values.list.length a.values.cap) a.values.list) (dL (Has.of mT0)) ?_;refine bE (cT a.values.list) (dN (Has.of mT1)) ?_;refine bS (dT (Has.of mT2)) fun hc_av=>?_;refine bE (dO b.sides) (lV (Has.of mT7)) ?_;refine bE (cH.sl (.slice b.sides.addr b.sides.list.length b.sides.cap) b.sides.list) (dL (Has.of mT0)) ?_;refine bE (cT b.sides.list) (dN (Has.of mT1)) ?_;refine bS (dT (Has.of mT2)) fun hc_bs=>?_;refine bE (dO b.values) (lO (Has.of pF)) ?_;refine bE (cH.sl (.slice b.values.addr b.values.list.length b.values.cap) b.values.list) (dL (Has.of mT0)) ?_;refine bE (cT b.values.list) (dN (Has.of mT1)) ?_;refine bS (dT (Has.of mT2)) fun hc_bv=>?_;refine bD<|hQ rfl rfl rfl rfl rfl rfl fun b1=>?_;refine hQ rfl rfl rfl rfl rfl rfl fun b2=>?_;refine sp hT ?_;refine nn<|sr<|sp hT ?_;refine ss (ldO hT (bJ kT1)) ?_;refine sp hT ?_;refine ss (ldO hT (bJ .head)) ?_;refine bR Tryz.func49 (bDp a.sides.addr b.sides.addr a.sides.cap b.sides.cap a.sides.list b.sides.list (by omega)) rfl rfl .nil ⟨(Has.of pF),(Has.of mT9),(Has.of mT4),(Has.of mT3),trivial⟩ fun _=>?_;refine sp hT ?_;refine cF (fun hg10=>?_) (fun hg10=>?_)
 ·refine sp hT ?_;refine ss (ldO hT (fN kT1)) ?_;refine sp hT ?_;refine ss (ldO hT (fN .head)) ?_;refine sp3 hT ?_;refine cF (fun hg17=>?_) (fun hg17=>?_)
  ·have hg17:=eq_of_beq hg17;refine sp hT ?_;refine ss (ldO hT (dI kT1)) ?_;refine sp hT ?_;refine ss (ldO hT (dI .head)) ?_;refine bR Tryz.func49 (bDp a.values.addr b.values.addr a.values.cap b.values.cap a.values.list b.values.list (by omega)) rfl rfl .nil ⟨(Has.of mT7),(Has.of mT6),(Has.of mT1),(Has.of mT0),trivial⟩ fun _=>?_;refine sp2 hT ?_;refine nn<|bF ?_;exact bV () rfl (bG rfl) .nil trivial (tEq_3 (of_decide_eq_true hg10) hg17)
  have hg17:=beq_eq_false_iff_ne.1 hg17;refine sk4 ?_;refine sk ?_;refine sp2 hT ?_;refine nn<|bF ?_;exact bV () rfl (bG rfl) .nil trivial (tEq_2 hg17)
 refine sk4 ?_;refine sk ?_;refine sp2 hT ?_;refine sk4 ?_;refine sk ?_;refine sp2 hT ?_;refine nn<|bF ?_;exact bV () rfl (bG rfl) .nil trivial (tEq_1 (of_decide_eq_false hg10))
theorem lineT_un(N:gM): ∀(l:List dJ) (st all:List TyP),gL N (gO l) st all=match gL N l st all with
  | .error f=> .error (0,f.2)
  | .ok r=> .ok r
 | [],st,all=>rfl
 | x::l,st,all=>by
  have e:gL N (gO (x::l)) st all=if (gC N x st).2≠0 then .error (0,(gC N x st).2) else gL N (gO l) ((gC N x st).1::st.drop (gZ x)) (all++[(gC N x st).1]):=rfl
  rw [e,gL]
  by_cases h:(gC N x st).2≠0
  ·rw [if_pos h,if_pos h]
  ·rw [if_neg h,if_neg h];exact lineT_un N l _ _
theorem bLj: ∀(ls:List kL) (N:gM) (out:List (List TyP)),jT N (ls.map kL.un) out=((jT N ls out).1,(0,(jT N ls out).2.2))
 | [],N,out=>rfl
 | l::ls,N,out=>by
  have e:jT N ((l::ls).map kL.un) out=match gL N (gO l.items) [] [] with
    | .error f=>([],f)
    | .ok (st,all)=>jT ((jS++l.name,st.getLastD default)::N) (ls.map kL.un) (out++[all]):=rfl
  rw [e,lineT_un,jT]
  cases gL N l.items [] [] with
  | error f=>rfl
  | ok r=>exact bLj ls _ _
theorem insT_un(vars:List Bs): ∀(l:List gG) (N:gM),bJz vars (l.map gG.un) N=bJz vars l N
 | [],N=>rfl
 | x::l,N=>by
  show bJz vars (l.map gG.un) ((nIn++x.name,inT vars x)::N)=bJz vars l ((nIn++x.name,inT vars x)::N);exact insT_un vars l _
theorem check_un(p:Prog):nU p.un=nU p:=by
 unfold nU;rw [vars_un];exact insT_un _ _ _
theorem types_un(p:Prog):fK p.un=((fK p).1,(0,(fK p).2.2)):=by
 unfold fK;rw [yC,vars_un,check_un];have e:p.un.inputs=p.inputs.map gG.un:=rfl;rw [e,find_un];split
 ·rfl
 ·cases p.inputs.find? (rN (varsP p)) with
  | some x=>rfl
  | none=>exact bLj _ _ _
def LxH (a:Bs)(i:Nat)(L:List Tok):Prop:= ∀x out,lexGo (a++10::x).length i (a++10::x) out=lexGo (10::x).length (i+a.length) (10::x) (out++L)
theorem lx_none{s rest:Bs}(h:Lx s [] rest)(i:Nat)(out:List Tok):lexGo (s++rest).length i (s++rest) out=lexGo rest.length (i+s.length) rest out:=by
 obtain⟨L,hL,e⟩:=h i out;have:L=[]:=by simpa using hL
 rw [e,this,List.append_nil]
theorem lex_head: ∀(n:Nat) (a:Bs) (i:Nat),a.length≤n→(∃L,LxH a i L)∨ ∀x out,isOk (lexGo (a++10::x).length i (a++10::x) out).2=false
 | _,[],_,_=> .inl ⟨[],fun x out=>by simp⟩
 | 0,b::r,_,h=>by simp at h
 | n+1,b::r,i,h=>by
  simp only [List.length_cons] at h;have key: ∀{s a:Bs} {L1:List Tok},b::r=s++a→(∀x out,lexGo ((b::r)++10::x).length i ((b::r)++10::x) out=lexGo (a++10::x).length (i+s.length) (a++10::x) (out++L1))→a.length≤n→
    (∃L,LxH (b::r) i L)∨ ∀x out,isOk (lexGo ((b::r)++10::x).length i ((b::r)++10::x) out).2=false:=fun{s a L1} e h1 hl=>by
   rcases lex_head n a (i+s.length) hl with ⟨L,k⟩ | k
   ·refine .inl ⟨L1++L,fun x out=>?_⟩;rw [h1,k,e,List.length_append,Nat.add_assoc,List.append_assoc]
   ·refine .inr fun x out=>?_;rw [h1];exact k _ _
  by_cases hb:iQ b=true
  ·refine key (s:=[b]) (a:=r) (L1:=[]) rfl (fun x out=>?_) (by omega);have:=lx_none (s:=[b]) (Lx.bl (rest:=r++10::x) hb) i out;rw [List.append_nil];exact this
  ·have hb:iQ b=false:=by simpa using hb
   by_cases h35:b=35
   ·subst h35;obtain⟨s,a,rfl,h1,h2⟩:=zX (t:=r);refine key (s:=35::s) (a:=a) (L1:=[]) rfl (fun x out=>?_) (by simp at h;omega);rw [List.append_nil]
    have:=lx_none (s:=35::s) (rest:=a++10::x) (Lx.note h1 (by
     rcases h2 with rfl | ⟨q,rfl⟩
     ·exact .inr ⟨x,rfl⟩
     ·exact .inr ⟨q++10::x,rfl⟩)) i out
    rw [←List.append_assoc] at this;exact this
   ·have h35:(b==35)=false:=by simpa using h35
    cases ht:fL (b::r) with
    | error e=>
     refine .inr fun x out=>?_;rw [List.cons_append,gY,hb,if_neg (by simp),h35,if_neg (by simp),uA (by decide) (by decide) (by decide),ht];exact fW (vF ht)
    | ok q=>
     obtain⟨k,wd,v,m⟩:=q;obtain⟨m1,m2⟩:1≤m∧m≤(b::r).length:=nD ht;refine key (s:=(b::r).take m) (a:=(b::r).drop m) (L1:=[⟨k,i,wd,v⟩]) (List.take_append_drop ..).symm (fun x out=>?_) (by rw [List.length_drop,List.length_cons];omega);rw [List.cons_append,gY,hb,if_neg (by simp),h35,if_neg (by simp),uA (by decide) (by decide) (by decide),ht];simp only;have e1:(b::(r++10::x)).drop m=(b::r).drop m++10::x:=by rw [←List.cons_append,List.drop_append_of_le_length m2]
     have e2:((b::r).take m).length=m:=by rw [List.length_take];omega
     rw [e1,e2]
theorem lex_line{x:Bs}{j:Nat}{out:List Tok}:lexGo (10::x).length j (10::x) out=lexGo x.length (j+1) x (out++[⟨4,j,[],0⟩]):=by
 rw [gY,if_neg (by decide),if_neg (by decide)];rfl
theorem head_lexed{h x:Bs}{L:List Tok}{T:List Tk}(hL:LxH h 0 L)(hx:Lx x T [])(hl:(h++10::x).length≤65536): ∃M,lexP (h++10::x)=(L++⟨4,h.length,[],0⟩::M,(0,0))∧M.map TokV.tk=T:=by
 obtain⟨M,hM,e⟩:=hx (h.length+1) (L++[⟨4,h.length,[],0⟩]);refine⟨M,?_,hM⟩;unfold lexP;rw [if_neg (by omega),hL x [],lex_line,List.nil_append,Nat.zero_add];rw [List.append_nil] at e;rw [e,List.append_assoc];rfl
theorem head_inv{h x:Bs}{L:List Tok}{T:List Tk}{p:Prog}(hL:LxH h 0 L)(hx:Lx x T [])(hp:fG (h++10::x)=(p,(0,0))):
  ∃M,pQ (p,(0,0)) (h++10::x).length (L++⟨4,h.length,[],0⟩::M) ⟨[],[]⟩ 0 false∧M.map TokV.tk=T:=by
 have h1:=lex_of (t:=h++10::x) (by rw [hp]);obtain⟨M,e,k⟩:=head_lexed hL hx (lex_go h1).1;refine⟨M,?_,k⟩;unfold fG at hp;rw [if_pos h1,e] at hp;exact⟨_,Nat.le_refl _,hp⟩
section
variable {nl : TokV} {r1 r2 : Prog × Flt} {len1 len2 : Int} {R1 R2 : List TokV}
theorem own_at(hn:nl.kind=4): ∀L:List TokV,∃k,k≤L.length∧ ∀R,ownP (L++nl::R)=L.take k
 | []=>⟨0,Nat.le_refl _,fun R=>by simp [ownP,hn]⟩
 | t::L=>by
  by_cases h:t.kind=4
  ·exact⟨0,Nat.zero_le _,fun R=>by simp [ownP,h]⟩
  ·obtain⟨k,hk,e⟩:=own_at hn L;refine⟨k+1,by simp;omega,fun R=>?_⟩;have:=e R;unfold ownP at this⊢;rw [List.cons_append,List.takeWhile_cons_of_pos (by simpa using h),this];rfl
theorem head_two(hn:nl.kind=4)(hok:r1.2=(0,0)): ∀(m:Nat) (L:List TokV) (P:Prog) (n:Nat),L.length≤m→pQ r1 len1 (L++nl::R1) P n (iG P)→pQ r2 len2 (L++nl::R2) P n (iG P)→
  ∃P' n',pQ r1 len1 R1 P' n' (iG P')∧pQ r2 len2 R2 P' n' (iG P')
 | m,L,P,n,hm,h1,h2=>by
  obtain⟨k,hk,ho⟩:=own_at hn L
  have next: ∀R:List TokV,(L++nl::R).drop (k+1)=if k=L.length then R else L.drop (k+1)++nl::R:=fun R=>by
   split
   ·rename_i e;rw [List.drop_append,List.drop_of_length_le (by omega),e];simp
   ·rw [List.drop_append_of_le_length (by omega)]
  have hend:endP (L++nl::R1) len1=endP (L++nl::R2) len2:=by
   unfold endP;rw [ho R1,ho R2,List.length_take,Nat.min_eq_left hk]
   have: ∀R:List TokV,(L++nl::R)[k]?=(L++[nl])[k]?:=fun R=>by
    rcases Nat.lt_or_ge k L.length with h | h
    ·rw [List.getElem?_append_left h,List.getElem?_append_left h]
    ·have e:k=L.length:=by omega
     rw [e];simp
   have hlt:k<(L++[nl]).length:=by simp;omega
   have s: ∀(R:List TokV) (e:Int),atP (L++nl::R) k e=((L++[nl])[k]).at_:=fun R e=>by
    unfold atP;rw [this R,List.getElem?_eq_getElem hlt]
   rw [s R1,s R2]
  have ne: ∀R:List TokV,L++nl::R≠[]:=fun R=>by simp
  have on: ∀{P':Prog} {n':Nat},pQ r1 len1 ((L++nl::R1).drop (k+1)) P' n' (iG P')→pQ r2 len2 ((L++nl::R2).drop (k+1)) P' n' (iG P')→ ∃P' n',pQ r1 len1 R1 P' n' (iG P')∧pQ r2 len2 R2 P' n' (iG P'):=fun{P' n'} a b=>by
   rw [next] at a b;split at a
   ·rename_i e;rw [if_pos e] at b;exact⟨P',n',a,b⟩
   ·rename_i e;rw [if_neg e] at b
    obtain⟨m,rfl⟩: ∃q,m=q+1:=⟨m-1,by omega⟩
    exact head_two hn hok m _ P' n' (by rw [List.length_drop];omega) a b
  by_cases h0:k=0
  ·subst h0;exact on (bHd h1 (ne _) (by rw [ho];rfl)) (bHd h2 (ne _) (by rw [ho];rfl))
  ·have hne: ∀R:List TokV,ownP (L++nl::R)≠[]:=fun R e=>by
    rw [ho] at e;have:=congrArg List.length e;rw [List.length_take,Nat.min_eq_left hk] at this;exact h0 this
   cases hi:intoP (ownP (L++nl::R1)) (endP (L++nl::R1) len1) P n (iG P) with
   | mk q f=>
    obtain⟨a1,b1⟩:=vN h1 (ne _) (hne _) hi;have hi2:intoP (ownP (L++nl::R2)) (endP (L++nl::R2) len2) P n (iG P)=(q,f):=by rw [←hend,ho R2,←ho R1,hi]
    obtain⟨a2,_⟩:=vN h2 (ne _) (hne _) hi2
    cases hf:isOk f with
    | false=>
     have:=b1 hf;rw [this] at hok;have hok:f=(0,0):=hok;rw [hok] at hf;cases hf
    | true=>
     have e: ∀R:List TokV,(ownP (L++nl::R)).length=k:=fun R=>by rw [ho,List.length_take,Nat.min_eq_left hk]
     have a1:=a1 hf;have a2:=a2 hf;rw [e] at a1 a2;exact on a1 a2
theorem into_over{own:List TokV}{e:Int}{P q:Prog}{n:Nat}(h:intoP own e P n true=(q,(0,0))):False:=by
 unfold intoP at h;split at h
 ·injection h with _ h
  injection h with _ h
  cases h
 ·split at h
  ·injection h with _ h
   injection h with _ h
   cases h
  ·rw [if_pos (.inl rfl)] at h;injection h with _ h
   injection h with _ h
   cases h
end
def iW:Bs:=[102,114,101,115,104]
def bCd:Bs:=[102,114,101,115,104,58,32]
def bAv:Bs:=[111,117,116,32,102,114,101,115,104,32]
def zE:Bs:=[111,117,116,32,40]
def rI (a b:Bs):Bs:=bCd++(a++(10::(bAv++b)))
def pT (a b:Bs):Bs:=zE++(a++(41::([32]++b)))
theorem xZ:dS iW=true:=by decide+kernel
theorem bHu:WordB iW:=oR xZ
theorem lx_fresh{r:Bs}:Lx bCd [WT iW,ColonT] r:=
 Lx.append (a:=iW) (b:=[58,32]) (bFb bHu (by decide)) (Lx.gap (s:=[58]) (sign_lx (by decide)))
theorem lx_outF{r:Bs}:Lx bAv [WT [111,117,116],WT iW] r:=
 Lx.append (a:=[111,117,116,32]) (A:=[WT [111,117,116]]) (b:=[102,114,101,115,104,32]) (Lx.gap (s:=[111,117,116]) (bFb out_word (by decide))) (Lx.gap (s:=iW) (bFb bHu (by decide)))
theorem lx_close1{r:Bs}:Lx [41,32] [CloseT] r:=Lx.gap (s:=[41]) (sign_lx (by decide))
theorem bIl{s r:Bs}{T:List Tk}{i:Nat}{out:List Tok}(h:Lx s T r)(hok:isOk (lexGo (s++r).length i (s++r) out).2=true): ∃U,Lx r U []:=by
 rcases lex_one _ r (Nat.le_refl _) with k | k
 ·exact k
 ·rw [h.fails k] at hok;cases hok
theorem tails_lexed{a b:Bs}{i1 i2:Nat}{out1 out2:List Tok}(hp:isOk (lexGo (rI a b).length i1 (rI a b) out1).2=true)(hq:isOk (lexGo (pT a b).length i2 (pT a b) out2).2=true):
  ∃TA TB,Lx (rI a b) ([WT iW,ColonT]++(TA++(NL::([WT [111,117,116],WT iW]++TB)))) []∧
   (Lx (pT a b) ([WT [111,117,116],OpenT]++(TA++(CloseT::TB))) []∨ ∃R,Brk R∧Lx (pT a b) ([WT [111,117,116],OpenT]++(TA++R)) []):=by
 have hA: ∃TA,Lx a TA (10::(bAv++b))∧(Lx a TA (41::([32]++b))∨ ∃s R,a++41::([32]++b)=s++R∧(R=[]∨ ∃r,R=10::r)∧Lx s TA R):=by
  rcases bFf (bAv++b) ([32]++b) _ a (Nat.le_refl _) with ⟨T,h1,h2⟩ | ⟨T,s,R,h1,h2,h3,h4⟩ | h
  ·exact⟨T,h1,.inl h2⟩
  ·exact⟨T,h1,.inr ⟨s,R,h2,h3,h4⟩⟩
  ·exfalso
   have k:=(lx_fresh (r:=a++10::(bAv++b))).fails h i1 out1;unfold rI at hp;rw [hp] at k;cases k
 obtain⟨TA,h1,h2⟩:=hA
 have P1:Lx (bCd++(a++([10]++bAv))) ([WT iW,ColonT]++(TA++([NL]++[WT [111,117,116],WT iW]))) b:=by
  refine Lx.append ?_ (Lx.append ?_ (Lx.append nl_lx lx_outF))
  ·exact lx_fresh
  ·simpa using h1
 have ep:rI a b=(bCd++(a++([10]++bAv)))++b:=by simp [rI]
 obtain⟨TB,hB⟩:=bIl P1 (by rw [←ep];exact hp);refine⟨TA,TB,?_,?_⟩
 ·have:=P1.fin hB;rw [←ep] at this
  simpa [List.append_assoc] using this
 ·rcases h2 with h2 | ⟨s,R,e,hR,h2⟩
  ·refine .inl ?_
   have Q1:Lx (zE++(a++[41,32])) ([WT [111,117,116],OpenT]++(TA++[CloseT])) b:=by
    refine Lx.append ?_ (Lx.append ?_ lx_close1)
    ·exact lx_outO
    ·simpa using h2
   have:=Q1.fin hB;rw [show(zE++(a++[41,32]))++b=pT a b by simp [pT]] at this
   simpa [List.append_assoc] using this
  ·refine .inr ?_;have eq:pT a b=zE++(s++R):=by rw [←e];rfl
   rcases hR with rfl | ⟨r,rfl⟩
   ·refine⟨[],.inl rfl,?_⟩
    have Q1:Lx (zE++s) ([WT [111,117,116],OpenT]++TA) []:=by
     refine Lx.append ?_ h2;exact lx_outO
    rw [List.append_nil] at eq;rw [←eq] at Q1
    simpa using Q1
   ·have Q1:Lx (zE++(s++[10])) ([WT [111,117,116],OpenT]++(TA++[NL])) r:=by
     refine Lx.append ?_ (Lx.append ?_ nl_lx)
     ·exact lx_outO
     ·simpa using h2
    have eq1:pT a b=(zE++(s++[10]))++r:=by rw [eq];simp
    obtain⟨U,hU⟩:=bIl Q1 (by rw [←eq1];exact hq);refine⟨NL::U,.inr ⟨NL,U,rfl,rfl⟩,?_⟩;have:=Q1.fin hU;rw [←eq1] at this
    simpa [List.append_assoc] using this
theorem fresh_read{h a b:Bs}{p q:Prog}(hp:fG (h++10::rI a b)=(p,(0,0)))(hq:fG (h++10::pT a b)=(q,(0,0)))(hl:p.lines.length=2):
  ∃X U x V W,p.un=⟨X,[⟨iW,0,gO U⟩,⟨[],0,gO (x::V)⟩]⟩∧q.un=⟨X,[⟨[],0,gO W⟩]⟩∧x.un=⟨2,0,0,iW,[]⟩∧gO W=gO U++gO V∧ ∃l1 l2,p.lines=[l1,l2]∧l2.items=x::V:=by
 have gp:=(lex_go (lex_of (t:=h++10::rI a b) (by rw [hp]))).2;have gq:=(lex_go (lex_of (t:=h++10::pT a b) (by rw [hq]))).2
 obtain⟨L,hL⟩: ∃L,LxH h 0 L:=by
  rcases lex_head _ h 0 (Nat.le_refl _) with k | k
  ·exact k
  ·rw [k] at gp;cases gp
 rw [hL,lex_line] at gp gq;obtain⟨TA,TB,hLp,hLq⟩:=tails_lexed gp gq;obtain⟨M1,hP0,hM1⟩:=head_inv hL hLp hp;obtain⟨A,A2,eA,hA,hA2⟩:=cut_nl TA
 have both: ∀{T:List Tk},Lx (pT a b) T []→ ∃M2 P' n',pQ (p,(0,0)) (h++10::rI a b).length M1 P' n' (iG P')∧pQ (q,(0,0)) (h++10::pT a b).length M2 P' n' (iG P')∧M2.map TokV.tk=T:=fun{T} hT=>by
  obtain⟨M2,hQ0,hM2⟩:=head_inv hL hT hq;obtain⟨P',n',k1,k2⟩:=head_two rfl rfl _ L ⟨[],[]⟩ 0 (Nat.le_refl _) hP0 hQ0;exact⟨M2,P',n',k1,k2,hM2⟩
 have first: ∀{P':Prog} {n':Nat},pQ (p,(0,0)) (h++10::rI a b).length M1 P' n' (iG P')→iG P'=false∧ ∃o1 e1 a1 t2,fU o1 2 A∧(hZ o1 e1 2).2=(0,0)∧
   pQ (p,(0,0)) (h++10::rI a b).length t2 ⟨P'.inputs,P'.lines++[⟨iW,a1,(hZ o1 e1 2).1⟩]⟩ (n'+1) (iG ⟨P'.inputs,P'.lines++[⟨iW,a1,(hZ o1 e1 2).1⟩]⟩)∧t2.map TokV.tk=(A2++(NL::([WT [111,117,116],WT iW]++TB))).drop 1:=fun{P' n'} hP=>by
  obtain⟨o1,e1,q1,t2,ho1,hi1,hP2,ht2⟩:=zG (T:=WT iW::ColonT::A) (R:=A2++(NL::([WT [111,117,116],WT iW]++TB))) hP (by rw [hM1,eA];simp) (nonl2 (by decide) (by decide) hA) (by simp) (by
   rcases hA2 with rfl | ⟨t,B',rfl,h4⟩
   ·exact .inr ⟨_,_,rfl,rfl⟩
   ·exact .inr ⟨t,_,rfl,h4⟩)
  cases hov:iG P' with
  | true=>rw [hov] at hi1;exact(into_over hi1).elim
  | false=>
   rw [hov] at hi1;obtain⟨f1,ok1,a1,rfl⟩:=into_named (ins:=P'.inputs) (lns:=P'.lines) (nm:=iW) xZ ho1 hi1;exact⟨rfl,o1,e1,a1,t2,f1,ok1,hP2,ht2⟩
 have brk: ∀{R:List Tk} {toks:List TokV} {P':Prog} {n':Nat} {o1:List TokV} {e1:Int},Brk R→toks.map TokV.tk=WT [111,117,116]::OpenT::A++R→pQ (q,(0,0)) (h++10::pT a b).length toks P' n' (iG P')→iG P'=false→fU o1 2 A→(hZ o1 e1 2).2=(0,0)→False:=fun{R toks P' n' o1 e1} hR ht hP hov f1 ok1=>by
  obtain⟨o,e,q',_,ho,hi,_⟩:=zG (T:=WT [111,117,116]::OpenT::A) hP ht (nonl2 (by decide) (by decide) hA) (by simp) hR;rw [hov] at hi;obtain⟨f,ok,_⟩:=bIs (ins:=P'.inputs) (lns:=P'.lines) ho hi;exact open_fails f1 hA ok1 f ok
 rcases hLq with hLq | ⟨R,hR,hLq⟩
 ·obtain⟨M2,P',n',hP1,hQ1,hM2⟩:=both hLq;obtain⟨hov,o1,e1,a1,t2,f1,ok1,hP2,ht2⟩:=first hP1
  rcases hA2 with rfl | ⟨t,B',rfl,h4⟩
  ·rw [List.append_nil] at eA;subst eA;obtain⟨B,B2,eB,hB,hB2⟩:=cut_nl TB;subst eB;have hov2:iG (⟨P'.inputs,P'.lines++[⟨iW,a1,(hZ o1 e1 2).1⟩]⟩:Prog)=false:=by rw [xC];rfl
   obtain⟨o2,e2,q2,t3,ho2,hi2,hP3,ht3⟩:=zG (T:=WT [111,117,116]::WT iW::B) (R:=B2) hP2 (by rw [ht2];simp) (nonl2 (by decide) (by decide) hB) (by simp) hB2;rw [hov2] at hi2;obtain⟨f2,ok2,a2,rfl⟩:=bIs ho2 hi2;obtain⟨o3,e3,q3,u2,ho3,hi3,hQ2,hu2⟩:=zG (T:=WT [111,117,116]::OpenT::(TA++CloseT::B)) (R:=B2) hQ1 (by rw [hM2];simp) (nonl2 (by decide) (by decide) (tB.append hA (fun x hx=>by rcases List.mem_cons.1 hx with rfl | hx;decide;exact hB x hx))) (by simp) hB2;rw [hov] at hi3;obtain⟨f3,ok3,a3,rfl⟩:=bIs (ins:=P'.inputs) (lns:=P'.lines) ho3 hi3;rw [over_out] at hP3 hQ2;have ep:=bFs _ (Nat.le_refl _) hP3;have eq:=bFs _ (Nat.le_refl _) hQ2
   have hlns:P'.lines=[]:=by
    rw [ep] at hl;simp at hl;exact hl
   obtain⟨x,V,hV,hx,hW⟩:=two_reads (nm:=iW) xZ f1 hA ok1 f2 hB ok2 f3 ok3;refine⟨P'.inputs.map gG.un,(hZ o1 e1 2).1,x,V,(hZ o3 e3 1).1,?_,?_,hx,hW,_,_,by rw [ep,hlns];rfl,hV⟩
   ·rw [ep,←hV,hlns];simp only [Prog.un];rfl
   ·rw [eq,hlns];simp only [Prog.un];rfl
  ·exact(brk (.inr ⟨t,_,rfl,h4⟩) (by rw [hM2,eA];simp;rfl) hQ1 hov f1 ok1).elim
 ·obtain⟨M2,P',n',hP1,hQ1,hM2⟩:=both hLq;obtain⟨hov,o1,e1,a1,t2,f1,ok1,hP2,ht2⟩:=first hP1
  refine(brk (R:=A2++R) ?_ (by rw [hM2,eA];simp) hQ1 hov f1 ok1).elim
  rcases hA2 with rfl | ⟨t,B',rfl,h4⟩
  ·exact hR
  ·exact .inr ⟨t,_,rfl,h4⟩
theorem name_blank{s k:Bs}(h:dS s=true):s≠jS++k:=fun e=>by
 have hw:=(oR h).all;rw [e] at hw;have:=hw 32 (by simp [jS])
 revert this
 decide
theorem nameT_hit(N:gM)(k:Bs)(t:TyP):nameT ((jS++k,t)::N) k=some t:=by
 unfold nameT;rw [nY,if_pos rfl]
theorem nameT_more{N:gM}{s k:Bs}{t:TyP}(h1:s≠k)(h2:dS s=true):nameT ((jS++k,t)::N) s=nameT N s:=by
 unfold nameT
 have e1:nY (jS++s) ((jS++k,t)::N)=nY (jS++s) N:=by
  rw [nY,if_neg (fun e=>h1 (List.append_cancel_left e))]
 have e2:nY (nIn++s) ((jS++k,t)::N)=nY (nIn++s) N:=by
  rw [nY,if_neg (fun e=>by simp [nIn,jS] at e)]
 have e3:nY s ((jS++k,t)::N)=nY s N:=by
  rw [nY,if_neg (name_blank h2)]
 rw [e1,e2,e3]
theorem itemT_more{N:gM}{it:dJ}{k:Bs}{t:TyP}(h1:it.name≠k)(h2:it.how=2→dS it.name=true)(st:List TyP):gC ((jS++k,t)::N) it st=gC N it st:=by
 unfold gC
 by_cases h:it.how=2
 ·rw [nameT_more h1 (h2 h)]
 ·rw [if_neg h,if_neg h]
theorem bEf: ∀(l:List dJ) (st r:List fS),fT l st=some r→ ∀it∈l,it.how=2→dS it.name=true
 | [],_,_,_,it,h,_=>by cases h
 | x::l,st,r,h,it,hi,h2=>by
  rw [fT] at h
  cases hs:iH st x with
  | none=>rw [hs] at h;cases h
  | some st'=>
   rw [hs] at h
   rcases List.mem_cons.1 hi with rfl | hi
   ·unfold iH at hs;rw [if_pos (.inr h2)] at hs;unfold operandS at hs;rw [if_pos h2] at hs;split at hs
    ·rename_i k;exact k.2.2
    ·cases hs
   ·exact bEf l st' r h it hi h2
theorem bHp{l:List dJ}{m:Nat}{t:Bs}(h:gE l m=some t): ∀it∈l,it.how=2→dS it.name=true:=by
 unfold gE at h;split at h
 ·cases h
 ·cases hs:fT l [] with
  | none=>rw [hs] at h;cases h
  | some r=>exact bEf l [] r hs
theorem bDh: ∀(ls:List kL) (o:Bs),(fO ls o).2=true→ ∀l∈ls,∀it∈l.items,it.how=2→dS it.name=true
 | [],_,_,l,h=>by cases h
 | [x],o,h,l,hl=>by
  rw [List.mem_singleton.1 hl];rw [fO] at h
  cases hx:gE x.items 255 with
  | none=>rw [hx] at h;cases h
  | some t=>exact bHp hx
 | x::y::r,o,h,l,hl=>by
  rw [fO] at h
  ·cases hx:gE x.items 254 with
   | none=>rw [hx] at h;cases h
   | some t=>
    rw [hx] at h;simp only at h;split at h
    ·cases h
    ·rcases List.mem_cons.1 hl with rfl | hl
     ·exact bHp hx
     ·exact bDh (y::r) _ h l hl
  ·simp
theorem right_names{p:Prog}(h:(dQ p).2=true): ∀l∈p.lines,∀it∈l.items,it.how=2→dS it.name=true:=by
 unfold dQ at h;split at h
 ·cases h
 ·cases hi:jX p.inputs [] with
  | mk o b=>
   rw [hi] at h
   cases b with
   | false=>cases h
   | true=>exact bDh p.lines o h
theorem bMq(N:gM): ∀(a b:List dJ) (st all:List TyP),gL N (a++b) st all=match gL N a st all with
  | .error f=> .error f
  | .ok (st',all')=>gL N b st' all'
 | [],b,st,all=>rfl
 | x::a,b,st,all=>by
  rw [List.cons_append,gL,gL]
  by_cases h:(gC N x st).2≠0
  ·rw [if_pos h,if_pos h]
  ·rw [if_neg h,if_neg h];exact bMq N a b _ _
theorem bFy{N:gM}{k:Bs}{t:TyP}: ∀{l:List dJ} {st all:List TyP},(∀x∈l,x.name≠k∧(x.how=2→dS x.name=true))→gL ((jS++k,t)::N) l st all=gL N l st all
 | [],_,_,_=>rfl
 | x::l,st,all,h=>by
  rw [gL,gL,itemT_more (h x (List.mem_cons_self ..)).1 (h x (List.mem_cons_self ..)).2];split
  ·rfl
  ·exact bFy fun y hy=>h y (List.mem_cons_of_mem _ hy)
theorem bCu{N:gM}: ∀{l:List dJ} {st all st' all':List TyP},gL N l st all= .ok (st',all')→ ∃m,all'=all++m∧(∀all2,gL N l st all2= .ok (st',all2++m))∧(l≠[]→ ∃m' t,m=m'++[t]∧st'.head?=some t)
 | [],st,all,st',all',h=>by
  cases h;exact⟨[],by simp,fun all2=>by simp [gL],fun h=>absurd rfl h⟩
 | x::l,st,all,st',all',h=>by
  rw [gL] at h;split at h
  ·cases h
  ·rename_i h0;obtain⟨m,e,k1,k2⟩:=bCu h;refine⟨(gC N x st).1::m,by rw [e];simp,fun all2=>?_,fun _=>?_⟩
   ·rw [gL,if_neg h0,k1];simp
   ·cases l with
    | nil=>
     cases h;have:m=[]:=by simpa using e
     exact⟨[],(gC N x st).1,by rw [this];rfl,rfl⟩
    | cons y l=>
     obtain⟨m',t,e1,e2⟩:=k2 (by simp);exact⟨(gC N x st).1::m',t,by rw [e1];rfl,e2⟩
theorem lineT_err{N:gM}: ∀{l:List dJ} {st all:List TyP} {f:Flt},gL N l st all= .error f→f.2≠0∧ ∀all2,gL N l st all2= .error f
 | [],_,_,_,h=>by cases h
 | x::l,st,all,f,h=>by
  rw [gL] at h;split at h
  ·rename_i h0;cases h;exact⟨h0,fun all2=>by rw [gL,if_pos h0]⟩
  ·rename_i h0;obtain⟨a,b⟩:=lineT_err h;exact⟨a,fun all2=>by rw [gL,if_neg h0];exact b _⟩
theorem bEc{N:gM}: ∀{l:List dJ} {st all st' all':List TyP} {n d:Nat},st.length=n→lG l n=some d→gL N l st all= .ok (st',all')→st'.length=d
 | [],st,all,st',all',n,d,hs,hd,h=>by
  cases h;cases hd;exact hs
 | x::l,st,all,st',all',n,d,hs,hd,h=>by
  rw [lG] at hd;split at hd
  ·rename_i h0;rw [gL] at h;split at h
   ·cases h
   ·exact bEc (by rw [List.length_cons,List.length_drop,hs]) hd h
  ·cases hd
theorem fresh_types{X:List gG}{nm:Bs}{U V:List dJ}{x:dJ}(hx:x=⟨2,0,0,nm,[]⟩)(hV: ∀y∈V,y.name≠nm)(hp:(dQ ⟨X,[⟨nm,0,U⟩,⟨[],0,x::V⟩]⟩).2=true)(hq:(dQ ⟨X,[⟨[],0,U++V⟩]⟩).2=true):
  (fK ⟨X,[⟨nm,0,U⟩,⟨[],0,x::V⟩]⟩).2.2=(fK ⟨X,[⟨[],0,U++V⟩]⟩).2.2∧
  ((fK ⟨X,[⟨nm,0,U⟩,⟨[],0,x::V⟩]⟩).2.2=0→ ∃a b c t,(fK ⟨X,[⟨nm,0,U⟩,⟨[],0,x::V⟩]⟩).1=[a,b++[t]]∧(fK ⟨X,[⟨[],0,U++V⟩]⟩).1=[c++[t]]):=by
 have hdep:lG U 0=some 1:=vA hp ⟨nm,0,U⟩ (by simp);have hnames:=right_names hp ⟨[],0,x::V⟩ (by simp)
 have hV': ∀y∈V,y.name≠nm∧(y.how=2→dS y.name=true):=fun y hy=>⟨hV y hy,hnames y (List.mem_cons_of_mem _ hy)⟩
 have hU:U≠[]:=fun e=>by rw [e] at hdep;cases hdep
 have hvars:varsP ⟨X,[⟨nm,0,U⟩,⟨[],0,x::V⟩]⟩=varsP ⟨X,[⟨[],0,U++V⟩]⟩:=rfl;have hchk:nU ⟨X,[⟨nm,0,U⟩,⟨[],0,x::V⟩]⟩=nU ⟨X,[⟨[],0,U++V⟩]⟩:=rfl;unfold fK;rw [hp,hq,hvars,hchk,if_neg (by simp),if_neg (by simp)];generalize nU ⟨X,[⟨[],0,U++V⟩]⟩=N
 show(match X.find? (rN (varsP ⟨X,[⟨[],0,U++V⟩]⟩)) with
  | some x=>(([],(x.at_,80)):List (List TyP)×Flt)
  | none=>jT N [⟨nm,0,U⟩,⟨[],0,x::V⟩] []).2.2=(match X.find? (rN (varsP ⟨X,[⟨[],0,U++V⟩]⟩)) with
  | some x=>(([],(x.at_,80)):List (List TyP)×Flt)
  | none=>jT N [⟨[],0,U++V⟩] []).2.2∧((match X.find? (rN (varsP ⟨X,[⟨[],0,U++V⟩]⟩)) with
  | some x=>(([],(x.at_,80)):List (List TyP)×Flt)
  | none=>jT N [⟨nm,0,U⟩,⟨[],0,x::V⟩] []).2.2=0→ ∃a b c t,(match X.find? (rN (varsP ⟨X,[⟨[],0,U++V⟩]⟩)) with
  | some x=>(([],(x.at_,80)):List (List TyP)×Flt)
  | none=>jT N [⟨nm,0,U⟩,⟨[],0,x::V⟩] []).1=[a,b++[t]]∧(match X.find? (rN (varsP ⟨X,[⟨[],0,U++V⟩]⟩)) with
  | some x=>(([],(x.at_,80)):List (List TyP)×Flt)
  | none=>jT N [⟨[],0,U++V⟩] []).1=[c++[t]])
 cases X.find? (rN (varsP ⟨X,[⟨[],0,U++V⟩]⟩)) with
 | some y=>exact⟨rfl,fun h=>by cases h⟩
 | none=>
  simp only [jT];rw [bMq]
  cases hl:gL N U [] [] with
  | error f=>exact⟨rfl,fun h=>absurd h (lineT_err hl).1⟩
  | ok s=>
   obtain⟨st,all⟩:=s;have hlen:=bEc rfl hdep hl;obtain⟨m,e,_,k⟩:=bCu hl;obtain⟨m',t,e1,e2⟩:=k hU
   have hst:st=[t]:=by
    match st,hlen,e2 with
    | [y],_,e2=>cases e2;rfl
   subst hst;simp only
   have hi:gL ((jS++nm,[t].getLastD default)::N) (x::V) [] []=gL N V [t] [t]:=by
    rw [gL,hx]
    have:gC ((jS++nm,[t].getLastD default)::N) ⟨2,0,0,nm,[]⟩ []=(t,0):=by
     unfold gC;rw [if_neg (show ¬((2:Int)=1) by decide),if_pos rfl,nameT_hit];rfl
    rw [this,if_neg (by simp)];exact bFy hV'
   rw [hi]
   cases hv:gL N V [t] [t] with
   | error f=>
    rw [(lineT_err hv).2];exact⟨rfl,fun h=>absurd h (lineT_err hv).1⟩
   | ok r=>
    obtain⟨s2,all2⟩:=r;obtain⟨w,f1,f2,f3⟩:=bCu hv;rw [f2];refine⟨rfl,fun _=>?_⟩
    by_cases hVe:V=[]
    ·subst hVe;cases hv;have:w=[]:=by simpa using f1
     subst this;exact⟨all,[],m',t,rfl,by simp [e,e1]⟩
    ·obtain⟨w',z,g1,_⟩:=f3 hVe;exact⟨all,[t]++w',all++w',z,by simp [f1,g1],by simp [g1]⟩
theorem fresh_law{h a b:Bs}{p q:Prog}(hp:fG (h++10::rI a b)=(p,(0,0)))(hq:fG (h++10::pT a b)=(q,(0,0)))(hl:p.lines.length=2):
  ∃l1 l2 m x V,p.lines=[l1,l2]∧q.lines=[m]∧l2.items=x::V∧((∀y∈V,y.name≠iW)→(fK p).2.2=(fK q).2.2∧((fK p).2.2=0→ ∃a b c t,(fK p).1=[a,b++[t]]∧(fK q).1=[c++[t]])):=by
 obtain⟨X,U,x,V,W,h1,h2,h3,h4,l1,l2,h5,h6⟩:=fresh_read hp hq hl
 have hlq: ∃m,q.lines=[m]:=by
  have:=congrArg (fun p:Prog=>p.lines.length) h2;simp only [Prog.un,List.length_map,List.length_cons,List.length_nil] at this
  match q.lines,this with
  | [m],_=>exact⟨m,rfl⟩
 obtain⟨m,hm⟩:=hlq;refine⟨l1,l2,m,x,V,h5,hm,h6,fun hV=>?_⟩;have rp:=(qT (text:=h++10::rI a b) (by rw [hp])).1;have rq:=(qT (text:=h++10::pT a b) (by rw [hq])).1;rw [hp] at rp;rw [hq] at rq;rw [←yC,h1] at rp;rw [←yC,h2,h4] at rq
 have hk:=fresh_types (X:=X) (nm:=iW) (U:=gO U) (V:=gO V) h3 (fun y hy=>by
  obtain⟨z,hz,rfl⟩:=List.mem_map.1 hy
  exact hV z hz) rp rq
 have mp:=types_un p;have mq:=types_un q;rw [h1] at mp;rw [h2,h4] at mq;have e:gO (x::V)=x.un::gO V:=rfl;rw [e] at mp;rw [mp,mq] at hk;exact hk
theorem two_lines{X:ProgV}{l1 l2:kL}(h:X.pr.lines=[l1,l2]): ∃v1 v2,X.lines.list=[v1,v2]∧v2.ln=l2:=by
 have h:X.lines.list.map LineV.ln=[l1,l2]:=h
 match hx:X.lines.list,h with
 | [v1,v2],h=>
  simp only [List.map_cons,List.map_nil,List.cons.injEq,and_true] at h;exact⟨v1,v2,rfl,h.2⟩
theorem one_line'{X:ProgV}{m:kL}(h:X.pr.lines=[m]):X.lines.list.length=1:=by
 have h:X.lines.list.map LineV.ln=[m]:=h;have:=congrArg List.length h
 simpa using this
theorem items_of{v:LineV}{l:kL}{x:dJ}{V:List dJ}(h:v.ln=l)(hi:l.items=x::V): ∃y ys,v.items.list=y::ys∧ys.map ItemV.it=V:=by
 subst h;have hi:v.items.list.map ItemV.it=x::V:=hi
 match hx:v.items.list,hi with
 | y::ys,hi=>
  simp only [List.map_cons,List.cons.injEq] at hi;exact⟨y,ys,rfl,hi.2⟩
theorem all_take'{α:Type}{p:α→Prop}{l:List α}{i:Nat}{x:α}(h: ∀y∈l.take i,p y)(hx:l[i]?=some x)(px:p x): ∀y∈l.take (i+1),p y:=fun y hy=>by
 obtain⟨hi,e⟩:=List.getElem?_eq_some_iff.1 hx;rw [List.take_succ_eq_append_getElem hi,e] at hy
 rcases List.mem_append.1 hy with hy | hy
 ·exact h y hy
 ·rw [List.mem_singleton.1 hy];exact px
theorem all_whole'{α:Type}{p:α→Prop}{l:List α}{i:Nat}(h: ∀y∈l.take i,p y)(hi:l.length≤i): ∀y∈l,p y:=by rwa [List.take_of_length_le hi] at h
def s91:Bs:=[105,110,32,120,32,110,10,111,117,116,32,120,32,99,97,116,32,120]
def s92:Bs:=[105,110,32,120,32,110,10,111,117,116,32,120,32,43,32,49,32,50]
def s93:Bs:=[105,110,32,120,32,110,10,111,117,116,32,49,32,116,97,107,101,32,120]
def s94:Bs:=[111,117,116,32,50,32,51,32,114,104,111,32,49]
theorem p91:(fG s91).2=(0,0):=by decide+kernel
theorem p92:(fG s92).2=(0,0):=by decide+kernel
theorem p93:(fG s93).2=(0,0):=by decide+kernel
theorem p94:(fG s94).2=(0,0):=by decide+kernel
def tQ (s:Bs):List TyP:=(fK (fG s).1).1.getLast?.getD []
def lastTy(s:Bs):TyP:=(tQ s).getLast?.getD default
theorem f91:(fK (fG s91).1).2=(0,0)∧(fK (fG s91).1).1.getLast?=some (tQ s91)∧(tQ s91).getLast?=some (lastTy s91)∧(lastTy s91).sides=[[⟨2,1,0,0,0,0,0⟩]]:=by decide+kernel
theorem f94:(fK (fG s94).1).2=(0,0)∧(fK (fG s94).1).1.getLast?=some (tQ s94)∧(tQ s94).getLast?=some (lastTy s94)∧(lastTy s94).sides.length=2:=by decide+kernel
theorem f92:fK (fG s92).1=([],(13,91)):=by decide+kernel
theorem f93:fK (fG s93).1=([],(13,93)):=by decide+kernel
theorem l91:(fK (fG s91).1).1.length≤1000∧(tQ s91).length≤1000:=by decide+kernel
theorem l94:(fK (fG s94).1).1.length≤1000∧(tQ s94).length≤1000:=by decide+kernel
theorem last_at{α β:Type}{g:α→β}{xs:List α}{T:List β}{r:β}(h:xs.map g=T)(h1:T.getLast?=some r): ∃x,xs[xs.length-1]?=some x∧g x=r∧1≤xs.length:=by
 subst h;rw [List.getLast?_eq_getElem?,List.length_map,List.getElem?_map] at h1
 cases e:xs[xs.length-1]? with
 | none=>rw [e] at h1;cases h1
 | some x=>
  rw [e] at h1;cases h1;have:=(List.getElem?_eq_some_iff.1 e).1;exact⟨x,rfl,rfl,by omega⟩
theorem one_pol9{l:List PolV}{q:Pol}(h:cB l=[q]): ∃p,l=[p]∧p.list=q:=by
 match l,h with
 | [p],h=>
  unfold cB at h;simp only [List.map_cons,List.map_nil,List.cons.injEq,and_true] at h;exact⟨p,rfl,h⟩
set_option maxRecDepth 100000 in
theorem bEj(s:Bs)(hs:s.length≤65536)(h0:(fG s).2=(0,0))(T:List (List TyP))(row:List TyP)(t:TyP)(hT9:fK (fG s).1=(T,(0,0)))(h1:T.getLast?=some row)(h2:row.getLast?=some t)(hTl:T.length≤1000)(hrl:row.length≤1000):dX Tryz.prog 40 [.string (bs s)] [] [iK] (fun(x:TyV)=> .tuple #[tyC x,.agg #[.int .i64 0,.int .i64 0]]) (fun _=>[]) (fun(x:TyV)=>[tyF x,Fact.pure (x.t=t)]):=by
 have hT:=fI;refine cW Tryz.func40 rfl Tryz.ntmps40 rfl ?_;intro β hM;refine sr<|bY rfl rfl rfl rfl oH rfl fun b1=>?_;refine bY rfl rfl rfl rfl xY rfl fun b2=>?_;refine nn<|sr<|sp hT ?_;have psp:=uE s (Nat.le_trans hs (by decide));rw [h0] at psp;refine bR Tryz.func18 psp rfl rfl .nil ⟨(Has.of mT0),trivial⟩ fun X3=>?_;refine bS (Has.of mT1) fun hpr=>?_;refine bE (kU.sl (.slice X3.inputs.addr X3.inputs.list.length X3.inputs.cap) X3.inputs.list) (Has.left (Has.left (Has.of mT0))) ?_;refine bE (jA X3.inputs.list) (Has.right (Has.left (Has.of mT1))) ?_;refine bE (pH.sl (.slice X3.lines.addr X3.lines.list.length X3.lines.cap) X3.lines.list) (Has.left (Has.right (Has.of mT2))) ?_;refine bE (lT X3.lines.list) (Has.right (Has.right (Has.of mT3))) ?_;have hrd:=qT h0;rw [←hpr] at hrd;have hfine:=oD hrd.1;have hok:=hfine.ok hrd.2;refine sp3 hT ?_;refine bY rfl rfl rfl rfl oA rfl fun b4=>?_;refine bY rfl rfl rfl rfl xY rfl fun b5=>?_;refine sto hT kT1 ?_;refine sto hT kT1 ?_;refine nn<|bA<|sr<|ss (ldN hT (bJ .head)) ?_;refine ss (cC rfl rfl (vZ)) ?_;refine ss (fM ⟨0,0⟩ ⟨0,0⟩ rfl rfl rfl) ?_;refine bZ (t':=false) (by first | decide | rfl | simp) ?_;refine nn<|cG rfl rfl ?_;refine bN<|bC<|sr<|ss (ldN hT (bJ kT1)) ?_;have tsp:=uL X3 hok.1 hok.2.1 hok.2.2;rw [hpr,hT9] at tsp;refine bR Tryz.func21 tsp rfl rfl .nil ⟨(Has.of mT6),(Has.of mT3),(Has.of mT2),(Has.of mT1),(Has.of mT0),trivial⟩ fun⟨A6,c7,xs8⟩=>?_;refine jN (v':= .tuple #[.slice A6 xs8.length c7,.agg #[.int .i64 0,.int .i64 0]]) rfl ?_;refine bS (Has.of mT2) fun hts=>?_;refine bE (wH.sl (.slice A6 xs8.length c7) xs8) ((Has.of mT0)) ?_;refine bE (Fact.each xs8 bAr) ((Has.of mT2)) ?_;obtain⟨rw0,hx1,hx2,hx3⟩:=last_at hts.1 h1;obtain⟨ty0,hy1,hy2,hy3⟩:=last_at (g:=TyV.t) hx2 h2;have hx4:1≤xs8.length:=hx3;have hxl:xs8.length≤1000:=by have:=congrArg List.length hts.1;rw [List.length_map] at this;have h3:xs8.length=T.length:=this;omega
 have hyl:rw0.list.length≤1000:=by have:=congrArg List.length hx2;rw [rowT_len] at this;omega
 refine bE (bAr rw0) (Has.each (Has.of mT0) (List.mem_of_getElem? hx1)) ?_;refine bE (tyE.sl (.slice rw0.addr rw0.list.length rw0.cap) rw0.list) (rowF_s (Has.of mT0)) ?_;refine bE (tyF ty0) (Has.each (rowF_e (Has.of mT1)) (List.mem_of_getElem? hy1)) ?_;refine sp4 hT ?_;refine sto hT .head ?_;refine nn<|bA<|sr<|ss (ldN hT (bJ .head)) ?_;refine ss (cC rfl rfl (vZ)) ?_;refine ss (fM ⟨0,0⟩ ⟨0,0⟩ rfl rfl rfl) ?_;refine bZ (t':=false) (by first | decide | rfl | simp) ?_;refine sp4 hT ?_;refine bZ (t':=false) (beq_eq_false_iff_ne.2 (by omega)) ?_;refine sp4 hT ?_;refine sp2 hT ?_;refine bT (z':=(((xs8.length-1):Nat):Int)) (cP (by omega) (by omega)) ?_;refine ss (bU hT (k:=(xs8.length-1)) (bK (Has.of mT4)) rfl rfl rfl rfl rfl rfl rfl (by omega)) ?_;refine ss (cE hT (cN.knows (bK (Has.of mT4)) (k:=(xs8.length-1)) (x:=rw0) hx1 0) rfl rfl rfl rfl rfl) ?_;refine sp2 hT ?_;refine bZ (t':=false) (beq_eq_false_iff_ne.2 (by omega)) ?_;refine sp hT ?_;refine nn<|cG rfl rfl ?_;refine bN<|bC<|sr<|sp4 hT ?_;refine bT (z':=(((xs8.length-1):Nat):Int)) (cP (by omega) (by omega)) ?_;refine ss (bU hT (k:=(xs8.length-1)) (bK (Has.of mT4)) rfl rfl rfl rfl rfl rfl rfl (by omega)) ?_;refine ss (cE hT (cN.knows (bK (Has.of mT4)) (k:=(xs8.length-1)) (x:=rw0) hx1 0) rfl rfl rfl rfl rfl) ?_;refine sp hT ?_;refine nn<|bA<|cZ _ _ [(true,0),(true,1),(true,2),(true,3),(true,4),(true,5),(true,6),(false,7),(false,8)] dD (by decide+kernel) (.cons .head (.cons .head .nil)) bI.self ?_;refine puM hT ?_;refine puM hT ?_;refine puM hT ?_;refine puM hT ?_;refine bT (z':=(((rw0.list.length-1):Nat):Int)) (cP (by omega) (by omega)) ?_;refine stM rfl (bU hT (k:=(rw0.list.length-1)) (bK (Has.of mT1)) rfl rfl rfl rfl rfl rfl rfl (by omega)) ?_;refine stM rfl (dU hT (cN.knows (bK (Has.of mT1)) (k:=(rw0.list.length-1)) (x:=ty0) hy1 0) rfl rfl rfl rfl rfl) ?_;refine stM rfl (ldN hT (bJ .head)) ?_;refine cK (o:=_) rfl ?_;refine sto hT kT3 ?_;refine cL (.cons kT1 (.cons kT1 .nil)) (bI.drop 0) ?_;refine cK (o:=_) rfl ?_;refine sto hT kT3 ?_;refine cL (.cons kT2 (.cons kT2 .nil)) (bI.drop 0) ?_;refine cQ<|bC<|bF ?_;exact bO (ty0:TyV) rfl (bM hT (bJ kT1) rfl rfl rfl rfl) (bM hT (bJ .head) rfl rfl rfl rfl) .nil ⟨(Has.of mT0),Has.pure hy2,trivial⟩ rfl
set_option maxRecDepth 100000 in
theorem bBg(s:Bs)(hs:s.length≤65536)(h0:(fG s).2=(0,0))(f:Flt)(hf:f.2≠0)(hT9:fK (fG s).1=([],f)):dX Tryz.prog 40 [.string (bs s)] [] [iK] (fun(x:TyV)=> .tuple #[tyC x,.agg #[.int .i64 f.1,.int .i64 f.2]]) (fun _=>[]) (fun(x:TyV)=>[tyF x,Fact.pure (x.t=⟨[],false,[]⟩)]):=by
 have hT:=fI;refine cW Tryz.func40 rfl Tryz.ntmps40 rfl ?_;intro β hM;refine sr<|bY rfl rfl rfl rfl oH rfl fun b1=>?_;refine bY rfl rfl rfl rfl xY rfl fun b2=>?_;refine nn<|sr<|sp hT ?_;have psp:=uE s (Nat.le_trans hs (by decide));rw [h0] at psp;refine bR Tryz.func18 psp rfl rfl .nil ⟨(Has.of mT0),trivial⟩ fun X3=>?_;refine bS (Has.of mT1) fun hpr=>?_;refine bE (kU.sl (.slice X3.inputs.addr X3.inputs.list.length X3.inputs.cap) X3.inputs.list) (Has.left (Has.left (Has.of mT0))) ?_;refine bE (jA X3.inputs.list) (Has.right (Has.left (Has.of mT1))) ?_;refine bE (pH.sl (.slice X3.lines.addr X3.lines.list.length X3.lines.cap) X3.lines.list) (Has.left (Has.right (Has.of mT2))) ?_;refine bE (lT X3.lines.list) (Has.right (Has.right (Has.of mT3))) ?_;have hrd:=qT h0;rw [←hpr] at hrd;have hfine:=oD hrd.1;have hok:=hfine.ok hrd.2;refine sp3 hT ?_;refine bY rfl rfl rfl rfl oA rfl fun b4=>?_;refine bY rfl rfl rfl rfl xY rfl fun b5=>?_;refine sto hT kT1 ?_;refine sto hT kT1 ?_;refine nn<|bA<|sr<|ss (ldN hT (bJ .head)) ?_;refine ss (cC rfl rfl (vZ)) ?_;refine ss (fM ⟨0,0⟩ ⟨0,0⟩ rfl rfl rfl) ?_;refine bZ (t':=false) (by first | decide | rfl | simp) ?_;refine nn<|cG rfl rfl ?_;refine bN<|bC<|sr<|ss (ldN hT (bJ kT1)) ?_;have tsp:=uL X3 hok.1 hok.2.1 hok.2.2;rw [hpr,hT9] at tsp;refine bR Tryz.func21 tsp rfl rfl .nil ⟨(Has.of mT6),(Has.of mT3),(Has.of mT2),(Has.of mT1),(Has.of mT0),trivial⟩ fun⟨A6,c7,xs8⟩=>?_;refine jN (v':= .tuple #[.slice A6 xs8.length c7,.agg #[.int .i64 f.1,.int .i64 f.2]]) rfl ?_;refine bS (Has.of mT2) fun hts=>?_;refine bE (wH.sl (.slice A6 xs8.length c7) xs8) ((Has.of mT0)) ?_;refine bE (Fact.each xs8 bAr) ((Has.of mT2)) ?_;refine sp4 hT ?_;refine sto hT .head ?_;refine nn<|bA<|sr<|ss (ldN hT (bJ .head)) ?_;refine ss (cC rfl rfl (vZ)) ?_;refine ss (fM ⟨f.1,f.2⟩ ⟨0,0⟩ rfl rfl rfl) ?_;refine bZ (t':=true) (flt_bad hf) ?_;refine sp hT ?_;refine sk3 ?_;refine sp2 hT ?_;refine sk4 ?_;refine sk4 ?_;refine sp hT ?_;refine nn<|cI rfl rfl ?_;refine bA<|cZ _ _ [(true,0),(true,1),(false,2),(false,3)] dD (by decide+kernel) (.cons .head (.cons .head .nil)) bI.self ?_;refine stM rfl (cC rfl rfl (uH)) ?_;refine stM rfl (ldN hT (bJ .head)) ?_;refine cK (o:=_) rfl ?_;refine sto hT kT3 ?_;refine cL (.cons kT1 (.cons kT1 .nil)) (bI.drop 0) ?_;refine cK (o:=_) rfl ?_;refine sto hT kT3 ?_;refine cL (.cons kT2 (.cons kT2 .nil)) (bI.drop 0) ?_;refine cQ<|bC<|bF<|bB ?_;exact bO (noTy:TyV) rfl (bM hT (bJ kT1) rfl rfl rfl rfl) (bM hT (bJ .head) rfl rfl rfl rfl) .nil ⟨noTy_F,Has.pure rfl,trivial⟩ rfl
set_option maxRecDepth 100000 in
theorem shown9_spec:dX Tryz.prog 20 [] [] [iK] (fun(_:Unit)=> .bool true) (fun _=>[]) (fun _=>[]):=by
 have hT:=fI;refine cW Tryz.func20 rfl Tryz.ntmps20 rfl ?_;intro β hM;refine sr<|sp hT ?_;refine nn<|sr<|bR Tryz.func40 (bEj s91 (by decide) p91 _ _ _ (Prod.ext rfl f91.1) f91.2.1 f91.2.2.1 l91.1 l91.2) rfl rfl .nil ⟨(Has.of mT0),trivial⟩ fun u1=>?_;refine bS (Has.of mT1) fun hu1=>?_;obtain⟨pl,hpl,hpm⟩:=one_pol9 ((congrArg TyP.sides hu1).trans f91.2.2.2);refine bE (dO u1.sides) (lV (Has.of mT0)) ?_;refine bE (cH.sl (.slice u1.sides.addr u1.sides.list.length u1.sides.cap) u1.sides.list) (dL (Has.of mT0)) ?_;refine bE (cT u1.sides.list) (dN (Has.of mT1)) ?_;refine bS (dT (Has.of mT2)) fun hc_u1s=>?_;refine bE (dO u1.values) (lO (Has.of mT3)) ?_;refine bE (cH.sl (.slice u1.values.addr u1.values.list.length u1.values.cap) u1.values.list) (dL (Has.of mT0)) ?_;refine bE (cT u1.values.list) (dN (Has.of mT1)) ?_;refine bS (dT (Has.of mT2)) fun hc_u1v=>?_;refine bE (mH.sl (.slice pl.addr pl.list.length pl.cap) pl.list) (vX (Has.each (Has.of mT3) (by rw [hpl];exact List.mem_singleton.2 rfl))) ?_;have hpl1:u1.sides.list.length=1:=by rw [hpl];rfl
 have hpm1:pl.list.length=1:=by rw [hpm];rfl
 refine sp3 hT ?_;refine bY rfl rfl rfl rfl oH rfl fun b1=>?_;refine bY rfl rfl rfl rfl xY rfl fun b2=>?_;refine sto hT kT1 ?_;refine sto hT kT1 ?_;refine nn<|sr<|bR Tryz.func40 (bBg s92 (by decide) p92 (13,91) (by decide) f92) rfl rfl .nil ⟨(Has.of mT9),trivial⟩ fun u2=>?_;refine bS (Has.of mT1) fun hu2=>?_;refine sp3 hT ?_;refine bY rfl rfl rfl rfl oH rfl fun b3=>?_;refine bY rfl rfl rfl rfl xY rfl fun b4=>?_;refine sto hT kT1 ?_;refine sto hT kT1 ?_;refine nn<|sr<|bR Tryz.func40 (bBg s93 (by decide) p93 (13,93) (by decide) f93) rfl rfl .nil ⟨(Has.of pZ),trivial⟩ fun u3=>?_;refine bS (Has.of mT1) fun hu3=>?_;refine sp3 hT ?_;refine bY rfl rfl rfl rfl oH rfl fun b5=>?_;refine bY rfl rfl rfl rfl xY rfl fun b6=>?_;refine sto hT kT1 ?_;refine sto hT kT1 ?_;refine nn<|sr<|bR Tryz.func40 (bEj s94 (by decide) p94 _ _ _ (Prod.ext rfl f94.1) f94.2.1 f94.2.2.1 l94.1 l94.2) rfl rfl .nil ⟨(Has.of lE),trivial⟩ fun u4=>?_;refine bS (Has.of mT1) fun hu4=>?_;have hu41:u4.sides.list.length=2:=by have:=(congrArg (fun t:TyP=>t.sides.length) hu4).trans f94.2.2.2;have this:(cB u4.sides.list).length=2:=this;rwa [bW] at this
 refine bE (dO u4.sides) (lV (Has.of mT0)) ?_;refine bE (cH.sl (.slice u4.sides.addr u4.sides.list.length u4.sides.cap) u4.sides.list) (dL (Has.of mT0)) ?_;refine bE (cT u4.sides.list) (dN (Has.of mT1)) ?_;refine bS (dT (Has.of mT2)) fun hc_u4s=>?_;refine bE (dO u4.values) (lO (Has.of mT3)) ?_;refine bE (cH.sl (.slice u4.values.addr u4.values.list.length u4.values.cap) u4.values.list) (dL (Has.of mT0)) ?_;refine bE (cT u4.values.list) (dN (Has.of mT1)) ?_;refine bS (dT (Has.of mT2)) fun hc_u4v=>?_;refine sp3 hT ?_;refine bY rfl rfl rfl rfl oH rfl fun b7=>?_;refine bY rfl rfl rfl rfl xY rfl fun b8=>?_;refine sto hT kT1 ?_;refine sto hT kT1 ?_;refine nn<|bA<|sr<|ss (ldN hT (bJ kT6)) ?_;refine ss (cC rfl rfl (vZ)) ?_;refine ss (fM ⟨0,0⟩ ⟨0,0⟩ rfl rfl rfl) ?_;refine bZ (t':=false) (by first | decide | rfl | simp) ?_;refine sp hT ?_;refine ss (ldN hT (bJ .head)) ?_;refine ss (cC rfl rfl (vZ)) ?_;refine ss (fM ⟨0,0⟩ ⟨0,0⟩ rfl rfl rfl) ?_;refine bZ (t':=false) (by first | decide | rfl | simp) ?_;refine sp3 hT ?_;refine ss (ldO hT (bJ kT7)) ?_;refine sp2 hT ?_;refine bZ (t':=false) (bne_eq_false_iff_eq.2 (by omega)) ?_;refine sp3 hT ?_;refine ss (ldO hT (bJ kT7)) ?_;refine ss (bU hT (k:=0) (bK (Has.of (.tail _ (.tail _ (.tail _ (.tail _ (.tail _ (.tail _ (.tail _ (.tail _ (.tail _ (.tail _ (.tail _ (.tail _ (.tail _ (.tail _ (.tail _ (.tail _ (.tail _ mT0))))))))))))))))))) rfl rfl rfl rfl rfl rfl rfl (by omega)) ?_;refine ss (cE hT (cN.knows (bK (Has.of (.tail _ (.tail _ (.tail _ (.tail _ (.tail _ (.tail _ (.tail _ (.tail _ (.tail _ (.tail _ (.tail _ (.tail _ (.tail _ (.tail _ (.tail _ (.tail _ (.tail _ mT0))))))))))))))))))) (k:=0) (x:=pl) (by rw [hpl];rfl) 0) rfl rfl rfl rfl rfl) ?_;refine sp2 hT ?_;refine bZ (t':=false) (bne_eq_false_iff_eq.2 (by omega)) ?_;refine sp3 hT ?_;refine ss (ldO hT (bJ kT1)) ?_;refine sp2 hT ?_;refine bZ (t':=false) (bne_eq_false_iff_eq.2 (by omega)) ?_;refine sp hT ?_;refine nn<|cG rfl rfl ?_;refine bN<|bC<|sr<|sp hT ?_;refine ss (ldO hT (bJ kT7)) ?_;refine ss (bU hT (k:=0) (bK (Has.of (.tail _ (.tail _ (.tail _ (.tail _ (.tail _ (.tail _ (.tail _ (.tail _ (.tail _ (.tail _ (.tail _ (.tail _ (.tail _ (.tail _ (.tail _ (.tail _ (.tail _ mT0))))))))))))))))))) rfl rfl rfl rfl rfl rfl rfl (by omega)) ?_;refine ss (cE hT (cN.knows (bK (Has.of (.tail _ (.tail _ (.tail _ (.tail _ (.tail _ (.tail _ (.tail _ (.tail _ (.tail _ (.tail _ (.tail _ (.tail _ (.tail _ (.tail _ (.tail _ (.tail _ (.tail _ mT0))))))))))))))))))) (k:=0) (x:=pl) (by rw [hpl];rfl) 0) rfl rfl rfl rfl rfl) ?_;refine ss (bU hT (k:=0) (bK (Has.of jV)) rfl rfl rfl rfl rfl rfl rfl (by omega)) ?_;refine sp hT ?_;refine ss (cE hT (cN.knows (bK (Has.of jV)) (k:=0) (x:=(⟨2,1,0,0,0,0,0⟩:Mono)) (by rw [hpm];rfl) 0) rfl rfl rfl rfl rfl) ?_;refine sp hT ?_;refine bZ (t':=true) (by rfl) ?_;refine sp hT ?_;refine ss (ldN hT (bJ kT4)) ?_;refine ss (cC rfl rfl (tI _ _)) ?_;refine ss (wM ⟨13,91⟩ ⟨13,91⟩ rfl rfl rfl) ?_;refine bZ (t':=true) (by first | decide | rfl | simp) ?_;refine sp2 hT ?_;refine ss (ldN hT (bJ kT2)) ?_;refine ss (cC rfl rfl (tI _ _)) ?_;refine ss (wM ⟨13,93⟩ ⟨13,93⟩ rfl rfl rfl) ?_;refine bZ (t':=true) (by first | decide | rfl | simp) ?_;refine sp2 hT ?_;refine nn<|bF ?_;exact bV () rfl (bG rfl) .nil trivial (rfl)
theorem lineT_wf{N:gM}(hN:nF N): ∀{l:List dJ} {st all:List TyP} {r:List TyP×List TyP},lG l st.length=some 1→(∀t∈st,WfT t)→(∀t∈all,WfT t)→gL N l st all= .ok r→(∀t∈r.1,WfT t)∧(∀t∈r.2,WfT t)∧r.2.length=all.length+l.length∧r.1.length=1
 | [],st,all,r,hd,hs,ha,h=>by
  cases h;rw [lG] at hd;injection hd with hd
  exact⟨hs,ha,by simp,hd⟩
 | x::l,st,all,r,hd,hs,ha,h=>by
  rw [lG] at hd;split at hd
  ·rename_i hb;rw [gL] at h;split at h
   ·cases h
   ·rename_i he;have he:(gC N x st).2=0:=by simpa using he
    have hw:=item_wf hN hs hb.1 (fun e=>(hb.2.2.2 e).1) ⟨hb.2.1,hb.2.2.1⟩ he;have hl:((gC N x st).1::st.drop (gZ x)).length=st.length-gZ x+1:=by simp
    obtain⟨a,b,c,d⟩:=lineT_wf hN (by rw [hl];exact hd) (fun t ht=>by
     rcases List.mem_cons.1 ht with rfl | ht
     ·exact hw
     ·exact hs t (List.mem_of_mem_drop ht)) (fun t ht=>by
     rcases List.mem_append.1 ht with ht | ht
     ·exact ha t ht
     ·rw [List.mem_singleton.1 ht];exact hw) h
    exact⟨a,b,by rw [c,List.length_append,List.length_cons];simp;omega,d⟩
  ·cases hd
theorem bLp: ∀{ls:List kL} {N:gM} {out:List (List TyP)},nF N→(∀l∈ls,lG l.items 0=some 1∧l.items.length≤255)→(∀o∈out,o.length≤255∧ ∀t∈o,WfT t)→(∀o∈(jT N ls out).1,o.length≤255∧ ∀t∈o,WfT t)∧(jT N ls out).1.length≤out.length+ls.length
 | [],N,out,_,_,ho=>⟨ho,by simp [jT]⟩
 | l::ls,N,out,hN,hl,ho=>by
  rw [jT];have hd:=hl l (List.mem_cons_self ..)
  cases e:gL N l.items [] [] with
  | error f=>exact⟨fun o h=>(by cases h),by simp⟩
  | ok r=>
   obtain⟨a,b,c,d⟩:=lineT_wf hN hd.1 (fun t h=>(by cases h)) (fun t h=>(by cases h)) e;obtain⟨st,all⟩:=r
   have hst:WfT (st.getLastD default):=by
    match st,d with
    | [t],_=>exact a t (List.mem_singleton.2 rfl)
   have:=bLp (ls:=ls) (N:=(jS++l.name,st.getLastD default)::N) (out:=out++[all]) (fun q hq=>by
    rcases List.mem_cons.1 hq with rfl | hq
    ·exact hst
    ·exact hN q hq) (fun m hm=>hl m (List.mem_cons_of_mem _ hm)) (fun o h=>by
    rcases List.mem_append.1 h with h | h
    ·exact ho o h
    ·rw [List.mem_singleton.1 h]
     exact⟨by have:=hd.2;simp at c;omega,b⟩)
   refine⟨this.1,Nat.le_trans this.2 ?_⟩;simp;omega
theorem types_wf(p:Prog):(∀o∈(fK p).1,o.length≤255∧ ∀t∈o,WfT t)∧(fK p).1.length≤64:=by
 unfold fK;split
 ·exact⟨fun o h=>(by cases h),by simp⟩
 ·rename_i hr;have hr:(dQ p).2=true:=by simpa using hr
  cases p.inputs.find? (rN (varsP p)) with
  | some x=>exact⟨fun o h=>(by cases h),by simp⟩
  | none=>
   have hf:=oD hr;have hd:=vA hr;have:=bLp (ls:=p.lines) (N:=nU p) (out:=[]) (check_wf hr) (fun l hl=>⟨hd l hl,(hf.line l hl).2.1⟩) (fun o h=>(by cases h));exact⟨this.1,Nat.le_trans this.2 (by have:=hf.lns;simp;omega)⟩
theorem rows_big{xs:List (Sl TyV)}{p:Prog}(h:xs.map bGw=(fK p).1): ∀x∈xs,x.list.length≤140737488355328∧ ∀t∈x.list,t.sides.list.length≤140737488355328∧t.values.list.length≤140737488355328:=fun x hx=>by
 obtain⟨h1,h2⟩:=(types_wf p).1 (bGw x) (by rw [←h];exact List.mem_map_of_mem hx);rw [rowT_len] at h1;refine⟨by omega,fun t ht=>?_⟩;have hw:=h2 t.t (List.mem_map_of_mem ht);have a:=uS hw;have b:=bHz hw;omega
end Go.Proofs.YtbgdphbebhjpiaaGreatDoor
