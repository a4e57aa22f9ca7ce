/- Texts of one proof, one behind the other: Alg, KPlus, KAdd, MakR, MkA, MkB. -/
import Derived.Test.YtofjmphlpdhohaaGreatDoorM6
import Derived.Test.YtofjmphlpdhohaaGreatDoorM17
import Derived.Test.YtofjmphlpdhohaaGreatDoorM13
import Derived.Test.YtofjmphlpdhohaaGreatDoorM8
import Derived.Test.YtofjmphlpdhohaaGreatDoorM12
namespace Go.Proofs.YtofjmphlpdhohaaGreatDoor
open Go.RowKit Go.Sort
def fK (a b:Int):Prop:=(18446744073709551616:Int)∣a-b
theorem fK.refl(a:Int):fK a a:=by unfold fK;omega
theorem fK.of_eq{a b:Int}(h:a=b):fK a b:=by unfold fK;omega
theorem fK.symm{a b:Int}(h:fK a b):fK b a:=by unfold fK at*;omega
theorem fK.trans{a b c:Int}(h:fK a b)(h2:fK b c):fK a c:=by unfold fK at*;omega
theorem fK.add{a b c d:Int}(h:fK a b)(h2:fK c d):fK (a+c) (b+d):=by unfold fK at*;omega
theorem fK.sub{a b c d:Int}(h:fK a b)(h2:fK c d):fK (a-c) (b-d):=by unfold fK at*;omega
theorem fK.mul{a b:Int}(h:fK a b)(c:Int):fK (a*c) (b*c):=by
 unfold fK at*;rw [←Int.sub_mul];exact Int.dvd_trans h (Int.dvd_mul_right _ _)
theorem pL(a:Int):fK (wrap64 a) a:=by unfold fK wrap64;omega
theorem tB(a:Int): -9223372036854775808≤wrap64 a∧wrap64 a<9223372036854775808:=by unfold wrap64;omega
theorem fK.eq{a b:Int}(h:fK a b)(h1: -9223372036854775808≤a∧a<9223372036854775808)(h2: -9223372036854775808≤b∧b<9223372036854775808):a=b:=by
 unfold fK at h;omega
def Ext (F:Mono→Int):Prop:= ∀a b:Mono,a.key=b.key→F a=F b
def gE (f:Mono→Int):List Mono→Int
 | []=>0
 | m::l=>f m+gE f l
def lin (F:Mono→Int)(L:List Mono):Int:=gE (fun m=>m.n*F m) L
theorem bKq(f g:Mono→Int): ∀l,gE (fun m=>f m+g m) l=gE f l+gE g l
 | []=>rfl
 | m::l=>by simp only [gE,bKq f g l];omega
theorem bEw: ∀l,gE (fun _=>0) l=0
 | []=>rfl
 | m::l=>by simp only [gE,bEw l];omega
theorem bKl(f:Mono→Int)(c:Int): ∀l,gE (fun m=>f m*c) l=gE f l*c
 | []=>by simp [gE]
 | m::l=>by simp only [gE,bKl f c l,Int.add_mul]
theorem bHd(f:Mono→Mono→Int)(q:List Mono): ∀p,gE (fun a=>gE (fun b=>f a b) q) p=gE (fun b=>gE (fun a=>f a b) p) q
 | []=>by simp only [gE,bEw]
 | a::p=>by simp only [gE,bHd f q p,bKq]
theorem uO{f g:Mono→Int}: ∀{l:List Mono},(∀m∈l,f m=g m)→gE f l=gE g l
 | [],_=>rfl
 | m::l,h=>by simp only [gE];rw [h m (by simp),uO fun x hx=>h x (by simp [hx])]
theorem bGg{f g:Mono→Int}: ∀{l:List Mono},(∀m∈l,fK (f m) (g m))→fK (gE f l) (gE g l)
 | [],_=>fK.refl _
 | m::l,h=>(h m (by simp)).add (bGg fun x hx=>h x (by simp [hx]))
theorem bKw{F:Mono→Int}(hF:Ext F)(k:Mono)(x:Int): ∀L,lin F (setTo k x L)=lin F L+(x-rM k L)*F k
 | []=>by
  have:F {k with n:=x}=F k:=hF _ _ rfl;simp only [lin,setTo,rM,gE,this];simp
 | m::L=>by
  have hk:F {k with n:=x}=F k:=hF _ _ rfl;have ih:=bKw hF k x L;unfold lin at ih;unfold setTo rM lin
  by_cases h:k.sameE m=true
  ·have h2:F m=F k:=hF _ _ (sameE_E.1 h).symm;simp only [if_pos h,gE,hk,h2,Int.sub_mul];omega
  ·simp only [if_neg h,gE,ih];omega
theorem bJz{F:Mono→Int}(hF:Ext F)(m:Mono)(v:Int)(L:List Mono):fK (lin F (tD m v L)) (lin F L+v*F m):=by
 unfold tD;rw [bKw hF];refine(fK.refl _).add (fK.mul ?_ _);have:=pL (rM m L+v);unfold fK at*;omega
theorem wY{F:Mono→Int}(hF:Ext F)(g:Mono→Int): ∀(p L:List Mono),fK (lin F (gN g L p)) (lin F L+gE (fun m=>g m*F m) p)
 | [],L=>by simp only [gN,gE,Int.add_zero];exact fK.refl _
 | m::p,L=>by
  refine(wY hF g p (tD m (g m) L)).trans ?_;refine((bJz hF m (g m) L).add (fK.refl _)).trans (fK.of_eq ?_);simp only [gE];omega
theorem bEm{F:Mono→Int}(hF:Ext F)(a:Mono): ∀(q L:List Mono),fK (lin F (nP a L q)) (lin F L+gE (fun b=>a.n*b.n*F (mulM a b)) q)
 | [],L=>by simp only [nP,gE,Int.add_zero];exact fK.refl _
 | b::q,L=>by
  refine(bEm hF a q _).trans ?_;refine(((bJz hF (mulM a b) _ L).trans ((fK.refl _).add ((pL _).mul _))).add (fK.refl _)).trans (fK.of_eq ?_);simp only [gE];omega
theorem bEp{F:Mono→Int}(hF:Ext F)(q:List Mono): ∀(p L:List Mono),fK (lin F (iP q L p)) (lin F L+gE (fun a=>gE (fun b=>a.n*b.n*F (mulM a b)) q) p)
 | [],L=>by simp only [iP,gE,Int.add_zero];exact fK.refl _
 | a::p,L=>by
  refine(bEp hF q p _).trans ?_;refine((bEm hF a q L).add (fK.refl _)).trans (fK.of_eq ?_);simp only [gE];omega
def Fit (L:List Mono):Prop:= ∀m∈L,-9223372036854775808≤m.n∧m.n<9223372036854775808
theorem bKj(m:Mono)(v:Int){L:List Mono}(h:Fit L):Fit (tD m v L):=fun y hy=>by
 rcases zN hy with rfl | hy
 ·exact tB _
 ·exact h y hy
theorem xC(g:Mono→Int): ∀(p:List Mono) {L:List Mono},Fit L→Fit (gN g L p)
 | [],_,h=>h
 | _::p,_,h=>xC g p (bKj _ _ h)
theorem bDg(a:Mono): ∀(q:List Mono) {L:List Mono},Fit L→Fit (nP a L q)
 | [],_,h=>h
 | _::q,_,h=>bDg a q (bKj _ _ h)
theorem bDz(q:List Mono): ∀(p:List Mono) {L:List Mono},Fit L→Fit (iP q L p)
 | [],_,h=>h
 | a::p,_,h=>bDz q p (bDg a q h)
theorem bCu:Fit []:=fun _ h=>by simp at h
def ind (k:Nat)(m:Mono):Int:=if m.key=k then 1 else 0
theorem ext_ind(k:Nat):Ext (ind k):=fun a b h=>by unfold ind;rw [h]
theorem jM(F:Mono→Int)(m:Mono)(L:List Mono):lin F (m::L)=m.n*F m+lin F L:=rfl
theorem ind_ne{k:Nat}{m:Mono}(h:m.key≠k):ind k m=0:=if_neg h
theorem ind_self(m:Mono):ind m.key m=1:=if_pos rfl
theorem sF{k:Nat}: ∀{L:List Mono},(∀y∈L,y.key≠k)→lin (ind k) L=0
 | [],_=>rfl
 | m::L,h=>by
  rw [jM,sF (L:=L) (k:=k) fun y hy=>h y (by simp [hy]),ind_ne (h m (by simp))];simp
theorem lin_ind{x:Mono}: ∀{L:List Mono},iK L→x∈L→lin (ind x.key) L=x.n
 | [],_,h=>by simp at h
 | m::L,hA,h=>by
  obtain⟨h1,h2⟩:=List.pairwise_cons.1 hA;rw [jM]
  rcases List.mem_cons.1 h with rfl | h
  ·rw [sF (L:=L) (k:=x.key) fun y hy=>Ne.symm (h1 y hy),ind_self];simp
  ·rw [lin_ind h2 h,ind_ne (h1 x h)];simp
theorem bJp{L L':List Mono}(hA:iK L)(hf:Fit L)(hA':iK L')(hf':Fit L')(h: ∀F,Ext F→fK (lin F L) (lin F L')){x:Mono}(hx:x∈lK L):x∈lK L':=by
 obtain⟨hx,h0⟩:=zQ.1 hx;have e:=h _ (ext_ind x.key);rw [lin_ind hA hx] at e;have hfx:=hf x hx
 by_cases hy: ∃y∈L',y.key=x.key
 ·obtain⟨y,hy,hk⟩:=hy;rw [←hk,lin_ind hA' hy] at e;have hn:=e.eq hfx (hf' y hy);rw [eq_of_key hk.symm hn] at h0⊢;exact zQ.2 ⟨hy,h0⟩
 ·rw [sF fun y h1 h2=>hy ⟨y,h1,h2⟩] at e;exact absurd (e.eq hfx (by omega)) h0
theorem xL{L L':List Mono}(hA:iK L)(hf:Fit L)(hA':iK L')(hf':Fit L')(h: ∀F,Ext F→fK (lin F L) (lin F L')):lK L=lK L':=
 mH.ext (tP hA) (tP hA') fun _=>⟨bJp hA hf hA' hf' h,bJp hA' hf' hA hf fun F hF=>(h F hF).symm⟩
theorem qO: ∀{l:List Mono} {o:Option Mono},fO o l=true→mH l∧(∀a,o=some a→ ∀m∈l,m.key<a.key)∧(∀m∈l,nL m=true)
 | [],_,_=>⟨by simp [mH],by simp,by simp⟩
 | m::l,none,h=>by
  rw [fO,Bool.and_eq_true] at h;obtain⟨h1,h2,h3⟩:=qO h.2;refine⟨List.pairwise_cons.2 ⟨fun b hb=>h2 m rfl b hb,h1⟩,by simp,?_⟩;intro x hx
  rcases List.mem_cons.1 hx with rfl | hx
  ·exact h.1
  ·exact h3 x hx
 | m::l,some a,h=>by
  rw [fO,Bool.and_eq_true,Bool.and_eq_true,decide_eq_true_eq] at h;obtain⟨h1,h2,h3⟩:=qO h.2.2;have hk:=(ord_lt _ _).1 h.2.1;refine⟨List.pairwise_cons.2 ⟨fun b hb=>h2 m rfl b hb,h1⟩,?_,?_⟩
  ·intro a' ha x hx;obtain rfl:a=a':=Option.some.inj ha
   rcases List.mem_cons.1 hx with rfl | hx
   ·exact hk
   ·exact Nat.lt_trans (h2 m rfl x hx) hk
  ·intro x hx
   rcases List.mem_cons.1 hx with rfl | hx
   ·exact h.1
   ·exact h3 x hx
theorem right_all{p:List Mono}(h:cU p=true):mH p∧(∀m∈p,nL m=true)∧p.length≤48:=by
 simp only [cU,Bool.and_eq_true,decide_eq_true_eq] at h;exact⟨(qO h.2).1,(qO h.2).2.2,h.1⟩
theorem right_fit{p:List Mono}(h:cU p=true):Fit p:=fun m hm=>by
 have:=(right_all h).2.1 m hm;simp only [nL,decide_eq_true_eq] at this;omega
def bIv (p q:List Mono)(s:Int):List Mono:=gN (fun m=>wrap64 (s*m.n)) (gN Mono.n [] p) q
theorem bKb:iK []:=by simp [iK]
theorem uZ(p q:List Mono)(s:Int):iK (bIv p q s):=jT _ _ (jT _ _ bKb)
theorem bAs(p q:List Mono)(s:Int):Fit (bIv p q s):=xC _ _ (xC _ _ bCu)
theorem zV{F:Mono→Int}(hF:Ext F)(p q:List Mono)(s:Int):fK (lin F (bIv p q s)) (lin F p+s*lin F q):=by
 refine(wY hF _ q _).trans ?_;refine fK.add ((wY hF _ p _).trans (fK.of_eq ?_)) ?_
 ·simp only [lin,gE,Int.zero_add]
 ·unfold lin;rw [Int.mul_comm,←bKl];refine bGg fun m _=>((pL _).mul _).trans (fK.of_eq ?_);rw [Int.mul_comm s,Int.mul_assoc,Int.mul_comm s,Int.mul_assoc]
theorem bDl{F:Mono→Int}(hF:Ext F)(p q:List Mono):fK (lin F (iP q [] p)) (gE (fun a=>gE (fun b=>a.n*b.n*F (mulM a b)) q) p):=by
 refine(bEp hF q p []).trans (fK.of_eq ?_);simp only [lin,gE,Int.zero_add]
theorem xG(p q:List Mono):iK (iP q [] p):=oZ _ _ bKb
theorem bGv(p q:List Mono):Fit (iP q [] p):=bDz _ _ bCu
theorem mulM_comm(a b:Mono):mulM a b=mulM b a:=by
 simp only [mulM,Int.mul_comm a.n,UInt8.add_comm a.e0,UInt8.add_comm a.e1,UInt8.add_comm a.e2,UInt8.add_comm a.e3,UInt8.add_comm a.e4,UInt8.add_comm a.e5]
theorem bothP_L(p q:List Mono)(s:Int):bothP p q s=if cU p&&cU q then gO (bIv p q s) else ([],20):=rfl
theorem add_comm(p q:List Mono):bothP p q 1=bothP q p 1:=by
 have h:lK (bIv p q 1)=lK (bIv q p 1):=xL (uZ _ _ _) (bAs _ _ _) (uZ _ _ _) (bAs _ _ _) fun F hF=>
  (zV hF p q 1).trans ((fK.of_eq (by omega)).trans (zV hF q p 1).symm)
 rw [bothP_L,bothP_L,Bool.and_comm];unfold gO;rw [h]
theorem mul_comm(p q:List Mono):mQ p q=mQ q p:=by
 have h:lK (iP q [] p)=lK (iP p [] q):=xL (xG _ _) (bGv _ _) (xG _ _) (bGv _ _) fun F hF=>
  (bDl hF p q).trans ((fK.of_eq (by
   rw [bHd];refine uO fun b _=>uO fun a _=>?_
   rw [mulM_comm,Int.mul_comm a.n])).trans (bDl hF q p).symm)
 unfold mQ;rw [Bool.and_comm];unfold gO;rw [h]
end Go.Proofs.YtofjmphlpdhohaaGreatDoor
namespace Go.Proofs.YtofjmphlpdhohaaGreatDoor
open Go.RowKit
theorem lin_put{F:Mono→Int}(hF:Ext F)(m:Mono): ∀l:List Mono,fK (lin F (lT m l)) (lin F l+m.n*F m)
 | []=>fK.of_eq (by rw [lT,jM];show _=(0:Int)+_;have:lin F []=0:=rfl;omega)
 | a::l=>by
  have ih:=lin_put hF m l;rw [lT];split
  ·rw [jM,jM];exact((fK.refl (a.n*F a)).add ih).trans (fK.of_eq (by omega))
  ·split
   ·rename_i hk;have e1:F ⟨wrap64 (a.n+m.n),a.e0,a.e1,a.e2,a.e3,a.e4,a.e5⟩=F a:=hF _ _ rfl;rw [jM,jM,e1,←hF a m hk];have h:=((pL (a.n+m.n)).mul (F a)).add (fK.refl (lin F l));have e:(a.n+m.n)*F a+lin F l=a.n*F a+lin F l+m.n*F a:=by rw [Int.add_mul];omega
    exact e▸h
   ·rw [jM];exact fK.of_eq (by omega)
theorem sN{F:Mono→Int}(hF:Ext F): ∀(l acc:List Mono),fK (lin F (iR acc l)) (lin F acc+lin F l)
 | [],acc=>fK.of_eq (by show lin F acc=_;have:lin F []=0:=rfl;omega)
 | m::l,acc=>by
  have h:=sN hF l (lT m acc);have h2:=(lin_put hF m acc).add (fK.refl (lin F l));rw [jM];exact h.trans (h2.trans (fK.of_eq (by omega)))
theorem bJg(m:Mono): ∀{l:List Mono},mH l→mH (lT m l)∧ ∀k,m.key<k→(∀y∈l,y.key<k)→ ∀y∈lT m l,y.key<k
 | [],_=>by simp [lT,mH]
 | a::l,h=>by
  obtain⟨h1,h2⟩:=List.pairwise_cons.1 h;obtain⟨i1,i2⟩:=bJg m h2
  have key: ∀y∈lT m (a::l),y.key≤m.key∨y.key≤a.key:=fun y hy=>by
   rw [lT] at hy;split at hy
   ·rename_i hk
    rcases List.mem_cons.1 hy with rfl | hy
    ·exact .inr (Nat.le_refl _)
    ·exact .inr (Nat.le_of_lt (i2 a.key hk h1 y hy))
   ·split at hy
    ·rcases List.mem_cons.1 hy with rfl | hy
     ·exact .inr (Nat.le_refl _)
     ·exact .inr (Nat.le_of_lt (h1 y hy))
    ·rcases List.mem_cons.1 hy with rfl | hy
     ·exact .inl (Nat.le_refl _)
     ·rcases List.mem_cons.1 hy with rfl | hy
      ·exact .inr (Nat.le_refl _)
      ·exact .inr (Nat.le_of_lt (h1 y hy))
  refine⟨?_,fun k hk hl y hy=>?_⟩
  ·rw [lT];split
   ·rename_i hk;exact List.pairwise_cons.2 ⟨fun y hy=>i2 a.key hk h1 y hy,i1⟩
   ·split
    ·exact List.pairwise_cons.2 ⟨fun y hy=>h1 y hy,h2⟩
    ·refine List.pairwise_cons.2 ⟨fun y hy=>?_,h⟩
     rcases List.mem_cons.1 hy with rfl | hy
     ·omega
     ·have:=h1 y hy;omega
  ·have ha:=hl a (List.mem_cons_self ..)
   rcases key y hy with h | h<;>omega
theorem pD: ∀(l:List Mono) {acc:List Mono},mH acc→mH (iR acc l)
 | [],_,h=>h
 | m::l,_,h=>pD l (bJg m h).1
theorem fit_put{m:Mono}(hm: -9223372036854775808≤m.n∧m.n<9223372036854775808): ∀{l:List Mono},Fit l→Fit (lT m l)
 | [],_=>fun y hy=>by
  rw [lT] at hy;rw [List.mem_singleton.1 hy];exact hm
 | a::l,h=>fun y hy=>by
  have hl:Fit l:=fun x hx=>h x (List.mem_cons_of_mem _ hx);rw [lT] at hy;split at hy
  ·rcases List.mem_cons.1 hy with rfl | hy
   ·exact h _ (List.mem_cons_self ..)
   ·exact fit_put hm hl y hy
  ·split at hy
   ·rcases List.mem_cons.1 hy with rfl | hy
    ·exact tB _
    ·exact hl y hy
   ·rcases List.mem_cons.1 hy with rfl | hy
    ·exact hm
    ·exact h y hy
theorem sE: ∀(l:List Mono) {acc:List Mono},Fit l→Fit acc→Fit (iR acc l)
 | [],_,_,h=>h
 | m::l,_,hl,h=>sE l (fun x hx=>hl x (List.mem_cons_of_mem _ hx)) (fit_put (hl m (List.mem_cons_self ..)) h)
theorem bFg{l:List Mono}(h:mH l):lK l=l.filter nz:=by
 unfold lK;have e:(l.filter fun m=>m.n !=0)=l.filter nz:=rfl;rw [e];refine List.mergeSort_of_pairwise ?_;refine List.Pairwise.imp (fun{a b} hab=>?_) (h.filter nz);exact decide_eq_true (Nat.le_of_lt hab)
theorem zB{l L:List Mono}(hf:mH l)(hfit:Fit l)(hA:iK L)(hL:Fit L)(h: ∀F,Ext F→fK (lin F l) (lin F L)):nB l=gO L:=by
 have e:l.filter nz=lK L:=by rw [←bFg hf];exact xL hf.apart hfit hA hL h
 unfold nB gO;rw [e]
theorem bIc{F:Mono→Int}(hF:Ext F)(s:Int): ∀q:List Mono,fK (lin F (q.map (zS s))) (s*lin F q)
 | []=>fK.of_eq (by show(0:Int)=s*0;simp)
 | m::q=>by
  have ih:=bIc hF s q;rw [List.map_cons,jM,jM,Int.mul_add,hF (zS s m) m rfl];have h:=(pL (s*m.n)).mul (F m);rw [Int.mul_assoc] at h;exact h.add ih
theorem rA(p q:List Mono)(s:Int):gJ p q s=bothP p q s:=by
 rw [bothP_L];unfold gJ
 cases hp:cU p with
 | false=>rfl
 | true=>
  cases hq:cU q with
  | false=>rfl
  | true=>
   refine zB (pD _ (pD _ List.Pairwise.nil)) (sE _ (fun y hy=>?_) (sE _ (right_fit hp) bCu)) (uZ p q s) (bAs p q s) fun F hF=>?_
   ·obtain⟨x,_,rfl⟩:=List.mem_map.1 hy;exact tB _
   ·have h1:=sN hF (q.map (zS s)) (iR [] p);have h2:=sN hF p [];have h3:=zV hF p q s;have h0:lin F []=0:=rfl;exact h1.trans (((h2.trans (fK.of_eq (by omega))).add (bIc hF s q)).trans h3.symm)
theorem lin_row{F:Mono→Int}(a:Mono): ∀q:List Mono,fK (lin F (q.map (mulM a))) (gE (fun b=>a.n*b.n*F (mulM a b)) q)
 | []=>fK.refl _
 | b::q=>(((pL (a.n*b.n)).mul (F (mulM a b))).add (lin_row a q))
theorem lin_app(F:Mono→Int): ∀l k:List Mono,lin F (l++k)=lin F l+lin F k
 | [],k=>by show lin F k=(0:Int)+_;omega
 | m::l,k=>by rw [List.cons_append,jM,jM,lin_app F l k];omega
theorem lin_flat{F:Mono→Int}(q:List Mono): ∀p:List Mono,fK (lin F (p.flatMap fun a=>q.map (mulM a))) (gE (fun a=>gE (fun b=>a.n*b.n*F (mulM a b)) q) p)
 | []=>fK.refl _
 | a::p=>by
  rw [List.flatMap_cons,lin_app];exact(lin_row a q).add (lin_flat q p)
theorem refMul_mul(p q:List Mono):lV p q=mQ p q:=by
 unfold lV mQ
 cases hp:cU p with
 | false=>rfl
 | true=>
  cases hq:cU q with
  | false=>rfl
  | true=>
   refine zB (pD _ List.Pairwise.nil) (sE _ (fun y hy=>?_) bCu) (xG p q) (bGv p q) fun F hF=>?_
   ·obtain⟨a,_,hy⟩:=List.mem_flatMap.1 hy;obtain⟨x,_,rfl⟩:=List.mem_map.1 hy;exact tB _
   ·have h1:=sN hF (p.flatMap fun a=>q.map (mulM a)) [];have h0:lin F []=0:=rfl;exact h1.trans (((fK.of_eq (by omega)).trans (lin_flat q p)).trans (bDl hF p q).symm)
end Go.Proofs.YtofjmphlpdhohaaGreatDoor
namespace Go.Proofs.YtofjmphlpdhohaaGreatDoor
open Go.RowKit
set_option maxRecDepth 100000 in
theorem uW(A B:Option Addr)(c d:Nat)(p q:List Mono)(hpl:p.length≤140737488355328)(hql:q.length≤140737488355328):dG Tryz.prog 106 [.slice A p.length c,.slice B q.length d] [] [cZ.sl (.slice A p.length c) p,cZ.sl (.slice B q.length d) q] (fun(x:Option Addr×Nat)=> .tuple #[.slice x.1 (gJ p q 1).1.length x.2,.int .i64 (gJ p q 1).2]) (fun(x:Option Addr×Nat)=>[cZ.row (.slice x.1 (gJ p q 1).1.length x.2) 45 (gJ p q 1).1]) (fun _=>[]):=by
 have hT:=tR;refine cJ Tryz.func106 rfl Tryz.ntmps106 rfl ?_;intro β hM;refine sr<|sp2 hT ?_;refine nn<|sr<|sp2 hT ?_;refine cP Tryz.func165 (bHs _ _ _ _ p q 1 (by omega) (by omega)) rfl rfl .nil ⟨Has.of mT0,Has.of mT1,trivial⟩ fun⟨A1,c2⟩=>?_;refine sp4 hT ?_;refine nn<|bL ?_;exact mT (A1,c2) rfl rfl rfl rfl (.cons .head .nil) trivial
end Go.Proofs.YtofjmphlpdhohaaGreatDoor
namespace Go.Proofs.YtofjmphlpdhohaaGreatDoor
open Go.RowKit
structure MSt where
 sizes:List PolV
 laid:List Bool
 freeL:List Int
 ats:List PolV
 end_:PolV
def jY (l:List PolV)(b:Nat):List Mono:=((l[b]?).map (·.list)).getD []
def qQ (m:MSt)(b:Nat):SpC:=⟨jY m.ats b,jY m.sizes b⟩
structure tQ (n:Nat) (m:MSt) (freed:List Bool) (s:PlC):Prop where
 n1:m.sizes.length=n
 n2:m.laid.length=n
 n3:m.ats.length=n
 n4:freed.length=n
 n5:s.laid.length=n
 end_:m.end_.list=s.end_
 ats:m.ats.map (·.list)=s.ats
 free:m.freeL.map (fun f=>qQ m f.toNat)=s.free
 in_: ∀f∈m.freeL,0≤f∧f.toNat<n∧m.laid[f.toNat]?=some true
 fr: ∀b:Nat,freed[b]?=some true→m.laid[b]?=some true
 laid: ∀b:Nat,b<n→(s.laid[b]?).bind id=if m.laid[b]?=some true∧freed[b]?=some false then some (qQ m b) else none
section
variable {n : Nat} {m : MSt} {freed : List Bool} {s : PlC} {b : Nat} {z a e : PolV}
theorem vD{l:List PolV}{b c:Nat}{z:PolV}(h:b≠c):jY (l.set b z) c=jY l c:=by
 unfold jY;rw [List.getElem?_set_ne h]
theorem bEb{l:List PolV}{b:Nat}{z:PolV}(h:b<l.length):jY (l.set b z) b=z.list:=by
 unfold jY;rw [List.getElem?_set_self h];rfl
theorem zC(h:tQ n m freed s)(hb:b<n)(hn:m.laid[b]?=some false)(fl:List Int)(fs:List SpC)(hsub: ∀f∈fl,f∈m.freeL)(hfs:fl.map (fun f=>qQ m f.toNat)=fs):
  tQ n ⟨m.sizes.set b z,m.laid.set b true,fl,m.ats.set b a,e⟩ freed {s with end_:=e.list,free:=fs,laid:=s.laid.set b (some ⟨a.list,z.list⟩),ats:=s.ats.set b a.list}:=by
 have hnb: ∀f∈fl,b≠f.toNat:=fun f hf e=>by
  have:=(h.in_ f (hsub f hf)).2.2;rw [←e,hn] at this;cases this
 have hfb:freed[b]?=some false:=by
  obtain⟨o,ho⟩: ∃o,freed[b]?=some o:=⟨_,List.getElem?_eq_getElem (by rw [h.n4];exact hb)⟩
  cases o with
  | false=>exact ho
  | true=>
   have:=h.fr b ho;rw [hn] at this;cases this
 refine⟨by simp [h.n1],by simp [h.n2],by simp [h.n3],h.n4,by simp [h.n5],rfl,by simp [List.map_set,h.ats],?_,fun f hf=>?_,fun c hc=>?_,fun c hc=>?_⟩
 ·rw [←hfs];refine List.map_congr_left fun f hf=>?_;unfold qQ;rw [vD (hnb f hf),vD (hnb f hf)]
 ·obtain⟨h1,h2,h3⟩:=h.in_ f (hsub f hf);refine⟨h1,h2,?_⟩;rw [List.getElem?_set_ne (hnb f hf)];exact h3
 ·by_cases e:b=c
  ·subst e;rw [List.getElem?_set_self (by rw [h.n2];exact hb)]
  ·rw [List.getElem?_set_ne e];exact h.fr c hc
 ·by_cases e:b=c
  ·subst e;rw [List.getElem?_set_self (by rw [h.n5];exact hb),List.getElem?_set_self (by rw [h.n2];exact hb),if_pos ⟨rfl,hfb⟩];unfold qQ;rw [bEb (by rw [h.n3];exact hb),bEb (by rw [h.n1];exact hb)];rfl
  ·rw [List.getElem?_set_ne e,List.getElem?_set_ne e,h.laid c hc];unfold qQ;rw [vD e,vD e]
theorem vT{i:Int}{y:LifeC}(h:tQ n m freed s)(hb:b<n)(h1:m.laid[b]?=some true)(h2:freed[b]?=some false)(h3:y.to_<i)(fl:List Int)(hfl:fl=if jY m.sizes b=[] then m.freeL else m.freeL++[(b:Int)]):
  tQ n {m with freeL:=fl} (freed.set b true) (oneK i y b s):=by
 have hl:(s.laid[b]?).bind id=some (qQ m b):=by rw [h.laid b hb,if_pos ⟨h1,h2⟩]
 unfold oneK;simp only [hl,h3,if_true];subst hfl;refine⟨h.n1,h.n2,h.n3,by simp [h.n4],by simp [h.n5],h.end_,h.ats,?_,fun f hf=>?_,fun c hc=>?_,fun c hc=>?_⟩
 ·show(if jY m.sizes b=[] then m.freeL else m.freeL++[(b:Int)]).map (fun f=>qQ m f.toNat)=if (qQ m b).size=[] then s.free else s.free++[qQ m b]
  show _=if jY m.sizes b=[] then s.free else s.free++[qQ m b]
  split
  ·exact h.free
  ·rw [List.map_append,h.free];rfl
 ·have hf:f∈(if jY m.sizes b=[] then m.freeL else m.freeL++[(b:Int)]):=hf;split at hf
  ·exact h.in_ f hf
  ·rcases List.mem_append.1 hf with hf | hf
   ·exact h.in_ f hf
   ·have e:f=(b:Int):=by simpa using hf
    subst e;exact⟨by omega,by simpa using hb,by simpa using h1⟩
 ·by_cases e:b=c
  ·subst e;exact h1
  ·rw [List.getElem?_set_ne e] at hc;exact h.fr c hc
 ·by_cases e:b=c
  ·subst e;rw [List.getElem?_set_self (by rw [h.n5];exact hb),List.getElem?_set_self (by rw [h.n4];exact hb),if_neg (by simp)];rfl
  ·rw [List.getElem?_set_ne e,List.getElem?_set_ne e];exact h.laid c hc
theorem mB{i:Int}{y:LifeC}(h:tQ n m freed s)(hb:b<n)(hn: ¬(m.laid[b]?=some true∧freed[b]?=some false∧y.to_<i)):tQ n m freed (oneK i y b s):=by
 have hl:=h.laid b hb;unfold oneK
 by_cases hc:m.laid[b]?=some true∧freed[b]?=some false
 ·rw [if_pos hc] at hl;simp only [hl];rw [if_neg fun h3=>hn ⟨hc.1,hc.2,h3⟩];exact h
 ·rw [if_neg hc] at hl;simp only [hl];exact h
theorem bFn(n:Nat):tQ n ⟨List.replicate n ⟨none,0,[]⟩,List.replicate n false,[],List.replicate n ⟨none,0,[]⟩,⟨none,0,[]⟩⟩ (List.replicate n false) (mX n):=by
 refine⟨by simp,by simp,by simp,by simp,by simp [mX],rfl,by simp [mX],rfl,fun f hf=>(by cases hf),fun b hb=>?_,fun b hb=>?_⟩
 ·rw [List.getElem?_replicate] at hb;split at hb<;>simp at hb
 ·simp [mX,hb]
end
end Go.Proofs.YtofjmphlpdhohaaGreatDoor
namespace Go.Proofs.YtofjmphlpdhohaaGreatDoor
open Go.RowKit
def makT:Tab:=[(3,⟨.int .i64,1⟩),(2,⟨.int .i64,1⟩),(5,⟨.int .u8,1⟩),(4,⟨.bool,1⟩),(37,⟨.int .u8,1⟩),(31,⟨.int .i64,1⟩),(35,⟨.slice 45,1⟩),(36,⟨.slice 35,1⟩),(42,⟨.struct [(3,0),(3,1),(2,2),(35,3),(37,4)],5⟩),(38,⟨.slice 42,1⟩),(47,⟨.struct [(36,0),(3,1)],2⟩),(22,⟨.slice 47,1⟩),(40,⟨.struct [(3,0),(3,1),(35,2),(36,3),(37,4),(38,5)],6⟩),(23,⟨.slice 40,1⟩),(24,⟨.slice 3,1⟩),(51,⟨.slice 4,1⟩),(26,⟨.struct [(3,0),(22,1),(23,2),(24,3)],4⟩),(55,⟨.struct [(3,0),(3,1)],2⟩),(48,⟨.slice 55,1⟩),(115,⟨.struct [(3,0),(3,1),(3,2),(51,3)],4⟩),(194,⟨.struct [(35,0),(35,1),(3,2)],3⟩),(306,⟨.slice 194,1⟩),(57,⟨.struct [(36,0),(35,1)],2⟩),(112,⟨.array 64 4,64⟩),(45,⟨.struct [(2,0),(43,1)],7⟩),(43,⟨.array 6 5,6⟩),(258,⟨.slice 5,1⟩),(206,⟨.int .u64,1⟩),(113,⟨.other,1⟩),(202,⟨.other,1⟩),(119,⟨.other,1⟩),(99,⟨.map 3 194,1⟩),(307,⟨.slice 194,1⟩),(252,⟨.other,1⟩),(100,⟨.slice 252,1⟩),(98,⟨.other,1⟩),(110,⟨.struct [(26,0),(48,4),(36,5),(51,6),(24,7),(57,8)],10⟩),(108,⟨.other,1⟩)]
theorem vE:fQ Tryz.prog makT:=tU.ok
 ⟨⟨by rw [Tryz.underlying3];rfl,by kernel_rfl⟩,
  ⟨by rw [Tryz.underlying2];rfl,by kernel_rfl⟩,
  ⟨by rw [Tryz.underlying5];rfl,by kernel_rfl⟩,
  ⟨by rw [Tryz.underlying4];rfl,by kernel_rfl⟩,
  ⟨by rw [Tryz.underlying37];rfl,by kernel_rfl⟩,
  ⟨by rw [Tryz.underlying31];rfl,by kernel_rfl⟩,
  ⟨by rw [Tryz.underlying35];rfl,by kernel_rfl⟩,
  ⟨by rw [Tryz.underlying36];rfl,by kernel_rfl⟩,
  ⟨by rw [Tryz.underlying42];rfl,by kernel_rfl⟩,
  ⟨by rw [Tryz.underlying38];rfl,by kernel_rfl⟩,
  ⟨by rw [Tryz.underlying47];rfl,by kernel_rfl⟩,
  ⟨by rw [Tryz.underlying22];rfl,by kernel_rfl⟩,
  ⟨by rw [Tryz.underlying40];rfl,by kernel_rfl⟩,
  ⟨by rw [Tryz.underlying23];rfl,by kernel_rfl⟩,
  ⟨by rw [Tryz.underlying24];rfl,by kernel_rfl⟩,
  ⟨by rw [Tryz.underlying51];rfl,by kernel_rfl⟩,
  ⟨by rw [Tryz.underlying26];rfl,by kernel_rfl⟩,
  ⟨by rw [Tryz.underlying55];rfl,by kernel_rfl⟩,
  ⟨by rw [Tryz.underlying48];rfl,by kernel_rfl⟩,
  ⟨by rw [Tryz.underlying115];rfl,by kernel_rfl⟩,
  ⟨by rw [Tryz.underlying194];rfl,by kernel_rfl⟩,
  ⟨by rw [Tryz.underlying306];rfl,by kernel_rfl⟩,
  ⟨by rw [Tryz.underlying57];rfl,by kernel_rfl⟩,
  ⟨by rw [Tryz.underlying112];rfl,by kernel_rfl⟩,
  ⟨by rw [Tryz.underlying45];rfl,by kernel_rfl⟩,
  ⟨by rw [Tryz.underlying43];rfl,by kernel_rfl⟩,
  ⟨by rw [Tryz.underlying258];rfl,by kernel_rfl⟩,
  ⟨by rw [Tryz.underlying206];rfl,by kernel_rfl⟩,
  ⟨by rw [Tryz.underlying113];rfl,by kernel_rfl⟩,
  ⟨by rw [Tryz.underlying202];rfl,by kernel_rfl⟩,
  ⟨by rw [Tryz.underlying119];rfl,by kernel_rfl⟩,
  ⟨by rw [Tryz.underlying99];rfl,by kernel_rfl⟩,
  ⟨by rw [Tryz.underlying307];rfl,by kernel_rfl⟩,
  ⟨by rw [Tryz.underlying252];rfl,by kernel_rfl⟩,
  ⟨by rw [Tryz.underlying100];rfl,by kernel_rfl⟩,
  ⟨by rw [Tryz.underlying98];rfl,by kernel_rfl⟩,
  ⟨by rw [Tryz.underlying110];rfl,by kernel_rfl⟩,
  ⟨by rw [Tryz.underlying108];rfl,by kernel_rfl⟩,trivial⟩
theorem const1:(jI 1).1=[num0 1]:=by decide
def wJ (sides:List (List Mono)):List Mono:=(sizeC sides).getD []
theorem mulP_len9(p q:List Mono):(mQ p q).1.length≤8796093022208:=by
 have:=rF (bKo p q);omega
theorem wW(p q:List Mono):(bothP p q 1).1.length≤8796093022208:=by
 have:=rF (bDj p q 1);omega
section
variable {sides : List (List Mono)} {b i : Nat} {again : Bool} {s : PlC} {n : List Mono}
theorem bGq(h:sizeC sides=some n)(hf:nH n again s.free=none)(he:(bothP s.end_ n 1).2=0):layC sides b again s=some {s with end_:=(bothP s.end_ n 1).1,laid:=s.laid.set b (some ⟨s.end_,n⟩),ats:=s.ats.set b s.end_}:=by
 unfold layC;rw [h];simp only [hf,he,if_true]
theorem xF(h:sizeC sides=some n)(hf:nH n again s.free=none)(he:(bothP s.end_ n 1).2≠0):layC sides b again s=none:=by
 unfold layC;rw [h];simp only [hf,he,if_false]
theorem free_nil{l:List SpC}(h:n=[]):nH n again l=none:=by
 unfold nH;rw [if_neg (by simp [h])]
theorem free_all{l:List SpC}(h: ∀q∈l,q.size≠n):nH n again l=none:=by
 unfold nH;split
 ·rw [List.findIdx?_eq_none_iff.2 (fun q hq=>by simpa using h q hq)]
 ·rfl
theorem find_first{l:List SpC}{q:SpC}(hq:l[i]?=some q)(hn:q.size=n)(h: ∀q∈l.take i,q.size≠n):l.findIdx? (fun y=>decide (y.size=n))=some i:=by
 obtain⟨hlt,e⟩:=List.getElem?_eq_some_iff.1 hq;rw [List.findIdx?_eq_some_iff_getElem];refine⟨hlt,by rw [e];simpa using hn,fun j hj=>?_⟩;have hm:l[j]∈l.take i:=List.mem_take_iff_getElem.2 ⟨j,by omega,rfl⟩
 simpa using h _ hm
theorem take_no{l:List SpC}{q:SpC}(hq:l[i]?=some q)(hn:q.size≠n)(h: ∀q∈l.take i,q.size≠n): ∀q∈l.take (i+1),q.size≠n:=fun y hy=>by
 rw [List.take_add_one,hq] at hy
 rcases List.mem_append.1 hy with hy | hy
 ·exact h y hy
 ·have e:y=q:=by simpa using hy
  subst e;exact hn
end
set_option maxRecDepth 100000 in
theorem const02_spec:dG Tryz.prog 121 [.int .i64 1] [] [] (fun(x:Option Addr×Nat)=> .tuple #[.slice x.1 (jI 1).1.length x.2,.int .i64 0]) (fun _=>[]) (fun(x:Option Addr×Nat)=>[cY ⟨x.1,x.2,(jI 1).1⟩]):=by
 have hT:=vE;refine cJ Tryz.func121 rfl Tryz.ntmps121 rfl ?_;intro β hM;refine sr<|sp2 hT ?_;refine nn<|bF<|sr<|sp2 hT ?_;refine dF (t':=false) (by decide) ?_;refine dF (t':=false) (by decide) ?_;refine sp3 hT ?_;refine dF (t':=false) (by decide) ?_;refine sp hT ?_;refine nn<|cQ rfl rfl ?_;refine bJ<|bD<|bF<|sr<|sp2 hT ?_;refine dF (t':=false) (by decide) ?_;refine dF (t':=false) (by decide) ?_;refine nn<|cQ rfl rfl ?_;refine bJ<|bD<|sr<|sp hT ?_;refine ss (dR rfl rfl (built_n 1)) ?_;refine at_one (m:=num0 1) rfl rfl rfl rfl rfl fun b1=>?_;refine qK (E:=cZ) (xs:=[num0 1]) .head ?_;refine lW .head ?_;refine sp2 hT ?_;refine nn<|bL ?_;exact gD (some ⟨b1,0,none⟩,1) rfl (rv_tmp rfl) (rv_tmp rfl) .nil ⟨by rw [const1];exact Has.and (Has.of mT0) (Has.pure (show([num0 1]:List Mono).length≤8796093022208 from by decide)),trivial⟩ (by rw [const1];rfl)
set_option maxRecDepth 100000 in
theorem bBt(u:iY):dG Tryz.prog 63 [.agg #[.slice u.sides.addr u.sides.list.length u.sides.cap,.int .i64 u.input]] [] [nG u.sides] (fun(x:Option Addr×Nat)=> .tuple #[.slice x.1 (wJ (polsL u.sides.list)).length x.2,.bool (sizeC (polsL u.sides.list)).isSome]) (fun _=>[]) (fun(x:Option Addr×Nat)=>[cY ⟨x.1,x.2,wJ (polsL u.sides.list)⟩]):=by
 have hT:=vE
 obtain⟨R,hR⟩: ∃R,sizeC (polsL u.sides.list)=R:=⟨_,rfl⟩
 refine cJ Tryz.func63 rfl Tryz.ntmps63 rfl ?_;intro β hM;refine bF<|cB (fF.sl (.slice u.sides.addr u.sides.list.length u.sides.cap) u.sides.list) (qM (Has.of mT0)) ?_;refine bV (qY (Has.of mT1)) fun hsc=>?_;have hsc1:=hsc.1;have hsc2:=hsc.2;refine bB<|gC rfl rfl rfl rfl rfl rfl fun b1=>?_;refine sp2 hT ?_;refine nn<|sr<|cP Tryz.func121 const02_spec rfl rfl .nil trivial fun y2=>?_;refine sp4 hT ?_;refine sp hT ?_;refine nn<|bF<|sr<|sp hT ?_;refine nn<|bO<|cM (ι:=PolV×Nat) [(1,_)] ⟨rfl,trivial⟩ (fun⟨cur,i⟩=>[(4,.slice cur.addr cur.list.length cur.cap),(6,.int .i64 (i:Nat))]) (fun _=>[]) (fun⟨cur,i⟩=>[bP.pure (i≤u.sides.list.length∧R=qF ((polsL u.sides.list).drop i) cur.list),cY cur]) (fun⟨cur,i⟩=>u.sides.list.length-i) (⟨y2.1,y2.2,(jI 1).1⟩,0) ⟨rfl,rfl,trivial⟩ .nil ⟨Has.pure (⟨by omega,by rw [←hR];rfl⟩),Has.of mT0,trivial⟩ ?_;rintro⟨cur,i⟩;dsimp only;refine bV (Has.of mT0) fun hinv3=>?_;refine bF<|sr<|sp2 hT ?_;refine ss (ldO hT (cS .head)) ?_;refine sp2 hT ?_;refine nn<|bN rfl (fun hc17=>?_) (fun hc17=>?_)
 ·have hc17:=of_decide_eq_true hc17;refine bJ<|bD<|bF<|bO<|bF ?_
  obtain⟨x,hx⟩: ∃x',u.sides.list[i]?=some x':=⟨_,List.getElem?_eq_getElem (by omega)⟩
  refine cB (cY x) (Has.each (qW (Has.of mT4)) (List.mem_of_getElem? hx)) ?_;refine bB<|sp2 hT ?_;refine ss (ldO hT (cS .head)) ?_;refine sp hT ?_;refine ss (bG hT (k:=i) (bA (Has.of mT4)) rfl rfl rfl rfl rfl rfl rfl (by omega)) ?_;refine ss (bM hT (bX.knows (bA (Has.of mT4)) (k:=i) (x:=x) hx 0) rfl rfl rfl rfl rfl) ?_;refine bV (dJ (Has.of mT2)) fun hcl=>?_;refine bV (dJ (Has.of mT0)) fun hxl=>?_;refine cP Tryz.func122 (refMul_spec cur.addr x.addr cur.cap x.cap cur.list x.list hcl hxl) rfl rfl .nil ⟨dI (Has.of mT2),dI (Has.of mT0),trivial⟩ fun y3=>?_;rw [refMul_mul];refine hY (E:=cZ) .head ?_;refine cB (cY ⟨y3.1,y3.2,(mQ cur.list x.list).1⟩) (Has.and (Has.of mT0) (Has.pure (mulP_len9 _ _))) ?_;refine sp4 hT ?_;refine sp hT ?_;refine nn<|bF<|sr<|sp2 hT ?_;refine nn<|bN rfl (fun hc31=>?_) (fun hc31=>?_)
  ·have hc31:=bne_iff_ne.1 hc31;refine sr<|sp2 hT ?_;refine nn<|bL<|bK<|bR<|bK<|bK<|bR<|bK ?_;have hz:sizeC (polsL u.sides.list)=none:=hR.trans (bKz hinv3.2 (fP hx) ‹_›);exact gD (none,0) rfl (rv_tmp rfl) (rv_tmp rfl) .nil ⟨by unfold wJ;rw [hz];exact polF_nil,trivial⟩ (by unfold wJ;rw [hz];rfl)
  have hc31:=bne_eq_false_iff_eq.1 hc31;refine bJ<|bD<|bB<|sp2 hT ?_;refine fW<|bT<|bD<|bB<|sp2 hT ?_;refine bS (z':=(((i+1):Nat):Int)) (cG (by omega) (by omega)) ?_;refine sp hT ?_;refine nn ?_;exact bZ (⟨y3.1,y3.2,(mQ cur.list x.list).1⟩,i+1) (by dsimp only;omega) ⟨rfl,rfl,trivial⟩ ⟨rfl,trivial⟩ (.cons .head .nil) ⟨Has.pure (⟨by dsimp only;omega,size_ok' hinv3.2 (fP hx) ‹_›⟩),Has.of mT0,trivial⟩ (bH.drop 5)
 have hc17:=Int.not_lt.1 (of_decide_eq_false hc17);refine cE<|bW<|bW<|cD<|bD<|sr<|sp3 hT ?_;refine nn<|bL ?_;have hz:sizeC (polsL u.sides.list)=some cur.list:=hR.trans (pJ hinv3.2 (by rw [cI];omega));exact gD (cur.addr,cur.cap) rfl (rv_tmp rfl) (rv_tmp rfl) .nil ⟨by unfold wJ;rw [hz];exact Has.of mT1,trivial⟩ (by unfold wJ;rw [hz];rfl)
end Go.Proofs.YtofjmphlpdhohaaGreatDoor
namespace Go.Proofs.YtofjmphlpdhohaaGreatDoor
open Go.RowKit
set_option maxRecDepth 100000 in
theorem kU(mb:Nat)(c:gM)(LA SA DA FA TA:Option Addr)(lc N sc dc fc tc:Nat)(m:MSt)(freed:List Bool)(s:PlC)(hr:tQ N m freed s)(b:Nat)(u:iY)(hu:c.bufs.list[b]?=some u)(hb:b<N)(hnl:m.laid[b]?=some false)(hfl:m.freeL.length≤100000000)(again:Bool):dG Tryz.prog 51 [.pointer (some ⟨mb,0,none⟩),.int .i64 (b:Nat),.bool again] [.obj mb (.cells ([.int .i64 c.vars,.slice c.bufs.addr c.bufs.list.length c.bufs.cap,.slice c.steps.addr c.steps.list.length c.steps.cap,.slice c.outs.addr c.outs.list.length c.outs.cap,.slice LA N lc,.slice SA N sc,.slice DA N dc,.slice FA m.freeL.length fc,.slice TA N tc,.slice m.end_.addr m.end_.list.length m.end_.cap]:List Value).toArray 110),fF.row (.slice SA N sc) 35 m.sizes,gA.row (.slice DA N dc) 4 m.laid,iG.row (.slice FA m.freeL.length fc) 3 m.freeL,fF.row (.slice TA N tc) 35 m.ats] [mF c,bP.each m.sizes cY,bP.each m.ats cY,cY m.end_] (fun(_:MSt×Option Addr×Nat)=> .bool (layC (polsL u.sides.list) b again s).isSome) (fun(x:MSt×Option Addr×Nat)=>[.obj mb (.cells ([.int .i64 c.vars,.slice c.bufs.addr c.bufs.list.length c.bufs.cap,.slice c.steps.addr c.steps.list.length c.steps.cap,.slice c.outs.addr c.outs.list.length c.outs.cap,.slice LA N lc,.slice SA N sc,.slice DA N dc,.slice x.2.1 x.1.freeL.length x.2.2,.slice TA N tc,.slice x.1.end_.addr x.1.end_.list.length x.1.end_.cap]:List Value).toArray 110),fF.row (.slice SA N sc) 35 x.1.sizes,gA.row (.slice DA N dc) 4 x.1.laid,iG.row (.slice x.2.1 x.1.freeL.length x.2.2) 3 x.1.freeL,fF.row (.slice TA N tc) 35 x.1.ats]) (fun(x:MSt×Option Addr×Nat)=>[bP.each x.1.sizes cY,bP.each x.1.ats cY,cY x.1.end_,bP.pure (∀s',layC (polsL u.sides.list) b again s=some s'→tQ N x.1 freed s'∧x.1.laid=m.laid.set b true∧x.1.freeL.length≤m.freeL.length)]):=by
 have hT:=vE;have hbl:=(List.getElem?_eq_some_iff.1 hu).1;have hq1:=hr.n1;have hq2:=hr.n2;have hq3:=hr.n3;refine cJ Tryz.func51 rfl Tryz.ntmps51 rfl ?_;intro β hM;refine bF ?_;cases again
 ·refine bB<|sp hT ?_;refine nn<|bF<|cB (sM.sl (.slice c.bufs.addr c.bufs.list.length c.bufs.cap) c.bufs.list) (jS (gP (Has.of mT0))) ?_
  obtain⟨x0,hx0⟩: ∃x,m.sizes[b]?=some x:=⟨_,List.getElem?_eq_getElem (by rw [hr.n1];exact hb)⟩
  obtain⟨t0,ht0⟩: ∃x,m.ats[b]?=some x:=⟨_,List.getElem?_eq_getElem (by rw [hr.n3];exact hb)⟩
  refine bGk (E:=iG) (xs:=m.freeL) kT3 fun hcap=>?_;refine bB<|sp4 hT ?_;refine ss (ldO hT (dE .head)) ?_;refine sp hT ?_;refine ss (bG hT (k:=b) (bA (Has.of mT0)) rfl rfl rfl rfl rfl rfl rfl (by omega)) ?_;refine ss (cN hT (bX.knows (bA (Has.of mT0)) (k:=b) (x:=u) hu 0) rfl rfl rfl rfl rfl) ?_;refine cB (nG u.sides) (Has.each (sU (gP (Has.of mT1))) (List.mem_of_getElem? hu)) ?_;refine cP Tryz.func63 (bBt u) rfl rfl .nil ⟨Has.of mT0,trivial⟩ fun y1=>?_;generalize hS:wJ (polsL u.sides.list)=nQ
  rcases hz:sizeC (polsL u.sides.list) with _ | n1
  ·refine sp4 hT ?_;refine sp hT ?_;refine nn<|bF<|sr<|sp2 hT ?_;refine nn<|cK rfl rfl ?_;refine sr<|sp hT ?_;refine nn<|bL<|bK ?_;have hl:layC (polsL u.sides.list) b false s=none:=bFz hz;exact bI (m,FA,fc) rfl (rv_tmp rfl) (.cons .head (.cons .head (.cons .head (.cons .head (.cons .head .nil))))) ⟨Has.of mT4,Has.of mT5,Has.of mT6,Has.pure (fun s' hs'=>by rw [hl] at hs';cases hs'),trivial⟩ (by rw [hl];rfl)
  obtain rfl:nQ=n1:=by rw [←hS];unfold wJ;rw [hz];rfl
  refine sp4 hT ?_;refine sp hT ?_;refine nn<|bF<|sr<|sp2 hT ?_;refine nn<|cQ rfl rfl ?_;refine bJ<|bD<|sr<|sp3 hT ?_;refine ss (ldO hT (nF .head)) ?_;refine sp2 hT ?_;refine ss (bG hT (k:=b) (bU kT1) rfl rfl rfl rfl rfl hr.n1.symm rfl (by omega)) ?_;refine cF hT (k:=b) (fo:=0) (y':=(⟨y1.1,y1.2,nQ⟩:PolV)) kT1 rfl rfl rfl rfl rfl rfl rfl rfl rfl hx0 rfl ?_;refine nn<|sr<|sp3 hT ?_;refine ss (ldO hT (bHv kT1)) ?_;refine sp hT ?_;refine ss (bG hT (k:=b) (bU kT2) rfl rfl rfl rfl rfl hr.n2.symm rfl (by omega)) ?_;refine cF hT (k:=b) (fo:=0) (y':=true) kT2 rfl rfl rfl rfl rfl rfl rfl rfl rfl hnl rfl ?_;refine nn<|bF<|sr<|sp hT ?_;refine nn<|bO<|cM (ι:=Nat) [(0,_),(1,_),(2,_),(7,_)] ⟨rfl,rfl,rfl,rfl,trivial⟩ (fun i=>[(9,.int .i64 (i:Nat))]) (fun _=>[]) (fun i=>[bP.pure (i≤m.freeL.length∧ ∀q∈s.free.take i,q.size≠nQ)]) (fun i=>m.freeL.length-i) 0 ⟨rfl,trivial⟩ .nil ⟨Has.pure (⟨by omega,by simp⟩),trivial⟩ ?_;rintro i;refine bV (Has.of mT0) fun hinv7=>?_;refine bF<|sr<|sp2 hT ?_;refine sk3 ?_;refine sp2 hT ?_;refine sk4 ?_;refine sk3 ?_;refine sp hT ?_;refine nn<|cQ rfl rfl ?_;refine cE<|bW<|bW<|cD<|bD<|bF<|kK 12 _ _ [(true,0),(true,1),(true,2),(true,3),(true,4),(true,5),(true,6),(true,7),(true,8),(true,9),(true,10),(true,11)] dP (by decide+kernel) (.cons .head (.cons .head (.cons .head (.cons .head (.cons .head .nil))))) bH.self ?_;refine puL hT ?_;refine puL hT ?_;refine puL hT ?_;refine puL hT ?_;refine stL rfl (ldO hT (fM (off:=8) kT2)) ?_;refine puL hT ?_;refine puL hT ?_;refine puL hT ?_;refine puL hT ?_;refine puL hT ?_;refine stL rfl (ldO hT (fM (off:=9) kT2)) ?_;refine stL rfl (bG hT (k:=b) (bU kT4) rfl rfl rfl rfl rfl hr.n3.symm rfl (by omega)) ?_;refine gQ (o:=_) rfl ?_;refine cF hT (k:=b) (fo:=0) (y':=m.end_) kT4 rfl rfl rfl rfl rfl rfl rfl rfl rfl ht0 rfl ?_;refine iN<|bD<|sr<|sp4 hT ?_;refine ss (ldO hT (fM (off:=9) kT3)) ?_;refine sp hT ?_;refine bV (dJ (Has.of mT7)) fun hel=>?_;refine bV (dJ (Has.of mT1)) fun hnl2=>?_;refine cP Tryz.func106 (uW m.end_.addr (⟨y1.1,y1.2,nQ⟩:PolV).addr m.end_.cap (⟨y1.1,y1.2,nQ⟩:PolV).cap m.end_.list nQ hel hnl2) rfl rfl .nil ⟨dI (Has.of mT7),dI (Has.of mT1),trivial⟩ fun y2=>?_;rw [rA];refine hY (E:=cZ) .head ?_;refine cB (cY ⟨y2.1,y2.2,(bothP m.end_.list nQ 1).1⟩) (Has.and (Has.of mT0) (Has.pure (wW _ _))) ?_;refine sp4 hT ?_;refine sp hT ?_;refine nn<|sr<|sp4 hT ?_;refine sp hT ?_;refine sto hT kT3 ?_;refine nn<|sr<|sp3 hT ?_;refine nn<|bL<|cB (bP.each (m.sizes.set b (⟨y1.1,y1.2,nQ⟩:PolV)) cY) (oJ (Has.of mT7) (Has.of mT3)) ?_;refine cB (bP.each (m.ats.set b m.end_) cY) (oJ (Has.of mT9) (Has.of uG)) ?_;have hfr:nH nQ false s.free=none:=zT (.inl rfl)
  by_cases he:(bothP m.end_.list nQ 1).2=0
  ·have hl:=bGq (b:=b) hz hfr (by rw [←hr.end_];exact he);have hrl:=zC (z:=(⟨y1.1,y1.2,nQ⟩:PolV)) (a:=m.end_) (e:=(⟨y2.1,y2.2,(bothP m.end_.list nQ 1).1⟩:PolV)) hr hb hnl m.freeL s.free (fun f hf=>hf) hr.free;exact bI ((⟨m.sizes.set b (⟨y1.1,y1.2,nQ⟩:PolV),m.laid.set b true,m.freeL,m.ats.set b m.end_,(⟨y2.1,y2.2,(bothP m.end_.list nQ 1).1⟩:PolV)⟩:MSt),FA,fc) rfl (rv_tmp rfl) (.cons .head (.cons kT2 (.cons kT1 (.cons kT1 (.cons .head .nil))))) ⟨Has.of mT1,Has.of mT0,Has.of mT2,Has.pure (fun s' hs'=>by rw [hl] at hs';cases hs';rw [←hr.end_];exact⟨hrl,rfl,Nat.le_refl _⟩),trivial⟩ (by rw [hl];simp [he])
  have hl:=xF (b:=b) hz hfr (by rw [←hr.end_];exact he);exact bI ((⟨m.sizes.set b (⟨y1.1,y1.2,nQ⟩:PolV),m.laid.set b true,m.freeL,m.ats.set b m.end_,(⟨y2.1,y2.2,(bothP m.end_.list nQ 1).1⟩:PolV)⟩:MSt),FA,fc) rfl (rv_tmp rfl) (.cons .head (.cons kT2 (.cons kT1 (.cons kT1 (.cons .head .nil))))) ⟨Has.of mT1,Has.of mT0,Has.of mT2,Has.pure (fun s' hs'=>by rw [hl] at hs';cases hs'),trivial⟩ (by rw [hl];simp [he])
 refine bB<|sp hT ?_;refine nn<|bF<|cB (sM.sl (.slice c.bufs.addr c.bufs.list.length c.bufs.cap) c.bufs.list) (jS (gP (Has.of mT0))) ?_
 obtain⟨x0,hx0⟩: ∃x,m.sizes[b]?=some x:=⟨_,List.getElem?_eq_getElem (by rw [hr.n1];exact hb)⟩
 obtain⟨t0,ht0⟩: ∃x,m.ats[b]?=some x:=⟨_,List.getElem?_eq_getElem (by rw [hr.n3];exact hb)⟩
 refine bGk (E:=iG) (xs:=m.freeL) kT3 fun hcap=>?_;refine bB<|sp4 hT ?_;refine ss (ldO hT (dE .head)) ?_;refine sp hT ?_;refine ss (bG hT (k:=b) (bA (Has.of mT0)) rfl rfl rfl rfl rfl rfl rfl (by omega)) ?_;refine ss (cN hT (bX.knows (bA (Has.of mT0)) (k:=b) (x:=u) hu 0) rfl rfl rfl rfl rfl) ?_;refine cB (nG u.sides) (Has.each (sU (gP (Has.of mT1))) (List.mem_of_getElem? hu)) ?_;refine cP Tryz.func63 (bBt u) rfl rfl .nil ⟨Has.of mT0,trivial⟩ fun y3=>?_;generalize hS:wJ (polsL u.sides.list)=nQ
 rcases hz:sizeC (polsL u.sides.list) with _ | n1
 ·refine sp4 hT ?_;refine sp hT ?_;refine nn<|bF<|sr<|sp2 hT ?_;refine nn<|cK rfl rfl ?_;refine sr<|sp hT ?_;refine nn<|bL<|bK ?_;have hl:layC (polsL u.sides.list) b true s=none:=bFz hz;exact bI (m,FA,fc) rfl (rv_tmp rfl) (.cons .head (.cons .head (.cons .head (.cons .head (.cons .head .nil))))) ⟨Has.of mT4,Has.of mT5,Has.of mT6,Has.pure (fun s' hs'=>by rw [hl] at hs';cases hs'),trivial⟩ (by rw [hl];rfl)
 obtain rfl:nQ=n1:=by rw [←hS];unfold wJ;rw [hz];rfl
 refine sp4 hT ?_;refine sp hT ?_;refine nn<|bF<|sr<|sp2 hT ?_;refine nn<|cQ rfl rfl ?_;refine bJ<|bD<|sr<|sp3 hT ?_;refine ss (ldO hT (nF .head)) ?_;refine sp2 hT ?_;refine ss (bG hT (k:=b) (bU kT1) rfl rfl rfl rfl rfl hr.n1.symm rfl (by omega)) ?_;refine cF hT (k:=b) (fo:=0) (y':=(⟨y3.1,y3.2,nQ⟩:PolV)) kT1 rfl rfl rfl rfl rfl rfl rfl rfl rfl hx0 rfl ?_;refine nn<|sr<|sp3 hT ?_;refine ss (ldO hT (bHv kT1)) ?_;refine sp hT ?_;refine ss (bG hT (k:=b) (bU kT2) rfl rfl rfl rfl rfl hr.n2.symm rfl (by omega)) ?_;refine cF hT (k:=b) (fo:=0) (y':=true) kT2 rfl rfl rfl rfl rfl rfl rfl rfl rfl hnl rfl ?_;refine nn<|bF<|sr<|sp hT ?_;refine nn<|bO<|cM (ι:=Nat) [(0,_),(1,_),(2,_),(7,_)] ⟨rfl,rfl,rfl,rfl,trivial⟩ (fun i=>[(9,.int .i64 (i:Nat))]) (fun _=>[]) (fun i=>[bP.pure (i≤m.freeL.length∧ ∀q∈s.free.take i,q.size≠nQ)]) (fun i=>m.freeL.length-i) 0 ⟨rfl,trivial⟩ .nil ⟨Has.pure (⟨by omega,by simp⟩),trivial⟩ ?_;rintro i;refine bV (Has.of mT0) fun hinv7=>?_;refine bF<|sr<|sp4 hT ?_;refine sp3 hT ?_;refine bY (fun hg46=>?_) (fun hg46=>?_)
 ·have hg46:=of_decide_eq_true hg46;have hne:nQ≠[]:=fun e=>by rw [e] at hg46;simp at hg46
  refine sp4 hT ?_;refine ss (ldO hT (kwO7 kT2)) ?_;refine sp3 hT ?_;refine nn<|bN rfl (fun hc54=>?_) (fun hc54=>?_)
  ·have hc54:=of_decide_eq_true hc54;refine bJ<|bD<|bF<|bO<|bF ?_
   obtain⟨z,hzz⟩: ∃z,m.freeL[i]?=some z:=⟨_,List.getElem?_eq_getElem (by omega)⟩
   obtain⟨hz0,hzN,hzl⟩:=hr.in_ z (List.mem_of_getElem? hzz);have hzb:b≠z.toNat:=fun e=>by rw [←e,hnl] at hzl;cases hzl
   obtain⟨x,hx⟩: ∃x,m.sizes[z.toNat]?=some x:=⟨_,List.getElem?_eq_getElem (by rw [hr.n1];exact hzN)⟩
   obtain⟨a0,ha0⟩: ∃x,m.ats[z.toNat]?=some x:=⟨_,List.getElem?_eq_getElem (by rw [hr.n3];exact hzN)⟩
   have hpz:jY m.sizes z.toNat=x.list:=by unfold jY;rw [hx];rfl
   have hpa:jY m.ats z.toNat=a0.list:=by unfold jY;rw [ha0];rfl
   have hq:s.free[i]?=some (qQ m z.toNat):=by rw [←hr.free,List.getElem?_map,hzz];rfl
   refine cB (cY x) (Has.each (Has.of mT5) (List.mem_of_getElem? hx)) ?_;refine cB (cY a0) (Has.each (Has.of mT7) (List.mem_of_getElem? ha0)) ?_;refine bB<|sp3 hT ?_;refine ss (ldO hT (kwO7 kT2)) ?_;refine sp hT ?_;refine ss (bG hT (k:=i) (bU kT3) rfl rfl rfl rfl rfl rfl rfl (by omega)) ?_;refine ss (bM hT (bX.knows (bU kT3) (k:=i) (x:=z) hzz 0) rfl rfl rfl rfl rfl) ?_;refine sp hT ?_;refine nn<|sr<|sp3 hT ?_;refine ss (ldO hT (nF kT2)) ?_;refine sp hT ?_;refine ss (bG hT (k:=z.toNat) (bU kT1) rfl rfl rfl rfl rfl (by simp only [List.length_set];omega) (by omega) ((by simp only [List.length_set];omega))) ?_;refine ss (bM hT (bX.knows (bU kT1) (k:=z.toNat) (x:=x) (by rw [List.getElem?_set_ne hzb];exact hx) 0) rfl rfl rfl rfl rfl) ?_;refine sp hT ?_;refine bV (dJ (Has.of mT1)) fun hxl=>?_;refine cP Tryz.func27 (jO x (⟨y3.1,y3.2,nQ⟩:PolV) hxl) rfl rfl .nil ⟨dI (Has.of mT1),dI (Has.of mT3),trivial⟩ fun _=>?_;refine nn<|bN rfl (fun hc72=>?_) (fun hc72=>?_)
   ·refine bF<|kK 15 _ _ [(true,0),(true,1),(true,2),(true,3),(true,4),(true,5),(true,6),(true,7),(true,8),(true,9),(true,10),(true,11),(true,12),(true,13),(true,14)] dP (by decide+kernel) (.cons .head (.cons .head (.cons .head (.cons .head (.cons .head .nil))))) bH.self ?_;refine puL hT ?_;refine puL hT ?_;refine puL hT ?_;refine puL hT ?_;refine stL rfl (ldO hT (fM (off:=8) kT2)) ?_;refine puL hT ?_;refine puL hT ?_;refine puL hT ?_;refine puL hT ?_;refine puL hT ?_;refine stL rfl (ldO hT (fM (off:=8) kT2)) ?_;refine puL hT ?_;refine stL rfl (bG hT (k:=z.toNat) (bU kT4) rfl rfl rfl rfl rfl hr.n3.symm (by omega) ((by omega))) ?_;refine stL rfl (bM hT (bX.knows (bU kT4) (k:=z.toNat) (x:=a0) ha0 0) rfl rfl rfl rfl rfl) ?_;refine stL rfl (bG hT (k:=b) (bU kT4) rfl rfl rfl rfl rfl hr.n3.symm rfl (by omega)) ?_;refine gQ (o:=_) rfl ?_;refine cF hT (k:=b) (fo:=0) (y':=a0) kT4 rfl rfl rfl rfl rfl rfl rfl rfl rfl ht0 rfl ?_;refine iN<|bD<|bF<|kK 19 _ _ [(true,0),(true,2),(true,3),(true,4),(true,5),(true,6),(true,7),(true,9),(true,10),(true,11),(true,12),(true,13),(true,14),(true,15),(false,1),(false,8),(false,16),(true,17),(true,18)] dP (by decide+kernel) (.cons .head (.cons .head (.cons .head (.cons .head (.cons .head .nil))))) bH.self ?_;refine puL hT ?_;refine puL hT ?_;refine puL hT ?_;refine puL hT ?_;refine stL rfl (ldO hT (kwO7 kT3)) ?_;refine puL hT ?_;refine stL rfl (vO hT (k:=i) rfl rfl rfl rfl rfl rfl (by omega)) ?_;refine puL hT ?_;refine puL hT ?_;refine puL hT ?_;refine stL rfl (ldO hT (kwO7 kT3)) ?_;refine puL hT ?_;refine puL hT ?_;refine bS (z':=(((i+1):Nat):Int)) (cG (by omega) (by omega)) ?_;refine stL rfl (bCc hT (k:=i+1) rfl rfl rfl rfl rfl (by omega) (by omega)) ?_;refine jB (o:=_) rfl ?_;refine at_none_int rfl rfl rfl rfl fun b4=>?_;refine jA (.cons kT1 (.cons kT1 (.cons kT1 (.cons kT1 (.cons kT1 .nil))))) (bH.drop 0) ?_;refine jB (o:=_) rfl ?_;refine qB .head (bX.preE (bU kT5) i) rfl rfl rfl rfl rfl rfl (by rw [List.length_take];omega) (by simp;omega) fun A5 c6=>?_;rw [List.nil_append];refine jA (.cons kT1 (.cons kT1 (.cons kT1 (.cons kT1 (.cons kT1 .nil))))) (bH.drop 0) ?_;refine jB (o:=_) rfl ?_;refine qB .head (bX.dropE (bU kT5) (i+1) hcap (by omega)) rfl rfl rfl rfl rfl rfl (by rw [List.length_drop]) (by simp;omega) fun A7 c8=>?_;rw [show m.freeL.take i++m.freeL.drop (i+1)=m.freeL.eraseIdx i from (List.eraseIdx_eq_take_drop_succ ..).symm];refine jA (.cons kT1 (.cons kT1 (.cons kT1 (.cons kT1 (.cons kT1 .nil))))) (bH.drop 0) ?_;refine puL hT ?_;refine puL hT ?_;refine gQ (o:=_) rfl ?_;refine sto hT kT4 ?_;refine iN<|bD<|sr<|sp hT ?_;refine nn<|bL<|bR<|bK<|bK<|bR<|bK<|cB (bP.each (m.sizes.set b (⟨y3.1,y3.2,nQ⟩:PolV)) cY) (oJ (Has.of mT7) (Has.of mT3)) ?_;refine cB (bP.each (m.ats.set b a0) cY) (oJ (Has.of mT9) (Has.of mT1)) ?_;have hxn:x.list=nQ:=by simpa using hc72
    have hl:=lay_take (b:=b) (again:=true) hz rfl hne (find_first hq (by show jY m.sizes z.toNat=nQ;rw [hpz,hxn]) hinv7.2) hq;have hrl:=zC (z:=(⟨y3.1,y3.2,nQ⟩:PolV)) (a:=a0) (e:=m.end_) hr hb hnl (m.freeL.eraseIdx i) (s.free.eraseIdx i) (fun f hf=>(List.eraseIdx_sublist ..).subset hf) (by rw [pl_mape,hr.free]);have hsp:qQ m z.toNat=⟨a0.list,nQ⟩:=by unfold qQ;rw [hpa,hpz,hxn]
    rw [hsp] at hl;exact bI ((⟨m.sizes.set b (⟨y3.1,y3.2,nQ⟩:PolV),m.laid.set b true,m.freeL.eraseIdx i,m.ats.set b a0,m.end_⟩:MSt),A7,c8) rfl (rv_tmp rfl) (.cons .head (.cons kT3 (.cons kT2 (.cons .head (.cons .head .nil))))) ⟨Has.of mT1,Has.of mT0,Has.of mT11,Has.pure (fun s' hs'=>by rw [hl] at hs';cases hs';rw [hr.end_] at hrl;exact⟨hrl,rfl,(List.eraseIdx_sublist ..).length_le⟩),trivial⟩ (by rw [hl];rfl)
   refine bJ<|bT<|bD<|bB<|sp2 hT ?_;refine bS (z':=(((i+1):Nat):Int)) (cG (by omega) (by omega)) ?_;refine sp hT ?_;refine nn ?_;exact bZ (i+1) (by omega) ⟨rfl,trivial⟩ ⟨rfl,rfl,rfl,rfl,trivial⟩ (.cons .head (.cons .head (.cons .head (.cons .head (.cons .head .nil))))) ⟨Has.pure (⟨by omega,take_no hq (by show jY m.sizes z.toNat≠nQ;rw [hpz];simpa using hc72) hinv7.2⟩),trivial⟩ (bH.drop 3)
  have hc54:=Int.not_lt.1 (of_decide_eq_false hc54);refine cE<|bW<|bW<|cD<|bD<|bF<|kK 12 _ _ [(true,0),(true,1),(true,2),(true,3),(true,4),(true,5),(true,6),(true,7),(true,8),(true,9),(true,10),(true,11)] dP (by decide+kernel) (.cons .head (.cons .head (.cons .head (.cons .head (.cons .head .nil))))) bH.self ?_;refine puL hT ?_;refine puL hT ?_;refine puL hT ?_;refine puL hT ?_;refine stL rfl (ldO hT (fM (off:=8) kT2)) ?_;refine puL hT ?_;refine puL hT ?_;refine puL hT ?_;refine puL hT ?_;refine puL hT ?_;refine stL rfl (ldO hT (fM (off:=9) kT2)) ?_;refine stL rfl (bG hT (k:=b) (bU kT4) rfl rfl rfl rfl rfl hr.n3.symm rfl (by omega)) ?_;refine gQ (o:=_) rfl ?_;refine cF hT (k:=b) (fo:=0) (y':=m.end_) kT4 rfl rfl rfl rfl rfl rfl rfl rfl rfl ht0 rfl ?_;refine iN<|bD<|sr<|sp4 hT ?_;refine ss (ldO hT (fM (off:=9) kT3)) ?_;refine sp hT ?_;refine bV (dJ (Has.of mT7)) fun hel=>?_;refine bV (dJ (Has.of mT1)) fun hnl2=>?_;refine cP Tryz.func106 (uW m.end_.addr (⟨y3.1,y3.2,nQ⟩:PolV).addr m.end_.cap (⟨y3.1,y3.2,nQ⟩:PolV).cap m.end_.list nQ hel hnl2) rfl rfl .nil ⟨dI (Has.of mT7),dI (Has.of mT1),trivial⟩ fun y9=>?_;rw [rA];refine hY (E:=cZ) .head ?_;refine cB (cY ⟨y9.1,y9.2,(bothP m.end_.list nQ 1).1⟩) (Has.and (Has.of mT0) (Has.pure (wW _ _))) ?_;refine sp4 hT ?_;refine sp hT ?_;refine nn<|sr<|sp4 hT ?_;refine sp hT ?_;refine sto hT kT3 ?_;refine nn<|sr<|sp3 hT ?_;refine nn<|bL<|cB (bP.each (m.sizes.set b (⟨y3.1,y3.2,nQ⟩:PolV)) cY) (oJ (Has.of mT7) (Has.of mT3)) ?_;refine cB (bP.each (m.ats.set b m.end_) cY) (oJ (Has.of mT9) (Has.of uG)) ?_;have hfr:nH nQ true s.free=none:=free_all (by rw [show s.free.take i=s.free from List.take_of_length_le (by rw [←hr.free,List.length_map];omega)] at hinv7;exact hinv7.2)
  by_cases he:(bothP m.end_.list nQ 1).2=0
  ·have hl:=bGq (b:=b) hz hfr (by rw [←hr.end_];exact he);have hrl:=zC (z:=(⟨y3.1,y3.2,nQ⟩:PolV)) (a:=m.end_) (e:=(⟨y9.1,y9.2,(bothP m.end_.list nQ 1).1⟩:PolV)) hr hb hnl m.freeL s.free (fun f hf=>hf) hr.free;exact bI ((⟨m.sizes.set b (⟨y3.1,y3.2,nQ⟩:PolV),m.laid.set b true,m.freeL,m.ats.set b m.end_,(⟨y9.1,y9.2,(bothP m.end_.list nQ 1).1⟩:PolV)⟩:MSt),FA,fc) rfl (rv_tmp rfl) (.cons .head (.cons kT2 (.cons kT1 (.cons kT1 (.cons .head .nil))))) ⟨Has.of mT1,Has.of mT0,Has.of mT2,Has.pure (fun s' hs'=>by rw [hl] at hs';cases hs';rw [←hr.end_];exact⟨hrl,rfl,Nat.le_refl _⟩),trivial⟩ (by rw [hl];simp [he])
  have hl:=xF (b:=b) hz hfr (by rw [←hr.end_];exact he);exact bI ((⟨m.sizes.set b (⟨y3.1,y3.2,nQ⟩:PolV),m.laid.set b true,m.freeL,m.ats.set b m.end_,(⟨y9.1,y9.2,(bothP m.end_.list nQ 1).1⟩:PolV)⟩:MSt),FA,fc) rfl (rv_tmp rfl) (.cons .head (.cons kT2 (.cons kT1 (.cons kT1 (.cons .head .nil))))) ⟨Has.of mT1,Has.of mT0,Has.of mT2,Has.pure (fun s' hs'=>by rw [hl] at hs';cases hs'),trivial⟩ (by rw [hl];simp [he])
 have hg46:=Int.not_lt.1 (of_decide_eq_false hg46);refine sk4 ?_;refine sk3 ?_;refine sp hT ?_;refine nn<|cQ rfl rfl ?_;refine cE<|bW<|bW<|cD<|bD<|bF<|kK 12 _ _ [(true,0),(true,1),(true,2),(true,3),(true,4),(true,5),(true,6),(true,7),(true,8),(true,9),(true,10),(true,11)] dP (by decide+kernel) (.cons .head (.cons .head (.cons .head (.cons .head (.cons .head .nil))))) bH.self ?_;refine puL hT ?_;refine puL hT ?_;refine puL hT ?_;refine puL hT ?_;refine stL rfl (ldO hT (fM (off:=8) kT2)) ?_;refine puL hT ?_;refine puL hT ?_;refine puL hT ?_;refine puL hT ?_;refine puL hT ?_;refine stL rfl (ldO hT (fM (off:=9) kT2)) ?_;refine stL rfl (bG hT (k:=b) (bU kT4) rfl rfl rfl rfl rfl hr.n3.symm rfl (by omega)) ?_;refine gQ (o:=_) rfl ?_;refine cF hT (k:=b) (fo:=0) (y':=m.end_) kT4 rfl rfl rfl rfl rfl rfl rfl rfl rfl ht0 rfl ?_;refine iN<|bD<|sr<|sp4 hT ?_;refine ss (ldO hT (fM (off:=9) kT3)) ?_;refine sp hT ?_;refine bV (dJ (Has.of mT7)) fun hel=>?_;refine bV (dJ (Has.of mT1)) fun hnl2=>?_;refine cP Tryz.func106 (uW m.end_.addr (⟨y3.1,y3.2,nQ⟩:PolV).addr m.end_.cap (⟨y3.1,y3.2,nQ⟩:PolV).cap m.end_.list nQ hel hnl2) rfl rfl .nil ⟨dI (Has.of mT7),dI (Has.of mT1),trivial⟩ fun y10=>?_;rw [rA];refine hY (E:=cZ) .head ?_;refine cB (cY ⟨y10.1,y10.2,(bothP m.end_.list nQ 1).1⟩) (Has.and (Has.of mT0) (Has.pure (wW _ _))) ?_;refine sp4 hT ?_;refine sp hT ?_;refine nn<|sr<|sp4 hT ?_;refine sp hT ?_;refine sto hT kT3 ?_;refine nn<|sr<|sp3 hT ?_;refine nn<|bL<|cB (bP.each (m.sizes.set b (⟨y3.1,y3.2,nQ⟩:PolV)) cY) (oJ (Has.of mT7) (Has.of mT3)) ?_;refine cB (bP.each (m.ats.set b m.end_) cY) (oJ (Has.of mT9) (Has.of uG)) ?_;have hfr:nH nQ true s.free=none:=free_nil (List.eq_nil_of_length_eq_zero (by omega))
 by_cases he:(bothP m.end_.list nQ 1).2=0
 ·have hl:=bGq (b:=b) hz hfr (by rw [←hr.end_];exact he);have hrl:=zC (z:=(⟨y3.1,y3.2,nQ⟩:PolV)) (a:=m.end_) (e:=(⟨y10.1,y10.2,(bothP m.end_.list nQ 1).1⟩:PolV)) hr hb hnl m.freeL s.free (fun f hf=>hf) hr.free;exact bI ((⟨m.sizes.set b (⟨y3.1,y3.2,nQ⟩:PolV),m.laid.set b true,m.freeL,m.ats.set b m.end_,(⟨y10.1,y10.2,(bothP m.end_.list nQ 1).1⟩:PolV)⟩:MSt),FA,fc) rfl (rv_tmp rfl) (.cons .head (.cons kT2 (.cons kT1 (.cons kT1 (.cons .head .nil))))) ⟨Has.of mT1,Has.of mT0,Has.of mT2,Has.pure (fun s' hs'=>by rw [hl] at hs';cases hs';rw [←hr.end_];exact⟨hrl,rfl,Nat.le_refl _⟩),trivial⟩ (by rw [hl];simp [he])
 have hl:=xF (b:=b) hz hfr (by rw [←hr.end_];exact he);exact bI ((⟨m.sizes.set b (⟨y3.1,y3.2,nQ⟩:PolV),m.laid.set b true,m.freeL,m.ats.set b m.end_,(⟨y10.1,y10.2,(bothP m.end_.list nQ 1).1⟩:PolV)⟩:MSt),FA,fc) rfl (rv_tmp rfl) (.cons .head (.cons kT2 (.cons kT1 (.cons kT1 (.cons .head .nil))))) ⟨Has.of mT1,Has.of mT0,Has.of mT2,Has.pure (fun s' hs'=>by rw [hl] at hs';cases hs'),trivial⟩ (by rw [hl];simp [he])
end Go.Proofs.YtofjmphlpdhohaaGreatDoor
