/- Texts of one proof, one behind the other: Alg, Val, Grow, UL, UM, RunO, RunR, RunKR, RunS12, Laid12, LawG12. -/
import Derived.Test.YtnmhcaahkaocgaaGreatDoorM6
import Derived.Test.YtnmhcaahkaocgaaGreatDoorM9
import Derived.Test.YtnmhcaahkaocgaaGreatDoorM7
import Derived.Test.YtnmhcaahkaocgaaGreatDoorM12
import Derived.Test.YtnmhcaahkaocgaaGreatDoorRows
import Derived.Test.YtnmhcaahkaocgaaGreatDoorM4
import Derived.Deep.DeepWitnessRowRef
import Derived.Lib.LaidU8
import Derived.LaidLaws
import Derived.Lib.LaidIn
import Derived.Shelf.Vars
import Derived.Test.YtnmhcaahkaocgaaGreatDoorM1
import Derived.ProofKit
import Derived.OpenShut
import Derived.Carry
import Derived.SizedLaws
namespace Go.Proofs.YtnmhcaahkaocgaaGreatDoor
open Go.RowKit Go.Sort
def gI (a b:Int):Prop:=(18446744073709551616:Int)∣a-b
theorem gI.refl(a:Int):gI a a:=by unfold gI;omega
theorem gI.of_eq{a b:Int}(h:a=b):gI a b:=by unfold gI;omega
theorem gI.symm{a b:Int}(h:gI a b):gI b a:=by unfold gI at*;omega
theorem gI.trans{a b c:Int}(h:gI a b)(h2:gI b c):gI a c:=by unfold gI at*;omega
theorem gI.add{a b c d:Int}(h:gI a b)(h2:gI c d):gI (a+c) (b+d):=by unfold gI at*;omega
theorem gI.sub{a b c d:Int}(h:gI a b)(h2:gI c d):gI (a-c) (b-d):=by unfold gI at*;omega
theorem gI.mul{a b:Int}(h:gI a b)(c:Int):gI (a*c) (b*c):=by
 unfold gI at*;rw [←Int.sub_mul];exact Int.dvd_trans h (Int.dvd_mul_right _ _)
theorem zH(a:Int):gI (wrap64 a) a:=by unfold gI wrap64;omega
theorem wrap_range(a:Int): -9223372036854775808≤wrap64 a∧wrap64 a<9223372036854775808:=by unfold wrap64;omega
theorem gI.eq{a b:Int}(h:gI a b)(h1: -9223372036854775808≤a∧a<9223372036854775808)(h2: -9223372036854775808≤b∧b<9223372036854775808):a=b:=by
 unfold gI at h;omega
def Ext (F:Mono→Int):Prop:= ∀a b:Mono,a.key=b.key→F a=F b
def gL (f:Mono→Int):List Mono→Int
 | []=>0
 | m::l=>f m+gL f l
def lin (F:Mono→Int)(L:List Mono):Int:=gL (fun m=>m.n*F m) L
theorem bIg(f g:Mono→Int): ∀l,gL (fun m=>f m+g m) l=gL f l+gL g l
 | []=>rfl
 | m::l=>by simp only [gL,bIg f g l];omega
theorem bFc: ∀l,gL (fun _=>0) l=0
 | []=>rfl
 | m::l=>by simp only [gL,bFc l];omega
theorem bIo(f:Mono→Int)(c:Int): ∀l,gL (fun m=>f m*c) l=gL f l*c
 | []=>by simp [gL]
 | m::l=>by simp only [gL,bIo f c l,Int.add_mul]
theorem bDu(f:Mono→Mono→Int)(q:List Mono): ∀p,gL (fun a=>gL (fun b=>f a b) q) p=gL (fun b=>gL (fun a=>f a b) p) q
 | []=>by simp only [gL,bFc]
 | a::p=>by simp only [gL,bDu f q p,bIg]
theorem uF{f g:Mono→Int}: ∀{l:List Mono},(∀m∈l,f m=g m)→gL f l=gL g l
 | [],_=>rfl
 | m::l,h=>by simp only [gL];rw [h m (by simp),uF fun x hx=>h x (by simp [hx])]
theorem bGb{f g:Mono→Int}: ∀{l:List Mono},(∀m∈l,gI (f m) (g m))→gI (gL f l) (gL g l)
 | [],_=>gI.refl _
 | m::l,h=>(h m (by simp)).add (bGb fun x hx=>h x (by simp [hx]))
theorem bHp{F:Mono→Int}(hF:Ext F)(k:Mono)(x:Int): ∀L,lin F (setTo k x L)=lin F L+(x-coef k L)*F k
 | []=>by
  have:F {k with n:=x}=F k:=hF _ _ rfl;simp only [lin,setTo,coef,gL,this];simp
 | m::L=>by
  have hk:F {k with n:=x}=F k:=hF _ _ rfl;have ih:=bHp hF k x L;unfold lin at ih;unfold setTo coef lin
  by_cases h:k.sameE m=true
  ·have h2:F m=F k:=hF _ _ (sameE_E.1 h).symm;simp only [if_pos h,gL,hk,h2,Int.sub_mul];omega
  ·simp only [if_neg h,gL,ih];omega
theorem bKc{F:Mono→Int}(hF:Ext F)(m:Mono)(v:Int)(L:List Mono):gI (lin F (bIc m v L)) (lin F L+v*F m):=by
 unfold bIc;rw [bHp hF];refine(gI.refl _).add (gI.mul ?_ _);have:=zH (coef m L+v);unfold gI at*;omega
theorem wE{F:Mono→Int}(hF:Ext F)(g:Mono→Int): ∀(p L:List Mono),gI (lin F (sK g L p)) (lin F L+gL (fun m=>g m*F m) p)
 | [],L=>by simp only [sK,gL,Int.add_zero];exact gI.refl _
 | m::p,L=>by
  refine(wE hF g p (bIc m (g m) L)).trans ?_;refine((bKc hF m (g m) L).add (gI.refl _)).trans (gI.of_eq ?_);simp only [gL];omega
theorem bEb{F:Mono→Int}(hF:Ext F)(a:Mono): ∀(q L:List Mono),gI (lin F (zF a L q)) (lin F L+gL (fun b=>a.n*b.n*F (mulM a b)) q)
 | [],L=>by simp only [zF,gL,Int.add_zero];exact gI.refl _
 | b::q,L=>by
  refine(bEb hF a q _).trans ?_;refine(((bKc hF (mulM a b) _ L).trans ((gI.refl _).add ((zH _).mul _))).add (gI.refl _)).trans (gI.of_eq ?_);simp only [gL];omega
theorem bFf{F:Mono→Int}(hF:Ext F)(q:List Mono): ∀(p L:List Mono),gI (lin F (pT q L p)) (lin F L+gL (fun a=>gL (fun b=>a.n*b.n*F (mulM a b)) q) p)
 | [],L=>by simp only [pT,gL,Int.add_zero];exact gI.refl _
 | a::p,L=>by
  refine(bFf hF q p _).trans ?_;refine((bEb hF a q L).add (gI.refl _)).trans (gI.of_eq ?_);simp only [gL];omega
def Fit (L:List Mono):Prop:= ∀m∈L,-9223372036854775808≤m.n∧m.n<9223372036854775808
theorem bJq(m:Mono)(v:Int){L:List Mono}(h:Fit L):Fit (bIc m v L):=fun y hy=>by
 rcases yZ hy with rfl | hy
 ·exact wrap_range _
 ·exact h y hy
theorem wH(g:Mono→Int): ∀(p:List Mono) {L:List Mono},Fit L→Fit (sK g L p)
 | [],_,h=>h
 | _::p,_,h=>wH g p (bJq _ _ h)
theorem bFi(a:Mono): ∀(q:List Mono) {L:List Mono},Fit L→Fit (zF a L q)
 | [],_,h=>h
 | _::q,_,h=>bFi a q (bJq _ _ h)
theorem bEv(q:List Mono): ∀(p:List Mono) {L:List Mono},Fit L→Fit (pT q L p)
 | [],_,h=>h
 | a::p,_,h=>bEv q p (bFi a q h)
theorem fit_nil:Fit []:=fun _ h=>by simp at h
def ind (k:Nat)(m:Mono):Int:=if m.key=k then 1 else 0
theorem ext_ind(k:Nat):Ext (ind k):=fun a b h=>by unfold ind;rw [h]
theorem uG(F:Mono→Int)(m:Mono)(L:List Mono):lin F (m::L)=m.n*F m+lin F L:=rfl
theorem ind_ne{k:Nat}{m:Mono}(h:m.key≠k):ind k m=0:=if_neg h
theorem ind_self(m:Mono):ind m.key m=1:=if_pos rfl
theorem sF{k:Nat}: ∀{L:List Mono},(∀y∈L,y.key≠k)→lin (ind k) L=0
 | [],_=>rfl
 | m::L,h=>by
  rw [uG,sF (L:=L) (k:=k) fun y hy=>h y (by simp [hy]),ind_ne (h m (by simp))];simp
theorem lin_ind{x:Mono}: ∀{L:List Mono},jL L→x∈L→lin (ind x.key) L=x.n
 | [],_,h=>by simp at h
 | m::L,hA,h=>by
  obtain⟨h1,h2⟩:=List.pairwise_cons.1 hA;rw [uG]
  rcases List.mem_cons.1 h with rfl | h
  ·rw [sF (L:=L) (k:=x.key) fun y hy=>Ne.symm (h1 y hy),ind_self];simp
  ·rw [lin_ind h2 h,ind_ne (h1 x h)];simp
theorem bHc{L L':List Mono}(hA:jL L)(hf:Fit L)(hA':jL L')(hf':Fit L')(h: ∀F,Ext F→gI (lin F L) (lin F L')){x:Mono}(hx:x∈rD L):x∈rD L':=by
 obtain⟨hx,h0⟩:=bHz.1 hx;have e:=h _ (ext_ind x.key);rw [lin_ind hA hx] at e;have hfx:=hf x hx
 by_cases hy: ∃y∈L',y.key=x.key
 ·obtain⟨y,hy,hk⟩:=hy;rw [←hk,lin_ind hA' hy] at e;have hn:=e.eq hfx (hf' y hy);rw [eq_of_key hk.symm hn] at h0⊢;exact bHz.2 ⟨hy,h0⟩
 ·rw [sF fun y h1 h2=>hy ⟨y,h1,h2⟩] at e;exact absurd (e.eq hfx (by omega)) h0
theorem bFv{L L':List Mono}(hA:jL L)(hf:Fit L)(hA':jL L')(hf':Fit L')(h: ∀F,Ext F→gI (lin F L) (lin F L')):rD L=rD L':=
 xV.ext (bAw hA) (bAw hA') fun _=>⟨bHc hA hf hA' hf' h,bHc hA' hf' hA hf fun F hF=>(h F hF).symm⟩
def bJx (p q:List Mono)(s:Int):List Mono:=sK (fun m=>wrap64 (s*m.n)) (sK Mono.n [] p) q
theorem bGx:jL []:=by simp [jL]
theorem bAr(p q:List Mono)(s:Int):jL (bJx p q s):=sX _ _ (sX _ _ bGx)
theorem bIl(p q:List Mono)(s:Int):Fit (bJx p q s):=wH _ _ (wH _ _ fit_nil)
theorem bHo{F:Mono→Int}(hF:Ext F)(p q:List Mono)(s:Int):gI (lin F (bJx p q s)) (lin F p+s*lin F q):=by
 refine(wE hF _ q _).trans ?_;refine gI.add ((wE hF _ p _).trans (gI.of_eq ?_)) ?_
 ·simp only [lin,gL,Int.zero_add]
 ·unfold lin;rw [Int.mul_comm,←bIo];refine bGb fun m _=>((zH _).mul _).trans (gI.of_eq ?_);rw [Int.mul_comm s,Int.mul_assoc,Int.mul_comm s,Int.mul_assoc]
theorem lin_mulL{F:Mono→Int}(hF:Ext F)(p q:List Mono):gI (lin F (pT q [] p)) (gL (fun a=>gL (fun b=>a.n*b.n*F (mulM a b)) q) p):=by
 refine(bFf hF q p []).trans (gI.of_eq ?_);simp only [lin,gL,Int.zero_add]
theorem bCg(p q:List Mono):jL (pT q [] p):=yJ _ _ bGx
theorem fit_mulL(p q:List Mono):Fit (pT q [] p):=bEv _ _ fit_nil
theorem mulM_comm(a b:Mono):mulM a b=mulM b a:=by
 simp only [mulM,Int.mul_comm a.n,UInt8.add_comm a.e0,UInt8.add_comm a.e1,UInt8.add_comm a.e2,UInt8.add_comm a.e3,UInt8.add_comm a.e4,UInt8.add_comm a.e5]
theorem bothP_L(p q:List Mono)(s:Int):bothP p q s=if fX p&&fX q then xQ (bJx p q s) else ([],20):=rfl
theorem add_comm(p q:List Mono):bothP p q 1=bothP q p 1:=by
 have h:rD (bJx p q 1)=rD (bJx q p 1):=bFv (bAr _ _ _) (bIl _ _ _) (bAr _ _ _) (bIl _ _ _) fun F hF=>
  (bHo hF p q 1).trans ((gI.of_eq (by omega)).trans (bHo hF q p 1).symm)
 rw [bothP_L,bothP_L,Bool.and_comm];unfold xQ;rw [h]
theorem mul_comm(p q:List Mono):mulP p q=mulP q p:=by
 have h:rD (pT q [] p)=rD (pT p [] q):=bFv (bCg _ _) (fit_mulL _ _) (bCg _ _) (fit_mulL _ _) fun F hF=>
  (lin_mulL hF p q).trans ((gI.of_eq (by
   rw [bDu];refine uF fun b _=>uF fun a _=>?_
   rw [mulM_comm,Int.mul_comm a.n])).trans (lin_mulL hF q p).symm)
 unfold mulP;rw [Bool.and_comm];unfold xQ;rw [h]
def qX:List (UInt8×Int)→Int
 | []=>1
 | x::l=>x.2^x.1.toNat*qX l
def val (D:Nat→Int)(m:Mono):Int:=qX (fK m D)
theorem bHt{d:Int}: ∀{e:Nat} {n r:Int},qU d e n=some r→r=n*d^e
 | 0,n,r,h=>by simp only [qU,Option.some.injEq] at h;simp [h]
 | e+1,n,r,h=>by
  unfold qU at h;split at h
  ·simp at h
  ·rw [bHt h,Int.pow_succ,Int.mul_assoc,Int.mul_comm d]
theorem bJh: ∀{l:List (UInt8×Int)} {n r:Int},mY l n=some r→r=n*qX l
 | [],n,r,h=>by simp only [mY,Option.some.injEq] at h;simp [h,qX]
 | x::l,n,r,h=>by
  simp only [mY,Option.bind_eq_some_iff] at h;obtain⟨k,h1,h2⟩:=h;rw [bJh h2,bHt h1,qX,Int.mul_assoc]
theorem bDd: ∀{l:List (UInt8×Int)},gV l=true→qX l=0
 | [],h=>by simp [gV] at h
 | x::l,h=>by
  simp only [gV,List.any_cons,Bool.or_eq_true,Bool.and_eq_true,decide_eq_true_eq,beq_iff_eq] at h
  rcases h with ⟨h1,h2⟩ | h
  ·rw [qX,h2,Int.zero_pow (by omega),Int.zero_mul]
  ·rw [qX,bDd (l:=l) (by simpa [gV] using h),Int.mul_zero]
theorem value_val{m:Mono}{D:Nat→Int}(h:(dG m D).2=true):(dG m D).1=max m.n (-m.n)*val D m:=by
 unfold dG at*;split
 ·rename_i hz;rw [val,bDd hz];simp
 ·split
  ·rename_i n hn;exact bJh hn
  ·rename_i hz _ hn;rw [if_neg hz,hn] at h;simp at h
theorem bGk{D:Nat→Int}(hD: ∀k,0≤D k): ∀{l:List Mono} {size sum r:Int},-size≤sum→sum≤size→size≤iG→jI D l size sum=some r→r=sum+lin (val D) l∧ -iG≤r∧r≤iG
 | [],size,sum,r,h1,h2,h3,h=>by
  simp only [jI,Option.some.injEq] at h;subst h;exact⟨by simp [lin,gL],by omega,by omega⟩
 | m::l,size,sum,r,h1,h2,h3,h=>by
  unfold jI at h;split at h
  ·simp at h
  ·rename_i hc;rw [not_or] at hc;have hv:=value_val (m:=m) (D:=D) (by simpa using hc.1);have h0:=sR m D hD
   have hs:(if m.n<0 then sum-(dG m D).1 else sum+(dG m D).1)=sum+m.n*val D m:=by
    rw [hv];split
    ·rw [show max m.n (-m.n)= -m.n by omega,Int.neg_mul];omega
    ·rw [show max m.n (-m.n)=m.n by omega]
   have hs1: -(size+(dG m D).1)≤sum+m.n*val D m∧sum+m.n*val D m≤size+(dG m D).1:=by
    rw [←hs];split<;>omega
   rw [hs] at h;obtain⟨e1,e2,e3⟩:=bGk hD hs1.1 hs1.2 (by omega) h;exact⟨by rw [e1,uG];omega,e2,e3⟩
theorem eval_ok{p:List Mono}{ds:List Int}{v:Int}(h:evalP p ds=(v,0)):fX p=true∧v=lin (val (dF ds)) p∧ -iG≤v∧v≤iG:=by
 unfold evalP at h;split at h
 ·rename_i h1;split at h
  ·rename_i h2;simp only [nA,Bool.and_eq_true] at h2;have hD: ∀k,0≤dF ds k:=fun k=>(xP h2.2 k).1;split at h
   ·rename_i n hn;injection h with h _
    subst h;obtain⟨e1,e2,e3⟩:=bGk hD (by omega) (by omega) (by decide) hn;exact⟨h1,by rw [e1];omega,e2,e3⟩
   ·simp at h
  ·simp at h
 ·simp at h
theorem eval_dims{p:List Mono}{ds:List Int}{v:Int}(h:evalP p ds=(v,0)):nA ds=true:=by
 unfold evalP at h;split at h
 ·split at h
  ·assumption
  ·simp at h
 ·simp at h
end Go.Proofs.YtnmhcaahkaocgaaGreatDoor
namespace Go.Proofs.YtnmhcaahkaocgaaGreatDoor
theorem pow_le{a b:Int}(ha:0≤a)(h:a≤b): ∀e:Nat,0≤a^e∧a^e≤b^e
 | 0=>by simp
 | e+1=>by
  obtain⟨h1,h2⟩:=pow_le ha h e;rw [Int.pow_succ,Int.pow_succ];exact⟨Int.mul_nonneg h1 ha,Int.mul_le_mul h2 h ha (Int.le_trans h1 h2)⟩
theorem prod_le{D D':Nat→Int}(hD: ∀k,0≤D k)(h: ∀k,D k≤D' k): ∀l:List (UInt8×Nat),0≤qX (l.map fun x=>(x.1,D x.2))∧qX (l.map fun x=>(x.1,D x.2))≤qX (l.map fun x=>(x.1,D' x.2))
 | []=>by simp [qX]
 | x::l=>by
  obtain⟨h1,h2⟩:=prod_le hD h l;obtain⟨h3,h4⟩:=pow_le (hD x.2) (h x.2) x.1.toNat;simp only [List.map_cons,qX];exact⟨Int.mul_nonneg h3 h1,Int.mul_le_mul h4 h2 h1 (Int.le_trans h3 h4)⟩
theorem val_le{D D':Nat→Int}(hD: ∀k,0≤D k)(h: ∀k,D k≤D' k)(m:Mono):0≤val D m∧val D m≤val D' m:=
 prod_le hD h [(m.e0,0),(m.e1,1),(m.e2,2),(m.e3,3),(m.e4,4),(m.e5,5)]
theorem lin_le{D D':Nat→Int}(hD: ∀k,0≤D k)(h: ∀k,D k≤D' k): ∀p:List Mono,(∀m∈p,0≤m.n)→0≤lin (val D) p∧lin (val D) p≤lin (val D') p
 | [],_=>by simp [lin,gL]
 | m::p,hp=>by
  obtain⟨h1,h2⟩:=lin_le hD h p fun x hx=>hp x (by simp [hx]);obtain⟨h3,h4⟩:=val_le hD h m;have h0:=hp m (by simp);have h5:=Int.mul_nonneg h0 h3;have h6:=Int.mul_le_mul_of_nonneg_left h4 h0;rw [uG,uG];exact⟨by omega,by omega⟩
theorem grows_n{p:List Mono}(h:iO p=true): ∀m∈p,0≤m.n:=fun m hm=>by
 simp only [iO,Bool.and_eq_true,Bool.not_eq_true',List.any_eq_false,qP,decide_eq_true_eq] at h;have:=h.2 m hm;omega
theorem eval_pos{p:List Mono}{ds:List Int}{v:Int}(h:evalP p ds=(v,0)): ∀k,0≤dF ds k:=fun k=>by
 have:=eval_dims h;simp only [nA,Bool.and_eq_true] at this;exact(xP this.2 k).1
theorem grows_pos{p:List Mono}{ds:List Int}{a:Int}(hg:iO p=true)(ha:evalP p ds=(a,0)):0≤a:=by
 obtain⟨_,a1,_⟩:=eval_ok ha;rw [a1];exact(lin_le (eval_pos ha) (fun k=>Int.le_refl _) p (grows_n hg)).1
end Go.Proofs.YtnmhcaahkaocgaaGreatDoor
namespace Go.Proofs.YtnmhcaahkaocgaaGreatDoor
open Go.RowKit
section
variable {P : Program} {β : fY} {n : Nat} {Γ : Env} {H : List bX} {F : List bU} {o : Oper} {x : Operand} {t tt u : TypeId} {v : Value}
theorem sti_ifnil{ms:Array (String×TypeId)}(ht:P.underlying t=some (.interface ms))(ho:o.op= .binOp .eql t x (.const .nilIface) tt)(hx:Γ.ev x=some .nilIface):Sti P β n Γ H F o (.bool true):=fun c w S f s k=>by
 have h2: ∀d,(Op.equalIn (d+1) t .nilIface .nilIface).run P w= .ok true w:=fun d=>by simp [Op.equalIn,run_underlying ht]
 have h3:(Op.equal t .nilIface .nilIface).run P w= .ok true w:=h2 9999;unfold execOp;have e:c.eval (.const .nilIface)= .nilIface:=rfl;simp only [ho,f.ev hx,e]
 have hb:(binOp .eql t .nilIface .nilIface).run P w= .ok (.bool true) w:=by
  simp only [binOp];rw [Sem.run_bind,h3];rfl
 rw [Sem.run_bind,Sem.run_bind]
 have hg:(eqGuard .eql t x (.const .nilIface) .nilIface .nilIface).run P w= .ok () w:=by
  unfold eqGuard;simp
 rw [hg,Result.andThen_ok,hb];rfl
theorem sti_ifsome{ms:Array (String×TypeId)}(ht:P.underlying t=some (.interface ms))(ho:o.op= .binOp .eql t x (.const .nilIface) tt)(hx:Γ.ev x=some (.iface u v)):Sti P β n Γ H F o (.bool false):=fun c w S f s k=>by
 have h1: ∀d,(Op.equalIn (d+1) t (.iface u v) .nilIface).run P w= .ok false w:=fun d=>by simp [Op.equalIn,run_underlying ht]
 have h3:(Op.equal t (.iface u v) .nilIface).run P w= .ok false w:=h1 9999;unfold execOp;have e:c.eval (.const .nilIface)= .nilIface:=rfl;simp only [ho,f.ev hx,e]
 have hb:(binOp .eql t (.iface u v) .nilIface).run P w= .ok (.bool false) w:=by
  simp only [binOp];rw [Sem.run_bind,h3];rfl
 rw [Sem.run_bind,Sem.run_bind];have hg:(eqGuard .eql t x (.const .nilIface) (.iface u v) .nilIface).run P w= .ok () w:=rfl;rw [hg,Result.andThen_ok,hb];rfl
theorem sti_assertOk{st:TypeId}{d:TypeDesc}(ho:o.op= .typeAssert x st t true)(hd:P.underlying t=some d)(hne: ∀ms,d≠ .interface ms)(hx:Γ.ev x=some (.iface t v)):Sti P β n Γ H F o (.tuple #[v,.bool true]):=fun a w S f s k=>by
 unfold execOp;simp only [ho,f.ev hx];unfold Instr.typeAssert;rw [Sem.run_bind,Sem.run_bind,run_underlying hd,Result.andThen_ok];cases d<;>first | exact absurd rfl (hne _) | simp
end
section
variable {P : Program} {β : fY} {n : Nat} {Γ : Env} {H : List bX} {F : List bU} {K : Act → World → Prop} {ι : Type} {fn : Func} {Hout : ι → List bX} {post : ι → List bU}
theorem at_offD(x:ι)(hr:fn.results= #[])(hH:Sel H (Hout x))(hF:bQ F (post x)):At β n Γ H F (bodyPost P fn (EndD β Hout post) .normal):=fun a w S f s k=>by
 refine⟨f.defers,.tuple #[],?_,⟨_,rfl⟩,x,S,s.sel hH,hF.all S w k⟩;rw [jZ,hr];simp
def memF (x:Sl Int):bU:=cQ.sl (.slice x.addr x.list.length x.cap) x.list
theorem qR: ∀{M:List (Sl Int)} {H:List bX} {F:List bU},At β n Γ H (bU.each M memF::F) K→At β n Γ (H++pU M) F K
 | [],H,F,h=>fun a w S f s k=>by
  refine h a w S f (by simpa [pU] using s) (All.cons ?_ k);exact fun x hx=>by cases hx
 | r::M,H,F,h=>by
  have hp:(H++pU (r::M)).Perm (memC r::(H++pU M)):=List.perm_middle;refine cR hp ?_;refine bFw .head ?_;refine qR (M:=M) ?_;intro a w S f s k;refine h a w S f s (All.cons ?_ fun g hg=>k g (List.mem_cons_of_mem _ (List.mem_cons_of_mem _ hg)));intro x hx
  rcases List.mem_cons.1 hx with rfl | hx
  ·exact k _ (List.mem_cons_of_mem _ (List.mem_cons_self ..))
  ·exact k _ (List.mem_cons_self ..) x hx
end
section
variable {P : Program} {β : fY} {n : Nat} {Γ : Env} {H : List bX} {F : List bU}
theorem d_loopH{ι:Type}{c:Code}{Q:Exit→Act→World→Prop}{ds:List Deferred}(Δ:Env)(hΔ:Γ.Sub Δ)(G:ι→Env)(HH:ι→List bX)(FF:ι→List bU)(μ:ι→Nat)(x0:ι)(hG:Γ.Sub (G x0))(hH:H.Perm (HH x0))(hF:bQ F (FF x0))
  (round: ∀x,At β n (G x++Δ) (HH x) (FF x++F) (Df ds (c.wp P (Exit.then (BackD ds β n (fun x=>G x++Δ) HH (fun x=>FF x++F) μ (μ x)) Q)))):At β n Γ H F (Df ds ((Code.loop c).wp P Q)):=
 cR hH (d_loop (fun x=>G x++Δ) HH (fun x=>FF x++F) μ x0 (hG.append hΔ) Sel.self (hF.append bQ.self) round)
end
def bGu (x:Sl Int):bX:=cQ.row (.slice x.addr x.list.length x.cap) 2 x.list
def wL (l:List ArrV):List bX:=l.flatMap fun a=>[bGu a.sides,bGu a.data]
theorem famA_new(l:List ArrV)(y:ArrV)(H:List bX):(bGu y.sides::bGu y.data::(H++wL l)).Perm (H++wL (l++[y])):=by
 have e:wL (l++[y])=wL l++[bGu y.sides,bGu y.data]:=by
  unfold wL;rw [List.flatMap_append];rfl
 rw [e,←List.append_assoc];exact List.perm_append_comm (l₁:=[bGu y.sides,bGu y.data])
theorem pos_of{p:List Mono}{ds:List Int}(hg:iO p=true)(h:(evalP p ds).2=0):0≤(evalP p ds).1:=grows_pos (a:=(evalP p ds).1) hg (by rw [←h])
theorem xE{vars:Int}{bufs:List iW}: ∀{r:List fG} {made:List Bool},made.length=bufs.length→mO vars bufs r made=true→ ∀x∈r,∃made',made'.length=bufs.length∧lZ vars made' x=true∧0≤x.buf∧x.buf.toNat<bufs.length
 | [],_,_,_,x,hx=>by cases hx
 | y::r,made,hm,h,x,hx=>by
  rw [mO,Bool.and_eq_true,Bool.and_eq_true,Bool.and_eq_true] at h;obtain⟨⟨h1,h2⟩,h3,h4⟩:=h
  rcases List.mem_cons.1 hx with rfl | hx
  ·refine⟨made,hm,h3,of_decide_eq_true h1,?_⟩
   cases hb:bufs[x.buf.toNat]? with
   | none=>rw [hb] at h2;cases h2
   | some b=>exact(List.getElem?_eq_some_iff.1 hb).1
  ·exact xE (by rw [List.length_set];exact hm) h4 x hx
structure StepH (x:fV) (ds:List Int) (nb:Nat):Prop where
 hN: ∀p∈polsL x.loops.list,(evalP p ds).2=0→0≤(evalP p ds).1
 hlo:x.ops.list.length≤256
 hL1:1≤x.ops.list.length
 hll:x.loops.list.length≤4
 hne:x.how=2→x.loops.list≠[]
 hne3:x.how=3→x.loops.list≠[]
 hb0:0≤x.buf
 hb1:x.buf.toNat<nb
 hA:(evalP x.at_.list ds).2=0→0≤(evalP x.at_.list ds).1
 hO:vU (opsL x.ops.list) x.loops.list.length nb
 hD:Deep (opsL x.ops.list) 0
theorem step_h{c:iN}(hr:gO c.c=true)(ds:List Int){x:fV}(hx:x∈c.steps.list):StepH x ds c.bufs.list.length:=by
 obtain⟨_,_,h3,_⟩:=oI hr;obtain⟨made,hm,hs,hb0,hb1⟩:=xE (nO _) h3 x.c (List.mem_map.2 ⟨x,hx,rfl⟩);have hnb:c.c.bufs.length=c.bufs.list.length:=dI _;have hD:=deep_step hs;unfold lZ at hs;simp only [Bool.and_eq_true,List.all_eq_true,decide_eq_true_eq] at hs;obtain⟨⟨_,ha⟩,hl,hops,_,hhow,hop⟩:=hs;have hops:(opsL x.ops.list).length≤256:=hops;rw [dV] at hops;unfold gU at hl;simp only [Bool.and_eq_true,List.all_eq_true,decide_eq_true_eq] at hl;obtain⟨hl1,hl2⟩:=hl;have hl2:(polsL x.loops.list).length≤4:=hl2;rw [dC] at hl2
 have hne:x.how=2∨x.how=3→x.loops.list≠[]:=fun e e0=>by
  have hh:(if x.how=1 then x.fn==0 else if x.how=2∨x.how=3 then !(polsL x.loops.list).isEmpty&&gN x.fn true else false)=true:=hhow;rw [if_neg (by omega),if_pos e,e0] at hh;cases hh
 refine⟨fun p hp h=>pos_of (hl1 p hp).2 h,hops,?_,hl2,fun e=>hne (.inl e),fun e=>hne (.inr e),hb0,by rw [←hnb];exact hb1,fun h=>pos_of ha h,fun o ho=>?_,hD⟩
 ·cases hl:x.ops.list with
  | nil=>
   have hD:Deep (opsL x.ops.list) 0:=hD;rw [hl] at hD;cases hD
  | cons y r=>simp
 ·have h1:=hop o ho;refine⟨fun e=>?_,fun e=>?_⟩
  ·unfold opB at h1;rw [if_neg (by omega),if_neg (by omega),if_pos e] at h1;simp only [Bool.and_eq_true,decide_eq_true_eq] at h1;have h2:0≤o.k∧o.k<((polsL x.loops.list).length:Int):=h1.1;rw [dC] at h2;omega
  ·have h2:=opB_inF h1 e;unfold opB at h1;rw [if_neg (by omega),if_neg (by omega),if_neg (by omega),if_pos e] at h1;simp only [Bool.and_eq_true,decide_eq_true_eq] at h1;rw [hm,hnb] at h2;exact⟨h1.1.1,h2⟩
theorem bDz{vars:Int}: ∀{l:List iW} {seen:List Int},oK vars l seen=true→ ∀u∈l,-1≤u.input∧u.input<64
 | [],_,_,u,hu=>by cases hu
 | v::l,seen,h,u,hu=>by
  obtain⟨_,h2⟩:=tS (show(gU v.sides vars&&(decide (-1≤v.input∧v.input<64)&&(!(seen.contains v.input)&&oK vars l (if 0≤v.input then v.input::seen else seen))))=true from h);obtain⟨h3,h4⟩:=tS h2
  rcases List.mem_cons.1 hu with rfl | hu
  ·exact of_decide_eq_true h3
  ·exact bDz (tS h4).2 u hu
theorem bCk{ds:List Int}: ∀{l:List (List Mono)} {acc r:List Int},sidesGo ds l acc=some r→ ∀p∈l,(evalP p ds).2=0
 | [],_,_,_,p,hp=>by cases hp
 | q::l,acc,r,h,p,hp=>by
  unfold sidesGo at h;split at h
  ·rename_i hs;simp only [sideV,Bool.and_eq_true,beq_iff_eq,decide_eq_true_eq] at hs
   rcases List.mem_cons.1 hp with rfl | hp
   ·exact hs.1.1
   ·exact bCk h p hp
  ·cases h
theorem bFr{ds:List Int}: ∀{l:List iW} {al:Int},(cellsGo ds l al).2=0→ ∀u∈l,∀p∈u.sides,(evalP p ds).2=0
 | [],_,_,u,hu=>by cases hu
 | v::l,al,h,u,hu=>by
  have e:cellsGo ds (v::l) al=match sizeB v.sides ds with
   | none=>((0,102):Int×Int)
   | some n=>if 1048576<al+n then (0,102) else cellsGo ds l (al+n):=rfl
  rw [e] at h
  cases hs:sizeB v.sides ds with
  | none=>rw [hs] at h;cases h
  | some n=>
   rw [hs] at h;simp only at h;split at h
   ·cases h
   ·rcases List.mem_cons.1 hu with rfl | hu
    ·unfold sizeB at hs;split at hs
     ·cases hs
     ·rename_i l' hl;exact bCk hl
    ·exact bFr h u hu
theorem bAf{c:iN}(hr:gO c.c=true): ∀u∈c.bufs.list,u.sides.list.length≤4:=fun u hu=>by
 obtain⟨_,h2,_,_⟩:=oI hr
 have key: ∀{l:List iW} {seen:List Int},oK c.vars l seen=true→ ∀v∈l,v.sides.length≤4:=fun{l}=>by
  induction l with
  | nil=>intro _ _ v hv;cases hv
  | cons w l ih=>
   intro seen h v hv;obtain⟨h1,h2⟩:=tS (show(gU w.sides c.vars&&(decide (-1≤w.input∧w.input<64)&&(!(seen.contains w.input)&&oK c.vars l (if 0≤w.input then w.input::seen else seen))))=true from h)
   rcases List.mem_cons.1 hv with rfl | hv
   ·exact of_decide_eq_true (tS h1).2
   ·exact ih (tS (tS h2).2).2 v hv
 have:=key h2 u.c (List.mem_map.2 ⟨u,hu,rfl⟩);have e:u.c.sides.length=u.sides.list.length:=dC _;omega
section
variable {c : mE} {ds : List Int} {ins : List Arr} {mem : List (List Int)} {m : RnM} {i : Nat} {e : Int}
theorem bJz(h:(fI c ds).2≠0):rnRun c ds ins=([],0,(fI c ds).2):=by
 unfold rnRun;rw [if_pos h]
theorem run_eq(h:(fI c ds).2=0):rnRun c ds ins=match sZ ds ins c.bufs with
  | .error e=>([],0,e)
  | .ok mem=>match jY ds c.steps 0 ⟨mem,0⟩ with
   | .error (i,e)=>([],i,e)
   | .ok m=>(qV ds c.bufs m.mem c.outs,0,0):=by
 unfold rnRun sZ;rw [if_neg (fun e=>e h)];split<;>rfl
theorem rrun_in(h:(fI c ds).2=0)(h2:sZ ds ins c.bufs= .error e):rnRun c ds ins=([],0,e):=by rw [run_eq h,h2]
theorem run_bad(h:(fI c ds).2=0)(h2:sZ ds ins c.bufs= .ok mem)(h3:jY ds c.steps 0 ⟨mem,0⟩= .error (i,e)):rnRun c ds ins=([],i,e):=by
 rw [run_eq h,h2];simp only [h3]
theorem run_ok(h:(fI c ds).2=0)(h2:sZ ds ins c.bufs= .ok mem)(h3:jY ds c.steps 0 ⟨mem,0⟩= .ok m):rnRun c ds ins=(qV ds c.bufs m.mem c.outs,0,0):=by
 rw [run_eq h,h2];simp only [h3]
end
section
variable {ds : List Int} {l : List fG} {x : fG} {i : Nat} {m m' : RnM} {S : Except (Nat × Int) RnM} {e : Int}
theorem bHq(h:S=jY ds (l.drop i) i m)(hx:l[i]?=some x):S=match kY ds x m with
  | .error e=> .error (i,e)
  | .ok m=>jY ds (l.drop (i+1)) (i+1) m:=by
 obtain⟨hlt,e⟩:=List.getElem?_eq_some_iff.1 hx;rw [h,←List.getElem_cons_drop hlt,e];rfl
theorem bEn(h:S=jY ds (l.drop i) i m)(hx:l[i]?=some x)(he:kY ds x m= .error e):S= .error (i,e):=by rw [bHq h hx,he]
theorem bHd(h:S=jY ds (l.drop i) i m)(hx:l[i]?=some x)(he:kY ds x m= .ok m'):S=jY ds (l.drop (i+1)) (i+1) m':=by rw [bHq h hx,he]
theorem bDs(h:S=jY ds (l.drop i) i m)(hi:l.length≤i):S= .ok m:=by
 rw [h,List.drop_of_length_le hi];rfl
theorem bCx(h:kY ds x m= .ok m')(h0:0≤m.turns)(hN: ∀p∈x.loops,(evalP p ds).2=0→0≤(evalP p ds).1)(hL:1≤x.ops.length):0≤m'.turns∧m'.turns≤2097152:=by
 rw [uP] at h;obtain⟨l,hl,h⟩:=bBv h;obtain⟨mem,_,rfl⟩:=map_ok h;obtain⟨_,_,h1,h2,_⟩:=bFm hl hN hL h0;exact⟨by show 0≤m.turns+_;omega,h2⟩
end
theorem bHw{ds:List Int}{bufs:List iW}{mem:List (List Int)}{outs:List Int}{i:Nat}{k:Int}{u:iW}{d:List Int}(hk:outs[i]?=some k)(hu:bufs[k.toNat]?=some u)(hd:mem[k.toNat]?=some d):qV ds bufs mem (outs.take (i+1))=qV ds bufs mem (outs.take i)++[⟨rnSides ds u,d⟩]:=by
 unfold qV;rw [vS hk,List.getD_eq_getElem?_getD,List.getD_eq_getElem?_getD,hu,hd];rfl
theorem sD{a b:List (Sl Int)}(h:fQ a b)(hb: ∀r∈b,r.list.length≤65536): ∀r∈a,r.list.length≤65536:=fun r hr=>by
 obtain⟨k,hk⟩:=List.getElem?_of_mem hr;obtain⟨y,hy,e⟩:=fQ.at_ h hk;rw [e];exact hb y (List.mem_of_getElem? hy)
theorem zero_arrs:(Tryz.prog.info? 64).bind (·.zero)=some (.slice none 0 0):=by kernel_rfl
theorem zero_errno:(Tryz.prog.info? 32).bind (·.zero)=some (.int .i64 0):=by kernel_rfl
def outC (b:Nat)(A:Option Addr)(n c:Nat):bX:= .obj b (.cells ([.slice A n c]:List Value).toArray 64)
def errC (b:Nat)(e:Int):bX:= .obj b (.cells ([.int .i64 e]:List Value).toArray 32)
set_option maxRecDepth 100000 in
theorem run1N_spec(ob eb:Nat)(A:Option Addr)(n c:Nat)(z:Int):bJr Tryz.prog 39 [.pointer (some ⟨ob,0,none⟩),.pointer (some ⟨eb,0,none⟩)] .returning .returning [outC ob A n c,errC eb z] [] (fun _:Unit=>[outC ob A n c,errC eb z]) (fun _=>[]):=by
 have hT:=cZ;refine vT (v:= .nilIface) Tryz.func39 rfl Tryz.ntmps39 rfl rfl rfl rfl rfl rec_none ?_;intro β hM;refine cA<|bC<|bW<|bE<|bB<|bK rfl rfl rfl (sti_ifnil Tryz.underlying20 rfl rfl) ?_;refine cA<|bC<|cG rfl rfl ?_;refine bB<|bK rfl rfl rfl (bG hT rfl) ?_;refine cA<|bY ?_;exact at_offD () rfl (.cons .head (.cons .head .nil)) trivial
set_option maxRecDepth 100000 in
theorem bCu(ob eb:Nat)(A:Option Addr)(n c:Nat)(z e:Int):bJr Tryz.prog 39 [.pointer (some ⟨ob,0,none⟩),.pointer (some ⟨eb,0,none⟩)] (.panicking (raise (bDb e))) (.panicking [{v:=bDb e,recovered:=true}]) [outC ob A n c,errC eb z] [] (fun _:Unit=>[outC ob none 0 0,errC eb e]) (fun _=>[]):=by
 have hT:=cZ;refine vT (v:=(bDb e)) Tryz.func39 rfl Tryz.ntmps39 rfl rfl rfl rfl rfl (rec_some _) ?_;intro β hM;refine cA<|bC<|bW<|bE<|bB<|bK rfl rfl rfl (sti_ifsome Tryz.underlying20 rfl rfl) ?_;refine cA<|bC<|bS rfl rfl ?_;refine bE<|bB<|bK rfl rfl rfl (sti_assertOk rfl Tryz.underlying32 (fun _ e=>by cases e) rfl) ?_;refine bK rfl rfl rfl (bG hT rfl) ?_;refine bK rfl rfl rfl (bG hT rfl) ?_;refine cA<|bC<|cG rfl rfl ?_;refine bE<|bB<|bK rfl rfl rfl (bG hT rfl) ?_;refine cA<|bC<|bB<|bK rfl rfl rfl (bG hT rfl) ?_;refine hZ hT rfl rfl rfl rfl rfl .head rfl rfl rfl rfl rfl ?_;refine hZ hT rfl rfl rfl rfl rfl (.tail .head) rfl rfl rfl rfl rfl ?_;refine cA<|bY ?_;exact at_offD () rfl (.cons (.tail .head) (.cons .head .nil)) trivial
end Go.Proofs.YtnmhcaahkaocgaaGreatDoor
namespace Go.Proofs.YtnmhcaahkaocgaaGreatDoor
open Go.RowKit
theorem pI(v0_0 v0_1 v0_2 v0_3:Value)(a1:Option Addr)(l1 c1:Nat):Tryz.prog.built 125 [(0,.agg #[v0_0,v0_1,v0_2,v0_3]),(1,.slice a1 l1 c1)]=some #[v0_0,v0_1,v0_2,v0_3,.slice a1 l1 c1,.slice none 0 0,.int .i64 0,.slice none 0 0]:=by kernel_rfl
theorem qQ(a0:Option Addr)(l0 c0:Nat)(a1:Option Addr)(l1 c1:Nat):Tryz.prog.built 77 [(0,.slice a0 l0 c0),(1,.slice a1 l1 c1)]=some #[.slice a0 l0 c0,.slice a1 l1 c1]:=by kernel_rfl
set_option maxHeartbeats 2000000 in
set_option maxRecDepth 100000 in
theorem bJw(c:iN)(DA:Option Addr)(dcap:Nat)(dims:List Int)(IA:Option Addr)(ic:Nat)(ins:List ArrV)(hdl:dims.length≤140737488355328):dM Tryz.prog 17 [.agg #[.int .i64 c.vars,.slice c.bufs.addr c.bufs.list.length c.bufs.cap,.slice c.steps.addr c.steps.list.length c.steps.cap,.slice c.outs.addr c.outs.list.length c.outs.cap],.slice DA dims.length dcap,.slice IA ins.length ic] [] [lY c,cQ.sl (.slice DA dims.length dcap) dims,jQ.sl (.slice IA ins.length ic) ins,bU.each ins uI] (fun(x:(Option Addr×Nat)×List ArrV)=> .tuple #[.slice x.1.1 x.2.length x.1.2,.int .i64 ((rnRun c.c dims (arrL ins)).2.1:Nat),.int .i64 (rnRun c.c dims (arrL ins)).2.2]) (fun(x:(Option Addr×Nat)×List ArrV)=>jQ.row (.slice x.1.1 x.2.length x.1.2) 77 x.2::wL x.2) (fun(x:(Option Addr×Nat)×List ArrV)=>[bU.pure (arrL x.2=(rnRun c.c dims (arrL ins)).1)]):=by
 have hT:=cZ;refine spec_defers Tryz.func17 rfl Tryz.ntmps17 rfl ?_;intro β hM;refine sr<|gG rfl rfl rfl rfl rfl rfl fun b1=>?_;refine gP rfl rfl rfl rfl zero_arrs rfl fun b2=>?_;refine sp hT ?_;refine gP rfl rfl rfl rfl zero_errno rfl fun b3=>?_;refine nn<|bE<|sr<|ss (ldN hT (dO kT2)) ?_;refine sp hT ?_;refine cK Tryz.func38 (Cells_spec c DA dcap dims hdl) rfl rfl .nil ⟨(Has.of mT0),(Has.of mT1),trivial⟩ fun _=>?_;refine sp4 hT ?_;refine sp hT ?_;refine nn<|sr<|sp2 hT ?_;refine nn<|bL rfl (fun hc23=>?_) (fun hc23=>?_)
 ·have hc23:=bne_iff_ne.1 hc23;refine sr<|sp hT ?_;refine sto hT kT1 ?_;refine sp hT ?_;refine sto hT kT1 ?_;refine nn<|bI<|bH<|ret_before ?_;have hR:=bJz (ins:=arrL ins) hc23;refine dN (t:=77) jQ ?_;exact kJ ((none,0),[]) rfl (oL hT (dO kT2) rfl rfl rfl rfl) (bD rfl) (oL hT (dO kT1) rfl rfl rfl rfl) (.cons .head .nil) ⟨Has.pure (by rw [hR];rfl),trivial⟩ (by rw [hR];rfl)
 have hc23:=bne_eq_false_iff_eq.1 hc23;refine bO<|bC<|sr<|sp hT ?_;refine at_defer rfl rfl rfl rfl rfl ?_;refine d_list ?_;refine pJ ?_;refine iA ?_;refine oD ?_;refine iT ?_;refine ss (ldN hT (dO kT2)) ?_;refine sp hT ?_;refine ss (rP rfl rfl (pI _ _ _ _ _ _ _)) ?_;refine gG rfl rfl rfl rfl rfl rfl fun b4=>?_;refine sp hT ?_;refine pJ ?_;refine iA ?_;refine oD ?_;refine iT ?_;refine sp2 hT ?_;have hcz:(fI c.c dims).2=0:=hc23;obtain⟨hrc,hdc,hcg⟩:=bEg hcz;have hdb:=dims_in hrc hdc;obtain⟨hbz,_,hou⟩:=xO hrc;have hnb:c.c.bufs.length=c.bufs.list.length:=dI _;have hns:c.c.steps.length=c.steps.list.length:=kG _;have hnou:c.outs.list.length≤64:=hbz.2.2;have hsd: ∀u∈c.bufs.list,∀p∈polsL u.sides.list,(evalP p dims).2=0:=fun u hu p hp=>bFr (al:=0) (l:=c.c.bufs) (by rw [←hcg];exact hcz) u.c (List.mem_map.2 ⟨u,hu,rfl⟩) p hp;have hsl:=bAf hrc;have hbi: ∀u∈c.bufs.list,-1≤u.input∧u.input<64:=fun u hu=>bDz (oI hrc).2.1 u.c (List.mem_map.2 ⟨u,hu,rfl⟩);refine dN (t:=63) tD ?_;refine dN (t:=2) cQ ?_;refine gB (.cons kT3 (.cons kT3 (.cons kT3 (.cons kT2 (.cons .head (.cons .head .nil)))))) ?_;refine cR (List.perm_append_comm (l₁:=[_,_,_])) ?_;refine jK (cE Tryz.func40 rfl rfl) (loadR_spec b4 (⟨c,⟨DA,dcap,dims⟩,⟨none,0,[]⟩,0,⟨none,0,[]⟩⟩:gF) IA ic ins (by show c.bufs.list.length≤1024;omega) hbi (fun u hu=>⟨hsd u hu,by show((polsL u.sides.list).map _).length≤4;rw [List.length_map,dC];exact hsl u hu⟩) hdl) rfl rfl rfl rfl rfl (fZ.front (maH b4 (gF.mm (⟨c,⟨DA,dcap,dims⟩,⟨none,0,[]⟩,0,⟨none,0,[]⟩⟩:gF) (none,0) [])) _) ⟨Has.of mT0,Has.of mT1,Has.of mT2,Has.of mT3,trivial⟩ ?_ ?_
 ·intro y u hu;refine dp_any ?_;refine bBu ?_;obtain⟨e,he,rfl⟩:=perr_yes hu;refine d_caught (cE Tryz.func39 rfl rfl) rfl (bCu b2 b3 none 0 0 0 e) (.cons kT1 (.cons .head .nil)) trivial fun _=>?_;refine dN (t:=77) jQ ?_;have hR:=rrun_in (ins:=arrL ins) hcz he;exact kJ ((none,0),[]) rfl (oL hT (dO kT1) rfl rfl rfl rfl) (bD rfl) (oL hT (dO kT2) rfl rfl rfl rfl) (.cons .head .nil) ⟨Has.pure (by rw [hR];rfl),trivial⟩ (by rw [hR];rfl)
 rintro⟨q,M⟩ _;refine cR List.perm_append_comm ?_;refine cD (Has.of mT0) fun hld=>?_
 have hS0: ∃S,jY dims c.c.steps 0 ⟨M.map (·.list),0⟩=S:=⟨_,rfl⟩
 obtain⟨S,hS⟩:=hS0;refine pJ ?_;refine iA ?_;refine oD ?_;refine oD ?_;refine iT ?_;refine sp hT ?_;refine ss (ldO hT (rN kT2)) ?_;refine sp2 hT ?_;refine pJ ?_;refine iA ?_;refine d_blk ?_;refine d_loopH (ι:=(Option Addr×Nat)×List (Sl Int)×Int×Nat×Int) [(3,_),(6,_),(8,_),(11,_),(34,_),(35,_)] ⟨rfl,rfl,rfl,rfl,rfl,rfl,trivial⟩ (fun⟨a,N,tn,i,t7⟩=>[(7,.int .i64 t7),(36,.int .i64 (i:Nat))]) (fun⟨a,N,tn,i,t7⟩=>errC b3 0::outC b2 none 0 0:: .obj b1 (.cells ([.int .i64 c.vars,.slice c.bufs.addr c.bufs.list.length c.bufs.cap,.slice c.steps.addr c.steps.list.length c.steps.cap,.slice c.outs.addr c.outs.list.length c.outs.cap]:List Value).toArray 31)::maH b4 (((gF.mm (⟨c,⟨DA,dcap,dims⟩,⟨none,0,[]⟩,0,⟨none,0,[]⟩⟩:gF) q N).tu tn).st a [])) (fun⟨a,N,tn,i,t7⟩=>[bU.pure (i≤c.steps.list.length∧0≤tn∧tn≤2097152∧S=jY dims (c.c.steps.drop i) i ⟨N.map (·.list),tn⟩∧fQ N M)]) (fun⟨a,N,tn,i,t7⟩=>c.steps.list.length-i) ((none,0),M,0,0,0) ⟨rfl,rfl,trivial⟩ (List.Perm.refl _) ⟨Has.pure (⟨by omega,by omega,by omega,hS.symm,fQ.refl _⟩),trivial⟩ ?_;rintro⟨a,N,tn,i,t7⟩;dsimp only;refine cD (Has.of mT0) fun hinv8=>?_;refine oD ?_;refine iT ?_;refine sp hT ?_;refine pJ ?_;refine iA ?_;refine oD ?_;refine d_cond rfl (fun hc37=>?_) (fun hc37=>?_)
 ·have hc37:=of_decide_eq_true hc37;refine d_skip ?_;refine iA ?_;refine oD ?_;refine d_blk ?_;refine oD ?_;refine cL (tU.sl (.slice c.steps.addr c.steps.list.length c.steps.cap) c.steps.list) (yK (qI (Has.of mT2))) ?_
  obtain⟨x,hx⟩: ∃x',c.steps.list[i]?=some x':=⟨_,List.getElem?_eq_getElem (by omega)⟩
  have hx2:=step_h hrc dims (List.mem_of_getElem? hx);refine cL (kB x) (Has.each (wX (qI (Has.of mT3))) (List.mem_of_getElem? hx)) ?_
  obtain⟨r0,hr0⟩: ∃r,N[x.buf.toNat]?=some r:=⟨_,List.getElem?_eq_getElem (by rw [fQ.len hinv8.2.2.2.2,hld.2.1];exact hx2.hb1)⟩
  have hrl0:=sD hinv8.2.2.2.2 hld.2.2 r0 (List.mem_of_getElem? hr0);refine iT ?_;refine sp hT ?_;refine ss (bV hT (k:=i) (bP (Has.of mT1)) rfl rfl rfl rfl rfl rfl rfl (by omega)) ?_;refine ss (dT hT (cM.knows (bP (Has.of mT1)) (k:=i) (x:=x) hx 0) rfl rfl rfl rfl rfl) ?_;refine gP rfl rfl rfl rfl sB rfl fun b5=>?_;refine sp hT ?_;refine sto hT .head ?_;refine pJ ?_;refine iA ?_;refine oD ?_;refine iT ?_;refine sp2 hT ?_;refine pJ ?_;refine iA ?_;refine iT ?_;refine sp hT ?_;refine ss (ldN hT (dO .head)) ?_;refine cR (List.perm_append_comm (l₁:=[_,_,_,_])) ?_;refine jK (cE Tryz.func41 rfl rfl) (stepR_spec b4 ((gF.mm (⟨c,⟨DA,dcap,dims⟩,⟨none,0,[]⟩,0,⟨none,0,[]⟩⟩:gF) q N).tu tn) a x r0 hx2.hN hx2.hlo hx2.hL1 hx2.hll hx2.hne hx2.hne3 hinv8.2.1 hinv8.2.2.1 hx2.hb0 hr0 (by omega) hx2.hA (by show vU _ _ N.length;rw [fQ.len hinv8.2.2.2.2,hld.2.1];exact hx2.hO) hx2.hD hdl) rfl rfl rfl rfl rfl (fZ.front _ _) ⟨Has.of mT0,Has.of mT5,trivial⟩ ?_ ?_
  ·intro y u hu;refine dp_any ?_;refine dp_block ?_;refine bBu ?_;refine bBu ?_;refine dp_block ?_;refine bBu ?_;obtain⟨e,he,rfl⟩:=perr_yes hu;refine d_caught (cE Tryz.func39 rfl rfl) rfl (bCu b2 b3 none 0 0 0 e) (.cons kT2 (.cons kT1 .nil)) trivial fun _=>?_;refine dN (t:=77) jQ ?_;have hR:=run_bad (ins:=arrL ins) hcz hld.1 (hS.trans (bEn hinv8.2.2.2.1 (iQ hx) he));exact kJ ((none,0),[]) rfl (oL hT (dO kT1) rfl rfl rfl rfl) (bD rfl) (oL hT (dO kT2) rfl rfl rfl rfl) (.cons .head .nil) ⟨Has.pure (by rw [hR];rfl),trivial⟩ (by rw [hR];rfl)
  rintro y _;refine cR List.perm_append_comm ?_;refine cD (Has.of mT0) fun hst=>?_;refine pJ ?_;refine dn_block ?_;refine iA ?_;refine iT ?_;refine sp hT ?_;refine bZ (z':=((i+1:Nat):Int)) (cV (by omega) (by omega)) ?_;refine sp hT ?_;refine pJ ?_;refine iA ?_;refine gB (.cons kT1 (.cons kT1 (.cons kT1 (.cons kT1 (.cons kT1 (.cons kT1 (Sel.skip Sel.self))))))) ?_;exact d_back (gH (y.1,y.2.1,y.2.2,i+1,((i:Nat):Int)) (by dsimp only;omega) ⟨rfl,rfl,trivial⟩ ⟨rfl,rfl,rfl,rfl,rfl,rfl,trivial⟩ (List.Perm.refl _) ⟨Has.pure (⟨by dsimp only;omega,(bCx hst.1 hinv8.2.1 hx2.hN (by show 1≤(opsL x.ops.list).length;rw [dV];exact hx2.hL1)).1,(bCx hst.1 hinv8.2.1 hx2.hN (by show 1≤(opsL x.ops.list).length;rw [dV];exact hx2.hL1)).2,bHd hinv8.2.2.2.1 (iQ hx) hst.1,hst.2.trans hinv8.2.2.2.2⟩),trivial⟩ (bQ.drop 4))
 have hc37:=Int.not_lt.1 (of_decide_eq_false hc37);refine d_exit ?_;refine bBq ?_;refine bBq ?_;refine dx_block ?_;refine iA ?_;refine oD ?_;refine qR (H:=[_,_,_,_,_,_]) ?_;have hse:=hS.trans (bDs hinv8.2.2.2.1 (by rw [hns];omega));have hNl:N.length=c.bufs.list.length:=(fQ.len hinv8.2.2.2.2).trans hld.2.1;have hNs:=sD hinv8.2.2.2.2 hld.2.2;refine dN (t:=77) jQ ?_;refine gB (.cons kT2 (.cons .head (.cons .head (.cons .head (.cons .head (.cons .head (.cons .head .nil))))))) ?_;refine cL (cQ.sl (.slice c.outs.addr c.outs.list.length c.outs.cap) c.outs.list) (rW (bBg (Has.of mT3))) ?_;refine iT ?_;refine sp hT ?_;refine pJ ?_;refine iA ?_;refine oD ?_;refine oD ?_;refine iT ?_;refine sp hT ?_;refine ss (ldO hT (kA kT3)) ?_;refine sp2 hT ?_;refine pJ ?_;refine iA ?_;refine d_blk ?_;refine d_loopH (ι:=(Option Addr×Nat)×List ArrV×Nat) [(6,_),(8,_),(11,_),(47,_),(48,_)] ⟨rfl,rfl,rfl,rfl,rfl,trivial⟩ (fun⟨o,outs,i⟩=>[(49,.int .i64 (i:Nat))]) (fun⟨o,outs,i⟩=>outC b2 o.1 outs.length o.2::jQ.row (.slice o.1 outs.length o.2) 77 outs::errC b3 0:: .obj b1 (.cells ([.int .i64 c.vars,.slice c.bufs.addr c.bufs.list.length c.bufs.cap,.slice c.steps.addr c.steps.list.length c.steps.cap,.slice c.outs.addr c.outs.list.length c.outs.cap]:List Value).toArray 31)::maO b4 (((gF.mm (⟨c,⟨DA,dcap,dims⟩,⟨none,0,[]⟩,0,⟨none,0,[]⟩⟩:gF) q N).tu tn).st a [])::maS (((gF.mm (⟨c,⟨DA,dcap,dims⟩,⟨none,0,[]⟩,0,⟨none,0,[]⟩⟩:gF) q N).tu tn).st a [])::maR (((gF.mm (⟨c,⟨DA,dcap,dims⟩,⟨none,0,[]⟩,0,⟨none,0,[]⟩⟩:gF) q N).tu tn).st a [])::wL outs) (fun⟨o,outs,i⟩=>[bU.pure (i≤c.outs.list.length∧outs.length=i∧arrL outs=(qV dims c.c.bufs (N.map (·.list)) (c.outs.list.take i)))]) (fun⟨o,outs,i⟩=>c.outs.list.length-i) ((none,0),[],0) ⟨rfl,trivial⟩ (List.Perm.refl _) ⟨Has.pure (⟨by omega,rfl,rfl⟩),trivial⟩ ?_;rintro⟨o,outs,i⟩;dsimp only;refine cD (Has.of mT0) fun hinv15=>?_;refine oD ?_;refine iT ?_;refine sp hT ?_;refine pJ ?_;refine iA ?_;refine oD ?_;refine d_cond rfl (fun hc50=>?_) (fun hc50=>?_)
 ·have hc50:=of_decide_eq_true hc50;refine d_skip ?_;refine iA ?_;refine oD ?_;refine d_blk ?_;refine oD ?_
  obtain⟨k,hko⟩: ∃k,c.outs.list[i]?=some k:=⟨_,List.getElem?_eq_getElem (by omega)⟩
  have hkb:=hou k (List.mem_of_getElem? hko);rw [hnb] at hkb
  obtain⟨u,hu⟩: ∃u,c.bufs.list[k.toNat]?=some u:=⟨_,List.getElem?_eq_getElem (by omega)⟩
  obtain⟨r,hr⟩: ∃r,N[k.toNat]?=some r:=⟨_,List.getElem?_eq_getElem (by omega)⟩
  have hrs:=hNs r (List.mem_of_getElem? hr);refine cL (cQ.sl (.slice r.addr r.list.length r.cap) r.list) (Has.each (Has.of mT2) (List.mem_of_getElem? hr)) ?_;refine iT ?_;refine ss (bV hT (k:=i) (bP (Has.of mT2)) rfl rfl rfl rfl rfl rfl rfl (by omega)) ?_;refine ss (bR hT (cM.knows (bP (Has.of mT2)) (k:=i) (x:=k) hko 0) rfl rfl rfl rfl rfl) ?_;refine sp hT ?_;refine pJ ?_;refine iA ?_;refine d_mixL 15 _ _ [(true,0),(true,1),(true,2),(true,4),(true,5),(true,6),(true,7),(true,8),(true,9),(true,10),(false,3),(false,11),(true,12),(false,13),(false,14)] dS (by decide+kernel) (.cons .head (.cons kT1 (.cons kT1 (.cons kT1 (.cons kT1 (.cons kT1 (Sel.skip Sel.self))))))) bQ.self ?_;refine stL rfl (ldO hT (dO .head)) ?_;refine puL hT ?_;refine puL hT ?_;refine puL hT ?_;refine puL hT ?_;refine puL hT ?_;refine stL rfl (ldO hT (jD kT3)) ?_;refine puL hT ?_;refine stL rfl (bV hT (k:=k.toNat) (cF kT5) rfl rfl rfl rfl rfl rfl (by omega) ((List.getElem?_eq_some_iff.1 hr).1)) ?_;refine stL rfl (bR hT (cM.knows (cF kT5) (k:=k.toNat) (x:=r) hr 0) rfl rfl rfl rfl rfl) ?_;refine hY (o:=_) rfl ?_;refine cK Tryz.func42 (bAq b4 (((gF.mm (⟨c,⟨DA,dcap,dims⟩,⟨none,0,[]⟩,0,⟨none,0,[]⟩⟩:gF) q N).tu tn).st a []) k u (by omega) hu (hsd u (List.mem_of_getElem? hu)) hdl) rfl rfl (.cons kT4 .nil) ⟨(Has.of mT6),(Has.of mT7),trivial⟩ fun sy=>?_;refine gZ (.cons kT2 (.cons kT3 (.cons kT3 (.cons .head (.cons kT2 (.cons kT2 (Sel.skip (Sel.skip Sel.self)))))))) (bQ.drop 0) ?_;refine hY (o:=_) rfl ?_;refine cK Tryz.func43 (wB r.addr r.cap r.list (by omega)) rfl rfl .nil ⟨(Has.of mT0),trivial⟩ fun cy=>?_;refine gZ (.cons kT3 (.cons kT4 (.cons kT4 (.cons kT1 (.cons kT3 (.cons kT3 (Sel.skip (Sel.skip (Sel.skip Sel.self))))))))) (bQ.drop 0) ?_;refine stL rfl (rP rfl rfl (qQ _ _ _ _ _ _)) ?_;refine hY (o:=_) rfl ?_;refine bDc (m:=(⟨⟨sy.1,sy.2,rnSides dims u.c⟩,⟨cy.1,cy.2,r.list⟩⟩:ArrV)) rfl rfl rfl rfl rfl fun b6=>?_;refine gZ (.cons kT4 (.cons kT5 (.cons kT5 (.cons kT2 (.cons kT4 (.cons kT4 (Sel.skip (Sel.skip (Sel.skip (Sel.skip Sel.self)))))))))) (bQ.drop 0) ?_;refine hY (o:=_) rfl ?_;refine bEq kT5 (dP .head rfl) rfl rfl rfl rfl rfl rfl rfl (by simp only [List.length_singleton];omega) fun A7 c8=>?_;refine gZ (.cons kT5 (.cons kT5 (.cons kT5 (.cons kT3 (.cons kT4 (.cons kT4 (Sel.skip (Sel.skip (Sel.skip (Sel.skip Sel.self)))))))))) (bQ.drop 0) ?_;refine hU (o:=_) rfl ?_;refine sto hT kT5 ?_;refine iX<|dn_block ?_;refine iA ?_;refine iT ?_;refine sp hT ?_;refine bZ (z':=(((i+1):Nat):Int)) (cV (by omega) (by omega)) ?_;refine sp hT ?_;refine pJ ?_;refine iA ?_;refine gB (.cons kT5 (.cons kT3 (.cons .head (.cons .head (.cons kT2 (.cons kT2 (.cons kT1 (.cons kT1 (.cons kT1 (Sel.skip Sel.self)))))))))) ?_;refine cR (famA_new outs (⟨⟨sy.1,sy.2,rnSides dims u.c⟩,⟨cy.1,cy.2,r.list⟩⟩:ArrV) [_,_,_,_,_,_,_]) ?_;exact d_back (gH ((A7,c8),outs++[(⟨⟨sy.1,sy.2,rnSides dims u.c⟩,⟨cy.1,cy.2,r.list⟩⟩:ArrV)],i+1) (by dsimp only;omega) ⟨rfl,trivial⟩ ⟨rfl,rfl,rfl,rfl,rfl,trivial⟩ (List.Perm.refl _) ⟨Has.pure (⟨by dsimp only;omega,by dsimp only;rw [List.length_append,List.length_singleton];omega,by dsimp only;unfold arrL;rw [List.map_append,bHw (bufs:=c.c.bufs) hko (dE hu) (by rw [List.getElem?_map,hr];rfl),←hinv15.2.2];rfl⟩),trivial⟩ (bQ.drop 2))
 have hc50:=Int.not_lt.1 (of_decide_eq_false hc50);refine d_exit ?_;refine bBq ?_;refine bBq ?_;refine dx_block ?_;refine iA ?_;refine oD ?_;refine iT ?_;refine ss (ldO hT (dO .head)) ?_;refine sto hT .head ?_;refine sp hT ?_;refine sto hT kT2 ?_;refine pJ ?_;refine iA ?_;refine d_ret ?_;refine d_leave (cE Tryz.func39 rfl rfl) rfl (run1N_spec b2 b3 o.1 outs.length o.2 0) (.cons kT1 (.cons .head .nil)) trivial fun _=>?_;have hR:=run_ok (ins:=arrL ins) hcz hld.1 hse;have ho2:arrL outs=qV dims c.c.bufs (N.map (·.list)) c.c.outs:=by rw [hinv15.2.2,List.take_of_length_le (by omega)];rfl
 exact kJ (o,outs) rfl (oL hT (dO .head) rfl rfl rfl rfl) (bD rfl) (oL hT (dO kT1) rfl rfl rfl rfl) (.cons kT2 (Sel.skip (Sel.skip (Sel.skip (Sel.skip (Sel.skip (Sel.skip Sel.self))))))) ⟨Has.pure (by rw [hR];exact ho2),trivial⟩ (by rw [hR];rfl)
end Go.Proofs.YtnmhcaahkaocgaaGreatDoor
namespace Go.Proofs.YtnmhcaahkaocgaaGreatDoor
namespace X
open Go.RowKit
noncomputable section
def i64O (v:V):Option Int:=asI v fun k z=>gd (isI64 k) (some z)
def u8O (v:V):Option Int:=asI v fun k z=>gd (sameKind k .u8) (some z)
section
variable {γ : Type}
def listO (one:List V→Option γ)(sz:Nat):Nat→List V→Option (List γ)
 | 0,_=>some []
 | n+1,cs=>ob (cutL cs 0 sz) fun h=>ob (one h) fun g=>ob (listO one sz n (cs.drop sz)) fun r=>some (g::r)
def slO (one:List V→Option γ)(sz:Nat)(v:V)(s:St):Option (List γ):=match v with
 | .l0=>some []
 | .l k o n c=>gd (Nat.ble n 1000&&Nat.ble n c.least) (ob (rowX0 s k o (n*sz)) (listO one sz n))
 | _=>none
end
def one1O {γ:Type}(f:V→Option γ)(cs:List V):Option γ:=match cs with
 | [v]=>f v
 | _=>none
def polP (s:St)(v:V):Option (List Mono):=slO monoO 7 v s
def polsP (s:St)(v:V):Option (List (List Mono)):=slO (one1O (polP s)) 1 v s
def opP (s:St)(cs:List V):Option OpC:=match cs with
 | [a,b,c,p,f]=>ob (i64O a) fun a=>ob (i64O b) fun b=>ob (i64O c) fun c=>ob (polP s p) fun p=>ob (u8O f) fun f=>some ⟨a,b,c,p,f⟩
 | _=>none
def bufP (s:St)(cs:List V):Option iW:=match cs with
 | [a,b]=>ob (polsP s a) fun a=>ob (i64O b) fun b=>some ⟨a,b⟩
 | _=>none
def stepP (s:St)(cs:List V):Option fG:=match cs with
 | [a,b,p,l,f,o]=>ob (i64O a) fun a=>ob (i64O b) fun b=>ob (polP s p) fun p=>ob (polsP s l) fun l=>ob (u8O f) fun f=>ob (slO (opP s) 5 o s) fun o=>some ⟨a,b,p,l,f,o⟩
 | _=>none
def coreO (s:St)(v:V):Option mE:=asG v fun cs=>match cs with
 | [a,b,t,o]=>ob (i64O a) fun a=>ob (slO (bufP s) 2 b s) fun b=>ob (slO (stepP s) 6 t s) fun t=>ob (slO (one1O i64O) 1 o s) fun o=>some ⟨a,b,t,o⟩
 | _=>none
def intsO (s:St)(v:V):Option (List Int):=slO (one1O i64O) 1 v s
def arrO (s:St)(cs:List V):Option Arr:=match cs with
 | [a,b]=>ob (intsO s a) fun a=>ob (intsO s b) fun b=>some ⟨a,b⟩
 | _=>none
def iV (z:Int):V:= .i .i64 z
def outV (r:List Arr×Nat×Int)(s:St):Option (V×St):=match r.1 with
 | []=>some (.t [.y s.c,iV (.ofNat r.2.1),iV r.2.2],{s with c:=s.c+1})
 | [a]=>gd (!(Nat.beq a.sides.length 0)&& !(Nat.beq a.data.length 0)) (some (.t [.l s.n 0 1 (.s s.c 0),iV (.ofNat r.2.1),iV r.2.2],
   {h:=((s.h.set (some (.win [.l (s.n+1) 0 a.sides.length (.s (s.c+1) 0),.l (s.n+2) 0 a.data.length (.s (s.c+2) 0)])) fuelT s.n).set (some (.win (a.sides.map iV))) fuelT (s.n+1)).set (some (.win (a.data.map iV))) fuelT (s.n+2),n:=s.n+3,c:=s.c+3}))
 | _=>none
def runO:Orc:=fun args s=>match args with
 | [c,d,i]=>ob (coreO s c) fun c=>ob (intsO s d) fun d=>ob (slO (arrO s) 2 i s) fun i=>outV (rnRun c d i) s
 | _=>none
end
section
variable [Ctx] {α : As} {s s' : St} {w w' : World}
def Zn (w:World):iK:=fun b=>b<w.heap.size
omit [Ctx] in
theorem i64_is{v:V}{z:Int}(h:i64O v=some z):v= .i .i64 z:=by
 obtain⟨k,x,rfl,h1⟩:=kC h;obtain⟨h2,h3⟩:=cH h1;cases h3;cases k<;>first | rfl | cases h2
omit [Ctx] in
theorem u8_is{v:V}{z:Int}(h:u8O v=some z):v= .i .u8 z:=by
 obtain⟨k,x,rfl,h1⟩:=kC h;obtain⟨h2,h3⟩:=cH h1;cases h3;rw [jS h2]
omit [Ctx] in
theorem listO_is{γ:Type}{one:List V→Option γ}{sz:Nat}: ∀(n:Nat) (cs:List V) (l:List γ),listO one sz n cs=some l→l.length=n∧ ∀k g,l[k]?=some g→ ∃h,one h=some g∧h.length=sz∧ ∀j,j<sz→cs[k*sz+j]?=h[j]?
 | 0,_,_,h=>by cases h;exact⟨rfl,fun k m h=>by cases h⟩
 | n+1,cs,l,h=>by
  obtain⟨q,hq,h1⟩:=bJ (show ob (cutL cs 0 sz) _=some l from h);obtain⟨m,hm,h2⟩:=bJ h1;obtain⟨r,hr,h3⟩:=bJ h2;cases h3;obtain⟨h4,h5⟩:=listO_is n _ _ hr;obtain⟨h6,h7⟩:=lF _ _ _ _ hq;have hl:q.length=sz:=by rw [h6];simp;omega
  refine⟨by simp [h4],fun k x hk=>?_⟩
  cases k with
  | zero=>
   cases hk;refine⟨q,hm,hl,fun j hj=>?_⟩;rw [h6,List.drop_zero,List.getElem?_take,if_pos hj];simp
  | succ k=>
   obtain⟨g,h8,h9,h10⟩:=h5 k x hk;refine⟨g,h8,h9,fun j hj=>?_⟩;rw [←h10 j hj,List.getElem?_drop]
   congr 1
   rw [Nat.succ_mul];omega
omit [Ctx] in
theorem bJf{γ β:Type}{P:γ→β→Prop}: ∀(l:List γ),(∀(k:Nat) (g:γ),l[k]?=some g→ ∃x,P g x)→ ∃m:List β,m.length=l.length∧ ∀(k:Nat) (g:γ) (x:β),l[k]?=some g→m[k]?=some x→P g x
 | [],_=>⟨[],rfl,fun k g x h=>by cases h⟩
 | g::l,h=>by
  obtain⟨x,hx⟩:=h 0 g rfl;obtain⟨m,hm,hp⟩:=bJf l fun k g hk=>h (k+1) g hk;refine⟨x::m,by simp [hm],fun k g' x' h1 h2=>?_⟩
  cases k with
  | zero=>cases h1;cases h2;exact hx
  | succ k=>exact hp k g' x' h1 h2
theorem wG{γ β:Type}{one:List V→Option γ}{E:Flat β}{f:β→γ}{G:β→Prop}(hs:Sim α s w)(hone: ∀cs g,cs.length=E.size→one cs=some g→ ∃x:β,f x=g∧cs.map (V.inst α)=E.cells x∧G x){v:V}{gs:List γ}(h:slO one E.size v s=some gs):
  ∃l:Sl β,l.list.map f=gs∧v.inst α= .slice l.addr l.list.length l.cap∧(E.sl (.slice l.addr l.list.length l.cap) l.list).p (Zn w) w∧(∀x∈l.list,G x)∧l.list.length≤l.cap∧l.list.length≤1000:=by
 unfold slO at h;split at h
 ·cases h;exact⟨⟨none,0,[]⟩,rfl,rfl,⟨none,0,rfl,fun k x hk=>(by cases hk)⟩,fun x hx=>(by cases hx),Nat.le_refl _,by show 0≤1000;decide⟩
 ·rename_i k o n c;obtain⟨h1,h2⟩:=cH h;rw [Bool.and_eq_true] at h1;obtain⟨cs,hcs,h3⟩:=bJ h2;obtain⟨h4,h5⟩:=listO_is _ _ _ h3;obtain⟨h6,h7⟩:=nB hs (row0_row hcs);obtain⟨b,hb,_⟩:=bJ hcs
  obtain⟨m,hm,hp⟩:=bJf (P:=fun(q:Nat×γ) x=>f x=q.2∧(∃h:List V,h.length=E.size∧h.map (V.inst α)=E.cells x∧ ∀j,j<E.size→cs[q.1*E.size+j]?=h[j]?)∧G x) (gs.zipIdx.map fun q=>(q.2,q.1)) fun i q hi=>by
   rw [List.getElem?_map,List.getElem?_zipIdx] at hi
   cases hg:gs[i]? with
   | none=>rw [hg] at hi;cases hi
   | some g=>
    rw [hg] at hi;have hi:some (0+i,g)=some q:=hi;cases hi;obtain⟨hh,h8,h9,h10⟩:=h5 i g hg;obtain⟨x,e1,e2,e3⟩:=hone hh g h9 h8;exact⟨x,e1,⟨hh,h9,e2,fun j hj=>by simpa using h10 j hj⟩,e3⟩
  have hml:m.length=gs.length:=by rw [hm];simp
  have hp3: ∀i x,m[i]?=some x→ ∃g,gs[i]?=some g∧f x=g∧(∃h:List V,h.length=E.size∧h.map (V.inst α)=E.cells x∧ ∀j,j<E.size→cs[i*E.size+j]?=h[j]?)∧G x:=fun i x hx=>by
   have hlt:i<gs.length:=by rw [←hml];exact(List.getElem?_eq_some_iff.1 hx).1
   have hq:(gs.zipIdx.map fun q=>(q.2,q.1))[i]?=some (i,gs[i]):=by
    rw [List.getElem?_map,List.getElem?_zipIdx,List.getElem?_eq_getElem hlt];simp
   obtain⟨e1,e2,e3⟩:=hp i _ x hq hx;exact⟨gs[i],List.getElem?_eq_getElem hlt,e1,e2,e3⟩
  have hmap:m.map f=gs:=by
   apply List.ext_getElem?;intro i;rw [List.getElem?_map]
   cases hx:m[i]? with
   | none=>
    have:=List.getElem?_eq_none_iff.1 hx;rw [List.getElem?_eq_none (by omega)];rfl
   | some x=>
    obtain⟨g,hg,e,_⟩:=hp3 i x hx;rw [hg,←e];rfl
  have hn:m.length=n:=by rw [hml];exact h4
  refine⟨⟨some ⟨α.blk k,o,none⟩,c.inst α,m⟩,hmap,by rw [←hn];rfl,⟨some ⟨α.blk k,o,none⟩,c.inst α,rfl,fun i x hx=>?_⟩,fun x hx=>?_,?_,by have:=fW h1.1;show m.length≤1000;omega⟩
  ·obtain⟨g,hg,_,⟨hh,h9,e2,h10⟩,_⟩:=hp3 i x hx;refine⟨α.blk k,o,E.cells x,rfl,(hs.is k b hb).lt,fun j u hu=>?_,rfl⟩;have hj:j<E.size:=by have:=(List.getElem?_eq_some_iff.1 hu).1;rwa [E.len] at this
   rw [←e2,List.getElem?_map] at hu
   cases hv:hh[j]? with
   | none=>rw [hv] at hu;cases hu
   | some y=>
    rw [hv] at hu;cases hu;have:=h7 _ _ ((h10 j hj).trans hv);show w.cell? ⟨α.blk k,o+i*E.size+j,none⟩=_;rw [Nat.add_assoc];exact this
  ·obtain⟨i,hi⟩:=List.getElem?_of_mem hx;obtain⟨_,_,_,_,e3⟩:=hp3 i x hi;exact e3
  ·have h8:=fW h1.2;show m.length≤c.inst α
   cases c with
   | n q=>have h8:n≤q:=h8;show m.length≤q;omega
   | s q d=>have h8:n≤d:=h8;show m.length≤d+α.room q;omega
 ·cases h
theorem polP_is(hs:Sim α s w){v:V}{p:List Mono}(h:polP s v=some p): ∃q:PolV,q.list=p∧v.inst α= .slice q.addr q.list.length q.cap∧(lS q).p (Zn w) w:=by
 obtain⟨l,h1,h2,h3,_,_,h4⟩:=wG (E:=bAn) (f:=id) (G:=fun _=>True) (γ:=Mono) hs (fun cs g _ hg=>⟨g,rfl,by rw [mono_is hg];rfl,trivial⟩) (show slO monoO bAn.size v s=some p from h);exact⟨l,by rw [←h1,List.map_id],h2,h3,Nat.le_trans h4 (by decide)⟩
theorem polsP_is(hs:Sim α s w){v:V}{p:List (List Mono)}(h:polsP s v=some p): ∃q:Sl PolV,polsL q.list=p∧v.inst α= .slice q.addr q.list.length q.cap∧(mD q).p (Zn w) w:=by
 obtain⟨l,h1,h2,h3,h4,h5,h6⟩:=wG (E:=pX) (f:=fun q:PolV=>q.list) (G:=fun q=>(lS q).p (Zn w) w) (γ:=List Mono) hs (fun cs g hl hg=>by
  match cs,hl,hg with
  | [u],_,hg=>
   obtain⟨q,e1,e2,e3⟩:=polP_is hs hg
   exact⟨q,e1,by show [u.inst α]=[_];rw [e2],e3⟩) (show slO (one1O (polP s)) pX.size v s=some p from h)
 exact⟨l,h1,h2,⟨⟨h3,h4⟩,h5,by omega⟩⟩
theorem opP_is(hs:Sim α s w){cs:List V}{o:OpC}(h:opP s cs=some o): ∃x:OpV,x.c=o∧cs.map (V.inst α)=opE.cells x∧(opF x).p (Zn w) w:=by
 unfold opP at h;split at h
 ·rename_i a b c p f;obtain⟨a',ha,h⟩:=bJ h;obtain⟨b',hb,h⟩:=bJ h;obtain⟨c',hc,h⟩:=bJ h;obtain⟨p',hp,h⟩:=bJ h;obtain⟨f',hf,h⟩:=bJ h;cases h;obtain⟨q,e1,e2,e3⟩:=polP_is hs hp;rw [i64_is ha,i64_is hb,i64_is hc,u8_is hf];refine⟨⟨a',b',c',q,f'⟩,by subst e1;rfl,?_,e3⟩;show [_,_,_,p.inst α,_]=_;rw [e2];rfl
 ·cases h
theorem bufP_is(hs:Sim α s w){cs:List V}{o:iW}(h:bufP s cs=some o): ∃x:kX,x.c=o∧cs.map (V.inst α)=uB.cells x∧(bufF x).p (Zn w) w:=by
 unfold bufP at h;split at h
 ·rename_i a b;obtain⟨a',ha,h⟩:=bJ h;obtain⟨b',hb,h⟩:=bJ h;cases h;obtain⟨q,e1,e2,e3⟩:=polsP_is hs ha;rw [i64_is hb];refine⟨⟨q,b'⟩,by subst e1;rfl,?_,e3⟩;show [a.inst α,_]=_;rw [e2];rfl
 ·cases h
theorem stepP_is(hs:Sim α s w){cs:List V}{o:fG}(h:stepP s cs=some o): ∃x:fV,x.c=o∧cs.map (V.inst α)=tU.cells x∧(kB x).p (Zn w) w:=by
 unfold stepP at h;split at h
 ·rename_i a b p l f t;obtain⟨a',ha,h⟩:=bJ h;obtain⟨b',hb,h⟩:=bJ h;obtain⟨p',hp,h⟩:=bJ h;obtain⟨l',hl,h⟩:=bJ h;obtain⟨f',hf,h⟩:=bJ h;obtain⟨t',ht,h⟩:=bJ h;cases h;obtain⟨q,e1,e2,e3⟩:=polP_is hs hp;obtain⟨r,g1,g2,g3⟩:=polsP_is hs hl;obtain⟨y,k1,k2,k3,k4,k5,k6⟩:=wG (E:=opE) (f:=OpV.c) (G:=fun x=>(opF x).p (Zn w) w) (γ:=OpC) hs (fun cs g _ hg=>opP_is hs hg) (show slO (opP s) opE.size t s=some t' from ht);rw [i64_is ha,i64_is hb,u8_is hf];refine⟨⟨a',b',q,r,f',y⟩,by subst e1 g1 k1;rfl,?_,e3,g3,⟨⟨k3,k4⟩,k5,by show y.list.length*56≤140737488355328;omega⟩⟩;show [_,_,p.inst α,l.inst α,_,t.inst α]=_;rw [e2,g2,k2];rfl
 ·cases h
omit [Ctx] in
theorem ints1_is{cs:List V}{g:Int}(hl:cs.length=cQ.size)(hg:one1O i64O cs=some g): ∃x:Int,id x=g∧cs.map (V.inst α)=cQ.cells x∧True:=by
 match cs,hl,hg with
 | [u],_,hg=>exact⟨g,rfl,by rw [i64_is (show i64O u=some g from hg)];rfl,trivial⟩
theorem bBy(hs:Sim α s w){v:V}{p:List Int}(h:intsO s v=some p): ∃q:Sl Int,q.list=p∧v.inst α= .slice q.addr q.list.length q.cap∧(xK q).p (Zn w) w:=by
 obtain⟨l,h1,h2,h3,_,h4,h5⟩:=wG (E:=cQ) (f:=id) (G:=fun _=>True) (γ:=Int) hs (fun cs g hl hg=>ints1_is hl hg) (show slO (one1O i64O) cQ.size v s=some p from h);exact⟨l,by rw [←h1,List.map_id],h2,h3,h4,by omega⟩
theorem core_is(hs:Sim α s w){v:V}{c:mE}(h:coreO s v=some c): ∃x:iN,x.c=c∧v.inst α= .agg #[.int .i64 x.vars,.slice x.bufs.addr x.bufs.list.length x.bufs.cap,.slice x.steps.addr x.steps.list.length x.steps.cap,.slice x.outs.addr x.outs.list.length x.outs.cap]∧(lY x).p (Zn w) w:=by
 obtain⟨cs,rfl,h⟩:=qW h
 match cs,h with
 | [a,b,t,o],h=>
  have h:(ob (i64O a) fun a=>ob (slO (bufP s) 2 b s) fun b=>ob (slO (stepP s) 6 t s) fun t=>ob (slO (one1O i64O) 1 o s) fun o=>some (⟨a,b,t,o⟩:mE))=some c:=h;obtain⟨a',ha,h⟩:=bJ h;obtain⟨b',hb,h⟩:=bJ h;obtain⟨t',ht,h⟩:=bJ h;obtain⟨o',ho,h⟩:=bJ h;cases h;obtain⟨y,k1,k2,k3,k4,k5,k6⟩:=wG (E:=uB) (f:=kX.c) (G:=fun x=>(bufF x).p (Zn w) w) (γ:=iW) hs (fun cs g _ hg=>bufP_is hs hg) (show slO (bufP s) uB.size b s=some b' from hb);obtain⟨z,m1,m2,m3,m4,m5,m6⟩:=wG (E:=tU) (f:=fV.c) (G:=fun x=>(kB x).p (Zn w) w) (γ:=fG) hs (fun cs g _ hg=>stepP_is hs hg) (show slO (stepP s) tU.size t s=some t' from ht);obtain⟨q,e1,e2,e3⟩:=bBy hs ho;rw [i64_is ha];refine⟨⟨a',y,z,q⟩,by subst k1 m1 e1;rfl,?_,⟨⟨k3,k4⟩,k5,by show y.list.length*32≤140737488355328;omega⟩,⟨⟨m3,m4⟩,m5,by show z.list.length*96≤140737488355328;omega⟩,e3⟩;rw [mS];show Value.agg #[_,b.inst α,t.inst α,o.inst α]=_;rw [k2,m2,e2];rfl
theorem arrs_is(hs:Sim α s w){v:V}{p:List Arr}(h:slO (arrO s) 2 v s=some p): ∃q:Sl ArrV,arrL q.list=p∧v.inst α= .slice q.addr q.list.length q.cap∧(jQ.sl (.slice q.addr q.list.length q.cap) q.list).p (Zn w) w∧(bU.each q.list uI).p (Zn w) w:=by
 obtain⟨l,h1,h2,h3,h4,_,_⟩:=wG (E:=jQ) (f:=ArrV.arr) (G:=fun x=>(uI x).p (Zn w) w) (γ:=Arr) hs (fun cs g _ hg=>by
  match cs,hg with
  | [a,b],hg=>
   have hg:(ob (intsO s a) fun a=>ob (intsO s b) fun b=>some (⟨a,b⟩:Arr))=some g:=hg;obtain⟨a',ha,hg⟩:=bJ hg;obtain⟨b',hb,hg⟩:=bJ hg;cases hg;obtain⟨q,e1,e2,e3⟩:=bBy hs ha;obtain⟨r,g1,g2,g3⟩:=bBy hs hb;refine⟨⟨q,r⟩,by subst e1 g1;rfl,?_,e3,g3⟩;show [a.inst α,b.inst α]=_;rw [e2,g2]
   rfl) (show slO (arrO s) jQ.size v s=some p from h)
 exact⟨l,h1,h2,h3,h4⟩
end
end X
end Go.Proofs.YtnmhcaahkaocgaaGreatDoor
namespace Go.Proofs.YtnmhcaahkaocgaaGreatDoor
namespace X
open Go.RowKit
theorem own_at{w:World}{v:Value}{t:TypeId}{sz m:Nat}{cs:List Value}(hok:w.ownsRow 0 t sz v m cs)(h0:0<m): ∃g cap,v= .slice (some ⟨g,0,none⟩) m cap∧v.ownBlock=some g∧ ∀j u,cs[j]?=some u→w.cell? ⟨g,j,none⟩=some u:=by
 have h1:=hok
 rcases hok.2 with ⟨e,e0⟩ | ⟨g,cap,cur,e,_⟩
 ·omega
 ·subst e;refine⟨g,cap,rfl,rfl,fun j u hj=>?_⟩;have hlt:=(List.getElem?_eq_some_iff.1 hj).1;rw [h1.1] at hlt;rw [World.ownsRow.cellAt h1 j hlt];exact hj
section
variable [Ctx] {α : As} {s s' : St} {w w' : World}
omit [Ctx] in
theorem below_of{H:List bX}{S':iK}(st:Go.Proofs.YtnmhcaahkaocgaaGreatDoor.St ⟨w,kN [],Zn w⟩ H S' w'):Below w.heap.size w w':=⟨st.kept.os,st.kept.tape,st.kept.output,st.kept.size,fun k hk=>st.kept.block k hk fun⟨c,hc,_⟩=>by cases hc⟩
theorem out_none(hs:Sim α s w){r:List Arr×Nat×Int}(h0:r.1=[]){v:V}(h:outV r s=some (v,s'))(hb:Below w.heap.size w w')(A:Option Addr)(c:Nat): ∃α',Value.tuple #[.slice A 0 c,.int .i64 (r.2.1:Nat),.int .i64 r.2.2]=v.inst α'∧Stp α s w α' s' w':=by
 unfold outV at h;rw [h0] at h;have h:some (V.t [.y s.c,iV (.ofNat r.2.1),iV r.2.2],({s with c:=s.c+1}:St))=some (v,s'):=h;cases h
 have hsame:lH s.n s.c α {α with room:=fun k=>if k=s.c then c else α.room k,place:=fun k=>if k=s.c then A else α.place k}:=
  ⟨fun _ _=>rfl,fun k hk=>by simp;omega,fun k hk=>by simp;omega⟩
 refine⟨{α with room:=fun k=>if k=s.c then c else α.room k,place:=fun k=>if k=s.c then A else α.place k},by rw [inst_t];simp [V.inst,iV],?_⟩;exact Stp.make hs (fun _=>False) hsame (Nat.le_refl _) (Nat.le_succ _) hb.os hb.tape hb.output hb.size (fun b h _=>hb.block b h) (fun _ h=>h.elim) (fun k y hk=> .inl ⟨hk,fun h=>h⟩) (fun k k' y y' hk hk' e=>hs.ne k k' y y' hk hk' e)
def As.three(α:As)(n c g0 g1 g2 c0 c1 c2:Nat):As:={α with blk:=fun k=>if k=n then g0 else if k=n+1 then g1 else if k=n+2 then g2 else α.blk k,room:=fun k=>if k=c then c0 else if k=c+1 then c1 else if k=c+2 then c2 else α.room k}
theorem out_one(hs:Sim α s w){r:List Arr×Nat×Int}{o:(Option Addr×Nat)×List ArrV}{y:ArrV}(h0:r.1=[y.arr])(ho:o.2=[y]){v:V}(h:outV r s=some (v,s')){S':iK}
  (st:Go.Proofs.YtnmhcaahkaocgaaGreatDoor.St ⟨w,kN [],Zn w⟩ (jQ.row (.slice o.1.1 o.2.length o.1.2) 77 o.2::wL o.2) S' w'): ∃α',Value.tuple #[.slice o.1.1 o.2.length o.1.2,.int .i64 (r.2.1:Nat),.int .i64 r.2.2]=v.inst α'∧Stp α s w α' s' w':=by
 have hb:=below_of st;unfold outV at h;rw [h0] at h;obtain⟨hne,h⟩:=cH (show gd _ _=some (v,s') from h);cases h;simp only [Bool.and_eq_true,Bool.not_eq_true'] at hne
 have hn1:y.sides.list.length≠0:=fun e=>by
  have h1:Nat.beq y.sides.list.length 0=false:=hne.1;rw [e] at h1;cases h1
 have hn2:y.data.list.length≠0:=fun e=>by
  have h1:Nat.beq y.data.list.length 0=false:=hne.2;rw [e] at h1;cases h1
 rw [ho] at st⊢;have hst:Go.Proofs.YtnmhcaahkaocgaaGreatDoor.St ⟨w,kN [],Zn w⟩ [jQ.row (.slice o.1.1 1 o.1.2) 77 [y],bGu y.sides,bGu y.data] S' w':=st;have k0:w'.ownsRow 0 77 jQ.size (.slice o.1.1 1 o.1.2) 1 (jQ.all [y]):=hst.ok _ (.head _);have k1:w'.ownsRow 0 2 cQ.size (.slice y.sides.addr y.sides.list.length y.sides.cap) y.sides.list.length (cQ.all y.sides.list):=hst.ok _ (.tail _ (.head _));have k2:w'.ownsRow 0 2 cQ.size (.slice y.data.addr y.data.list.length y.data.cap) y.data.list.length (cQ.all y.data.list):=hst.ok _ (.tail _ (.tail _ (.head _)));obtain⟨g0,c0,e0,b0,a0⟩:=own_at k0 (by decide);obtain⟨g1,c1,e1,b1,a1⟩:=own_at k1 (Nat.pos_of_ne_zero hn1);obtain⟨g2,c2,e2,b2,a2⟩:=own_at k2 (Nat.pos_of_ne_zero hn2);injection e0 with e01 _ e02
 injection e1 with e11 _ e12
 injection e2 with e21 _ e22
 have o0:=hst.own _ (.head _) g0 b0;have o1:=hst.own _ (.tail _ (.head _)) g1 b1;have o2:=hst.own _ (.tail _ (.tail _ (.head _))) g2 b2;have hM: ∀b,kN [] b→False:=fun b ⟨c,hc,_⟩=>by cases hc
 have l0:w.heap.size≤g0:=o0.2.1.resolve_left (hM _);have l1:w.heap.size≤g1:=o1.2.1.resolve_left (hM _);have l2:w.heap.size≤g2:=o2.2.1.resolve_left (hM _);have hsep:=List.pairwise_cons.1 hst.sep;have hsep2:=List.pairwise_cons.1 hsep.2;have n01:g0≠g1:=fun e=>hsep.1 _ (.head _) g0 b0 (by rw [e];exact b1);have n02:g0≠g2:=fun e=>hsep.1 _ (.tail _ (.head _)) g0 b0 (by rw [e];exact b2);have n12:g1≠g2:=fun e=>hsep2.1 _ (.head _) g1 b1 (by rw [e];exact b2)
 have hsame:lH s.n s.c α (α.three s.n s.c g0 g1 g2 c0 c1 c2):=⟨fun k hk=>by unfold As.three;simp only;rw [if_neg (by omega),if_neg (by omega),if_neg (by omega)],fun k hk=>by unfold As.three;simp only;rw [if_neg (by omega),if_neg (by omega),if_neg (by omega)],fun _ _=>rfl⟩
 have q0:(α.three s.n s.c g0 g1 g2 c0 c1 c2).blk s.n=g0:=by simp [As.three]
 have q1:(α.three s.n s.c g0 g1 g2 c0 c1 c2).blk (s.n+1)=g1:=by simp [As.three]
 have q2:(α.three s.n s.c g0 g1 g2 c0 c1 c2).blk (s.n+2)=g2:=by simp [As.three]
 have p0:(α.three s.n s.c g0 g1 g2 c0 c1 c2).room s.c=c0:=by simp [As.three]
 have p1:(α.three s.n s.c g0 g1 g2 c0 c1 c2).room (s.c+1)=c1:=by simp [As.three]
 have p2:(α.three s.n s.c g0 g1 g2 c0 c1 c2).room (s.c+2)=c2:=by simp [As.three]
 have hold: ∀k x,s.h.get k=some x→(α.three s.n s.c g0 g1 g2 c0 c1 c2).blk k=α.blk k∧α.blk k<w.heap.size:=fun k x hk=>by
  have:=hs.lt k x hk;exact⟨(hsame.blk k this).symm,(hs.is k x hk).lt⟩
 refine⟨α.three s.n s.c g0 g1 g2 c0 c1 c2,?_,?_⟩
 ·rw [inst_t];simp only [V.inst,iV,List.map_cons,List.map_nil,q0,Cap.inst,p0,Nat.zero_add,e01,e02,List.length_singleton];rfl
 ·have hints: ∀{l:List Int} {g:Nat},(∀j u,(cQ.all l)[j]?=some u→w'.cell? ⟨g,j,none⟩=some u)→ ∀i v,(l.map iV)[i]?=some v→w'.cell? ⟨g,i,none⟩=some (v.inst (α.three s.n s.c g0 g1 g2 c0 c1 c2)):=fun{l g} ha i v hi=>by
   rw [List.getElem?_map] at hi
   cases hz:l[i]? with
   | none=>rw [hz] at hi;cases hi
   | some z=>
    rw [hz] at hi;cases hi;have h1:=cQ.all_get hz (show(cQ.cells z)[0]?=some (.int .i64 z) from rfl);have h1:(cQ.all l)[i*1+0]?=some (.int .i64 z):=h1;rw [Nat.mul_one,Nat.add_zero] at h1;exact ha i _ h1
  have hsci: ∀{l:List Int} {n c:Nat},∀v∈l.map iV,v.Sc n c∧v.one=true:=fun{l n c} v hv=>by
   obtain⟨z,_,rfl⟩:=List.mem_map.1 hv;exact⟨⟨1,by rw [kE];rfl⟩,rfl⟩
  have hSc: ∀v∈([.l (s.n+1) 0 y.arr.sides.length (.s (s.c+1) 0),.l (s.n+2) 0 y.arr.data.length (.s (s.c+2) 0)]:List V),v.Sc (s.n+3) (s.c+3)∧v.one=true:=fun v hv=>by
   simp only [List.mem_cons,List.not_mem_nil,or_false] at hv
   rcases hv with rfl | rfl
   ·exact⟨⟨1,by rw [kE];simp [Cap.ok,Nat.blt_eq]⟩,rfl⟩
   ·exact⟨⟨1,by rw [kE];simp [Cap.ok,Nat.blt_eq]⟩,rfl⟩
  have hI: ∀(i:Nat) (v:V),([.l (s.n+1) 0 y.arr.sides.length (.s (s.c+1) 0),.l (s.n+2) 0 y.arr.data.length (.s (s.c+2) 0)]:List V)[i]?=some v→w'.cell? ⟨g0,i,none⟩=some (v.inst (α.three s.n s.c g0 g1 g2 c0 c1 c2)):=fun i v hi=>by
   match i,hi with
   | 0,hi=>
    cases hi;have:=a0 0 (.slice y.sides.addr y.sides.list.length y.sides.cap) rfl;rw [this,e11,e12];simp only [V.inst,q1,Cap.inst,p1,Nat.zero_add];rfl
   | 1,hi=>
    cases hi;have:=a0 1 (.slice y.data.addr y.data.list.length y.data.cap) rfl;rw [this,e21,e22];simp only [V.inst,q2,Cap.inst,p2,Nat.zero_add];rfl
  refine Stp.make hs (fun _=>False) hsame (by show s.n≤s.n+3;omega) (by show s.c≤s.c+3;omega) hb.os hb.tape hb.output hb.size (fun b h _=>hb.block b h) (fun _ h=>h.elim) (fun k x hk=>?_) (fun k k' x x' hk hk' e=>?_)
  ·have hk:(((s.h.set (some (.win [.l (s.n+1) 0 y.arr.sides.length (.s (s.c+1) 0),.l (s.n+2) 0 y.arr.data.length (.s (s.c+2) 0)])) fuelT s.n).set (some (.win (y.arr.sides.map iV))) fuelT (s.n+1)).set (some (.win (y.arr.data.map iV))) fuelT (s.n+2)).get k=some x:=hk
   rcases gE hk with ⟨rfl,e⟩ | ⟨_,hk⟩
   ·injection e with e
    subst e;exact .inr ⟨by show s.n+2<s.n+3;omega,hsci,by rw [q2];exact⟨o2.1,hints a2⟩,.inl (by rw [q2];exact l2)⟩
   ·rcases gE hk with ⟨rfl,e⟩ | ⟨_,hk⟩
    ·injection e with e
     subst e;exact .inr ⟨by show s.n+1<s.n+3;omega,hsci,by rw [q1];exact⟨o1.1,hints a1⟩,.inl (by rw [q1];exact l1)⟩
    ·rcases gE hk with ⟨rfl,e⟩ | ⟨_,hk⟩
     ·injection e with e
      subst e;exact .inr ⟨by show s.n<s.n+3;omega,hSc,by rw [q0];exact⟨o0.1,hI⟩,.inl (by rw [q0];exact l0)⟩
     ·exact .inl ⟨hk,fun h=>h⟩
  ·have key: ∀k x,(((s.h.set (some (.win [.l (s.n+1) 0 y.arr.sides.length (.s (s.c+1) 0),.l (s.n+2) 0 y.arr.data.length (.s (s.c+2) 0)])) fuelT s.n).set (some (.win (y.arr.sides.map iV))) fuelT (s.n+1)).set (some (.win (y.arr.data.map iV))) fuelT (s.n+2)).get k=some x→(k=s.n∨k=s.n+1∨k=s.n+2)∨ ∃z,s.h.get k=some z:=fun k x hk=>by
    rcases gE hk with ⟨rfl,_⟩ | ⟨_,hk⟩
    ·exact .inl (.inr (.inr rfl))
    ·rcases gE hk with ⟨rfl,_⟩ | ⟨_,hk⟩
     ·exact .inl (.inr (.inl rfl))
     ·rcases gE hk with ⟨rfl,_⟩ | ⟨_,hk⟩
      ·exact .inl (.inl rfl)
      ·exact .inr ⟨x,hk⟩
   rcases key k x hk with h1 | ⟨z,h1⟩<;>rcases key k' x' hk' with h2 | ⟨z',h2⟩
   ·rcases h1 with rfl | rfl | rfl<;>rcases h2 with rfl | rfl | rfl<;>simp only [q0,q1,q2] at e<;>first | rfl | exact absurd e n01 | exact absurd e n02 | exact absurd e n12 | exact absurd e.symm n01 | exact absurd e.symm n02 | exact absurd e.symm n12
   ·obtain⟨h3,h4⟩:=hold k' z' h2;rw [h3] at e
    rcases h1 with rfl | rfl | rfl<;>simp only [q0,q1,q2] at e<;>omega
   ·obtain⟨h3,h4⟩:=hold k z h1;rw [h3] at e
    rcases h2 with rfl | rfl | rfl<;>simp only [q0,q1,q2] at e<;>omega
   ·obtain⟨h3,_⟩:=hold k z h1;obtain⟨h5,_⟩:=hold k' z' h2;rw [h3,h5] at e;exact hs.ne k k' z z' h1 h2 e
theorem run_orc(hP:Ctx.P=Tryz.prog):qB 17 runO:=fun args s v s' h α w hs _=>by
 match args,h with
 | [a,b,i],h=>
  obtain⟨c,hc,h1⟩:=bJ (show ob (coreO s a) _=some (v,s') from h);obtain⟨d,hd,h2⟩:=bJ h1;obtain⟨ins,hi,h3⟩:=bJ h2;obtain⟨x,rfl,x2,x3⟩:=core_is hs hc;obtain⟨y,rfl,y2,y3⟩:=bBy hs hd;obtain⟨z,rfl,z2,z3,z4⟩:=arrs_is hs hi;refine .inr ⟨by rw [hP];exact cE Tryz.func17 rfl rfl _ _,?_⟩;rw [hP];have hr:=bJw x y.addr y.cap y.list z.addr z.cap z.list (by have h5:y.list.length*8≤140737488355328:=y3.2.2;omega) (Zn w) w ⟨nN.refl _ _,fun c hc=>(by cases hc),fun c hc=>(by cases hc),List.Pairwise.nil,fun b hb=>⟨hb,.inl hb⟩⟩ (All.cons x3 (All.cons y3.1 (All.cons z3 (All.cons z4 fun g hg=>(by cases hg)))));show Calls Tryz.prog _ ([a.inst α,b.inst α,i.inst α]:List Value).toArray w _;rw [x2,y2,z2];refine hr.mono ?_;rintro e w' ⟨o,S',rfl,st,k⟩;have ho:arrL o.2=(rnRun x.c y.list (arrL z.list)).1:=k _ (.head _);refine⟨_,rfl,?_⟩;generalize rnRun x.c y.list (arrL z.list)=r at h3 ho⊢
  match hr1:r.1,h3 with
  | [],h3=>
   rw [hr1] at ho;have h0:o.2=[]:=List.map_eq_nil_iff.1 ho;have:=out_none hs hr1 h3 (below_of st) o.1.1 o.1.2;rw [←show o.2.length=0 by rw [h0];rfl] at this;exact this
  | [q],h3=>
   rw [hr1] at ho;obtain⟨u,hu,e⟩:=List.map_eq_singleton_iff.1 ho;subst e;exact out_one hs hr1 hu h3 st
  | _::_::_,h3=>
   unfold outV at h3;rw [hr1] at h3;cases h3
end
end X
end Go.Proofs.YtnmhcaahkaocgaaGreatDoor
namespace Go.Proofs.YtnmhcaahkaocgaaGreatDoor
namespace X
noncomputable section
def bJj:T (T Plan):= .nd (.nd (.nd (.nd (.nd (.nd (.nd .lf (some .lf) .lf) none .lf) none (.nd (.nd .lf (some (.nd .lf none (.nd .lf none (.nd .lf (some (([(true,0),(true,1),(true,2),(true,3),(true,4),(true,5),(true,6),(true,7),(true,8)],[]))) .lf)))) .lf) none (.nd .lf (some .lf) .lf))) none (.nd (.nd .lf none (.nd (.nd .lf (some .lf) .lf) none .lf)) (some .lf) (.nd (.nd .lf none (.nd .lf (some .lf) .lf)) none .lf))) none (.nd (.nd (.nd (.nd (.nd (.nd .lf (some .lf) .lf) none .lf) (some .lf) .lf) none (.nd (.nd .lf (some .lf) .lf) none .lf)) none (.nd .lf (some .lf) (.nd (.nd .lf (some .lf) .lf) (some .lf) .lf))) (some (.nd (.nd (.nd .lf none (.nd (.nd (.nd .lf (some (([(true,0),(true,1),(true,2),(true,3),(true,4),(true,5),(true,6),(true,7),(true,8),(true,9),(false,10),(false,11),(true,12),(true,13),(true,14)],[15]))) .lf) (some (([(true,0),(true,1),(true,2),(true,3),(true,4),(true,5),(true,6),(true,7),(true,8)],[9]))) .lf) none .lf)) none (.nd .lf none (.nd .lf none (.nd .lf (some (([(true,0),(true,1),(true,2),(true,3),(true,4),(true,5),(true,6),(true,7),(true,8),(true,9),(false,10),(true,11),(true,12),(true,13),(true,14),(true,15)],[]))) .lf)))) none (.nd (.nd .lf none (.nd (.nd .lf (some (([(true,0),(true,1),(true,2),(true,3),(true,4),(true,5),(true,6),(true,7),(true,9),(false,8),(true,10),(false,11),(false,12),(true,13),(true,14),(true,15)],[16]))) .lf) none .lf)) none (.nd (.nd (.nd (.nd .lf (some (([(true,0),(true,1),(true,2),(true,3),(true,4),(true,5),(true,6),(true,7),(true,8)],[9]))) .lf) none .lf) none .lf) none .lf)))) (.nd (.nd .lf none (.nd (.nd .lf (some .lf) .lf) (some .lf) .lf)) (some .lf) (.nd .lf (some .lf) .lf)))) none (.nd (.nd (.nd (.nd (.nd .lf (some .lf) .lf) none .lf) none (.nd (.nd .lf none (.nd .lf (some .lf) .lf)) (some (.nd (.nd .lf none (.nd .lf none (.nd .lf (some (([(true,0),(true,1),(true,2),(true,3),(true,4),(true,5),(false,6),(false,7),(true,8),(true,9)],[10]))) .lf))) none (.nd .lf (some (([(true,0),(true,1),(true,2),(true,3),(true,4),(true,5),(true,6),(true,7),(true,8),(true,9),(true,10),(true,11),(true,12),(true,13),(true,14),(true,15),(true,16),(true,17)],[]))) (.nd (.nd .lf none (.nd .lf (some (([(true,0),(true,1),(true,2),(true,3),(true,4),(true,5),(false,6),(false,7),(true,8),(true,9)],[10]))) .lf)) none .lf)))) (.nd (.nd .lf (some .lf) .lf) (some .lf) .lf))) none (.nd (.nd .lf none (.nd (.nd .lf (some .lf) .lf) none (.nd .lf (some .lf) .lf))) (some .lf) (.nd (.nd .lf none (.nd .lf (some (.nd (.nd (.nd .lf (some (([(true,0),(true,1),(true,2),(true,3),(true,4),(true,5),(true,6),(true,7)],[]))) .lf) none .lf) none .lf)) .lf)) (some .lf) (.nd .lf (some .lf) .lf)))) none (.nd (.nd (.nd (.nd .lf (some .lf) .lf) (some .lf) (.nd (.nd .lf (some .lf) .lf) none .lf)) (some .lf) (.nd .lf (some .lf) (.nd .lf (some (.nd (.nd .lf (some (([(true,0),(true,1),(true,2),(true,3),(true,5),(true,6),(true,7),(false,36868)],[9,10]))) .lf) none .lf)) .lf))) none (.nd (.nd .lf none (.nd (.nd .lf (some .lf) .lf) (some .lf) .lf)) (some (.nd (.nd (.nd (.nd .lf none (.nd .lf (some (([(true,0),(true,1),(true,2),(true,3),(true,4),(true,5),(true,6),(true,7),(true,8),(true,9),(true,10),(true,11),(false,12),(true,13),(true,14),(true,15),(false,16),(true,17)],[]))) .lf)) none .lf) none .lf) none .lf)) (.nd .lf (some .lf) (.nd .lf (some .lf) .lf)))))) none (.nd (.nd (.nd (.nd (.nd (.nd (.nd .lf (some .lf) .lf) (some .lf) .lf) none (.nd .lf none (.nd .lf (some .lf) .lf))) (some .lf) (.nd (.nd .lf none (.nd .lf (some .lf) .lf)) (some .lf) (.nd .lf (some (.nd (.nd (.nd .lf (some (([(true,0),(true,1),(true,2),(true,3),(true,4),(true,5),(true,6),(true,7),(true,8),(true,9)],[]))) .lf) none .lf) none (.nd (.nd (.nd .lf (some (([(true,0),(true,1),(true,2),(true,3),(true,4),(true,5),(true,6),(true,7),(true,8),(true,9)],[]))) .lf) none .lf) none .lf))) .lf))) none (.nd (.nd .lf none (.nd (.nd .lf (some (.nd (.nd .lf (some (([(true,0),(true,1),(true,2),(true,3),(true,4),(true,5),(true,6),(true,7),(true,8),(true,9)],[]))) .lf) none (.nd .lf (some (([(true,0),(true,1),(true,2),(true,3),(true,4),(true,5),(true,6),(true,7),(true,8),(true,9),(true,10),(true,11)],[]))) .lf))) .lf) none .lf)) (some .lf) (.nd (.nd .lf none (.nd .lf (some (.nd (.nd .lf none (.nd (.nd .lf (some (([(true,0),(true,1),(true,2),(false,3),(false,4)],[5,6,7]))) .lf) none .lf)) none (.nd .lf (some (([(true,0),(true,1),(true,4),(true,5),(true,6),(true,7),(true,8),(true,9),(true,10),(true,11),(true,12),(true,13),(true,14),(true,15),(true,16),(true,17),(false,2),(true,3),(false,18),(true,19)],[]))) .lf))) .lf)) none (.nd .lf (some .lf) .lf)))) none (.nd (.nd (.nd .lf none (.nd (.nd .lf (some .lf) .lf) none .lf)) (some .lf) (.nd .lf (some (.nd .lf (some (([(true,0),(true,1),(true,2),(true,3),(true,4),(true,5),(true,6),(true,7),(true,8),(true,9),(true,10),(true,11),(true,12),(true,13),(true,14),(true,16),(true,17),(false,15),(false,18),(true,19),(false,20),(false,21),(true,22),(true,23),(true,24)],[25]))) .lf)) (.nd (.nd .lf (some (.nd .lf none (.nd .lf none (.nd (.nd (.nd (.nd .lf (some (([(true,0),(true,1),(true,2),(true,3),(true,4),(true,5),(true,6),(false,7)],[8,9]))) .lf) none .lf) none .lf) none .lf)))) .lf) (some .lf) .lf))) (some (.nd (.nd (.nd .lf none (.nd .lf none (.nd .lf (some (([(true,0),(true,1),(true,2),(true,3),(true,4),(true,5),(true,6),(false,7)],[8,9]))) .lf))) none .lf) none (.nd .lf none (.nd .lf none (.nd .lf none (.nd .lf (some (([(true,0),(true,1),(true,2),(true,3),(true,4),(true,5),(true,6),(true,7),(true,8),(true,9)],[10]))) .lf)))))) (.nd (.nd .lf none (.nd (.nd .lf (some .lf) .lf) none .lf)) (some (.nd (.nd (.nd (.nd .lf (some (([(true,0),(true,1),(true,2),(true,3),(true,4),(true,5),(false,6),(false,7)],[8]))) .lf) none .lf) none .lf) none (.nd .lf none (.nd .lf none (.nd (.nd .lf (some (([(true,0),(true,1),(true,2),(true,3),(true,4),(true,5),(true,6),(true,7),(false,8)],[9]))) .lf) none .lf))))) (.nd .lf (some .lf) (.nd .lf (some .lf) .lf))))) none (.nd (.nd (.nd .lf none (.nd (.nd .lf none (.nd .lf (some .lf) .lf)) (some .lf) (.nd (.nd .lf (some .lf) .lf) (some (.nd .lf none (.nd .lf none (.nd .lf none (.nd (.nd .lf (some (([(true,0),(true,1),(true,2),(false,3),(true,4),(false,5)],[6,7,8]))) .lf) none .lf))))) .lf))) none (.nd (.nd .lf none (.nd (.nd .lf (some .lf) .lf) none .lf)) (some (.nd (.nd (.nd .lf none (.nd .lf (some (([(true,0),(true,1),(true,2),(true,3),(true,4),(true,5),(true,6),(true,7),(true,8),(true,9),(false,10),(false,11),(true,12)],[]))) .lf)) none (.nd (.nd .lf none (.nd (.nd .lf (some (([(true,0),(true,1),(true,2),(true,3),(false,4)],[5,6,7]))) .lf) none .lf)) none (.nd (.nd (.nd .lf (some (([(true,0),(true,1),(true,2),(true,3),(true,4),(true,5),(true,6),(true,7),(false,8)],[9]))) .lf) none .lf) none (.nd .lf (some (([(true,0),(true,1),(true,2),(true,3),(true,4),(true,5),(true,6),(true,7),(true,8),(true,9),(true,10),(true,11),(true,12),(true,13)],[14,15]))) .lf)))) none (.nd .lf none (.nd .lf none (.nd (.nd (.nd .lf (some (([(true,0),(true,1),(true,2),(true,3),(true,4),(true,5),(true,6),(true,7),(false,8),(true,9),(false,10),(false,11),(true,12),(true,13),(true,14)],[15]))) .lf) none .lf) none .lf))))) (.nd .lf (some (.nd .lf none (.nd .lf (some (([(true,0),(true,1),(true,2),(true,3),(true,5),(true,7),(false,4),(false,6),(false,8),(false,9)],[10]))) .lf))) .lf))) none (.nd (.nd (.nd .lf none (.nd (.nd .lf (some .lf) .lf) none (.nd .lf (some .lf) .lf))) (some .lf) (.nd (.nd (.nd (.nd .lf (some .lf) .lf) none .lf) none (.nd .lf (some (.nd (.nd (.nd .lf none (.nd .lf (some (([(true,0),(true,1),(true,2),(true,3),(true,4),(true,5),(true,6),(true,8),(false,7),(true,9),(true,10),(true,11),(true,12),(true,13),(true,14),(true,15),(true,16),(true,17),(false,18),(true,19)],[]))) .lf)) none .lf) none .lf)) .lf)) (some .lf) .lf)) none (.nd (.nd (.nd .lf none (.nd .lf (some .lf) .lf)) none (.nd (.nd .lf (some .lf) .lf) (some (.nd (.nd .lf (some (([(true,0),(true,1),(true,2),(true,3),(true,4),(true,5),(true,6),(true,7),(true,8),(true,9)],[]))) .lf) none (.nd .lf (some (([(true,0),(true,1),(true,2),(true,3),(true,4),(true,5),(true,6),(true,7),(true,8),(true,9)],[10]))) .lf))) .lf)) (some (.nd .lf none (.nd .lf (some (([(true,0),(true,1),(true,2),(true,4),(true,5),(true,6),(true,7),(true,8),(false,3),(false,9),(true,10)],[11]))) .lf))) (.nd .lf none (.nd .lf (some (.nd (.nd .lf (some (([(true,0),(true,1),(true,2),(true,3),(true,4),(true,5),(true,6),(true,7),(true,8),(true,9),(false,10),(true,11)],[]))) .lf) none .lf)) .lf))))))
def orcX (f:FuncId):Option Orc:=sel (Nat.beq f 262) (some (escO)) (sel (Nat.beq f 205) (some (parseO)) (sel (Nat.beq f 232) (some (contO)) (sel (Nat.beq f 176) (some (fieldsO 0)) (sel (Nat.beq f 207) (some (idxO)) (sel (Nat.beq f 218) (some (joinO)) (sel (Nat.beq f 229) (some (replO 2)) (sel (Nat.beq f 231) (some (trimO 0)) (sel (Nat.beq f 17) (some (runO)) (none)))))))))
def knowG (n:Nat)(o:Obj):Prop:=match n with
 | 0=> ∃t z,o= .cells (Lib.asciiSpaceTab.map fun z=>Value.int .u8 z).toArray t z
 | 1=> ∃m r t z,o= .cells (Value.int .i64 m::r).toArray t z
 | 2=> ∃t z,o= .cells #[.int .i64 0,.int .i64 (-1)] t z
 | _=>False
theorem kw_ok: ∀n cs o,sel (Nat.beq n 2) (some [V.i .i64 0,V.i .i64 (-1)]) none=some cs→knowG n o→(∀v∈cs,v.one=true)∧ ∃C t z,o= .cells C t z∧ ∀(i:Nat) (v:V),cs[i]?=some v→ ∃u,C[i]?=some u∧ofV u=some v:=fun n cs o h hG=>by
 rw [fD] at h;split at h
 ·rename_i hn;cases h;rw [Nat.eq_of_beq_eq_true hn] at hG;obtain⟨t,z,rfl⟩:=hG;refine⟨fun v hv=>by simp at hv;rcases hv with rfl | rfl<;>rfl,_,t,z,rfl,fun i v hi=>?_⟩
  match i,hi with
  | 0,hi=>cases hi;exact⟨_,rfl,rfl⟩
  | 1,hi=>cases hi;exact⟨_,rfl,rfl⟩
  | i+2,hi=>cases hi
 ·cases h
def methX (_:TypeId)(_:String):Option (FuncId×Option TypeId):=none
theorem meth_ok(t:TypeId)(n:String)(f:FuncId)(h:methX t n=some (f,none))(v:Value)(w:World):(method (Tryz.prog.types.size+Made.depth) t v n).run Tryz.prog w= .ok (f,v) w:=by
 unfold methX at h;cases h
theorem meth_deref(t:TypeId)(n:String)(f:FuncId)(el:TypeId)(h:methX t n=some (f,some el))(b o:Nat)(r:Value)(w:World)(_:(loadVar el ⟨b,o,none⟩).run Tryz.prog w= .ok r w):(method (Tryz.prog.types.size+Made.depth) t (.pointer (some ⟨b,o,none⟩)) n).run Tryz.prog w= .ok (f,r) w:=by
 unfold methX at h;cases h
@[instance_reducible] def kM (o:FuncId→Option Orc):Ctx where
 P:=Tryz.prog
 gl:=fun g=>gd (Nat.blt g 11) (some g)
 orc:=fun f=>oc (o f) (orcX f) some
 quiet:=[113]
 known:=fun f=>oc (T.get bJj f) false fun _=>true
 n0:=11
 plan:=fun f id=>ob (T.get bJj f) fun t=>T.get t id
 G:=knowG
 meth:=methX
 kw:=fun n=>sel (Nat.beq n 2) (some [.i .i64 0,.i .i64 (-1)]) none
 kwOk:=kw_ok
instance ctx : Ctx := kM fun _ => none
def baseK:List (Nat×Nat):=[(0,0),(2,1)]
def T.allP{α:Type}(p:Nat→α→Bool):T α→(Nat→Nat)→Bool
 | .lf,_=>true
 | .nd l x r,f=>oc x true (p (f 0))&&(T.allP p l (fun k=>f (2*k+1))&&T.allP p r (fun k=>f (2*k+2)))
theorem T.allP_get{α:Type}{p:Nat→α→Bool}: ∀{t:T α} {f:Nat→Nat} {n:Nat} {x:α},T.allP p t f=true→T.get t n=some x→p (f n) x=true
 | .lf,_,_,_,_,h=>by cases h
 | .nd l y r,f,n,x,h,hg=>by
  simp only [T.allP,Bool.and_eq_true] at h
  cases n with
  | zero=>
   have hg:y=some x:=hg;subst hg;exact h.1
  | succ m=>
   have hg:(Bool.rec (motive:=fun _=>Nat→Option α) (T.get r) (T.get l) (Nat.beq (Nat.mod m 2) 0) (Nat.div m 2))=some x:=hg
   cases hb:Nat.beq (Nat.mod m 2) 0 with
   | true=>
    rw [hb] at hg;have:=T.allP_get h.2.1 hg;have hb:m%2=0:=Nat.eq_of_beq_eq_true hb
    have e:2*Nat.div m 2+1=m+1:=by
     show 2*(m/2)+1=m+1;omega
    rw [←e];exact this
   | false=>
    rw [hb] at hg;have:=T.allP_get h.2.2 hg;have hb:m%2≠0:=fun e=>by rw [show Nat.mod m 2=0 from e] at hb;cases hb
    have e:2*Nat.div m 2+2=m+1:=by
     show 2*(m/2)+2=m+1;omega
    rw [←e];exact this
def validF [Ctx](f:FuncId):Bool:=oc (Tryz.prog.funcs[f]?) true fun fn=>oc fn.body true fun c=>kV f c
end
theorem all_validW:(fun o:FuncId→Option Orc=>T.allP (fun f _=> @validF (kM o) f) bJj id)=fun _=>true:=by kernel_rfl
theorem all_valid(o:FuncId→Option Orc):T.allP (fun f _=> @validF (kM o) f) bJj id=true:=congrFun all_validW o
theorem glA:Ctx.gl 0=some 0:=rfl
theorem glM:Ctx.gl 2=some 2:=rfl
theorem spaceIs:bBt:=fun _ h=>h
theorem maxIs:MaxIs:=fun _ h=>h
theorem mG{α:Type}{c:Bool}{x y:Option α}{b:α}(h:sel c x y=some b):(c=true∧x=some b)∨y=some b:=by
 cases c with
 | true=>exact .inl ⟨rfl,h⟩
 | false=>exact .inr h
theorem sim_conv{o o':FuncId→Option Orc}{α:As}{s:St}{w:World}(h: @Sim (kM o) α s w): @Sim (kM o') α s w:= @Sim.mk (kM o') α s w (@Sim.gl (kM o) α s w h) (@Sim.lt (kM o) α s w h) (@Sim.sc (kM o) α s w h) (fun k x hk=>by
 have:= @Sim.is (kM o) α s w h k x hk
 cases x with
 | cells cs t ext ro=>cases ext<;>exact this
 | _=>exact this) (@Sim.ne (kM o) α s w h)
theorem stp_conv{o o':FuncId→Option Orc}{α α':As}{s s':St}{w w':World}(h: @Stp (kM o) α s w α' s' w'): @Stp (kM o') α s w α' s' w':= @Stp.mk (kM o') α s w α' s' w' (@Stp.same (kM o) α s w α' s' w' h) (@Stp.n (kM o) α s w α' s' w' h) (@Stp.c (kM o) α s w α' s' w' h) (sim_conv (@Stp.sim (kM o) α s w α' s' w' h)) (@Stp.fr (kM o) α s w α' s' w' h) (@Stp.new (kM o) α s w α' s' w' h)
theorem orc_conv{o o':FuncId→Option Orc}{f:FuncId}{g:Orc}(h: @qB (kM o) f g): @qB (kM o') f g:=fun args s v s' hg α w hs ha=>by
 rcases h args s v s' hg α w (sim_conv hs) ha with ⟨u,w',h1,β,h2,h3⟩ | ⟨h1,h2⟩
 ·exact .inl ⟨u,w',h1,β,h2,stp_conv h3⟩
 ·exact .inr ⟨h1,h2.mono fun _ _ ⟨u,h3,β,h4,h5⟩=>⟨u,h3,β,h4,stp_conv h5⟩⟩
theorem orcX_ok(f:FuncId)(h:Orc)(ho:orcX f=some h):qB f h:=by
 have ho:sel (Nat.beq f 262) (some (escO)) (sel (Nat.beq f 205) (some (parseO)) (sel (Nat.beq f 232) (some (contO)) (sel (Nat.beq f 176) (some (fieldsO 0)) (sel (Nat.beq f 207) (some (idxO)) (sel (Nat.beq f 218) (some (joinO)) (sel (Nat.beq f 229) (some (replO 2)) (sel (Nat.beq f 231) (some (trimO 0)) (sel (Nat.beq f 17) (some (runO)) (none)))))))))=some h:=ho
 rcases mG ho with ⟨hf,ho⟩ | ho
 ·cases ho;rw [Nat.eq_of_beq_eq_true hf];exact esc_orc rfl
 rcases mG ho with ⟨hf,ho⟩ | ho
 ·cases ho;rw [Nat.eq_of_beq_eq_true hf];exact parse_orc rfl
 rcases mG ho with ⟨hf,ho⟩ | ho
 ·cases ho;rw [Nat.eq_of_beq_eq_true hf];exact cont_orc rfl
 rcases mG ho with ⟨hf,ho⟩ | ho
 ·cases ho;rw [Nat.eq_of_beq_eq_true hf];exact fields_orc rfl glA spaceIs
 rcases mG ho with ⟨hf,ho⟩ | ho
 ·cases ho;rw [Nat.eq_of_beq_eq_true hf];exact idx_orc rfl
 rcases mG ho with ⟨hf,ho⟩ | ho
 ·cases ho;rw [Nat.eq_of_beq_eq_true hf];exact join_orc rfl
 rcases mG ho with ⟨hf,ho⟩ | ho
 ·cases ho;rw [Nat.eq_of_beq_eq_true hf];exact repl_orc rfl glM maxIs
 rcases mG ho with ⟨hf,ho⟩ | ho
 ·cases ho;rw [Nat.eq_of_beq_eq_true hf];exact trim_orc rfl glA spaceIs
 rcases mG ho with ⟨hf,ho⟩ | ho
 ·cases ho;rw [Nat.eq_of_beq_eq_true hf];exact run_orc rfl
 cases ho
theorem goodW{o:FuncId→Option Orc}(hO: ∀f h,o f=some h→ @qB (kM o) f h): @Good (kM o):= @Good.mk (kM o) (@Meths.mk (kM o) meth_ok meth_deref) (by kernel_rfl) (fun g k h=>by
  obtain⟨h1,h2⟩:=cH h;cases h2
  exact(show g<11 by simpa using h1)) (fun f hk fn c hf hb=>by
  have hk:oc (T.get bJj f) false (fun _=>true)=true:=hk;rw [oV] at hk
  cases ht:T.get bJj f with
  | none=>rw [ht] at hk;cases hk
  | some t=>
   have:=T.allP_get (all_valid o) ht;have h: @validF (kM o) f=true:=this;unfold validF at h;rw [show Tryz.prog.funcs[f]?=some fn from hf] at h;have h:oc fn.body true (fun c=> @kV (kM o) f c)=true:=h;rw [hb] at h
   exact h) (fun f h ho=>by
  have ho:oc (o f) (orcX f) some=some h:=ho;rw [oV] at ho
  cases hf:o f with
  | some g=>
   rw [hf] at ho;cases ho;exact hO f _ hf
  | none=>
   rw [hf] at ho
   exact orc_conv (o:=fun _=>none) (orcX_ok f h ho))
instance good : Good := goodW fun _ _ h => by cases h
end X
end Go.Proofs.YtnmhcaahkaocgaaGreatDoor
namespace Go.Proofs.YtnmhcaahkaocgaaGreatDoor
namespace X
open Go.RowKit
noncomputable section
def o0:FuncId→Option Orc:=fun _=>none
theorem okO0: @Good (kM o0):=good
def isTrue:Option (V×St)→Bool
 | some (.b true,_)=>true
 | _=>false
theorem isTrue_ex{q:Option (V×St)}(h:isTrue q=true): ∃s,q=some (.b true,s):=by
 cases q with
 | none=>cases h
 | some q=>
  obtain⟨v,s⟩:=q
  cases v with
  | b x=>
   cases x with
   | true=>exact⟨s,rfl⟩
   | false=>cases h
  | _=>cases h
theorem shown12R:isTrue (@callF (kM o0) 16 (@wF (kM o0) 3000) [] (@baseS (kM o0) baseK))=true:=by kernel_rfl
end
def LaidX (w:World):Prop:=Lib.TabIs Tryz.prog w "strings.asciiSpace" .u8 Lib.asciiSpaceTab∧(∃m,w.cell? ⟨2,0,none⟩=some (.int .i64 m))
theorem base_laid{o:FuncId→Option Orc}{w:World}(h:LaidX w): @Sim (kM o) ⟨fun k=>k,fun _=>0,fun _=>none⟩ (@baseS (kM o) baseK) w:=by
 obtain⟨h0,m,h1⟩:=h
 have hk: ∀k x,(baseH baseK).get k=some x→(k=0∧x= .know 0)∨(k=2∧x= .know 1):=fun k x hx=>by
  obtain⟨m,hm,rfl⟩:=zD hx
  rcases List.mem_cons.1 hm with e | hm
  ·cases e;exact .inl ⟨rfl,rfl⟩
  ·rcases List.mem_cons.1 hm with e | hm
   ·cases e;exact .inr ⟨rfl,rfl⟩
   ·cases hm
 refine @Sim.mk (kM o) _ _ w (fun g k hg=>?_) (fun k x hx=>?_) (fun k x hx=>?_) (fun k x hx=>?_) (fun k k' x x' _ _ e=>e)
 ·obtain⟨h2,h3⟩:=cH hg;cases h3;exact⟨(show g<11 by simpa using h2),rfl⟩
 ·rcases hk k x hx with ⟨rfl,rfl⟩ | ⟨rfl,rfl⟩
  ·exact(show(0:Nat)<11 by decide)
  ·exact(show(2:Nat)<11 by decide)
 ·rcases hk k x hx with ⟨rfl,rfl⟩ | ⟨rfl,rfl⟩<;>trivial
 ·rcases hk k x hx with ⟨rfl,rfl⟩ | ⟨rfl,rfl⟩
  ·unfold Lib.TabIs World.var? at h0;rw [show Tryz.prog.globalNamed "strings.asciiSpace" =some 0 by kernel_rfl] at h0;have h0:(match w.heap[0]? with | some (Obj.cells cs _ _)=>some cs | _=>none)=some (Lib.asciiSpaceTab.map fun z=>Value.int .u8 z).toArray:=h0;split at h0
   ·rename_i cs t z hw;cases h0;exact⟨_,hw,t,z,rfl⟩
   ·cases h0
  ·unfold World.cell? at h1;split at h1
   ·rename_i cs t z hw;have hc:cs[0]?=some (.int .i64 m):=h1;refine⟨_,hw,m,cs.toList.tail,t,z,?_⟩
    congr 1
    obtain⟨l⟩:=cs
    cases l with
    | nil=>cases hc
    | cons a r=>
     have:a= .int .i64 m:=by simpa using hc
     rw [this];rfl
   ·cases h1
theorem shown12_true{w:World}(h:LaidX w):(callFunc 16 #[]).run Tryz.prog w= .ok (.enter 16 #[]) w∧Calls Tryz.prog 16 #[] w fun e w'=>e= .returned (.bool true)∧Below w.heap.size w w':=by
 obtain⟨s,hs⟩:=isTrue_ex shown12R;exact @ran_true (kM o0) _ _ okO0 _ _ _ _ hs (base_laid h)
end X
end Go.Proofs.YtnmhcaahkaocgaaGreatDoor
namespace Go.Proofs.YtnmhcaahkaocgaaGreatDoor
open Go.RowKit Go.ChangeShapes
abbrev bFl:List (String×DataW Unit):=Rows.runFoldsRow.laid
theorem named0:Tryz.prog.globalNamed "strings.asciiSpace" =some 0:=by kernel_rfl
def laidF:bU where
 p S w:=(S 0∧S 2)∧X.LaidX w
 mono:=fun{S S' w w'} hs ha h=>by
  obtain⟨⟨s0,s4⟩,h0,m,h4⟩:=h;refine⟨⟨hs _ s0,hs _ s4⟩,?_,m,?_⟩
  ·unfold Lib.TabIs World.var? at*;rw [named0] at*;simp only [Option.bind_some,ha _ s0] at*;exact h0
  ·unfold World.cell? at*;rw [ha _ s4];exact h4
theorem bFt{P:Program}{W:World}{name:String}{k:IntKind}{zs:List Int}{g:Nat}{t e:TypeId}{n:Nat}
  (hg:P.globalNamed name=some g) (hty:(P.globals[g]?).map (·.type)=some t) (ht:P.underlying t=some (.array n e)) (he:P.underlying e=some (.int k)) (hce:P.cellsOf e=1) (hct:P.cellsOf t=n)
  (h:Lib.VarReads P W name (Lib.tabData k zs)):Lib.TabIs P W name k zs:=by
 obtain⟨g',t',cs,fuel,p,hg',ht',hvar,hd⟩:=h;obtain rfl:=Option.some.inj (hg.symm.trans hg');obtain rfl:=Option.some.inj (hty.symm.trans ht');unfold Lib.TabIs;rw [hvar,←Lib.cells_of_tab ht he hce hct hd]
theorem var_lt{P:Program}{W:World}{name:String}{g:Nat}{cs:Array Value}(hg:P.globalNamed name=some g)(h:W.var? P name=some cs):g<W.heap.size:=by
 unfold World.var? at h;rw [hg] at h;simp only [Option.bind_some] at h
 cases hh:W.heap[g]? with
 | none=>rw [hh] at h;cases h
 | some o=>exact(Array.getElem?_eq_some_iff.1 hh).1
theorem cell_lt'{W:World}{g i:Nat}{v:Value}(h:W.cell? ⟨g,i,none⟩=some v):g<W.heap.size:=by
 unfold World.cell? at h
 cases hh:W.heap[g]? with
 | none=>rw [hh] at h;cases h
 | some o=>exact(Array.getElem?_eq_some_iff.1 hh).1
set_option maxRecDepth 1000000 in
theorem globF_of{W:World}(hL:laidMetH Tryz.prog bFl W)(hsh:W.ShapedOpen Tryz.prog):laidF.p (fun b=>b<W.heap.size) W:=by
 have hL':laidMet Tryz.prog bFl W:=hL;have h0:Lib.TabIs Tryz.prog W "strings.asciiSpace" .u8 Lib.asciiSpaceTab:=bFt (t:=290) (e:=5) (n:=256) named0 (by kernel_rfl) Tryz.underlying290 Tryz.underlying5 (by kernel_rfl) (by kernel_rfl)
  (Lib.laidMet.reads hL' (.tail _ (.tail _ (.tail _ (.tail _ (.tail _ (.tail _ (.tail _ (.head _)))))))))
 obtain⟨m,h4⟩:=cell_of_shapedOpen_int (P:=Tryz.prog) (g:=2) (t:=3) (zero:= #[.int .i64 0]) hsh (of_decide_eq_true (by kernel_rfl)) (by kernel_rfl) rfl (by kernel_rfl) (by kernel_rfl) Tryz.underlying3;exact⟨⟨var_lt named0 h0,cell_lt' h4⟩,h0,m,h4⟩
theorem shown12_spec:dM Tryz.prog 16 [] [] [laidF] (fun _:Unit=> .bool true) (fun _=>[]) (fun _=>[]):=lU fun _ _ _ k=>(X.shown12_true (k laidF (List.mem_cons_self ..)).2).2
def flat1:DataW Unit→List Value
 | .lit (.int k n)=>[.int k n]
 | _=>[]
def flat2:DataW Unit→List Value
 | .agg l=>l.flatMap flat1
 | d=>flat1 d
def bIv:DataW Unit→Array Value
 | .agg l=>(l.flatMap flat2).toArray
 | _=> #[]
def whiteNums:List Int:=[9,13,1,32,133,101,160,5760,5600,8192,8202,1,8232,8233,1,8239,8287,48,12288,12288,1]
noncomputable def laidWorld (os:Os):World:=
 let N:=(World.settled Tryz.prog os).heap.size
 let w0:=World.holding Tryz.prog os ⟨#[.cells (whiteNums.map fun z=>Value.int .u16 z).toArray 348,.cells #[.slice (some ⟨N,0,none⟩) 7 7,.slice none 0 0,.int .i64 2] 345,
  .cells #[.string ⟨#[118,97,108,117,101,32,111,117,116,32,111,102,32,114,97,110,103,101]⟩] 380,.cells #[.string ⟨#[105,110,118,97,108,105,100,32,115,121,110,116,97,120]⟩] 380],#[],[]⟩
 let put (h:Array Obj) (g:Nat) (cs:Array Value):Array Obj:=h.modify g fun
  | .cells _ t frozen=> .cells cs t frozen
  | o=>o
 let h1:=put w0.heap 8 (bIv Rows.laid_math_bits_deBruijn32tab)
 let h2:=put h1 9 (bIv Rows.laid_math_bits_deBruijn64tab)
 let h3:=put h2 7 (bIv Rows.laid_internal_strconv_uint64pow10)
 let h4:=put h3 6 (bIv Rows.laid_unicode_utf8_acceptRanges)
 let h5:=put h4 4 #[.iface 378 (.pointer (some ⟨N+2,0,none⟩))]
 let h6:=put h5 3 #[.iface 378 (.pointer (some ⟨N+3,0,none⟩))]
 let h7:=put h6 1 #[.pointer (some ⟨N+1,0,none⟩)]
 let h8:=put h7 0 (bIv Rows.laid_strings_asciiSpace)
 let h9:=put h8 5 (bIv Rows.laid_unicode_utf8_first)
 {w0 with heap:=h9}
noncomputable abbrev N0:Nat:=(World.settled Tryz.prog default).heap.size
set_option maxRecDepth 1000000 in
theorem piece0(os:Os)(args:Array Value):LaidIn Tryz.prog ((laidWorld os).forCall (fun _ _=>0) ⟨#[],args,[]⟩).memory [("math/bits.deBruijn32tab",Rows.laid_math_bits_deBruijn32tab)] [8]:=
 LaidIn.of_run [8] 10 (by kernel_rfl) (by kernel_rfl) (by kernel_rfl) (by kernel_rfl)
set_option maxRecDepth 1000000 in
theorem piece1(os:Os)(args:Array Value):LaidIn Tryz.prog ((laidWorld os).forCall (fun _ _=>0) ⟨#[],args,[]⟩).memory [("math/bits.deBruijn64tab",Rows.laid_math_bits_deBruijn64tab)] [9]:=
 LaidIn.of_run [9] 10 (by kernel_rfl) (by kernel_rfl) (by kernel_rfl) (by kernel_rfl)
set_option maxRecDepth 1000000 in
theorem piece2(os:Os)(args:Array Value):LaidIn Tryz.prog ((laidWorld os).forCall (fun _ _=>0) ⟨#[],args,[]⟩).memory [("internal/strconv.uint64pow10",Rows.laid_internal_strconv_uint64pow10)] [7]:=
 LaidIn.of_run [7] 10 (by kernel_rfl) (by kernel_rfl) (by kernel_rfl) (by kernel_rfl)
set_option maxRecDepth 1000000 in
theorem piece3(os:Os)(args:Array Value):LaidIn Tryz.prog ((laidWorld os).forCall (fun _ _=>0) ⟨#[],args,[]⟩).memory [("unicode/utf8.acceptRanges",Rows.laid_unicode_utf8_acceptRanges)] [6]:=
 LaidIn.of_run [6] 10 (by kernel_rfl) (by kernel_rfl) (by kernel_rfl) (by kernel_rfl)
set_option maxRecDepth 1000000 in
theorem piece4(os:Os)(args:Array Value):LaidIn Tryz.prog ((laidWorld os).forCall (fun _ _=>0) ⟨#[],args,[]⟩).memory [("strconv.ErrRange",Rows.laid_strconv_ErrRange)] [4,N0+2]:=
 LaidIn.of_run [4,N0+2] 10 (by kernel_rfl) (by kernel_rfl) (by kernel_rfl) (by kernel_rfl)
set_option maxRecDepth 1000000 in
theorem piece5(os:Os)(args:Array Value):LaidIn Tryz.prog ((laidWorld os).forCall (fun _ _=>0) ⟨#[],args,[]⟩).memory [("strconv.ErrSyntax",Rows.laid_strconv_ErrSyntax)] [3,N0+3]:=
 LaidIn.of_run [3,N0+3] 10 (by kernel_rfl) (by kernel_rfl) (by kernel_rfl) (by kernel_rfl)
set_option maxRecDepth 1000000 in
theorem piece6(os:Os)(args:Array Value):LaidIn Tryz.prog ((laidWorld os).forCall (fun _ _=>0) ⟨#[],args,[]⟩).memory [("unicode.White_Space",Rows.laid_unicode_White_Space)] [1,N0,N0+1]:=
 LaidIn.of_run [1,N0,N0+1] 10 (by kernel_rfl) (by kernel_rfl) (by kernel_rfl) (by kernel_rfl)
set_option maxRecDepth 1000000 in
theorem piece7(os:Os)(args:Array Value):LaidIn Tryz.prog ((laidWorld os).forCall (fun _ _=>0) ⟨#[],args,[]⟩).memory [("strings.asciiSpace",Rows.laid_strings_asciiSpace)] [0]:=
 LaidIn.of_run [0] 10 (by kernel_rfl) (by kernel_rfl) (by kernel_rfl) (by kernel_rfl)
set_option maxRecDepth 1000000 in
theorem piece8(os:Os)(args:Array Value):LaidIn Tryz.prog ((laidWorld os).forCall (fun _ _=>0) ⟨#[],args,[]⟩).memory [("unicode/utf8.first",Rows.laid_unicode_utf8_first)] [5]:=
 LaidIn.of_run [5] 10 (by kernel_rfl) (by kernel_rfl) (by kernel_rfl) (by kernel_rfl)
set_option maxRecDepth 1000000 in
theorem laid_met(os:Os)(args:Array Value):laidMet Tryz.prog bFl ((laidWorld os).forCall (fun _ _=>0) ⟨#[],args,[]⟩).memory:=
 (((((((((piece0 os args).append (piece1 os args) (by kernel_rfl)).append (piece2 os args) (by kernel_rfl)).append (piece3 os args) (by kernel_rfl)).append (piece4 os args) (by kernel_rfl)).append (piece5 os args) (by kernel_rfl)).append (piece6 os args) (by kernel_rfl)).append (piece7 os args) (by kernel_rfl)).append (piece8 os args) (by kernel_rfl)).met
end Go.Proofs.YtnmhcaahkaocgaaGreatDoor
namespace Go.Proofs.YtnmhcaahkaocgaaGreatDoor
open Go.RowKit Go.ChangeShapes Go.WideShapes
section
variable {H : Type} {enc : TypeId × Value → H} {P : Program}
theorem vQ(hl:laidOutB P=true){W W':World}(hb:Below W.heap.size W W'): ∀{ts:List TypeId} {vs:List Value} {ds:List (DataW H)} {ps:List MemPlace},
  (∀t∈ts,P.readableRec t=true∧t<P.types.size)→(∀x∈ps,x.block<W.heap.size)→DataW.TrodAll enc P W 0 (fun _=>true) true ts vs ds ps→
  DataW.TrodAll enc P W' 0 (fun b=>decide (b<W.heap.size)) true ts vs ds ps
 | [],_,_,_,_,_,h=>by
  obtain⟨rfl,rfl,rfl⟩:=trodAll_nil h;exact trodAll_mk0
 | t::ts,_,_,_,ht,hlt,h=>by
  obtain⟨v,vs,d,ds,p,q,rfl,rfl,rfl,h1,h2⟩:=trodAll_cons h;have hr:=ht t (by simp);exact trodAll_cons_mk (Below.trod hl hr.1 hr.2 h1 hb (fun x hx=>hlt x (by simp [hx]))) (vQ hl hb (fun t h=>ht t (by simp [h])) (fun x hx=>hlt x (by simp [hx])) h2)
theorem law_post{f:Func}{s:ChangeSpec}{W W':World}{args:Array Value}{ds:List (DataW H)}{before:List MemPlace}{tb:TypeId}
  (hW:DataW.Whole enc P f.params.toList s.vars false W args.toList ds [] before) (hv:s.vars=[]) (hfn:s.fn H (ds++[])={results:=[.lit (.bool true)],args:=ds})
  (hr:f.resultTypes= #[tb]) (hb:P.underlying tb=some .bool) (hl:laidOutB P=true) (hread: ∀t∈f.params.toList,P.readableRec t=true∧t<P.types.size) (h:Below W.heap.size W W'):
  s.post enc P f false true false false W args (.bool true) W':=by
 have hlt: ∀p∈before,p.block<W.heap.size:=fun p hp=>hW.lt p hp;have hW':=hW;obtain⟨p,q,hA,hV,rfl,_,_⟩:=hW;rw [hv] at hV;have hq:q=[]:=hV;subst hq;refine⟨ds,[],_,[],p,[],hW',?_,?_,?_,?_,fun h=>by cases h⟩
 ·rw [hfn,hr];exact trodAll_mk1 (shut_bool hb true)
 ·rw [hfn];exact vQ hl h hread (fun x hx=>hlt x (by simp [hx])) hA
 ·rw [hfn,hv];rfl
 ·exact h.frame _
end
theorem bGq{ι:Type}{f:FuncId}{args:List Value}{Pre:List bU}{v:Value}(h:dM Tryz.prog f args [] Pre (fun _:ι=>v) (fun _=>[]) (fun _=>[])){w:World}(hp:All Pre (fun b=>b<w.heap.size) w):
  Calls Tryz.prog f args.toArray w fun e w'=>e= .returned v∧Below w.heap.size w w':=by
 refine(h (fun b=>b<w.heap.size) w ⟨nN.refl _ _,fun c hc=>by simp at hc,fun c hc=>by simp at hc,List.Pairwise.nil,fun b hb=>⟨hb,.inl hb⟩⟩ hp).mono ?_;rintro e w' ⟨_,_,rfl,s,_⟩;refine⟨rfl,s.kept.os,s.kept.tape,s.kept.output,s.kept.size,fun k hk=>s.kept.block k hk fun⟨c,hc,_⟩=>by simp at hc⟩
theorem own:ownKnob Tryz.prog.godebug=none:=by kernel_rfl
theorem laid:laidOutB Tryz.prog=true:=by kernel_rfl
end Go.Proofs.YtnmhcaahkaocgaaGreatDoor
