/- Texts of one proof, one behind the other: AgA, AgB, AgC. -/
import Derived.Test.YtofjmphlpdhohaaGreatDoorM18
import Derived.Test.YtofjmphlpdhohaaGreatDoorM8
import Derived.Test.YtofjmphlpdhohaaGreatDoorM7
import Derived.Test.YtofjmphlpdhohaaGreatDoorM17
namespace Go.Proofs.YtofjmphlpdhohaaGreatDoor
open Go.RowKit Go.Sort
def Gr (p:List Mono):Prop:=cH p=true∧ ∀m∈p,0≤m.n
abbrev VD (ds:List Int)(p:List Mono):Int:=lin (val (cN ds)) p
theorem gr_of{p:List Mono}(h:mF p=true):Gr p:=⟨by unfold mF at h;rw [Bool.and_eq_true] at h;exact h.1,grows_n h⟩
theorem gr_nil:Gr []:=⟨by rfl,fun _ h=>by cases h⟩
theorem pQ{f:Mono→Int}: ∀{l:List Mono},(∀m∈l,0≤f m)→0≤cY f l
 | [],_=>by simp [cY]
 | m::l,h=>by
  have h1:=h m (List.mem_cons_self ..);have h2:=pQ fun x hx=>h x (List.mem_cons_of_mem m hx);simp only [cY];omega
theorem ind_pos(k:Nat)(m:Mono):0≤ind k m:=by unfold ind;split<;>omega
section
variable {p q s : List Mono}
theorem mul_lin{F:Mono→Int}(hF:Ext F)(hs:jN p q=(s,0)):lin F s=cY (fun a=>cY (fun b=>a.n*b.n*F (mulM a b)) q) p:=by
 obtain⟨hp,hq,s1,_⟩:=mul_ok hs;obtain⟨_,p2,p3⟩:=mN hp;obtain⟨_,q2,q3⟩:=mN hq;rw [s1,bHf,xE hF q2 q3 (N:=0) (by omega) (by omega) p2 (fun _ h=>by simp at h)];simp only [lin,cY,Int.zero_add]
theorem mul_V{D:Nat→Int}(hs:jN p q=(s,0)):lin (val D) s=lin (val D) p*lin (val D) q:=by
 obtain⟨hp,hq,_,_⟩:=mul_ok hs;obtain⟨_,p2,_⟩:=mN hp;obtain⟨_,q2,_⟩:=mN hq;rw [mul_lin (ext_val D) hs];simp only [lin];rw [←tY];refine mZ fun m hm=>?_;rw [Int.mul_comm,←tY];refine mZ fun n hn=>?_;rw [val_mul _ (p2 m hm) (q2 n hn)]
 ac_rfl
theorem mul_gr(hp:Gr p)(hq:Gr q)(hs:jN p q=(s,0)):Gr s:=by
 obtain⟨_,_,_,hr⟩:=mul_ok hs;refine⟨hr,fun m hm=>?_⟩;rw [←wZ (zS hr) hm,mul_lin (ext_ind _) hs];exact pQ fun a ha=>pQ fun b hb=>Int.mul_nonneg (Int.mul_nonneg (hp.2 a ha) (hq.2 b hb)) (ind_pos _ _)
theorem rE{F:Mono→Int}(hF:Ext F){g:Mono→Int}: ∀{p L:List Mono} {N:Int},0≤N→N+16777216*p.length<9223372036854775808→(∀m∈p,fZ m=true∧g m=m.n)→Bnd N L→lin F (fN g L p)=lin F L+lin F p∧Bnd (N+16777216*p.length) (fN g L p)
 | [],L,N,_,_,_,h=>by
  refine⟨by simp [fN,lin,cY],?_⟩
  simpa [fN] using h
 | m::p,L,N,hN,hl,hp,h=>by
  rw [List.length_cons] at hl⊢;obtain⟨h1,h2⟩:=hp m (List.mem_cons_self ..);have hb:=bAr h1;obtain⟨e1,e2⟩:=zV hF (V:=16777216) hN (by omega) (by omega) m hb h;obtain⟨f1,f2⟩:=rE hF (g:=g) (p:=p) (by omega) (by omega) (fun x hx=>hp x (List.mem_cons_of_mem _ hx)) e2;rw [fN,h2];refine⟨?_,?_⟩
  ·rw [f1,e1,gK];omega
  ·rw [show N+16777216*((p.length+1:Nat):Int)=N+16777216+16777216*p.length by omega];exact f2
theorem add_lin{F:Mono→Int}(hF:Ext F)(hs:bothP p q 1=(s,0)):lin F s=lin F p+lin F q:=by
 obtain⟨hp,hq,s1,_⟩:=both_ok hs;obtain⟨_,p2,p3⟩:=mN hp;obtain⟨_,q2,q3⟩:=mN hq;rw [s1,bHf];unfold zD;obtain⟨e1,e2⟩:=rE hF (g:=Mono.n) (p:=p) (L:=[]) (N:=0) (by omega) (by omega) (fun m hm=>⟨p2 m hm,rfl⟩) (fun _ h=>by simp at h)
 obtain⟨f1,_⟩:=rE hF (g:=fun m=>wrap64 (1*m.n)) (p:=q) (by omega) (by omega) (fun m hm=>⟨q2 m hm,by
  have:=bAr (q2 m hm);show wrap64 (1*m.n)=m.n;unfold wrap64
  omega⟩) e2
 rw [f1,e1];simp only [lin,cY,Int.zero_add]
theorem add_gr(hp:Gr p)(hq:Gr q)(hs:bothP p q 1=(s,0)):Gr s:=by
 obtain⟨_,_,_,hr⟩:=both_ok hs;refine⟨hr,fun m hm=>?_⟩;rw [←wZ (zS hr) hm,add_lin (ext_ind _) hs];have h1:0≤lin (ind m.key) p:=pQ fun a ha=>Int.mul_nonneg (hp.2 a ha) (ind_pos _ _);have h2:0≤lin (ind m.key) q:=pQ fun a ha=>Int.mul_nonneg (hq.2 a ha) (ind_pos _ _);omega
end
theorem powD_is{d:Int}(hd:1≤d): ∀{e:Nat} {n:Int},0≤n→n*d^e≤fU→nD d e n=some (n*d^e)
 | 0,n,_,_=>by simp [nD]
 | e+1,n,hn,h=>by
  have hp:1≤d^e:=by
   have:=(pow_le (a:=1) (b:=d) (by omega) hd e).2
   rwa [Int.one_pow] at this
  have hnd:0≤n*d:=Int.mul_nonneg hn (by omega);have e1:n*d^(e+1)=n*d*d^e:=by rw [Int.pow_succ,Int.mul_comm (d^e),Int.mul_assoc]
  rw [e1] at h⊢
  have h2:n*d≤fU:=by
   have:n*d*1≤n*d*d^e:=Int.mul_le_mul_of_nonneg_left hp hnd;omega
  rw [nD,if_neg,powD_is hd hnd h];intro hlt;have:=Int.le_ediv_of_mul_le (by omega) h2;omega
theorem mulD_is: ∀{l:List (UInt8×Int)} {n:Int},(∀x∈l,0≤x.2)→fK l=false→0≤n→n*iN l≤fU→lI l n=some (n*iN l)
 | [],n,_,_,_,_=>by simp [lI,iN]
 | x::l,n,h0,hz,hn,h=>by
  have hz2:fK l=false:=by
   unfold fK at hz⊢;rw [List.any_cons,Bool.or_eq_false_iff] at hz;exact hz.2
  have hx:x.1.toNat=0∨1≤x.2:=by
   unfold fK at hz;rw [List.any_cons,Bool.or_eq_false_iff,Bool.and_eq_false_iff] at hz;have:=h0 x (List.mem_cons_self ..)
   rcases hz.1 with h1 | h1
   ·left;have:=of_decide_eq_false h1;omega
   ·right;have:x.2≠0:=by simpa using h1
    omega
  have hl:1≤iN l:=prodD_pos (fun y hy=>h0 y (List.mem_cons_of_mem _ hy)) hz2;have hpw:0≤x.2^x.1.toNat:=Int.pow_nonneg (h0 x (List.mem_cons_self ..));have e1:n*iN (x::l)=n*x.2^x.1.toNat*iN l:=by rw [iN,Int.mul_assoc]
  rw [e1] at h⊢;have hnp:0≤n*x.2^x.1.toNat:=Int.mul_nonneg hn hpw
  have h2:n*x.2^x.1.toNat≤fU:=by
   have:n*x.2^x.1.toNat*1≤n*x.2^x.1.toNat*iN l:=Int.mul_le_mul_of_nonneg_left hl hnp;omega
  have hpd:nD x.2 x.1.toNat n=some (n*x.2^x.1.toNat):=by
   rcases hx with hx | hx
   ·rw [hx];simp [nD]
   ·exact powD_is hx hn h2
  rw [lI,hpd,Option.bind_some];exact mulD_is (fun y hy=>h0 y (List.mem_cons_of_mem _ hy)) hz2 hnp h
where
 prodD_pos: ∀{l:List (UInt8×Int)},(∀x∈l,0≤x.2)→fK l=false→1≤iN l
  | [],_,_=>by simp [iN]
  | x::l,h0,hz=>by
   unfold fK at hz;rw [List.any_cons,Bool.or_eq_false_iff,Bool.and_eq_false_iff] at hz;have h1:=prodD_pos (l:=l) (fun y hy=>h0 y (List.mem_cons_of_mem _ hy)) hz.2;have h2:=h0 x (List.mem_cons_self ..)
   have h3:1≤x.2^x.1.toNat:=by
    rcases hz.1 with h4 | h4
    ·have:x.1.toNat=0:=by
      have:=of_decide_eq_false h4;omega
     rw [this];simp
    ·have:x.2≠0:=by simpa using h4
     have:=(pow_le (a:=1) (b:=x.2) (by omega) (by omega) x.1.toNat).2
     rwa [Int.one_pow] at this
   rw [iN];have h5:1*iN l≤x.2^x.1.toNat*iN l:=Int.mul_le_mul_of_nonneg_right h3 (by omega);omega
section
variable {D : Nat → Int} (hD : ∀ k, 0 ≤ D k)
include hD
theorem pairs_pos(m:Mono): ∀x∈dI m D,0≤x.2:=fun x hx=>by
 simp only [dI,List.mem_cons,List.not_mem_nil,or_false] at hx
 rcases hx with rfl | rfl | rfl | rfl | rfl | rfl<;>exact hD _
theorem value_is{m:Mono}(h0:0≤m.n)(h:m.n*val D m≤fU):cM m D=(m.n*val D m,true):=by
 unfold cM
 cases hz:fK (dI m D) with
 | true=>
  rw [if_pos rfl,val,vO hz,Int.mul_zero]
 | false=>
  have hm:max m.n (-m.n)=m.n:=by omega
  rw [if_neg (by simp),hm,mulD_is (pairs_pos hD m) hz h0 h];rfl
theorem evalL_is: ∀{l:List Mono} {size sum:Int},(∀m∈l,0≤m.n)→0≤size→size+lin (val D) l≤fU→gV D l size sum=some (sum+lin (val D) l)
 | [],size,sum,_,_,_=>by simp [gV,lin,cY]
 | m::l,size,sum,hn,hs,h=>by
  rw [gK] at h⊢;have h0:=hn m (List.mem_cons_self ..);have h1:=Int.mul_nonneg h0 (val_le hD (fun _=>Int.le_refl _) m).1;have h2:=(lin_le hD (fun _=>Int.le_refl _) l fun x hx=>hn x (List.mem_cons_of_mem _ hx)).1;have hv:=value_is hD h0 (by omega)
  rw [gV,hv,if_neg (by
   show ¬(true=false∨fU-size<m.n*val D m);rintro(h | h)
   ·cases h
   ·omega),if_neg (by omega)]
  show gV D l (size+m.n*val D m) (sum+m.n*val D m)=_;rw [evalL_is (fun x hx=>hn x (List.mem_cons_of_mem _ hx)) (by omega) (by omega)]
  congr 1
  omega
end
section
variable {ds : List Int}
theorem dims_pos(hd:lQ ds=true): ∀k,0≤cN ds k:=fun k=>by
 simp only [lQ,Bool.and_eq_true] at hd;exact(vW hd.2 k).1
theorem eval_is{p:List Mono}(hg:Gr p)(hd:lQ ds=true)(hv:VD ds p≤fU):cZ p ds=(VD ds p,0):=by
 unfold cZ;rw [if_pos hg.1,if_pos hd,evalL_is (dims_pos hd) hg.2 (by omega) (by show 0+VD ds p≤fU;omega)];show(0+VD ds p,(0:Int))=_;rw [Int.zero_add]
theorem gr_pos{p:List Mono}(hg:Gr p)(hd:lQ ds=true):0≤VD ds p:=(lin_le (dims_pos hd) (fun _=>Int.le_refl _) p hg.2).1
def sM:List Int→Int
 | []=>1
 | n::r=>n*sM r
theorem bDk: ∀{l:List Int},l.contains 0=true→sM l=0
 | [],h=>by cases h
 | n::r,h=>by
  rw [List.contains_cons,Bool.or_eq_true,beq_iff_eq] at h
  rcases h with h | h
  ·rw [sM,←h,Int.zero_mul]
  ·rw [sM,bDk h,Int.mul_zero]
theorem zT: ∀{l:List Int} {a r:Int},prodGo l a=some r→r=a*sM l
 | [],a,r,h=>by cases h;rw [sM,Int.mul_one]
 | n::l,a,r,h=>by
  unfold prodGo at h;split at h
  ·cases h
  ·rw [zT h,sM,Int.mul_assoc]
theorem wY: ∀{l:List (List Mono)} {acc r:List Int},sidesGo ds l acc=some r→r=acc++l.map (VD ds)
 | [],acc,r,h=>by cases h;simp
 | p::l,acc,r,h=>by
  unfold sidesGo at h;split at h
  ·rename_i hs;simp only [sideV,Bool.and_eq_true,beq_iff_eq] at hs;have he:cZ p ds=((cZ p ds).1,0):=by rw [←hs.1.1]
   obtain⟨_,hv,_⟩:=eval_ok he;rw [wY h,hv];simp
  ·cases h
theorem sizeB_prod{sides:List (List Mono)}{n:Int}(h:sizeB sides ds=some n):n=sM (sides.map (VD ds)):=by
 unfold sizeB at h;split at h
 ·cases h
 ·rename_i l hl;have hl:=wY hl;rw [List.nil_append] at hl;subst hl;split at h
  ·rename_i hz;cases h;rw [bDk hz]
  ·rw [zT h,Int.one_mul]
theorem yW: ∀{l:List (List Mono)} {n s:List Mono},(∀p∈l,Gr p)→Gr n→mK l n=some s→VD ds s=VD ds n*sM (l.map (VD ds))∧Gr s
 | [],n,s,_,hn,h=>by
  cases h;exact⟨by rw [List.map_nil,sM,Int.mul_one],hn⟩
 | p::l,n,s,hl,hn,h=>by
  unfold mK at h;split at h
  ·rename_i h0;have hm:jN n p=((jN n p).1,0):=by rw [←h0]
   have hp:=hl p (List.mem_cons_self ..);obtain⟨h1,h2⟩:=yW (fun x hx=>hl x (List.mem_cons_of_mem _ hx)) (mul_gr hn hp hm) h;refine⟨?_,h2⟩;rw [h1,List.map_cons,sM];show lin (val (cN ds)) (jN n p).1*_=_;rw [mul_V hm,Int.mul_assoc]
  ·cases h
theorem const_gr:Gr (iC 1).1:=⟨by decide,by decide⟩
theorem const_V:VD ds (iC 1).1=1:=by
 show lin (val (cN ds)) [bFd 1]=1;simp [lin,cY,val,dI,iN,bFd]
theorem sizeC_is{sides:List (List Mono)}{n:Int}{s:List Mono}(hg: ∀p∈sides,Gr p)(hb:sizeB sides ds=some n)(hs:sizeC sides=some s):VD ds s=n∧Gr s:=by
 obtain⟨h1,h2⟩:=yW (ds:=ds) hg const_gr hs;exact⟨by rw [h1,const_V,Int.one_mul,sizeB_prod hb],h2⟩
end
def SzV (ds:List Int)(u:kZ):Int:=VD ds ((sizeC u.sides).getD [])
structure Sized (c:fL) (ds:List Int):Prop where
 dims:lQ ds=true
 size: ∀(b:Nat) u,c.bufs[b]?=some u→0≤SzV ds u∧SzV ds u≤65536∧Gr ((sizeC u.sides).getD [])
structure AgI (c:fL) (ds:List Int) (L:Nat→Prop) (N:Nat) (s:PlC):Prop where
 endG:Gr s.end_
 endV:VD ds s.end_≤65536*N
 free: ∀q∈s.free,Gr q.at_∧VD ds q.at_+VD ds q.size≤VD ds s.end_∧0≤VD ds q.size
 laid: ∀q,some q∈s.laid→Gr q.at_∧VD ds q.at_+VD ds q.size≤VD ds s.end_∧0≤VD ds q.size
 ats: ∀(b:Nat) a,s.ats[b]?=some a→Gr a∧VD ds a≤VD ds s.end_
 low: ∀(k:Nat) a u,L k→s.ats[k]?=some a→c.bufs[k]?=some u→VD ds a+SzV ds u≤VD ds s.end_
 pair: ∀(b k:Nat) y z a a' u,L b→L k→(livesC c)[b]?=some y→(livesC c)[k]?=some z→s.ats[b]?=some a→s.ats[k]?=some a'→c.bufs[k]?=some u→z.from_<y.from_→(fullC c)[b]?=some false→VD ds a'+SzV ds u≤VD ds a
section
variable {c : fL} {ds : List Int} {L L' : Nat → Prop} {N N' : Nat} {s s' : PlC} {b : Nat} {u : kZ} {y : LifeC} {again : Bool}
theorem AgI.less(h:AgI c ds L N s)(hL: ∀k,L' k→L k)(hN:N≤N'):AgI c ds L' N' s where
 endG:=h.endG
 endV:=by have:=h.endV;omega
 free:=h.free
 laid:=h.laid
 ats:=h.ats
 low:=fun k a u hk=>h.low k a u (hL k hk)
 pair:=fun b k y z a a' u hb hk=>h.pair b k y z a a' u (hL b hb) (hL k hk)
theorem ag_start(n:Nat):AgI c ds (fun _=>False) 0 (qR n) where
 endG:=gr_nil
 endV:=by show(0:Int)≤_;omega
 free:=fun _ h=>by cases h
 laid:=fun q h=>by
  have:=List.eq_of_mem_replicate (show some q∈List.replicate n (none:Option SpC) from h);cases this
 ats:=fun b a h=>by
  have h:(List.replicate n ([]:List Mono))[b]?=some a:=h;rw [List.getElem?_replicate] at h;split at h
  ·cases h;exact⟨gr_nil,Int.le_refl _⟩
  ·cases h
 low:=fun _ _ _ h=>h.elim
 pair:=fun _ _ _ _ _ _ _ h=>h.elim
theorem tT{i:Int}: ∀{ys:List LifeC} {l:List (Option SpC)},(∀q,some q∈(relGo i ys l).1→some q∈l)∧(∀q∈(relGo i ys l).2,some q∈l)
 | y::ys,some p::r=>by
  obtain⟨h1,h2⟩:=tT (i:=i) (ys:=ys) (l:=r);rw [relGo];split
  ·refine⟨fun q hq=>?_,fun q hq=>?_⟩
   ·rcases List.mem_cons.1 hq with hq | hq
    ·cases hq
    ·exact List.mem_cons_of_mem _ (h1 q hq)
   ·have hq:q∈(if p.size=[] then (relGo i ys r).2 else p::(relGo i ys r).2):=hq;split at hq
    ·exact List.mem_cons_of_mem _ (h2 q hq)
    ·rcases List.mem_cons.1 hq with rfl | hq
     ·exact List.mem_cons_self ..
     ·exact List.mem_cons_of_mem _ (h2 q hq)
  ·refine⟨fun q hq=>?_,fun q hq=>List.mem_cons_of_mem _ (h2 q hq)⟩
   rcases List.mem_cons.1 hq with hq | hq
   ·rw [hq];exact List.mem_cons_self ..
   ·exact List.mem_cons_of_mem _ (h1 q hq)
 | y::ys,none::r=>by
  obtain⟨h1,h2⟩:=tT (i:=i) (ys:=ys) (l:=r);rw [relGo];refine⟨fun q hq=>?_,fun q hq=>List.mem_cons_of_mem _ (h2 q hq)⟩
  rcases List.mem_cons.1 hq with hq | hq
  ·cases hq
  ·exact List.mem_cons_of_mem _ (h1 q hq)
 | [],l=>by
  rw [relGo];exact⟨fun q hq=>hq,fun q hq=>by cases hq⟩
 | y::ys,[]=>by simp [relGo]
theorem AgI.rel{i:Int}{l:List LifeC}(h:AgI c ds L N s):AgI c ds L N (relC i l s) where
 endG:=h.endG
 endV:=h.endV
 free:=fun q hq=>by
  rcases List.mem_append.1 (show q∈s.free++(relGo i l s.laid).2 from hq) with hq | hq
  ·exact h.free q hq
  ·exact h.laid q (tT.2 q hq)
 laid:=fun q hq=>h.laid q (tT.1 q hq)
 ats:=h.ats
 low:=h.low
 pair:=h.pair
theorem freeAt_some{n:List Mono}{l:List SpC}{i:Nat}{q:SpC}(h:yF n again l=some (i,q)):q∈l∧q.size=n∧again=true:=by
 unfold yF at h;split at h
 ·rename_i ha;split at h
  ·cases h
  ·rename_i j hj;split at h
   ·cases h
   ·rename_i p hp;cases h;obtain⟨hlt,e1,_⟩:=List.findIdx?_eq_some_iff_getElem.1 hj;obtain⟨_,e2⟩:=List.getElem?_eq_some_iff.1 hp;rw [e2] at e1;exact⟨List.mem_of_getElem? hp,of_decide_eq_true e1,ha.1⟩
 ·cases h
theorem AgI.put(h:AgI c ds L N s)(hs:Sized c ds)(hu:c.bufs[b]?=some u)(hy:(livesC c)[b]?=some y)(hb: ¬L b)(hmax: ∀k z,L k→(livesC c)[k]?=some z→z.from_≤y.from_){at_ e:List Mono}{fr:List SpC}{ld:List (Option SpC)}
  (he:Gr e) (heV:VD ds s.end_≤VD ds e) (heN:VD ds e≤65536*(N+1:Nat)) (ha:Gr at_) (haV:VD ds at_+SzV ds u≤VD ds e) (hfr: ∀q∈fr,q∈s.free) (hld: ∀q,some q∈ld→some q∈s.laid∨q.at_=at_∧VD ds q.size=SzV ds u)
  (hend:(fullC c)[b]?=some false→VD ds at_=VD ds s.end_):AgI c ds (fun k=>L k∨k=b) (N+1) {ats:=s.ats.set b at_,end_:=e,free:=fr,laid:=ld}:=by
 obtain⟨z1,z2,_⟩:=hs.size b u hu
 have old: ∀(k:Nat) a,(s.ats.set b at_)[k]?=some a→k≠b→s.ats[k]?=some a:=fun k a hk hkb=>by
  rwa [List.getElem?_set_ne (Ne.symm hkb)] at hk
 have new: ∀a,(s.ats.set b at_)[b]?=some a→a=at_:=fun a hk=>by
  rw [List.getElem?_set] at hk;simp only [if_true] at hk;split at hk
  ·cases hk;rfl
  ·cases hk
 refine⟨he,heN,fun q hq=>?_,fun q hq=>?_,fun k a hk=>?_,fun k a v hL hk hv=>?_,fun b' k y' z a a' v hLb hLk hy' hz hb' hk hv hlt hf=>?_⟩
 ·obtain⟨h1,h2,h3⟩:=h.free q (hfr q hq);exact⟨h1,by show _≤VD ds e;omega,h3⟩
 ·rcases hld q hq with hq | ⟨e1,e2⟩
  ·obtain⟨h1,h2,h3⟩:=h.laid q hq;exact⟨h1,by show _≤VD ds e;omega,h3⟩
  ·rw [e1,e2];exact⟨ha,haV,z1⟩
 ·by_cases e1:k=b
  ·subst e1;rw [new a hk];exact⟨ha,by show _≤VD ds e;omega⟩
  ·obtain⟨h1,h2⟩:=h.ats k a (old k a hk e1);exact⟨h1,by show _≤VD ds e;omega⟩
 ·show _≤VD ds e
  by_cases e1:k=b
  ·subst e1;rw [new a hk];rw [hu] at hv;cases hv;exact haV
  ·have:=h.low k a v (hL.resolve_right e1) (old k a hk e1) hv;omega
 ·by_cases e1:b'=b
  ·subst e1;rw [new a hb',hend hf]
   by_cases e2:k=b'
   ·subst e2;rw [hy'] at hz;cases hz;omega
   ·exact h.low k a' v (hLk.resolve_right e2) (old k a' hk e2) hv
  ·by_cases e2:k=b
   ·subst e2;rw [hy] at hz;cases hz;have:=hmax b' y' (hLb.resolve_right e1) hy';omega
   ·exact h.pair b' k y' z a a' v (hLb.resolve_right e1) (hLk.resolve_right e2) hy' hz (old b' a hb' e1) (old k a' hk e2) hv hlt hf
theorem wE{l:List (Option SpC)}{p:SpC}{q:SpC}(h:some q∈l.set b (some p)):some q∈l∨q=p:=by
 rcases List.mem_or_eq_of_mem_set h with h | h
 ·exact .inl h
 ·cases h;exact .inr rfl
theorem AgI.lay(h:AgI c ds L N s)(hs:Sized c ds)(hu:c.bufs[b]?=some u)(hy:(livesC c)[b]?=some y)(hb: ¬L b)(hmax: ∀k z,L k→(livesC c)[k]?=some z→z.from_≤y.from_)(hag:again=true→(fullC c)[b]?=some true)(hl:layC u.sides b again s=some s'):
  AgI c ds (fun k=>L k∨k=b) (N+1) s':=by
 obtain⟨z1,z2,z3⟩:=hs.size b u hu;unfold layC at hl;split at hl
 ·cases hl
 ·rename_i n hn;have hz:SzV ds u=VD ds n:=by unfold SzV;rw [hn];rfl
  have hgn:Gr n:=by rw [hn] at z3;exact z3
  split at hl
  ·rename_i j q hq;cases hl;obtain⟨q1,q2,q3⟩:=freeAt_some hq;obtain⟨f1,f2,f3⟩:=h.free q q1;rw [q2,←hz] at f2;refine h.put hs hu hy hb hmax h.endG (Int.le_refl _) (by have:=h.endV;omega) f1 f2 (fun p hp=>List.mem_of_mem_eraseIdx hp) (fun p hp=>?_) (fun hf=>?_)
   ·rcases wE hp with hp | rfl
    ·exact .inl hp
    ·exact .inr ⟨rfl,by rw [q2,hz]⟩
   ·rw [hag q3] at hf;cases hf
  ·split at hl
   ·rename_i h0;cases hl;have hm:bothP s.end_ n 1=((bothP s.end_ n 1).1,0):=by rw [←h0]
    have hv:VD ds (bothP s.end_ n 1).1=VD ds s.end_+SzV ds u:=by rw [hz];exact add_lin (ext_val _) hm
    refine h.put hs hu hy hb hmax (add_gr h.endG hgn hm) (by omega) (by have:=h.endV;omega) h.endG (by omega) (fun p hp=>hp) (fun p hp=>?_) (fun _=>rfl)
    rcases wE hp with hp | rfl
    ·exact .inl hp
    ·exact .inr ⟨rfl,hz.symm⟩
   ·cases hl
end
theorem bBb{b:Int}: ∀{r:List dU} {i:Nat} {d:Int},jQ b i r d=d∨ ∃j x,jQ b i r d=((i+j:Nat):Int)∧r[j]?=some x∧x.buf=b
 | [],i,d=> .inl rfl
 | x::r,i,d=>by
  rw [jQ];split
  ·rename_i e;exact .inr ⟨0,x,rfl,rfl,e⟩
  ·rcases bBb (b:=b) (r:=r) (i:=i+1) (d:=d) with h | ⟨j,z,h1,h2,h3⟩
   ·exact .inl h
   ·exact .inr ⟨j+1,z,by rw [show i+(j+1)=i+1+j by omega];exact h1,h2,h3⟩
section
variable {c : fL} {ds : List Int} {N : Nat} {s s' : PlC} {b : Nat} {y : LifeC}
theorem bCk(hr:dE c=true)(hy:(livesC c)[b]?=some y):y=⟨0,-1⟩∨y.from_= -1∨ ∃(j:Nat) (x:dU),y.from_=(j:Int)∧c.steps[j]?=some x∧x.buf=b:=by
 rw [lives_eq hr] at hy;unfold livesR at hy;rw [List.getElem?_mapIdx] at hy
 cases hu:c.bufs[b]? with
 | none=>rw [hu] at hy;cases hy
 | some u=>
  rw [hu] at hy;cases hy;unfold lifeR;split
  ·exact .inl rfl
  ·right
   rcases bBb (b:=(b:Int)) (r:=c.steps) (i:=0) (d:= -1) with h | ⟨j,x,h1,h2,h3⟩
   ·exact .inl h
   ·exact .inr ⟨j,x,by rw [Nat.zero_add] at h1;exact h1,h2,h3⟩
theorem bGv(hr:dE c=true)(hy:(livesC c)[b]?=some y)(h:y.from_<0):y.from_= -1:=by
 rcases bCk hr hy with rfl | h1 | ⟨j,x,h1,_⟩
 ·cases h
 ·exact h1
 ·omega
def LB (c:fL)(m k:Nat):Prop:=k<m∧ ∃z,(livesC c)[k]?=some z∧z.from_<0
theorem bBr(hr:dE c=true)(hs:Sized c ds): ∀{m b N:Nat} {s:PlC},b+m=c.bufs.length→AgI c ds (LB c b) N s→lJ c.bufs (livesC c) m b s=some s'→AgI c ds (LB c c.bufs.length) (N+m) s'
 | 0,b,N,s,hb,h,hq=>by
  cases hq;rw [Nat.add_zero] at hb;rw [←hb];exact h
 | m+1,b,N,s,hb,h,hq=>by
  unfold lJ at hq;split at hq
  ·rename_i u y hu hy;split at hq
   ·rename_i hneg;split at hq
    ·cases hq
    ·rename_i t ht
     have h1:=h.lay hs hu hy (fun hl=>by have:=hl.1;omega) (fun k z hl hz=>by
      obtain⟨_,z',hz',hzn⟩:=hl;rw [hz] at hz';cases hz';have:=bGv hr hz hzn;have:=bGv hr hy hneg
      omega) (fun ha=>by cases ha) ht
     have h2:AgI c ds (LB c (b+1)) (N+1) t:=h1.less (fun k hk=>by
      by_cases e:k=b
      ·exact .inr e
      ·exact .inl ⟨by have:=hk.1;omega,hk.2⟩) (Nat.le_refl _)
     have h3:=bBr hr hs (by omega) h2 hq
     rwa [show N+1+m=N+(m+1) by omega] at h3
   ·rename_i hneg
    have h2:AgI c ds (LB c (b+1)) (N+1) s:=h.less (fun k hk=>by
     refine⟨?_,hk.2⟩;have:=hk.1
     rcases Nat.lt_or_ge k b with h4 | h4
     ·exact h4
     ·obtain rfl:k=b:=by omega
      obtain⟨_,z,hz,hzn⟩:=hk;rw [hy] at hz;cases hz
      exact absurd hzn hneg) (by omega)
    have h3:=bBr hr hs (by omega) h2 hq
    rwa [show N+1+m=N+(m+1) by omega] at h3
  ·cases hq
def LG (c:fL)(i k:Nat):Prop:= ∃z,(livesC c)[k]?=some z∧(z.from_<0∨ ∃(j:Nat) (x:dU),z.from_=(j:Int)∧j<i∧c.steps[j]?=some x∧x.buf=k)
theorem go_ag(hr:dE c=true)(hs:Sized c ds): ∀{r:List dU} {i N:Nat} {s:PlC},c.steps.drop i=r→AgI c ds (LG c i) N s→goC c (livesC c) (fullC c) r i s=some s'→AgI c ds (LG c c.steps.length) (N+r.length) s'
 | [],i,N,s,hd,h,hq=>by
  cases hq;refine h.less (fun k hk=>?_) (by simp);obtain⟨z,hz,hk⟩:=hk;refine⟨z,hz,?_⟩
  rcases hk with hk | ⟨j,x,h1,h2,h3,h4⟩
  ·exact .inl hk
  ·have:=List.drop_eq_nil_iff.1 hd;exact .inr ⟨j,x,h1,by omega,h3,h4⟩
 | x::r,i,N,s,hd,h,hq=>by
  have hx:c.steps[i]?=some x:=by
   have:=congrArg (fun l=>l[0]?) hd
   simpa [List.getElem?_drop] using this
  have hd2:c.steps.drop (i+1)=r:=by
   have:=congrArg (List.drop 1) hd
   simpa [List.drop_drop,Nat.add_comm] using this
  have hxb:((x.buf.toNat:Nat):Int)=x.buf:=by
   have:=(vR (jX hr).2.2.1 x (List.mem_of_getElem? hx)).1;omega
  rw [List.length_cons];unfold goC at hq;split at hq
  ·rename_i u y t hu hy ht;split at hq
   ·rename_i hfi;split at hq
    ·cases hq
    ·rename_i p hp
     have h1:=(h.rel (i:=i) (l:=livesC c)).lay hs hu hy (fun hl=>by
      obtain⟨z,hz,hk⟩:=hl;rw [hy] at hz;cases hz
      rcases hk with hk | ⟨j,x',h1,h2,_⟩<;>omega) (fun k z hl hz=>by
      obtain⟨z',hz',hk⟩:=hl;rw [hz] at hz';cases hz'
      rcases hk with hk | ⟨j,x',h1,h2,_⟩<;>omega) (fun ha=>by rw [ht,ha]) hp
     have h2:AgI c ds (LG c (i+1)) (N+1) p:=h1.less (fun k hk=>by
      obtain⟨z,hz,hk⟩:=hk
      rcases hk with hk | ⟨j,x',h1,h2,h3,h4⟩
      ·exact .inl ⟨z,hz,.inl hk⟩
      ·by_cases e:j=i
       ·subst e;rw [hx] at h3;cases h3;exact .inr (by omega)
       ·exact .inl ⟨z,hz,.inr ⟨j,x',h1,by omega,h3,h4⟩⟩) (Nat.le_refl _)
     have h3:=go_ag hr hs hd2 h2 hq
     rwa [show N+1+r.length=N+(r.length+1) by omega] at h3
   ·rename_i hfi
    have h2:AgI c ds (LG c (i+1)) (N+1) s:=h.less (fun k hk=>by
     obtain⟨z,hz,hk⟩:=hk;refine⟨z,hz,?_⟩
     rcases hk with hk | ⟨j,x',h1,h2,h3,h4⟩
     ·exact .inl hk
     ·by_cases e:j=i
      ·subst e;rw [hx] at h3;cases h3;obtain rfl:x.buf.toNat=k:=by omega
       rw [hy] at hz;cases hz;exact absurd h1 hfi
      ·exact .inr ⟨j,x',h1,by omega,h3,h4⟩) (by omega)
    have h3:=go_ag hr hs hd2 h2 hq
    rwa [show N+1+r.length=N+(r.length+1) by omega] at h3
  ·cases hq
end
section
variable {c : fL} {ds : List Int}
theorem bBt: ∀{l:List kZ} {al r:Int},cellsGo ds l al=(r,0)→ ∀u∈l,∃n,sizeB u.sides ds=some n
 | [],_,_,_,u,hu=>by cases hu
 | b::l,al,r,h,u,hu=>by
  unfold cellsGo at h;split at h
  ·cases h
  ·rename_i n hn;split at h
   ·cases h
   ·rcases List.mem_cons.1 hu with rfl | hu
    ·exact⟨n,hn⟩
    ·exact bBt h u hu
theorem bCz{vars:Int}: ∀{l:List kZ} {seen:List Int},sL vars l seen=true→ ∀u∈l,∀p∈u.sides,Gr p
 | [],_,_,u,hu=>by cases hu
 | b::l,seen,h,u,hu=>by
  rw [sL,Bool.and_eq_true,Bool.and_eq_true,Bool.and_eq_true] at h
  rcases List.mem_cons.1 hu with rfl | hu
  ·intro p hp;have h1:=h.1;unfold lN at h1;rw [Bool.and_eq_true] at h1;have:=List.all_eq_true.1 h1.1 p hp;rw [Bool.and_eq_true] at this;exact gr_of this.2
  ·exact bCz h.2.2.2 u hu
theorem cells_sized{al:Int}(hr:dE c=true)(hc:gU c ds=(al,0)):Sized c ds:=by
 unfold gU at hc;rw [if_pos hr] at hc;split at hc
 ·rename_i hd;unfold nG at hd;rw [Bool.and_eq_true,decide_eq_true_eq,Bool.not_eq_true',List.any_eq_false] at hd;have hv:=(jX hr).1;refine⟨?_,fun b u hu=>?_⟩
  ·unfold lQ;rw [Bool.and_eq_true,decide_eq_true_eq,List.all_eq_true];refine⟨by omega,fun n hn=>?_⟩;have:=hd.2 n hn;unfold badD at this;simp only [Bool.or_eq_true,decide_eq_true_eq] at this;unfold iA;exact decide_eq_true (by omega)
  ·have hm:=List.mem_of_getElem? hu;obtain⟨n,hn⟩:=bBt hc u hm;have hg:=bCz (jX hr).2.1 u hm;obtain⟨n1,n2⟩:=sizeB_in hn;unfold SzV
   cases hz:sizeC u.sides with
   | none=>exact⟨Int.le_refl _,by show(0:Int)≤65536;omega,gr_nil⟩
   | some q=>
    obtain⟨q1,q2⟩:=sizeC_is hg hn hz;show 0≤VD ds q∧VD ds q≤65536∧Gr q;rw [q1];exact⟨n1,n2,q2⟩
 ·cases hc
theorem again_law{al:Int}{ats:List (List Mono)}{e:List Mono}(hr:dE c=true)(hc:gU c ds=(al,0))(hp:rG c=some (ats,e)):
  (∀(b:Nat) a,ats[b]?=some a→0≤(cZ a ds).1∧(cZ a ds).1≤134217728)∧(∀(b:Nat) u,c.bufs[b]?=some u→0≤(cZ ((sizeC u.sides).getD []) ds).1∧(cZ ((sizeC u.sides).getD []) ds).1≤65536)∧
   ∀(b k:Nat) y z a a' u,(livesC c)[b]?=some y→(livesC c)[k]?=some z→ats[b]?=some a→ats[k]?=some a'→c.bufs[k]?=some u→z.from_<y.from_→y.from_≤y.to_→z.from_≤z.to_→(fullC c)[b]?=some false→(cZ a' ds).1+(cZ ((sizeC u.sides).getD []) ds).1≤(cZ a ds).1:=by
 have hs:=cells_sized hr hc;unfold rG at hp;split at hp
 ·cases hp
 ·rename_i s hb;split at hp
  ·cases hp
  ·rename_i t hg;cases hp;have h1:=bBr hr hs (by omega) ((ag_start c.bufs.length).less (L':=LB c 0) (fun k hk=>by have:=hk.1;omega) (Nat.le_refl 0)) hb
   have h2:=go_ag hr hs (r:=c.steps) (i:=0) rfl (h1.less (L':=LG c 0) (fun k hk=>by
    obtain⟨z,hz,hk⟩:=hk;refine⟨?_,z,hz,?_⟩
    ·have:=(List.getElem?_eq_some_iff.1 hz).1
     rwa [jC] at this
    ·rcases hk with hk | ⟨j,x,_,h,_⟩
     ·exact hk
     ·omega) (Nat.le_refl _)) hg
   have hn:0+c.bufs.length+c.steps.length≤2048:=by have:=(jX hr).1;omega
   have hev:=h2.endV;have hE:VD ds t.end_≤134217728:=by omega
   have ha: ∀(b:Nat) a,t.ats[b]?=some a→cZ a ds=(VD ds a,0)∧0≤VD ds a∧VD ds a≤134217728:=fun b a hb=>by
    obtain⟨g1,g2⟩:=h2.ats b a hb;exact⟨eval_is g1 hs.dims (by unfold fU;omega),gr_pos g1 hs.dims,by omega⟩
   have hz: ∀(b:Nat) u,c.bufs[b]?=some u→cZ ((sizeC u.sides).getD []) ds=(SzV ds u,0):=fun b u hu=>by
    obtain⟨g1,g2,g3⟩:=hs.size b u hu;exact eval_is g3 hs.dims (by show SzV ds u≤fU;unfold fU;omega)
   refine⟨fun b a hb=>?_,fun b u hu=>?_,fun b k y z a a' u hy hz' hb hk hu hlt hya hza hf=>?_⟩
   ·obtain⟨e1,e2⟩:=ha b a hb;rw [e1];exact e2
   ·rw [hz b u hu];obtain⟨g1,g2,_⟩:=hs.size b u hu;exact⟨g1,g2⟩
   ·rw [(ha b a hb).1,(ha k a' hk).1,hz k u hu]
    have hl: ∀{b:Nat} {y:LifeC},(livesC c)[b]?=some y→y.from_≤y.to_→LG c c.steps.length b:=fun{b y} hy hya=>by
     refine⟨y,hy,?_⟩
     rcases bCk hr hy with rfl | h | ⟨j,x,h1,h2,h3⟩
     ·exact absurd hya (by decide)
     ·exact .inl (by omega)
     ·exact .inr ⟨j,x,h1,(List.getElem?_eq_some_iff.1 h2).1,h2,h3⟩
    exact h2.pair b k y z a a' u (hl hy hya) (hl hz' hza) hy hz' hb hk hu hlt hf
end
end Go.Proofs.YtofjmphlpdhohaaGreatDoor
namespace Go.Proofs.YtofjmphlpdhohaaGreatDoor
open Go.RowKit
theorem bFf(p:PolV)(B:Option Addr)(d:Nat)(ds:List Int)(hp:p.list.length≤140737488355328)(hq:ds.length≤140737488355328):cX Tryz.prog 64 [.slice p.addr p.list.length p.cap,.slice B ds.length d] [] [fG p,gC.sl (.slice B ds.length d) ds] (fun _:Unit=> .tuple #[.int .i64 (cZ p.list ds).1,.int .i64 (cZ p.list ds).2]) (fun _=>[]) (fun _=>[]):=
 lG fun _ w hS h=>refEval_any _ _ _ _ _ _ w (kF hS (h _ (.head _))) (ints_of hS (h _ (.tail _ (.head _)))) hp hq
theorem Full_yes{c:iF}(hr:dE c.c=true):cX Tryz.prog 20 [.agg #[.int .i64 c.vars,.slice c.bufs.addr c.bufs.list.length c.bufs.cap,.slice c.steps.addr c.steps.list.length c.steps.cap,.slice c.outs.addr c.outs.list.length c.outs.cap]] [] [oT c]
  (fun x:Option Addr×Nat=> .tuple #[.slice x.1 c.bufs.list.length x.2,.int .i64 0]) (fun x=>[iO.row (.slice x.1 c.bufs.list.length x.2) 4 (fullC c.c)]) (fun _=>[]):=by
 have h:=FullP_spec c;have e:bAc c=fullC c.c:=by simp [bAc,hr]
 have e2:(fullC c.c).length=c.bufs.list.length:=by rw [oD];exact cT _
 simp only [e,e2,if_pos hr] at h;exact h
theorem cells_right{c:fL}{dims:List Int}(h:(gU c dims).2=0):dE c=true:=by
 cases hr:dE c with
 | true=>rfl
 | false=>
  unfold gU at h;rw [if_neg (by simp [hr])] at h;cases h
theorem cells_pair{c:fL}{dims:List Int}(h:(gU c dims).2=0):gU c dims=((gU c dims).1,0):=by rw [←h]
theorem ag_lay{sides:List (List Mono)}{b:Nat}{again:Bool}{s s':PlC}(h:layC sides b again s=some s'):s'.ats.length=s.ats.length:=by
 unfold layC at h;split at h
 ·cases h
 ·split at h
  ·cases h;simp
  ·split at h
   ·cases h;simp
   ·cases h
theorem bBc{bufs:List kZ}{l:List LifeC}: ∀(m b:Nat) {s s':PlC},lJ bufs l m b s=some s'→s'.ats.length=s.ats.length
 | 0,_,_,_,h=>by cases h;rfl
 | m+1,b,s,s',h=>by
  unfold lJ at h;split at h
  ·split at h
   ·split at h
    ·cases h
    ·rename_i s2 hs2;rw [bBc m (b+1) h,ag_lay hs2]
   ·exact bBc m (b+1) h
  ·cases h
theorem ag_go{c:fL}{l:List LifeC}{w:List Bool}: ∀(xs:List dU) (i:Nat) {s s':PlC},goC c l w xs i s=some s'→s'.ats.length=s.ats.length
 | [],_,_,_,h=>by cases h;rfl
 | x::xs,i,s,s',h=>by
  unfold goC at h;split at h
  ·split at h
   ·split at h
    ·cases h
    ·rename_i s2 hs2;rw [ag_go xs (i+1) h,ag_lay hs2];rfl
   ·exact ag_go xs (i+1) h
  ·cases h
theorem planC_len{c:fL}{r:List (List Mono)×List Mono}(hp:rG c=some r):r.1.length=c.bufs.length:=by
 unfold rG at hp;split at hp
 ·cases hp
 ·rename_i s hs;split at hp
  ·cases hp
  ·rename_i s2 hs2;cases hp;have h1:=bBc _ _ hs;have h2:=ag_go _ _ hs2;simp [qR] at h1;show s2.ats.length=_;omega
theorem planW_zero{c:fL}(hr:dE c=true)(h:(rH c).2=0):rG c=some (rH c).1:=by
 unfold rH at h⊢;rw [if_pos hr] at h⊢
 cases hp:rG c with
 | none=>
  rw [hp] at h;cases h
 | some r=>rfl
set_option maxRecDepth 100000 in
theorem yX(u:jV)(DA:Option Addr)(dcap:Nat)(dims:List Int)(hdl:dims.length≤140737488355328):cX Tryz.prog 30 [.agg #[.slice u.sides.addr u.sides.list.length u.sides.cap,.int .i64 u.input],.slice DA dims.length dcap] [] [mX u.sides,gC.sl (.slice DA dims.length dcap) dims] (fun(x:Bool)=> .tuple #[.int .i64 (cZ (pT (polsL u.sides.list)) dims).1,.bool x]) (fun _=>[]) (fun _=>[]):=by
 have hT:=bAs;refine cD Tryz.func30 rfl Tryz.ntmps30 rfl ?_;intro β hM;refine sr<|iL rfl rfl rfl rfl rfl rfl fun b1=>?_;refine sp2 hT ?_;refine nn<|sr<|ss (ldN hT (dC .head)) ?_;refine cU Tryz.func63 (size15_spec u) rfl rfl .nil ⟨(Has.of mT0),trivial⟩ fun y2=>?_;refine sp4 hT ?_;refine sp hT ?_;refine nn<|sr<|sp2 hT ?_;refine bX (fQ (Has.of mT0)) fun hxl=>?_;refine cU Tryz.func64 (bFf ⟨y2.1,y2.2,pT (polsL u.sides.list)⟩ DA dcap dims (Nat.le_trans hxl (by decide)) hdl) rfl rfl .nil ⟨(Has.of mT0),(Has.of mT2),trivial⟩ fun _=>?_;refine sp4 hT ?_;refine sp hT ?_;refine nn<|sr<|sp3 hT ?_;refine cA (fun hg23=>?_) (fun hg23=>?_)
 ·refine sp4 hT ?_;refine sp hT ?_;refine nn<|bK ?_;exact dO (_:Bool) rfl (rv_tmp rfl) (rv_tmp rfl) .nil trivial rfl
 refine sk2 ?_;refine sp3 hT ?_;refine nn<|bK ?_;exact dO (_:Bool) rfl (rv_tmp rfl) (rv_tmp rfl) .nil trivial rfl
set_option maxHeartbeats 4000000 in
set_option maxRecDepth 100000 in
theorem lawA_spec(c:iF)(DA:Option Addr)(dcap:Nat)(dims:List Int)(hdl:dims.length≤140737488355328):cX Tryz.prog 10 [.agg #[.int .i64 c.vars,.slice c.bufs.addr c.bufs.list.length c.bufs.cap,.slice c.steps.addr c.steps.list.length c.steps.cap,.slice c.outs.addr c.outs.list.length c.outs.cap],.slice DA dims.length dcap] [] [laidF,oT c,gC.sl (.slice DA dims.length dcap) dims] (fun(_:Unit)=> .bool true) (fun _=>[]) (fun _=>[]):=by
 have hT:=bAs;refine cD Tryz.func10 rfl Tryz.ntmps10 rfl ?_;intro β hM;refine sr<|iL rfl rfl rfl rfl rfl rfl fun b1=>?_;refine sp hT ?_;refine nn<|sr<|cU Tryz.func17 shown15_spec rfl rfl .nil ⟨Has.of mT0,trivial⟩ fun _=>?_;refine sp hT ?_;refine nn<|bF<|sr<|ss (ldN hT (dC .head)) ?_;refine sp hT ?_;refine cU Tryz.func28 (Cells_spec c DA dcap dims hdl) rfl rfl .nil ⟨(Has.of mT1),(Has.of mT2),trivial⟩ fun _=>?_;refine sp4 hT ?_;refine sp hT ?_;refine nn<|sr<|sp2 hT ?_;refine nn<|bO rfl (fun hc33=>?_) (fun hc33=>?_)
 ·have hc33:=bne_iff_ne.1 hc33;refine sr<|sp2 hT ?_;refine nn<|bK<|bN ?_;exact bL () rfl (rv_tmp rfl) .nil trivial (rfl)
 have hc33:=bne_eq_false_iff_eq.1 hc33;refine bM<|bE<|bF ?_;have hc0:(gU c.c dims).2=0:=by first | assumption | omega | simp_all
 have hr:=cells_right hc0;have hcp:=cells_pair hc0;have hbz:=(rS hr).1.1;have hnb:c.c.bufs.length=c.bufs.list.length:=cT _;have hln:=lv_n (c:=c);have hfl:(fullC c.c).length=c.bufs.list.length:=by rw [oD];exact cT _
 refine cC (bI.cells 0 0 [.int .i64 0,.int .i64 (-1)]) (none_of (Has.of mT0)) ?_;refine cC (bAf.sl (.slice c.bufs.addr c.bufs.list.length c.bufs.cap) c.bufs.list) (oW (jR (Has.of mT2))) ?_;refine bD<|ss (ldN hT (dC .head)) ?_;refine cU Tryz.func22 (PlanF_spec c) rfl rfl .nil ⟨Has.of mT3,Has.of mT1,trivial⟩ fun y2=>?_;refine bX (Has.of mT3) fun ha=>?_;refine sp3 hT ?_;refine fC rfl rfl rfl rfl lL rfl fun b3=>?_;refine sto hT .head ?_;refine sp hT ?_;refine nn<|sr<|ss (ldN hT (dC kT1)) ?_;refine cC (bI.cells 0 0 [.int .i64 0,.int .i64 (-1)]) (none_of (Has.of mT6)) ?_;refine cU Tryz.func18 (Lives_yes hr) rfl rfl .nil ⟨(Has.of mT8),(Has.of mT0),trivial⟩ fun⟨LA,lcp⟩=>?_;refine jJ .head ?_;refine sp4 hT ?_;refine sp hT ?_;refine nn<|sr<|ss (ldN hT (dC kT1)) ?_;refine cU Tryz.func20 (Full_yes hr) rfl rfl .nil ⟨(Has.of mT9),trivial⟩ fun⟨WA,wc⟩=>?_;refine jJ .head ?_;refine sp4 hT ?_;refine sp hT ?_;refine nn<|bF<|sr<|sp2 hT ?_;refine nn<|bO rfl (fun hc51=>?_) (fun hc51=>?_)
 ·have hc51:=bne_iff_ne.1 hc51;refine sr<|sp2 hT ?_;refine nn<|bK<|bN ?_;exact bL () rfl (rv_tmp rfl) .nil trivial (rfl)
 have hc51:=bne_eq_false_iff_eq.1 hc51;refine bM<|bE<|bF<|bF ?_;have hp0:(rH c.c).2=0:=by first | assumption | omega | simp_all
 have hpc:=planW_zero hr hp0;have hal:y2.at_.list.length=c.bufs.list.length:=by have h1:=planC_len hpc;rw [←ha,hnb] at h1;have h2:(polsL y2.at_.list).length=c.bufs.list.length:=h1;rwa [dF] at h2
 rw [←ha] at hpc;obtain⟨haw1,haw2,haw3⟩:=again_law hr hcp hpc;refine bD<|sp2 hT ?_;refine dS (t':=false) (by decide) ?_;refine dS (t':=false) (by simp) ?_;refine sp3 hT ?_;refine dS (t':=false) (by decide) ?_;refine dS (t':=false) (by simp) ?_;refine sp4 hT ?_;refine sp hT ?_;refine ss (ldO hT (fF kT1)) ?_;refine sp2 hT ?_;refine dS (t':=false) (bne_eq_false_iff_eq.2 (by omega)) ?_;refine sp4 hT ?_;refine sp3 hT ?_;refine dS (t':=false) (bne_eq_false_iff_eq.2 (by omega)) ?_;refine sp3 hT ?_;refine ss (ldO hT (dC .head)) ?_;refine sp4 hT ?_;refine dS (t':=false) (bne_eq_false_iff_eq.2 (by omega)) ?_;refine sp hT ?_;refine nn<|fM rfl rfl ?_;refine bM<|bE<|bF<|sr<|sp3 hT ?_;refine nn<|bQ<|dH (ι:=Nat) [(1,_),(2,_),(5,_),(8,_),(10,_),(12,_),(83,_)] ⟨rfl,rfl,rfl,rfl,rfl,rfl,rfl,trivial⟩ (fun b=>[(84,.int .i64 (b:Nat))]) (fun _=>[]) (fun b=>[bI.pure (b≤c.bufs.list.length)]) (fun b=>c.bufs.list.length-b) 0 ⟨rfl,trivial⟩ .nil ⟨Has.pure ((by omega)),trivial⟩ ?_;rintro b;refine bX (Has.of mT0) fun hinv13=>?_;refine sr<|sp hT ?_;refine nn<|bF<|bO rfl (fun hc85=>?_) (fun hc85=>?_)
 ·have hc85:=of_decide_eq_true hc85;refine bM<|bE<|bF<|bQ<|sr<|sp2 hT ?_;refine nn<|bF ?_
  obtain⟨pb,hpb⟩: ∃x',y2.at_.list[b]?=some x':=⟨_,List.getElem?_eq_getElem (by omega)⟩
  refine cC (fG pb) (Has.each (Has.of mT5) (List.mem_of_getElem? hpb)) ?_;have hpvb:=haw1 b _ (fW hpb);refine bD<|sp hT ?_;refine ss (ldO hT (dC .head)) ?_;refine sp hT ?_;refine ss (bG hT (k:=b) (bC (Has.of mT5)) rfl rfl rfl rfl rfl rfl rfl ((by omega))) ?_;refine ss (bR hT (bV.knows (bC (Has.of mT5)) (k:=b) (x:=pb) hpb 0) rfl rfl rfl rfl rfl) ?_;refine sp hT ?_;refine bX (fQ (Has.of mT0)) fun hxl=>?_;refine cU Tryz.func29 (uW pb DA dcap dims (Nat.le_trans hxl (by decide)) hdl) rfl rfl .nil ⟨(Has.of mT0),(Has.of mT13),trivial⟩ fun _=>?_;refine sp4 hT ?_;refine sp hT ?_;refine nn<|bF ?_
  obtain⟨ub,hub⟩: ∃x',c.bufs.list[b]?=some x':=⟨_,List.getElem?_eq_getElem (by omega)⟩
  refine cC (mX ub.sides) (Has.each (tC (jR (Has.of mT12))) (List.mem_of_getElem? hub)) ?_;have huvb:0≤(cZ (pT (polsL ub.sides.list)) dims).1∧(cZ (pT (polsL ub.sides.list)) dims).1≤65536:=haw2 b _ (dG hub);refine bD<|sp hT ?_;refine ss (ldO hT (fF kT1)) ?_;refine sp hT ?_;refine ss (bG hT (k:=b) (bC (Has.of mT10)) rfl rfl rfl rfl rfl rfl rfl (by omega)) ?_;refine ss (cL hT (bV.knows (bC (Has.of mT10)) (k:=b) (x:=ub) hub 0) rfl rfl rfl rfl rfl) ?_;refine sp hT ?_;refine cU Tryz.func30 (yX ub DA dcap dims hdl) rfl rfl .nil ⟨(Has.of mT0),(Has.of mT14),trivial⟩ fun z4=>?_;refine sp4 hT ?_;refine sp hT ?_;refine nn<|sr<|sp3 hT ?_;refine nn<|bQ<|dH (ι:=Nat) [(1,_),(2,_),(5,_),(8,_),(10,_),(12,_),(14,_),(15,_),(17,_),(83,_),(84,_),(108,_)] ⟨rfl,rfl,rfl,rfl,rfl,rfl,rfl,rfl,rfl,rfl,rfl,rfl,trivial⟩ (fun k=>[(109,.int .i64 (k:Nat))]) (fun _=>[]) (fun k=>[bI.pure (k≤c.bufs.list.length)]) (fun k=>c.bufs.list.length-k) 0 ⟨rfl,trivial⟩ .nil ⟨Has.pure ((by omega)),trivial⟩ ?_;rintro k;refine bX (Has.of mT0) fun hinv18=>?_;refine sr<|sp hT ?_;refine nn<|bF<|bO rfl (fun hc110=>?_) (fun hc110=>?_)
  ·have hc110:=of_decide_eq_true hc110;refine bM<|bE<|bF<|bQ<|sr<|sp2 hT ?_;refine nn<|bF ?_
   obtain⟨pk,hpk⟩: ∃x',y2.at_.list[k]?=some x':=⟨_,List.getElem?_eq_getElem (by omega)⟩
   refine cC (fG pk) (Has.each (Has.of mT8) (List.mem_of_getElem? hpk)) ?_;have hpvk:=haw1 k _ (fW hpk);refine bD<|sp hT ?_;refine ss (ldO hT (dC .head)) ?_;refine sp hT ?_;refine ss (bG hT (k:=k) (bC (Has.of mT8)) rfl rfl rfl rfl rfl rfl rfl ((by omega))) ?_;refine ss (bR hT (bV.knows (bC (Has.of mT8)) (k:=k) (x:=pk) hpk 0) rfl rfl rfl rfl rfl) ?_;refine sp hT ?_;refine bX (fQ (Has.of mT0)) fun hxl=>?_;refine cU Tryz.func29 (uW pk DA dcap dims (Nat.le_trans hxl (by decide)) hdl) rfl rfl .nil ⟨(Has.of mT0),(Has.of (.tail _ (.tail _ (.tail _ (.tail _ (.tail _ (.tail _ (.tail _ (.tail _ (.tail _ (.tail _ (.tail _ (.tail _ (.tail _ (.tail _ (.tail _ (.tail _ mT0))))))))))))))))),trivial⟩ fun _=>?_;refine sp4 hT ?_;refine sp hT ?_;refine nn<|bF ?_
   obtain⟨uk,huk⟩: ∃x',c.bufs.list[k]?=some x':=⟨_,List.getElem?_eq_getElem (by omega)⟩
   refine cC (mX uk.sides) (Has.each (tC (jR (Has.of (.tail _ (.tail _ (.tail _ (.tail _ (.tail _ (.tail _ (.tail _ (.tail _ (.tail _ (.tail _ (.tail _ (.tail _ (.tail _ (.tail _ (.tail _ mT0)))))))))))))))))) (List.mem_of_getElem? huk)) ?_;have huvk:0≤(cZ (pT (polsL uk.sides.list)) dims).1∧(cZ (pT (polsL uk.sides.list)) dims).1≤65536:=haw2 k _ (dG huk);refine bD<|sp hT ?_;refine ss (ldO hT (fF kT1)) ?_;refine sp hT ?_;refine ss (bG hT (k:=k) (bC (Has.of mT13)) rfl rfl rfl rfl rfl rfl rfl (by omega)) ?_;refine ss (cL hT (bV.knows (bC (Has.of mT13)) (k:=k) (x:=uk) huk 0) rfl rfl rfl rfl rfl) ?_;refine sp hT ?_;refine cU Tryz.func30 (yX uk DA dcap dims hdl) rfl rfl .nil ⟨(Has.of mT0),(Has.of (.tail _ (.tail _ (.tail _ (.tail _ (.tail _ (.tail _ (.tail _ (.tail _ (.tail _ (.tail _ (.tail _ (.tail _ (.tail _ (.tail _ (.tail _ (.tail _ (.tail _ mT0)))))))))))))))))),trivial⟩ fun z5=>?_;refine sp4 hT ?_;refine sp hT ?_;refine nn<|bF<|dX _ _ [(true,0),(true,1),(true,2),(true,3),(true,4),(true,5),(true,6),(true,7),(true,8),(true,9),(true,10),(true,11),(true,12),(true,13),(true,14),(true,15),(true,16),(true,17),(true,18),(true,19),(true,20),(true,21),(true,22),(true,23),(true,24),(true,25),(true,26),(true,27),(true,28),(true,29),(true,30),(true,31),(true,32),(true,33),(true,34),(true,35),(true,36),(true,37),(true,38),(true,39),(true,40),(true,41),(true,42),(true,43),(true,44),(true,45),(true,46),(true,47),(true,48),(true,49),(true,50),(true,51),(true,52),(true,53),(true,54),(true,55)] fH (by decide+kernel) (.cons .head (.cons .head .nil)) bH.self ?_;refine puM hT ?_;refine puM hT ?_
   obtain⟨x6,hx7⟩: ∃x',(lv (livesC c.c))[k]?=some x':=⟨_,List.getElem?_eq_getElem (by omega)⟩
   refine stM rfl (bG hT (k:=k) (bC (Has.of mT7)) rfl rfl rfl rfl rfl hln.symm rfl (by omega)) ?_;refine puM hT ?_;refine stM rfl (bR hT (bV.knows (bC (Has.of mT7)) (k:=k) (x:=x6) hx7 0) rfl rfl rfl rfl rfl) ?_;refine puM hT ?_;refine puM hT ?_
   obtain⟨x8,hx9⟩: ∃x',(lv (livesC c.c))[b]?=some x':=⟨_,List.getElem?_eq_getElem (by omega)⟩
   refine stM rfl (bG hT (k:=b) (bC (Has.of mT7)) rfl rfl rfl rfl rfl hln.symm rfl (by omega)) ?_;refine puM hT ?_;refine stM rfl (bR hT (bV.knows (bC (Has.of mT7)) (k:=b) (x:=x8) hx9 0) rfl rfl rfl rfl rfl) ?_;refine puM hT ?_;refine puM hT ?_;refine cA (fun hg143=>?_) (fun hg143=>?_)
   ·have hg143:=of_decide_eq_true hg143;refine puM hT ?_;refine puM hT ?_;refine stM rfl (bG hT (k:=k) (bC (Has.of mT7)) rfl rfl rfl rfl rfl hln.symm rfl (by omega)) ?_;refine puM hT ?_;refine stM rfl (bR hT (bV.knows (bC (Has.of mT7)) (k:=k) (x:=x6) hx7 1) rfl rfl rfl rfl rfl) ?_;refine puM hT ?_;refine puM hT ?_;refine stM rfl (bG hT (k:=b) (bC (Has.of mT7)) rfl rfl rfl rfl rfl hln.symm rfl (by omega)) ?_;refine puM hT ?_;refine stM rfl (bR hT (bV.knows (bC (Has.of mT7)) (k:=b) (x:=x8) hx9 0) rfl rfl rfl rfl rfl) ?_;refine puM hT ?_;refine puM hT ?_;refine puM hT ?_;refine cA (fun hg156=>?_) (fun hg156=>?_)
    ·have hg156:=of_decide_eq_true hg156;refine puM hT ?_;refine puM hT ?_;refine stM rfl (bG hT (k:=b) (bC (Has.of mT7)) rfl rfl rfl rfl rfl hln.symm rfl (by omega)) ?_;refine puM hT ?_;refine stM rfl (bR hT (bV.knows (bC (Has.of mT7)) (k:=b) (x:=x8) hx9 0) rfl rfl rfl rfl rfl) ?_;refine puM hT ?_;refine puM hT ?_;refine stM rfl (bG hT (k:=b) (bC (Has.of mT7)) rfl rfl rfl rfl rfl hln.symm rfl (by omega)) ?_;refine puM hT ?_;refine stM rfl (bR hT (bV.knows (bC (Has.of mT7)) (k:=b) (x:=x8) hx9 1) rfl rfl rfl rfl rfl) ?_;refine puM hT ?_;refine puM hT ?_;refine puM hT ?_;refine cA (fun hg169=>?_) (fun hg169=>?_)
     ·have hg169:=of_decide_eq_true hg169;refine puM hT ?_;refine puM hT ?_;refine puM hT ?_;refine puM hT ?_;refine puM hT ?_;refine cA (fun hg174=>?_) (fun hg174=>?_)
      ·have hg174:=bne_iff_ne.1 hg174;refine puM hT ?_;refine puM hT ?_;refine puM hT ?_;refine puM hT ?_;refine bT (uJ (by omega) (by omega)) ?_;refine puM hT ?_;refine puM hT ?_;refine puM hT ?_;refine cA (fun hg181=>?_) (fun hg181=>?_)
       ·have hg181:=of_decide_eq_true hg181;refine puM hT ?_;refine puM hT ?_;refine puM hT ?_;refine puM hT ?_;refine bT (uJ (by omega) (by omega)) ?_;refine puM hT ?_;refine puM hT ?_;refine cJ<|bE<|bO rfl (fun hc187=>?_) (fun hc187=>?_)
        ·have hc187:=of_decide_eq_true hc187;refine bF<|dX _ _ [(true,0),(true,1),(true,2),(true,3),(true,4),(true,5),(true,6),(true,7),(true,8),(true,9),(true,10),(true,11)] fH (by decide+kernel) (.cons .head (.cons .head .nil)) bH.self ?_;refine puM hT ?_;refine puM hT ?_;refine stM rfl (bG hT (k:=k) (bC (Has.of mT7)) rfl rfl rfl rfl rfl hln.symm rfl (by omega)) ?_;refine puM hT ?_;refine stM rfl (bR hT (bV.knows (bC (Has.of mT7)) (k:=k) (x:=x6) hx7 0) rfl rfl rfl rfl rfl) ?_;refine puM hT ?_;refine puM hT ?_;refine stM rfl (bG hT (k:=k) (bC (Has.of mT7)) rfl rfl rfl rfl rfl hln.symm rfl (by omega)) ?_;refine puM hT ?_;refine stM rfl (bR hT (bV.knows (bC (Has.of mT7)) (k:=k) (x:=x6) hx7 1) rfl rfl rfl rfl rfl) ?_;refine puM hT ?_;refine puM hT ?_;refine cJ<|bE<|sr<|sp2 hT ?_;refine cA (fun hg200=>?_) (fun hg200=>?_)
         ·have hg200:=of_decide_eq_true hg200;refine sp2 hT ?_
          obtain⟨x10,hx11⟩: ∃x',(fullC c.c)[b]?=some x':=⟨_,List.getElem?_eq_getElem (by omega)⟩
          refine ss (bG hT (k:=b) (bC (Has.of mT6)) rfl rfl rfl rfl rfl hfl.symm rfl (by omega)) ?_;refine ss (bR hT (bV.knows (bC (Has.of mT6)) (k:=b) (x:=x10) hx11 0) rfl rfl rfl rfl rfl) ?_;refine sp2 hT ?_;refine nn<|bO rfl (fun hc206=>?_) (fun hc206=>?_)
          ·have hc206:=kG hc206
           exfalso
           have htf:x10=false:=by first | exact hc206 | simpa using hc206
           have hfa:(fullC c.c)[b]?=some false:=by rw [hx11,htf]
           have hlw:=haw3 b k _ _ _ _ _ (vA hx9) (vA hx7) (fW hpb) (fW hpk) (dG huk) (show x6.from_<x8.from_ by first | assumption | simp_all) (show x8.from_≤x8.to_ by first | assumption | simp_all) (show x6.from_≤x6.to_ by first | assumption | simp_all) hfa;have hlw2:(cZ pk.list dims).1+(cZ (pT (polsL uk.sides.list)) dims).1≤(cZ pb.list dims).1:=hlw;omega
          have hc206:=kD hc206;refine bM<|bU<|bE<|bD<|sp hT ?_;refine bT (z':=(((k+1):Nat):Int)) (cO (by omega) (by omega)) ?_;refine sp hT ?_;refine nn ?_;exact cG (k+1) (by omega) ⟨rfl,trivial⟩ ⟨rfl,rfl,rfl,rfl,rfl,rfl,rfl,rfl,rfl,rfl,rfl,rfl,trivial⟩ (.cons .head (.cons .head .nil)) ⟨Has.pure ((by omega)),trivial⟩ (bH.drop 3)
         have hg200:=Int.not_le.1 (of_decide_eq_false hg200);refine sk4 ?_;refine sk ?_;refine sp hT ?_;refine nn<|fM rfl rfl ?_;refine bM<|bU<|bE<|bD<|sp hT ?_;refine bT (z':=(((k+1):Nat):Int)) (cO (by omega) (by omega)) ?_;refine sp hT ?_;refine nn ?_;exact cG (k+1) (by omega) ⟨rfl,trivial⟩ ⟨rfl,rfl,rfl,rfl,rfl,rfl,rfl,rfl,rfl,rfl,rfl,rfl,trivial⟩ (.cons .head (.cons .head .nil)) ⟨Has.pure ((by omega)),trivial⟩ (bH.drop 3)
        have hc187:=Int.not_lt.1 (of_decide_eq_false hc187);refine bM<|bU<|bE<|bD<|sp hT ?_;refine bT (z':=(((k+1):Nat):Int)) (cO (by omega) (by omega)) ?_;refine sp hT ?_;refine nn ?_;exact cG (k+1) (by omega) ⟨rfl,trivial⟩ ⟨rfl,rfl,rfl,rfl,rfl,rfl,rfl,rfl,rfl,rfl,rfl,rfl,trivial⟩ (.cons .head (.cons .head .nil)) ⟨Has.pure ((by omega)),trivial⟩ (bH.drop 3)
       have hg181:=Int.not_lt.1 (of_decide_eq_false hg181);refine bA rfl rfl rfl rfl ?_;refine bA rfl rfl rfl rfl ?_;refine bA rfl rfl rfl rfl ?_;refine bA rfl rfl rfl rfl ?_;refine bA rfl rfl rfl rfl ?_;refine puM hT ?_;refine cJ<|bE<|fM rfl rfl ?_;refine bM<|bU<|bE<|bD<|sp hT ?_;refine bT (z':=(((k+1):Nat):Int)) (cO (by omega) (by omega)) ?_;refine sp hT ?_;refine nn ?_;exact cG (k+1) (by omega) ⟨rfl,trivial⟩ ⟨rfl,rfl,rfl,rfl,rfl,rfl,rfl,rfl,rfl,rfl,rfl,rfl,trivial⟩ (.cons .head (.cons .head .nil)) ⟨Has.pure ((by omega)),trivial⟩ (bH.drop 3)
      have hg174:=bne_eq_false_iff_eq.1 hg174;refine bA rfl rfl rfl rfl ?_;refine bA rfl rfl rfl rfl ?_;refine bA rfl rfl rfl rfl ?_;refine bA rfl rfl rfl rfl ?_;refine bA rfl rfl rfl rfl ?_;refine puM hT ?_;refine puM hT ?_;refine bA rfl rfl rfl rfl ?_;refine bA rfl rfl rfl rfl ?_;refine bA rfl rfl rfl rfl ?_;refine bA rfl rfl rfl rfl ?_;refine bA rfl rfl rfl rfl ?_;refine puM hT ?_;refine cJ<|bE<|fM rfl rfl ?_;refine bM<|bU<|bE<|bD<|sp hT ?_;refine bT (z':=(((k+1):Nat):Int)) (cO (by omega) (by omega)) ?_;refine sp hT ?_;refine nn ?_;exact cG (k+1) (by omega) ⟨rfl,trivial⟩ ⟨rfl,rfl,rfl,rfl,rfl,rfl,rfl,rfl,rfl,rfl,rfl,rfl,trivial⟩ (.cons .head (.cons .head .nil)) ⟨Has.pure ((by omega)),trivial⟩ (bH.drop 3)
     have hg169:=Int.not_le.1 (of_decide_eq_false hg169);refine bA rfl rfl rfl rfl ?_;refine bA rfl rfl rfl rfl ?_;refine bA rfl rfl rfl rfl ?_;refine puM hT ?_;refine puM hT ?_;refine bA rfl rfl rfl rfl ?_;refine bA rfl rfl rfl rfl ?_;refine bA rfl rfl rfl rfl ?_;refine bA rfl rfl rfl rfl ?_;refine bA rfl rfl rfl rfl ?_;refine puM hT ?_;refine puM hT ?_;refine bA rfl rfl rfl rfl ?_;refine bA rfl rfl rfl rfl ?_;refine bA rfl rfl rfl rfl ?_;refine bA rfl rfl rfl rfl ?_;refine bA rfl rfl rfl rfl ?_;refine puM hT ?_;refine cJ<|bE<|fM rfl rfl ?_;refine bM<|bU<|bE<|bD<|sp hT ?_;refine bT (z':=(((k+1):Nat):Int)) (cO (by omega) (by omega)) ?_;refine sp hT ?_;refine nn ?_;exact cG (k+1) (by omega) ⟨rfl,trivial⟩ ⟨rfl,rfl,rfl,rfl,rfl,rfl,rfl,rfl,rfl,rfl,rfl,rfl,trivial⟩ (.cons .head (.cons .head .nil)) ⟨Has.pure ((by omega)),trivial⟩ (bH.drop 3)
    have hg156:=Int.not_lt.1 (of_decide_eq_false hg156);refine bA rfl rfl rfl rfl ?_;refine bA rfl rfl rfl rfl ?_;refine bA rfl rfl rfl rfl ?_;refine bA rfl rfl rfl rfl ?_;refine bA rfl rfl rfl rfl ?_;refine bA rfl rfl rfl rfl ?_;refine bA rfl rfl rfl rfl ?_;refine bA rfl rfl rfl rfl ?_;refine bA rfl rfl rfl rfl ?_;refine bA rfl rfl rfl rfl ?_;refine bA rfl rfl rfl rfl ?_;refine puM hT ?_;refine puM hT ?_;refine bA rfl rfl rfl rfl ?_;refine bA rfl rfl rfl rfl ?_;refine bA rfl rfl rfl rfl ?_;refine puM hT ?_;refine puM hT ?_;refine bA rfl rfl rfl rfl ?_;refine bA rfl rfl rfl rfl ?_;refine bA rfl rfl rfl rfl ?_;refine bA rfl rfl rfl rfl ?_;refine bA rfl rfl rfl rfl ?_;refine puM hT ?_;refine puM hT ?_;refine bA rfl rfl rfl rfl ?_;refine bA rfl rfl rfl rfl ?_;refine bA rfl rfl rfl rfl ?_;refine bA rfl rfl rfl rfl ?_;refine bA rfl rfl rfl rfl ?_;refine puM hT ?_;refine cJ<|bE<|fM rfl rfl ?_;refine bM<|bU<|bE<|bD<|sp hT ?_;refine bT (z':=(((k+1):Nat):Int)) (cO (by omega) (by omega)) ?_;refine sp hT ?_;refine nn ?_;exact cG (k+1) (by omega) ⟨rfl,trivial⟩ ⟨rfl,rfl,rfl,rfl,rfl,rfl,rfl,rfl,rfl,rfl,rfl,rfl,trivial⟩ (.cons .head (.cons .head .nil)) ⟨Has.pure ((by omega)),trivial⟩ (bH.drop 3)
   have hg143:=Int.not_lt.1 (of_decide_eq_false hg143);refine bA rfl rfl rfl rfl ?_;refine bA rfl rfl rfl rfl ?_;refine bA rfl rfl rfl rfl ?_;refine bA rfl rfl rfl rfl ?_;refine bA rfl rfl rfl rfl ?_;refine bA rfl rfl rfl rfl ?_;refine bA rfl rfl rfl rfl ?_;refine bA rfl rfl rfl rfl ?_;refine bA rfl rfl rfl rfl ?_;refine bA rfl rfl rfl rfl ?_;refine bA rfl rfl rfl rfl ?_;refine puM hT ?_;refine puM hT ?_;refine bA rfl rfl rfl rfl ?_;refine bA rfl rfl rfl rfl ?_;refine bA rfl rfl rfl rfl ?_;refine bA rfl rfl rfl rfl ?_;refine bA rfl rfl rfl rfl ?_;refine bA rfl rfl rfl rfl ?_;refine bA rfl rfl rfl rfl ?_;refine bA rfl rfl rfl rfl ?_;refine bA rfl rfl rfl rfl ?_;refine bA rfl rfl rfl rfl ?_;refine bA rfl rfl rfl rfl ?_;refine puM hT ?_;refine puM hT ?_;refine bA rfl rfl rfl rfl ?_;refine bA rfl rfl rfl rfl ?_;refine bA rfl rfl rfl rfl ?_;refine puM hT ?_;refine puM hT ?_;refine bA rfl rfl rfl rfl ?_;refine bA rfl rfl rfl rfl ?_;refine bA rfl rfl rfl rfl ?_;refine bA rfl rfl rfl rfl ?_;refine bA rfl rfl rfl rfl ?_;refine puM hT ?_;refine puM hT ?_;refine bA rfl rfl rfl rfl ?_;refine bA rfl rfl rfl rfl ?_;refine bA rfl rfl rfl rfl ?_;refine bA rfl rfl rfl rfl ?_;refine bA rfl rfl rfl rfl ?_;refine puM hT ?_;refine cJ<|bE<|fM rfl rfl ?_;refine bM<|bU<|bE<|bD<|sp hT ?_;refine bT (z':=(((k+1):Nat):Int)) (cO (by omega) (by omega)) ?_;refine sp hT ?_;refine nn ?_;exact cG (k+1) (by omega) ⟨rfl,trivial⟩ ⟨rfl,rfl,rfl,rfl,rfl,rfl,rfl,rfl,rfl,rfl,rfl,rfl,trivial⟩ (.cons .head (.cons .head .nil)) ⟨Has.pure ((by omega)),trivial⟩ (bH.drop 3)
  have hc110:=Int.not_lt.1 (of_decide_eq_false hc110);refine cS<|bZ<|bZ<|cR<|bU<|bE<|bD<|sp hT ?_;refine bT (z':=(((b+1):Nat):Int)) (cO (by omega) (by omega)) ?_;refine sp hT ?_;refine nn ?_;exact cG (b+1) (by omega) ⟨rfl,trivial⟩ ⟨rfl,rfl,rfl,rfl,rfl,rfl,rfl,trivial⟩ (.cons .head (.cons .head .nil)) ⟨Has.pure ((by omega)),trivial⟩ (bH.drop 4)
 have hc85:=Int.not_lt.1 (of_decide_eq_false hc85);refine cS<|bZ<|bZ<|cR<|bE<|sr<|sp2 hT ?_;refine nn<|bK ?_;exact bL () rfl (rv_tmp rfl) .nil trivial (rfl)
end Go.Proofs.YtofjmphlpdhohaaGreatDoor
