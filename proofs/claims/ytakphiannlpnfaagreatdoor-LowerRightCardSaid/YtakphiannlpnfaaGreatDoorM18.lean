/- Texts of one proof, one behind the other: Val, Grow, PolG, TypG, LowR, LowV, LowW, CoW, Arrs, CoX. -/
import Derived.Test.YtakphiannlpnfaaGreatDoorM17
import Derived.Test.YtakphiannlpnfaaGreatDoorM3
import Derived.Test.YtakphiannlpnfaaGreatDoorM11
import Derived.Test.YtakphiannlpnfaaGreatDoorM15
import Derived.Test.YtakphiannlpnfaaGreatDoorM14
import Derived.Test.YtakphiannlpnfaaGreatDoorM2
import Derived.Test.YtakphiannlpnfaaGreatDoorM4
namespace Go.Proofs.YtakphiannlpnfaaGreatDoor
section
open Go.RowKit Go.Sort Go.Proofs.Tryz
set_option maxRecDepth 100000
def prodD:List (UInt8×Int)→Int
 | []=>1
 | x::l=>x.2^x.1.toNat*prodD l
def val (D:Nat→Int)(m:Mono):Int:=prodD (pairs m D)
def Bnd (N:Int)(L:List Mono):Prop:= ∀m∈L,-N≤m.n∧m.n≤N
theorem coef_bnd{N:Int}(hN:0≤N)(k:Mono): ∀{L:List Mono},Bnd N L→ -N≤qC k L∧qC k L≤N
 | [],_=>by simp only [qC];omega
 | m::L,h=>by
  unfold qC;split
  ·exact h m o6
  ·exact coef_bnd hN k fun x hx=>h x ad2
theorem bLx{F:Mono→Int}(hF:bDw F){N V:Int}(hN:0≤N)(hV:0≤V)(hNV:N+V<9223372036854775808)(m:Mono){v:Int}(hv: -V≤v∧v≤V){L:List Mono}(h:Bnd N L):
  lin F (tX m v L)=lin F L+v*F m∧Bnd (N+V) (tX m v L):=by
 have hc:=coef_bnd hN m h;have hw:wrap64 (qC m L+v)=qC m L+v:=by unfold wrap64;omega
 unfold tX;rw [hw];constructor
 ·rw [bIy hF,show qC m L+v-qC m L=v by omega]
 ·intro y hy
  rcases wO hy with rfl | hy
  ·show _≤qC m L+v∧qC m L+v≤_;omega
  ·have:=h y hy;omega
theorem prod_bnd{x y:Int}(hx: -16777216≤x∧x≤16777216)(hy: -16777216≤y∧y≤16777216): -281474976710656≤x*y∧x*y≤281474976710656:=by
 have h:(x*y).natAbs≤16777216*16777216:=by
  rw [Int.natAbs_mul];exact Nat.mul_le_mul n7 n7
 omega
theorem bMv{m:Mono}(h:nU m=true): -16777216≤m.n∧m.n≤16777216:=by
 simp only [nU,decide_eq_true_eq] at h;omega
theorem bGp{F:Mono→Int}(hF:bDw F)(a:Mono)(ha:nU a=true): ∀{q L:List Mono} {N:Int},0≤N→N+281474976710656*q.length<9223372036854775808→(∀b∈q,nU b=true)→Bnd N L→
  lin F (lQ a L q)=lin F L+dS (fun b=>a.n*b.n*F (mulM a b)) q∧Bnd (N+281474976710656*q.length) (lQ a L q)
 | [],L,N,_,_,_,h=>by
  refine⟨by simp [lQ,dS],?_⟩
  simpa [lQ] using h
 | b::q,L,N,hN,hl,hq,h=>by
  rw [List.length_cons] at hl⊢;have hp:=prod_bnd (bMv ha) (bMv (hq b o6));have hw:wrap64 (a.n*b.n)=a.n*b.n:=by unfold wrap64;omega
  obtain⟨e1,e2⟩:=bLx hF (V:=281474976710656) hN n7 n7 (mulM a b) hp h;obtain⟨f1,f2⟩:=bGp hF a ha (q:=q) n7 n7 (fun x hx=>hq x ad2) e2;rw [lQ,hw];refine⟨?_,?_⟩
  ·rw [f1,e1];simp only [dS];omega
  ·rw [show N+281474976710656*((q.length+1:Nat):Int)=N+281474976710656+281474976710656*q.length by omega];exact f2
theorem bHk{F:Mono→Int}(hF:bDw F){q:List Mono}(hq: ∀b∈q,nU b=true)(hl:q.length≤48): ∀{p L:List Mono} {N:Int},0≤N→N+13510798882111488*p.length<9223372036854775808→(∀b∈p,nU b=true)→Bnd N L→
  lin F (iT q L p)=lin F L+dS (fun a=>dS (fun b=>a.n*b.n*F (mulM a b)) q) p
 | [],L,N,_,_,_,h=>by simp [iT,dS]
 | a::p,L,N,hN,hp,hs,h=>by
  rw [List.length_cons] at hp;obtain⟨e1,e2⟩:=bGp hF a (hs a o6) (q:=q) hN n7 hq h;have e3:Bnd (N+13510798882111488) (lQ a L q):=fun x hx=>by have:=e2 x hx;omega
  have f1:=bHk hF hq hl (p:=p) n7 n7 (fun x hx=>hs x ad2) e3;rw [iT,f1,e1];simp only [dS];omega
end
section
open Go.Proofs.Tryz
end
section
open Go.RowKit Go.Sort Go.Proofs.Tryz
def GrP (p:List Mono):Prop:=cU p=true∧ ∀m∈p,0≤m.n
theorem tG{p:List Mono}:fS p=true↔GrP p:=by
 unfold GrP fS;rw [Bool.and_eq_true,Bool.not_eq_true'];refine and_congr_right fun _=>?_;rw [List.any_eq_false];unfold bKo;simp
theorem bBq{f:Mono→Int}: ∀{l:List Mono},(∀m∈l,0≤f m)→0≤dS f l
 | [],_=>by simp [dS]
 | m::l,h=>by
  have h1:=h m (List.mem_cons_self ..);have h2:=bBq fun x hx=>h x (List.mem_cons_of_mem m hx);simp only [dS];omega
theorem bUg{f:Mono→Int}{x:Mono}: ∀{l:List Mono},(∀m∈l,0≤f m)→x∈l→f x≤dS f l
 | [],_,h=>by cases h
 | m::l,h,hx=>by
  have h1:=h m (List.mem_cons_self ..);have h3:=fun x hx=>h x (List.mem_cons_of_mem m hx);simp only [dS]
  rcases List.mem_cons.1 hx with rfl | hx
  ·have:=bBq h3;omega
  ·have:=bUg h3 hx;omega
theorem ind_nn(k:Nat)(m:Mono):0≤ind k m:=by unfold ind;split<;>omega
section
variable {p q s : List Mono}
theorem mul_linG{F:Mono→Int}(hF:bDw F)(hs:nJ p q=(s,0)):lin F s=dS (fun a=>dS (fun b=>a.n*b.n*F (mulM a b)) q) p:=by
 obtain⟨hp,hq,s1,_⟩:=mul_ok hs;obtain⟨_,p2,p3⟩:=xE hp;obtain⟨_,q2,q3⟩:=xE hq;rw [s1,bWx,bHk hF q2 q3 (N:=0) n7 n7 p2 (fun _ h=>by simp at h)];simp only [lin,dS,Int.zero_add]
theorem mul_grP(hp:GrP p)(hq:GrP q)(hs:nJ p q=(s,0)):GrP s:=by
 obtain⟨_,_,_,hr⟩:=mul_ok hs;refine⟨hr,fun m hm=>?_⟩;rw [←bCq (bBf hr) hm,mul_linG (bGs _) hs];exact bBq fun a ha=>bBq fun b hb=>Int.mul_nonneg (Int.mul_nonneg (hp.2 a ha) (hq.2 b hb)) (ind_nn _ _)
theorem wH{F:Mono→Int}(hF:bDw F){c:Int}(hc:c=1∨c= -1){g:Mono→Int}: ∀{p L:List Mono} {N:Int},0≤N→N+16777216*p.length<9223372036854775808→(∀m∈p,nU m=true∧g m=c*m.n)→Bnd N L→lin F (gQ g L p)=lin F L+c*lin F p∧Bnd (N+16777216*p.length) (gQ g L p)
 | [],L,N,_,_,_,h=>by
  refine⟨by simp [gQ,lin,dS],?_⟩
  simpa [gQ] using h
 | m::p,L,N,hN,hl,hp,h=>by
  rw [List.length_cons] at hl⊢;obtain⟨h1,h2⟩:=hp m (List.mem_cons_self ..);have hb:=bMv h1;obtain⟨e1,e2⟩:=bLx hF (V:=16777216) hN n7 n7 m (v:=c*m.n) (by rcases hc with rfl | rfl<;>omega) h;obtain⟨f1,f2⟩:=wH hF hc (g:=g) (p:=p) n7 n7 (fun x hx=>hp x (List.mem_cons_of_mem _ hx)) e2;rw [gQ,h2];refine⟨?_,?_⟩
  ·rw [f1,e1,bRb,Int.mul_add,Int.mul_assoc];omega
  ·rw [show N+16777216*((p.length+1:Nat):Int)=N+16777216+16777216*p.length by omega];exact f2
theorem bWu{F:Mono→Int}(hF:bDw F){c:Int}(hc:c=1∨c= -1)(hs:bY p q c=(s,0)):lin F s=lin F p+c*lin F q:=by
 obtain⟨hp,hq,s1,_⟩:=both_ok hs;obtain⟨_,p2,p3⟩:=xE hp;obtain⟨_,q2,q3⟩:=xE hq;rw [s1,bWx];unfold bLq;obtain⟨e1,e2⟩:=wH hF (.inl rfl) (g:=Mono.n) (p:=p) (L:=[]) (N:=0) n7 n7 (fun m hm=>⟨p2 m hm,(Int.one_mul _).symm⟩) (fun _ h=>by simp at h)
 obtain⟨f1,_⟩:=wH hF hc (g:=fun m=>wrap64 (c*m.n)) (p:=q) n7 n7 (fun m hm=>⟨q2 m hm,by
  have:=bMv (q2 m hm);show wrap64 (c*m.n)=c*m.n;unfold wrap64
  rcases hc with rfl | rfl<;>omega⟩) e2
 rw [f1,e1];simp only [lin,dS,Int.zero_add,Int.one_mul]
theorem bFt{k:Nat}(hp:GrP p):0≤lin (ind k) p:=bBq fun a ha=>Int.mul_nonneg (hp.2 a ha) (ind_nn _ _)
theorem add_grP(hp:GrP p)(hq:GrP q)(hs:bY p q 1=(s,0)):GrP s:=by
 obtain⟨_,_,_,hr⟩:=both_ok hs;refine⟨hr,fun m hm=>?_⟩;rw [←bCq (bBf hr) hm,bWu (bGs _) (.inl rfl) hs];have h1:=bFt (k:=m.key) hp;have h2:=bFt (k:=m.key) hq;omega
theorem numT_is(n:Int):bT n=[]∨bT n=[bAl n]:=by
 unfold bT iN;split
 ·exact .inl rfl
 ·split
  ·exact .inl rfl
  ·exact .inr rfl
theorem bSd{n:Int}(h:0≤n):GrP (bT n):=by
 refine⟨bBi n,fun m hm=>?_⟩
 rcases numT_is n with e | e<;>rw [e] at hm
 ·cases hm
 ·rw [List.mem_singleton.1 hm];exact h
theorem sub_grP{n:Int}(hn:0≤n)(hp:gA p n=true)(hs:bY p (bT n) (-1)=(s,0)):GrP s:=by
 obtain⟨_,_,_,hr⟩:=both_ok hs
 have hg:GrP p:=by
  unfold gA at hp;rw [Bool.and_eq_true] at hp;exact tG.1 hp.1
 refine⟨hr,fun m hm=>?_⟩;rw [←bCq (bBf hr) hm,bWu (bGs _) (.inr rfl) hs];have h1:=bFt (k:=m.key) hg
 rcases numT_is n with e | e<;>rw [e]
 ·simp only [lin,dS] at h1⊢;omega
 ·have h3:lin (ind m.key) [bAl n]=n*ind m.key (bAl n):=by
   simp only [lin,dS,Int.add_zero];rfl
  rw [h3]
  by_cases hk:ind m.key (bAl n)=0
  ·rw [hk];omega
  ·have hk1:ind m.key (bAl n)=1∧m.key=(bAl n).key:=by
    unfold ind at hk⊢;split at hk
    ·rename_i h4;rw [if_pos h4];exact⟨rfl,h4.symm⟩
    ·exact absurd rfl hk
   rw [hk1.1];simp only [gA,Bool.and_eq_true,Bool.or_eq_true,decide_eq_true_eq] at hp
   rcases hp.2 with h5 | h5
   ·omega
   ·cases hl:p.getLast? with
    | none=>simp [hl] at h5
    | some y=>
     simp only [hl,Bool.and_eq_true,decide_eq_true_eq] at h5;have hy:y∈p:=List.mem_of_getLast? hl;have hz:(⟨0,0,0,0,0,0,0⟩:Mono).key=(bAl n).key:=by simp only [Mono.key,bAl,Mono.E]
     have hyk:y.key=(bAl n).key:=(bNc.1 h5.1).trans hz;have h6:=bUg (f:=fun a=>a.n*ind m.key a) (fun a ha=>Int.mul_nonneg (hg.2 a ha) (ind_nn _ _)) hy;have h7:ind m.key y=1:=by rw [←hk1.1];exact bGs _ _ _ hyk
     have h8:y.n*ind m.key y≤lin (ind m.key) p:=h6;rw [h7] at h8;omega
end
def OfV (k:Nat)(p:List Mono):Prop:= ∀m∈p,∀e∈m.E.drop k,e=0
theorem bCo{p:List Mono}{v:Int}:ofB p v=true↔OfV (clampK v) p∧cU p=true:=by
 unfold ofB OfV;rw [Bool.and_eq_true];refine and_congr_left fun _=>?_;simp [List.all_eq_true]
section
variable {k : Nat} {p q : List Mono}
theorem ofV_nil:OfV k []:=fun m h=>by cases h
theorem bVn{m:Mono}{x:Int}{L:List Mono}(hm: ∀e∈m.E.drop k,e=0)(h:OfV k L):OfV k (setTo m x L):=fun y hy=>by
 rcases wO hy with rfl | hy
 ·exact hm
 ·exact h y hy
theorem bFs{g:Mono→Int}: ∀{p L:List Mono},OfV k p→OfV k L→OfV k (gQ g L p)
 | [],_,_,h=>h
 | m::p,L,hp,h=>by
  rw [gQ];exact bFs (fun y hy=>hp y (List.mem_cons_of_mem _ hy)) (bVn (hp m (List.mem_cons_self ..)) h)
theorem ofV_canon{L:List Mono}(h:OfV k L):OfV k (oP L):=fun m hm=>h m (bDd.1 hm).1
theorem bRs{L:List Mono}(h:OfV k L):OfV k (iO L).1:=by
 unfold iO;split
 ·exact ofV_canon h
 ·exact ofV_nil
theorem bPj{c:Int}(hp:OfV k p)(hq:OfV k q):OfV k (bY p q c).1:=by
 unfold bY;split
 ·exact bRs (bFs hq (bFs hp ofV_nil))
 ·exact ofV_nil
theorem ofV_mulM{a b:Mono}(ha: ∀e∈a.E.drop k,e=0)(hb: ∀e∈b.E.drop k,e=0): ∀e∈(mulM a b).E.drop k,e=0:=by
 obtain⟨n,a0,a1,a2,a3,a4,a5⟩:=a;obtain⟨n',b0,b1,b2,b3,b4,b5⟩:=b
 match k with
 | 0 | 1 | 2 | 3 | 4 | 5=>
  simp only [mulM,Mono.E,List.drop_zero,List.drop_succ_cons,List.mem_cons,List.not_mem_nil,or_false,forall_eq_or_imp,forall_eq] at ha hb⊢;simp [ha,hb]
 | k+6=>simp [mulM,Mono.E]
theorem bOc{a:Mono}(ha: ∀e∈a.E.drop k,e=0): ∀{q L:List Mono},OfV k q→OfV k L→OfV k (lQ a L q)
 | [],_,_,h=>h
 | b::q,L,hq,h=>by
  rw [lQ];exact bOc ha (fun y hy=>hq y (List.mem_cons_of_mem _ hy)) (bVn (ofV_mulM ha (hq b (List.mem_cons_self ..))) h)
theorem bQb(hq:OfV k q): ∀{p L:List Mono},OfV k p→OfV k L→OfV k (iT q L p)
 | [],_,_,h=>h
 | a::p,L,hp,h=>by
  rw [iT];exact bQb hq (fun y hy=>hp y (List.mem_cons_of_mem _ hy)) (bOc (hp a (List.mem_cons_self ..)) hq h)
theorem ofV_mul(hp:OfV k p)(hq:OfV k q):OfV k (nJ p q).1:=by
 unfold nJ;split
 ·exact bRs (bQb hq hp ofV_nil)
 ·exact ofV_nil
theorem bDf(n:Int):OfV k (bT n):=fun m hm=>by
 rcases numT_is n with e | e<;>rw [e] at hm
 ·cases hm
 ·rw [List.mem_singleton.1 hm];intro e he;have:=List.mem_of_mem_drop he
  simpa [bAl,Mono.E] using this
theorem ofV_var{j:Nat}(h:j<k∨6≤j):OfV k (rC (j:Nat)).1:=fun m hm=>by
 unfold rC at hm;split at hm
 ·cases hm
 ·rename_i h6;rw [List.mem_singleton.1 hm];have h6:j<6:=n7
  have hk:j<k:=n7
  have e:((j:Nat):Int).toNat=j:=n7
  rw [e]
  match j,h6 with
  | 0,_ | 1,_ | 2,_ | 3,_ | 4,_ | 5,_=>
   match k,hk with
   | 1,_ | 2,_ | 3,_ | 4,_ | 5,_=>first | (intro e he;simp [varM,Mono.E] at he;exact he) | omega
   | k+6,_=>simp [varM,Mono.E]
theorem var_grP(j:Int):GrP (rC j).1:=by
 refine⟨bCt j,fun m hm=>?_⟩;unfold rC at hm;split at hm
 ·cases hm
 ·rw [List.mem_singleton.1 hm];show(0:Int)≤1;decide
end
end
section
open Go.RowKit Go.Proofs.Tryz
def TyG (k:Nat)(t:TyP):Prop:=(∀s∈t.sides,fS s=true∧OfV k s)∧ ∀v∈t.values,OfV k v
def OkOp (k:Nat)(op:pF):Prop:= ∀p q,OfV k p→OfV k q→OfV k (op p q).1
section
variable {k : Nat}
theorem head_ofV{l:List Pol}(h: ∀v∈l,OfV k v):OfV k (l.headD []):=by
 cases l with
 | nil=>exact ofV_nil
 | cons a r=>exact h a (List.mem_cons_self ..)
theorem head_g{l:List Pol}(h: ∀v∈l,fS v=true∧OfV k v):fS (l.headD [])=true∧OfV k (l.headD []):=by
 cases l with
 | nil=>exact⟨o9,ofV_nil⟩
 | cons a r=>exact h a (List.mem_cons_self ..)
theorem numG{n:Int}(h:0≤n):fS (bT n)=true∧OfV k (bT n):=⟨tG.2 (bSd h),bDf n⟩
theorem pH{S:List Pol}(h: ∀s∈S,fS s=true∧OfV k s):TyG k ⟨S,false,[]⟩:=⟨h,fun _ h=>(by cases h)⟩
theorem none_g:TyG k ⟨[],false,[]⟩:=pH fun _ h=>(by cases h)
theorem literal_g(nums:List Int):TyG k (jC nums):=by
 have hs: ∀s∈(if 1<nums.length then [bT nums.length] else ([]:List Pol)),fS s=true∧OfV k s:=by
  split
  ·exact fun s hs=>by rw [List.mem_singleton.1 hs];exact numG n7
  ·exact fun s hs=>(by cases hs)
 unfold jC;split
 ·exact pH hs
 ·refine⟨hs,fun v hv=>?_⟩;obtain⟨n,_,rfl⟩:=List.mem_map.1 hv;exact bDf n
theorem ravel_g: ∀{S:List Pol} {p q:Pol},GrP p→OfV k p→(∀s∈S,fS s=true∧OfV k s)→lK p S=some q→fS q=true∧OfV k q
 | [],p,q,hp,ho,_,h=>by cases h;exact⟨tG.2 hp,ho⟩
 | s::r,p,q,hp,ho,hS,h=>by
  unfold lK at h;split at h
  ·cases h
  ·rename_i h0;have hs:=hS s (List.mem_cons_self ..);exact ravel_g (mul_grP hp (tG.1 hs.1) (Prod.ext rfl (by simpa using h0))) (ofV_mul ho hs.2) (fun x hx=>hS x (List.mem_cons_of_mem _ hx)) h
theorem zip_ofV{op:pF}(ho:OkOp k op): ∀{X Y l:List Pol},(∀v∈X,OfV k v)→(∀v∈Y,OfV k v)→yU op X Y=some l→ ∀v∈l,OfV k v
 | [],_,l,_,_,h=>by cases h;intro v hv;cases hv
 | _::_,[],_,_,_,h=>by cases h
 | p::x,q::y,l,hX,hY,h=>by
  unfold yU at h;split at h
  ·cases h
  ·cases e:yU op x y with
   | none=>rw [e] at h;cases h
   | some z=>
    rw [e] at h;cases h;intro v hv
    rcases List.mem_cons.1 hv with rfl | hv
    ·exact ho p q (hX p (List.mem_cons_self ..)) (hY q (List.mem_cons_self ..))
    ·exact zip_ofV ho (fun v hv=>hX v (List.mem_cons_of_mem _ hv)) (fun v hv=>hY v (List.mem_cons_of_mem _ hv)) e v hv
theorem rep_ofV{x:List Pol}{n:Nat}(h: ∀v∈x,OfV k v): ∀v∈repT x n,OfV k v:=fun v hv=>by
 obtain⟨y,hy,hv⟩:=List.mem_flatten.1 hv;rw [(List.mem_replicate.1 hy).2] at hv;exact h v hv
theorem each_g{op:Option pF}{a b:TyP}(ho: ∀o,op=some o→OkOp k o)(ha: ∀v∈a.values,OfV k v)(hb: ∀v∈b.values,OfV k v): ∀v∈(lR op a b).1,OfV k v:=by
 unfold lR
 cases op with
 | none=>exact fun v h=>(by cases h)
 | some o=>
  dsimp only;split
  ·exact fun v h=>(by cases h)
  ·split
   ·exact fun v h=>(by cases h)
   ·rename_i l e;refine zip_ofV (ho o rfl) ?_ ?_ e
    ·unfold xI;split
     ·exact rep_ofV ha
     ·exact ha
    ·unfold uF;split
     ·exact rep_ofV hb
     ·exact hb
theorem bKt(c:Int):OkOp k fun p q=>bY p q c:=fun _ _ hp hq=>bPj hp hq
theorem opOf_ok{f:Int}{o:pF}(h:xF f=some o):OkOp k o:=by
 unfold xF at h;split at h
 ·cases h;exact bKt 1
 ·split at h
  ·cases h;exact bKt (-1)
  ·split at h
   ·cases h;exact fun _ _ hp hq=>ofV_mul hp hq
   ·cases h
theorem monad_g{f:Int}{a:TyP}(ha:TyG k a):TyG k (fA f a).1:=by
 unfold fA;split
 ·split
  ·exact ha
  ·split
   ·exact ha
   ·split
    ·exact ha
    ·rename_i hg;exact pH (fun s h=>by rw [List.mem_singleton.1 h];exact⟨by simpa using hg,head_ofV ha.2⟩)
 ·split
  ·exact⟨fun s h=>by rw [List.mem_singleton.1 h];exact numG n7,fun v hv=>(ha.1 v hv).2⟩
  ·split
   ·split
    ·exact ha
    ·rename_i p hp;exact⟨fun s h=>by rw [List.mem_singleton.1 h];exact ravel_g (bSd n7) (bDf 1) ha.1 hp,ha.2⟩
   ·split
    ·dsimp only;split
     ·exact⟨ha.1,fun v h=>ha.2 v (List.mem_reverse.1 h)⟩
     ·exact ha
    ·split
     ·exact⟨fun s h=>ha.1 s (List.mem_reverse.1 h),ha.2⟩
     ·split
      ·exact ha
      ·split
       ·exact⟨ha.1,each_g (fun o h=>by cases h;exact bKt (-1)) (fun v h=>by rw [List.mem_singleton.1 h];exact ofV_nil) ha.2⟩
       ·exact pH ha.1
theorem rho_g{a b:TyP}(ha:TyG k a):TyG k (bBj a b).1:=by
 unfold bBj;split
 ·exact ha
 ·split
  ·exact ha
  ·split
   ·exact ha
   ·rename_i hg;split
    ·exact ha
    ·refine pH fun s hs=>⟨?_,ha.2 s hs⟩
     have hg: ∀v∈a.values,fS v=true:=by simpa using hg
     exact hg s hs
theorem part_g{tk:Bool}{a b:TyP}(ha:TyG k a)(hb:TyG k b):TyG k (kO tk a b).1:=by
 unfold kO;split
 ·exact ha
 ·split
  ·exact ha
  ·split
   ·exact ha
   ·rename_i n hn;split
    ·exact ha
    ·rename_i hc;have hc:gA (b.sides.headD []) (max n (-n))=true:=by simpa using hc
     have hvr: ∀v∈(if b.known=true then yX tk n b.values else b.values),OfV k v:=by
      split
      ·exact cut_all hb.2
      ·exact hb.2
     split
     ·rename_i ht;subst ht;refine⟨fun s h=>?_,hvr⟩
      rcases List.mem_cons.1 h with rfl | h
      ·exact numG n7
      ·exact hb.1 s (xG h)
     ·rename_i ht;have ht:tk=false:=by simpa using ht
      subst ht;split
      ·exact ha
      ·rename_i he;refine⟨fun s h=>?_,hvr⟩
       rcases List.mem_cons.1 h with rfl | h
       ·exact⟨tG.2 (sub_grP n7 hc (Prod.ext rfl (by simpa using he))),bPj (head_g hb.1).2 (bDf _)⟩
       ·exact hb.1 s (xG h)
theorem one_g{l:List Pol}(h: ∀s∈l,fS s=true∧OfV k s): ∀s∈cX l,fS s=true∧OfV k s:=by
 unfold cX;split
 ·exact fun s h=>by rw [List.mem_singleton.1 h];exact numG n7
 ·exact h
theorem cat_g{a b:TyP}(ha:TyG k a)(hb:TyG k b):TyG k (bAs a b).1:=by
 unfold bAs;split
 ·exact ha
 ·split
  ·exact ha
  ·rename_i he;have h1:=head_g (one_g ha.1);have h2:=head_g (one_g hb.1)
   have hsr: ∀s∈(bY ((cX a.sides).headD []) ((cX b.sides).headD []) 1).1::(cX b.sides).tail,fS s=true∧OfV k s:=fun s h=>by
    rcases List.mem_cons.1 h with rfl | h
    ·exact⟨tG.2 (add_grP (tG.1 h1.1) (tG.1 h2.1) (Prod.ext rfl (by simpa using he))),bPj h1.2 h2.2⟩
    ·exact one_g hb.1 s (xG h)
   split
   ·refine⟨hsr,fun v h=>?_⟩
    rcases List.mem_append.1 h with h | h
    ·exact ha.2 v h
    ·exact hb.2 v h
   ·exact pH hsr
theorem dyad_g{f:Int}{a b:TyP}(ha:TyG k a)(hb:TyG k b):TyG k (kI f a b).1:=by
 unfold kI;split
 ·exact rho_g ha
 ·split
  ·exact part_g ha hb
  ·split
   ·exact part_g ha hb
   ·split
    ·exact cat_g ha hb
    ·split
     ·exact pH ha.1
     ·refine⟨?_,each_g (fun o h=>opOf_ok h) ha.2 hb.2⟩;dsimp only;split
      ·exact hb.1
      ·exact ha.1
def vZ (k:Nat)(N:dT):Prop:= ∀q∈N,TyG k q.2
theorem look_g{N:dT}(h:vZ k N){s:Bs}{t:TyP}(e:nA s N=some t):TyG k t:=by
 obtain⟨p,hp,rfl⟩:=bKc e;exact h p hp
theorem name_tg{N:dT}(h:vZ k N){s:Bs}{t:TyP}(e:nameT N s=some t):TyG k t:=by
 unfold nameT at e;split at e
 ·rename_i h1;cases e;exact look_g h h1
 ·split at e
  ·rename_i h1;cases e;exact look_g h h1
  ·exact look_g h e
theorem headD_g{st:List TyP}(h: ∀t∈st,TyG k t):TyG k (st.headD default):=by
 cases st with
 | nil=>exact none_g
 | cons a l=>exact h a (List.mem_cons_self ..)
theorem tailD_g{st:List TyP}(h: ∀t∈st,TyG k t):TyG k (st.tail.headD default):=headD_g fun t ht=>h t (List.mem_of_mem_tail ht)
theorem item_g{N:dT}(hN:vZ k N){it:cT}{st:List TyP}(hs: ∀t∈st,TyG k t):TyG k (dB N it st).1:=by
 have h1:=headD_g hs;have h2:=tailD_g hs;unfold dB;split
 ·exact literal_g _
 ·split
  ·split
   ·rename_i e;exact name_tg hN e
   ·exact none_g
  ·split
   ·exact monad_g h1
   ·split
    ·dsimp only;split
     ·exact h1
     ·exact pH (fun s h=>h1.1 s (List.mem_of_mem_take h))
    ·split
     ·dsimp only;split
      ·exact h1
      ·exact pH h1.1
     ·split
      ·exact dyad_g h2 h1
      ·refine pH (fun s h=>?_)
       rcases List.mem_append.1 h with h | h
       ·exact h2.1 s h
       ·exact h1.1 s h
end
theorem varsG{k n:Nat}(hk:k=n∨(6≤n∧k=6)): ∀{l:List Bs} {j:Nat} {N:dT},vZ k N→j+l.length≤n→vZ k (vR l j N)
 | [],_,_,h,_=>h
 | s::l,j,N,h,hl=>by
  rw [vR];refine varsG hk (fun q hq=>?_) (by simp at hl;omega)
  rcases List.mem_cons.1 hq with rfl | hq
  ·exact⟨fun s h=>(by cases h),fun v hv=>by rw [List.mem_singleton.1 hv];exact ofV_var (by simp at hl;omega)⟩
  ·exact h q hq
theorem clamp_or(n:Nat):clampK (n:Nat)=n∨(6≤n∧clampK (n:Nat)=6):=by
 unfold clampK;omega
theorem few_no{vars:List Bs}{x:gM}(h:bDv vars x=false){d:pN}(hd:d∈x.sides):(d.name=[]→0≤d.n)∧gF d.name vars 0<6:=by
 unfold bDv at h;rw [List.any_eq_false] at h;have h:=h d hd;simp only [Bool.or_eq_true,Bool.and_eq_true,beq_iff_eq,decide_eq_true_eq,not_or] at h;refine⟨fun e=>?_,n7⟩;have:bGz d.n=false:=by simpa [e] using h.1
 exact(badN_no this).1
theorem bHp{p:gN}{x:gM}(hx:x∈p.inputs)(hf:bDv (cJ p) x=false): ∀s∈(inT (cJ p) x).sides,fS s=true∧OfV (clampK ((cJ p).length:Nat)) s:=fun s hs=>by
 obtain⟨d,hd,rfl⟩:=List.mem_map.1 hs;unfold bPo;split
 ·rename_i h0
  rcases bBn d.name (cJ p) 0 with h2 | ⟨j,h2,h3,_⟩
  ·have h2:gF d.name (cJ p) 0= -1:=h2;omega
  ·have h2:gF d.name (cJ p) 0=((0+j:Nat):Int):=h2;rw [h2,Nat.zero_add];exact⟨tG.2 (var_grP _),ofV_var (by have:=clamp_or (cJ p).length;omega)⟩
 ·rename_i h0
  have hn:d.name=[]:=Classical.byContradiction fun hn=>by
   obtain⟨j,_,h4⟩:=side_var hx hd hn rfl;omega
  exact numG ((few_no hf hd).1 hn)
theorem insG{p:gN}: ∀{l:List gM} {N:dT},(∀x∈l,x∈p.inputs∧bDv (cJ p) x=false)→vZ (clampK ((cJ p).length:Nat)) N→vZ (clampK ((cJ p).length:Nat)) (bOi (cJ p) l N)
 | [],_,_,h=>h
 | x::l,N,hl,h=>by
  rw [bOi];refine insG (fun y hy=>hl y (List.mem_cons_of_mem _ hy)) (fun q hq=>?_)
  rcases List.mem_cons.1 hq with rfl | hq
  ·exact pH (bHp (hl x (List.mem_cons_self ..)).1 (hl x (List.mem_cons_self ..)).2)
  ·exact h q hq
theorem no_few{p:gN}(h:(fI p).2=(0,0)): ∀x∈p.inputs,bDv (cJ p) x=false:=by
 unfold fI at h;split at h
 ·cases h
 ·cases e:p.inputs.find? (bDv (cJ p)) with
  | some x=>rw [e] at h;exact absurd (show(80:Int)=0 from congrArg Prod.snd h) o9
  | none=>
   intro x hx;have:=List.find?_eq_none.1 e x hx
   simpa using this
theorem check_g{p:gN}(h:(fI p).2=(0,0)):vZ (clampK ((cJ p).length:Nat)) (pM p):=
 insG (fun x hx=>⟨hx,no_few h x hx⟩) (varsG (clamp_or _) (fun q hq=>(by cases hq)) n7)
theorem bFi: ∀(ds:List pN) (out:List Bs),out<+:nD ds out
 | [],_=>List.prefix_refl _
 | d::r,out=>by
  rw [nD];split
  ·exact bFi r out
  ·exact(List.prefix_append out [d.name]).trans (bFi r _)
theorem bUh{s:Bs}: ∀{a r:List Bs} {i:Int},s∉a→gF s (a++s::r) i=i+a.length
 | [],r,i,_=>by simp [gF]
 | x::a,r,i,h=>by
  rw [List.cons_append,gF,if_neg (fun e=>h (by rw [e];exact List.mem_cons_self ..)),bUh fun k=>h (List.mem_cons_of_mem _ k)];simp;omega
theorem vars_six: ∀{ds:List pN} {out:List Bs},(∀d∈ds,gF d.name (nD ds out) 0<6)→out.length≤6→(nD ds out).length≤6
 | [],_,_,h=>h
 | d::r,out,hd,h=>by
  have h1:=hd d (List.mem_cons_self ..);rw [nD] at hd h1⊢;refine vars_six (fun e he=>hd e (List.mem_cons_of_mem _ he)) ?_;split
  ·exact h
  ·rename_i hn;rw [if_neg hn] at h1;obtain⟨z,hz⟩:=bFi r (out++[d.name]);rw [←hz,List.append_assoc,List.singleton_append,bUh (fun hm=>hn (.inr (by simpa using hm)))] at h1;simp;omega
theorem six_vars{p:gN}(h:(fI p).2=(0,0)):(cJ p).length≤6:=by
 refine vars_six (fun d hd=>?_) o6;obtain⟨x,hx,hd⟩:=List.mem_flatMap.1 hd;exact(few_no (no_few h x hx) hd).2
end
section
open Go.RowKit Go.Proofs.Tryz
def Dp (l:List OpC)(a d:Int):Prop:= ∀(r:List OpC) (most now:Int),a≤now→0≤most→ ∃m,0≤m∧vP (l++r) most now=vP r m (now+d)
theorem dp_nil{a:Int}:Dp [] a 0:=fun r most now _ hm=>⟨most,hm,by rw [Int.add_zero];rfl⟩
theorem dp_app{l l':List OpC}{a d d':Int}(h:Dp l a d)(h':Dp l' (a+d) d'):Dp (l++l') a (d+d'):=fun r most now ha hm=>by
 obtain⟨m,h1,h2⟩:=h (l'++r) most now ha hm;obtain⟨m',h3,h4⟩:=h' r m (now+d) n7 h1;exact⟨m',h3,by rw [List.append_assoc,h2,h4,Int.add_assoc]⟩
theorem dp_one{o:OpC}{t:Int}(h:fQ o.how=t)(h0:0≤t):Dp [o] t (1-t):=fun r most now ha hm=>by
 refine⟨max most (now+(1-t)),n7,?_⟩;rw [List.singleton_append,vP,h,if_neg n7]
theorem dp_weak{l:List OpC}{a a' d:Int}(h:Dp l a d)(k:a≤a'):Dp l a' d:=fun r most now ha hm=>h r most now n7 hm
theorem dp_depth{l:List OpC}(h:Dp l 0 1):0≤bAg l:=by
 obtain⟨m,h1,h2⟩:=h [] 0 0 n7 n7;unfold bAg;rw [List.append_nil] at h2;rw [h2];show 0≤(if (0:Int)+1=1 then m else-1);rw [if_pos n7];exact h1
structure Pc (Q:OpC→Prop) (a d:Int) (n:Nat) (l:List OpC):Prop where
 dp:Dp l a d
 ok: ∀o∈l,Q o
 len:l.length≤n
section
variable {Q : OpC → Prop} {a a' d d' : Int} {n n' : Nat} {l l' : List OpC}
theorem wL:Pc Q a 0 0 []:=⟨dp_nil,fun o h=>(by cases h),Nat.le_refl _⟩
theorem Pc.app(h:Pc Q a d n l)(h':Pc Q (a+d) d' n' l'):Pc Q a (d+d') (n+n') (l++l'):=⟨dp_app h.dp h'.dp,fun o ho=>by
 rcases List.mem_append.1 ho with ho | ho
 ·exact h.ok o ho
 ·exact h'.ok o ho,by rw [List.length_append];have:=h.len;have:=h'.len;omega⟩
theorem Pc.to(h:Pc Q a d n l)(h1:a≤a')(h2:d=d')(h3:n≤n'):Pc Q a' d' n' l:=by
 subst h2;exact⟨dp_weak h.dp h1,h.ok,Nat.le_trans h.len h3⟩
theorem pc_one{o:OpC}{t:Int}(hq:Q o)(h:fQ o.how=t)(h0:0≤t):Pc Q t (1-t) 1 [o]:=⟨dp_one h h0,fun x hx=>by rw [List.mem_singleton.1 hx];exact hq,o6⟩
theorem pc_0{o:OpC}(hq:Q o)(h:fQ o.how=0)(h0:0≤a):Pc Q a 1 1 [o]:=(pc_one hq h n7).to h0 n7 (Nat.le_refl _)
theorem pc_1{o:OpC}(hq:Q o)(h:fQ o.how=1)(h0:1≤a):Pc Q a 0 1 [o]:=(pc_one hq h n7).to h0 n7 (Nat.le_refl _)
theorem bSj{o:OpC}(hq:Q o)(h:fQ o.how=2)(h0:2≤a):Pc Q a (-1) 1 [o]:=(pc_one hq h n7).to h0 n7 (Nat.le_refl _)
theorem bVz{I:bDr}(h1:Q (oD 1))(h3:Q (oD 3)): ∀{S:List Pol} {k:Nat} {out:List OpC} {n:Nat},(∀s∈S,Q (oV s))→(∀j,k≤j→j<k+S.length→Pc Q 0 1 5 (I j))→Pc Q 0 1 n out→Pc Q 0 1 (n+8*S.length) (yI I k S out)
 | [],k,out,n,_,_,h=>h.to n7 rfl o6
 | s::r,k,out,n,hS,hI,h=>by
  rw [yI]
  have hp:Pc Q 0 1 (n+8) ([out,[oV s],[oD 3],I k,[oD 1]].flatten):=by
   refine Pc.to (a:=0) (h.app ((pc_0 (hS s (List.mem_cons_self ..)) rfl n7).app ((bSj h3 rfl n7).app (((hI k (Nat.le_refl _) o6).to n7 rfl (Nat.le_refl _)).app ((bSj h1 rfl n7).app wL))))) n7 n7 n7
  have:=bVz h1 h3 (S:=r) (k:=k+1) (fun x hx=>hS x (List.mem_cons_of_mem _ hx)) (fun j h1 h2=>hI j n7 q8) hp;exact this.to n7 rfl q8
theorem pc_spot{I:bDr}{S:List Pol}(h0:Q (oN 0))(h1:Q (oD 1))(h3:Q (oD 3))(hS: ∀s∈S,Q (oV s))(hI: ∀j,j<S.length→Pc Q 0 1 5 (I j)):Pc Q 0 1 (5+8*S.length) (spotL S I):=by
 unfold spotL
 cases S with
 | nil=>exact(pc_0 (a:=0) h0 rfl n7).to n7 rfl o6
 | cons s r=>exact(bVz h1 h3 (fun x hx=>hS x (List.mem_cons_of_mem _ hx)) (fun j h1 h2=>hI j q8) (hI 0 o6)).to n7 rfl q8
theorem pc_size(h3:Q (oD 3)): ∀{S:List Pol} {out:List OpC} {n:Nat},(∀s∈S,Q (oV s))→Pc Q 0 1 n out→Pc Q 0 1 (n+2*S.length) (bHv S out)
 | [],out,n,_,h=>h.to n7 rfl o6
 | s::r,out,n,hS,h=>by
  rw [bHv]
  have hp:Pc Q 0 1 (n+2) ([out,[oV s],[oD 3]].flatten):=
   Pc.to (a:=0) (h.app ((pc_0 (hS s (List.mem_cons_self ..)) rfl n7).app ((bSj h3 rfl n7).app wL))) n7 n7 n7
  exact(pc_size h3 (fun x hx=>hS x (List.mem_cons_of_mem _ hx)) hp).to n7 rfl q8
end
def OkO (vars loops buf:Int)(M:Nat→Prop)(o:OpC):Prop:= ∀made:List Bool,(∀k,M k→made.getD k false=true)→opB vars loops buf made o=true
section
variable {vars loops buf : Int} {M : Nat → Prop}
theorem okN(n:Int):OkO vars loops buf M (oN n):=fun _ _=>rfl
theorem okV{p:Pol}(h:ofB p vars=true):OkO vars loops buf M (oV p):=fun made _=>by
 show(ofB p vars&&true)=true;rw [h];rfl
theorem okI{k:Nat}(h:(k:Int)<loops):OkO vars loops buf M (oI k):=fun made _=>by
 show(decide (0≤(k:Int)∧(k:Int)<loops)&&true)=true;rw [decide_eq_true n7];rfl
theorem okL{k:Nat}(h:M k)(hb:(k:Int)≠buf):OkO vars loops buf M (oL k):=fun made hm=>by
 show(decide (0≤(k:Int)∧(k:Int)≠buf)&&(made.getD (k:Int).toNat false&&true))=true;rw [decide_eq_true n7,show(k:Int).toNat=k by omega,hm k h];rfl
theorem okMn{f:Int}(h:gZ f false=true):OkO vars loops buf M (oM f):=fun made _=>by
 show(gZ f false&&true)=true;rw [h];rfl
theorem okD{f:Int}(h:gZ f true=true):OkO vars loops buf M (oD f):=fun made _=>by
 show(gZ f true&&true)=true;rw [h];rfl
def OkS (vars:Int)(M:Nat→Prop)(x:zI):Prop:= ∀made:List Bool,(∀k,M k→made.getD k false=true)→uP vars made x=true
theorem okS{b:Int}{at_:Pol}{lo:List Pol}{ops:List OpC}{n:Nat}(ha:ofB at_ vars=true∧fS at_=true)(hl:lB lo vars=true)(h:Pc (OkO vars lo.length b M) 0 1 n ops)(hn:n≤256){how f:Int}
  (hh:(how=1∧f=0)∨((how=2∨how=3)∧lo≠[]∧gZ f true=true)):OkS vars M ⟨how,b,at_,lo,f,ops⟩:=fun made hm=>by
 unfold uP;simp only [ha.1,ha.2,hl,Bool.and_self,Bool.true_and,Bool.and_eq_true,decide_eq_true_eq];refine⟨Nat.le_trans h.len hn,dp_depth h.dp,?_,List.all_eq_true.2 fun o ho=>h.ok o ho made hm⟩
 rcases hh with ⟨rfl,rfl⟩ | ⟨hh,h1,h2⟩
 ·rfl
 ·rw [if_neg n7,if_pos hh,h2]
  cases lo with
  | nil=>exact absurd rfl h1
  | cons a r=>rfl
end
def rF (nI:Nat)(l:List zI)(k:Nat):Prop:=k<nI∨ ∃x∈l,x.buf=(k:Int)
structure RI (vars:Int) (nI:Nat) (s:LoS) (m:Nat):Prop where
 bf: ∀b∈s.bufs,lB b.sides vars=true
 inp: ∀(k:Nat) b,s.bufs[k]?=some b→(k<nI→b.input=(k:Int))∧(nI≤k→b.input= -1)
 n:nI≤s.bufs.length
 md: ∀k,k<s.bufs.length→rF nI s.steps k
 st: ∀(i:Nat) x,s.steps[i]?=some x→(∃b:Nat,x.buf=(b:Int)∧nI≤b∧b<m)∧OkS vars (rF nI (s.steps.take i)) x
structure OkR (vars:Int) (s:LoS) (v:iA):Prop where
 buf: ∃k:Nat,v.buf=(k:Int)∧k<s.bufs.length
 wf:WfT v.t
 g:TyG (clampK vars) v.t
section
variable {vars : Int} {nI m : Nat} {s s' : LoS}
theorem OkR.ext{v:iA}(h:OkR vars s v)(e:Ext s s'):OkR vars s' v:=by
 obtain⟨k,h1,h2⟩:=h.buf;exact⟨⟨k,h1,Nat.lt_of_lt_of_le h2 e.1.length_le⟩,h.wf,h.g⟩
theorem growC_of{l:List Pol}(hl:l.length≤4)(hr: ∀p∈l,cU p=true)(hg: ∀p∈l,fS p=true∧OfV (clampK vars) p):lB l vars=true:=by
 unfold lB;rw [Bool.and_eq_true];refine⟨List.all_eq_true.2 fun p hp=>?_,decide_eq_true hl⟩;rw [bCo.2 ⟨(hg p hp).2,hr p hp⟩,(hg p hp).1];rfl
theorem vL{t:TyP}(h:WfT t)(k:TyG (clampK vars) t):lB t.sides vars=true:=growC_of h.len h.sr k.1
theorem bUp{t:TyP}(h:WfT t)(k:TyG (clampK vars) t){p:Pol}(hp:p∈t.sides):ofB p vars=true:=bCo.2 ⟨(k.1 p hp).2,h.sr p hp⟩
theorem nil_ofB:ofB [] vars=true:=bCo.2 ⟨ofV_nil,rfl⟩
theorem num_of(n:Int):ofB (bT n) vars=true:=bCo.2 ⟨bDf n,mN n⟩
theorem nil_grow:lB [] vars=true:=rfl
theorem RI.step(h:RI vars nI s (s.bufs.length+1)){how f:Int}{at_:Pol}{lo:List Pol}{ops:List OpC}(hx:OkS vars (rF nI s.steps) ⟨how,s.bufs.length,at_,lo,f,ops⟩):RI vars nI (tC how at_ lo f ops s) (s.bufs.length+1):=by
 refine⟨h.bf,h.inp,h.n,fun k hk=>?_,fun i x hi=>?_⟩
 ·rcases h.md k hk with h1 | ⟨x,hx,e⟩
  ·exact .inl h1
  ·exact .inr ⟨x,List.mem_append_left _ hx,e⟩
 ·have hi:(s.steps++[⟨how,s.bufs.length,at_,lo,f,ops⟩])[i]?=some x:=hi;rw [List.getElem?_append] at hi;split at hi
  ·rename_i hl;have:=h.st i x hi;show(∃b:Nat,x.buf=(b:Int)∧nI≤b∧b<_)∧OkS vars (rF nI ((s.steps++[_]).take i)) x;rw [List.take_append_of_le_length n7];exact this
  ·rename_i hl
   have e:i=s.steps.length∧x=⟨how,s.bufs.length,at_,lo,f,ops⟩:=by
    match hj:i-s.steps.length,hi with
    | 0,hi=>simp at hi;exact⟨n7,hi.symm⟩
    | j+1,hi=>simp at hi
   obtain⟨rfl,rfl⟩:=e;refine⟨⟨s.bufs.length,rfl,h.n,n7⟩,?_⟩;show OkS vars (rF nI ((s.steps++[_]).take s.steps.length)) _;rw [List.take_left];exact hx
theorem RI.up(h:RI vars nI s m)(k:m≤s.bufs.length+1):RI vars nI s (s.bufs.length+1):=⟨h.bf,h.inp,h.n,h.md,fun i x hi=>by
 obtain⟨⟨b,h1,h2,h3⟩,h4⟩:=h.st i x hi
 exact⟨⟨b,h1,h2,n7⟩,h4⟩⟩
def pJ (s:LoS):Prop:= ∃x∈s.steps,x.buf=(s.bufs.length:Int)
theorem bAd{how f:Int}{at_:Pol}{lo:List Pol}{ops:List OpC}:pJ (tC how at_ lo f ops s):=⟨⟨how,s.bufs.length,at_,lo,f,ops⟩,List.mem_append_right _ (List.mem_singleton.2 rfl),rfl⟩
theorem RI.put(h:RI vars nI s (s.bufs.length+1))(hh:pJ s){t:TyP}(ht:WfT t)(hg:TyG (clampK vars) t){n:Nat}{st:List iA}(hs: ∀v∈st,OkR vars s v){x:List iA×LoS}(k:yV t n st s= .ok x):
  RI vars nI x.2 x.2.bufs.length∧ ∀v∈x.1,OkR vars x.2 v:=by
 have he:=xZ k;obtain⟨e1,e2,_,_⟩:=put_ok k;have hb:x.2.bufs=s.bufs++[⟨t.sides,-1⟩]:=by rw [e2]
 have hst:x.2.steps=s.steps:=by rw [e2]
 have hl:x.2.bufs.length=s.bufs.length+1:=by rw [hb];simp
 refine⟨⟨fun b hm=>?_,fun k b hk=>?_,by have:=h.n;omega,fun k hk=>?_,fun i y hi=>?_⟩,fun v hv=>?_⟩
 ·rw [hb] at hm
  rcases List.mem_append.1 hm with hm | hm
  ·exact h.bf b hm
  ·rw [List.mem_singleton.1 hm];exact vL ht hg
 ·rw [hb,List.getElem?_append] at hk;split at hk
  ·exact h.inp k b hk
  ·rename_i hn
   have e:b=⟨t.sides,-1⟩:=by
    match hj:k-s.bufs.length,hk with
    | 0,hk=>simp at hk;exact hk.symm
    | j+1,hk=>simp at hk
   rw [e];exact⟨fun k1=>by have:=h.n;omega,fun _=>rfl⟩
 ·rw [hst]
  by_cases hk1:k<s.bufs.length
  ·exact h.md k hk1
  ·obtain⟨y,hy,e⟩:=hh;exact .inr ⟨y,hy,by rw [e];omega⟩
 ·rw [hst] at hi⊢;rw [hl];exact h.st i y hi
 ·rw [e1] at hv
  rcases List.mem_cons.1 hv with rfl | hv
  ·exact⟨⟨s.bufs.length,rfl,n7⟩,ht,hg⟩
  ·exact(hs v (List.mem_of_mem_drop hv)).ext he
end
end
section
open Go.RowKit Go.Proofs.Tryz
theorem last_ofV{two:Bool}{f:Int}: ∀{l:List Bs} {acc:Bs},bAv two f l acc≠[]→acc≠[]∨ ∃s∈l,fG s two=f∧fG s two≠0
 | [],acc,h=> .inl h
 | s::r,acc,h=>by
  rw [bAv] at h
  rcases last_ofV h with h | ⟨x,hx,e⟩
  ·split at h
   ·rename_i hb;simp only [Bool.and_eq_true,bne_iff_ne,beq_iff_eq] at hb;exact .inr ⟨s,List.mem_cons_self ..,hb.2,hb.1⟩
   ·exact .inl h
  ·exact .inr ⟨x,List.mem_cons_of_mem _ hx,e⟩
theorem text_of{two:Bool}{f:Int}(h:lE two f≠[]): ∃s∈dU,fG s two=f∧fG s two≠0:=by
 rcases last_ofV h with h | h
 ·exact absurd rfl h
 ·exact h
theorem words_one: ∀s∈dU,fG s false=0∨(32≤fG s false∧fG s false≤36)∨gZ (fG s false) false=true:=by decide+kernel
theorem words_two: ∀s∈dU,fG s true=0∨(37≤fG s true∧fG s true≤40)∨gZ (fG s true) true=true:=by decide+kernel
structure FnOk (x:cT):Prop where
 one:x.how=3→(32≤x.fn∧x.fn≤36)∨gZ x.fn false=true
 two:x.how=4→(37≤x.fn∧x.fn≤40)∨gZ x.fn true=true
 all:x.how=5∨x.how=6∨x.how=7→gZ x.fn true=true
theorem text_one{f:Int}(h:lE false f≠[]):(32≤f∧f≤36)∨gZ f false=true:=by
 obtain⟨s,hs,rfl,h0⟩:=text_of h
 rcases words_one s hs with k | k
 ·exact absurd k h0
 ·exact k
theorem text_two{f:Int}(h:lE true f≠[]):(37≤f∧f≤40)∨gZ f true=true:=by
 obtain⟨s,hs,rfl,h0⟩:=text_of h
 rcases words_two s hs with k | k
 ·exact absurd k h0
 ·exact k
theorem step_fn{st st':List fC}{x:cT}(h:iF st x=some st'):FnOk x:=by
 unfold iF at h;split at h
 ·exact⟨fun _=>by omega,fun _=>by omega,fun _=>by omega⟩
 ·split at h
  ·cases h
  ·rename_i hk;simp only [not_or,ne_eq] at hk;have hv:(verbS x).1≠[]:=hk.2.2.2.2;unfold verbS at hv;refine⟨fun e=>?_,fun e=>?_,fun e=>?_⟩
   ·rw [if_pos e] at hv;exact text_one hv
   ·rw [if_neg n7,if_pos (.inr e)] at hv;exact text_two hv
   ·rw [if_neg n7] at hv;split at hv
    ·rename_i h2
     rcases h2 with h2 | h2
     ·exact absurd h2 hv
     ·omega
    ·rename_i h2;rw [not_or] at h2;split at hv
     ·exact absurd rfl hv
     ·rcases text_two h2.1 with k | k
      ·omega
      ·exact k
theorem steps_fn: ∀{l:List cT} {st st':List fC},fT l st=some st'→ ∀x∈l,FnOk x
 | [],_,_,_,x,hx=>by simp at hx
 | y::l,st,st',h,x,hx=>by
  rw [fT] at h
  cases h1:iF st y with
  | none=>rw [h1] at h;cases h
  | some s1=>
   rw [h1] at h
   rcases List.mem_cons.1 hx with rfl | hx
   ·exact step_fn h1
   ·exact steps_fn h x hx
theorem expr_fn{l:List cT}{m:Nat}{t:Bs}(h:gH l m=some t): ∀x∈l,FnOk x:=by
 unfold gH at h;split at h
 ·cases h
 ·split at h
  ·rename_i hq;exact steps_fn hq
  ·cases h
theorem lines_fn: ∀{ls:List mT} {o o':Bs},fB ls o=(o',true)→ ∀l∈ls,∀x∈l.items,FnOk x
 | [],_,_,_,l,hl=>by simp at hl
 | [m],o,o',h,l,hl=>by
  rw [List.mem_singleton.1 hl];simp only [fB] at h
  cases hx:gH m.items 255 with
  | none=>rw [hx] at h;simp at h
  | some t=>exact expr_fn hx
 | m::n::ls,o,o',h,l,hl=>by
  have h':(match gH m.items 254 with
    | none=>(o,false)
    | some t=>if dD m.name=false then (o,false) else fB (n::ls) (o++(((m.name++[58,32])++t)++[10])))=(o',true):=h
  cases hx:gH m.items 254 with
  | none=>rw [hx] at h';simp at h'
  | some t=>
   rw [hx] at h';simp only at h';split at h'
   ·simp at h'
   ·rcases List.mem_cons.1 hl with rfl | hl
    ·exact expr_fn hx
    ·exact lines_fn h' l hl
theorem right_fn{p:gN}(h:(cV p).2=true):(∀l∈p.lines,∀x∈l.items,FnOk x)∧p.inputs.length+p.lines.length≤64∧p.lines≠[]:=by
 unfold cV at h;split at h
 ·cases h
 ·rename_i hn;rw [not_or] at hn
  cases hi:mU p.inputs [] with
  | mk o b=>
   rw [hi] at h
   cases b with
   | false=>cases h
   | true=>exact⟨lines_fn (o':=(fB p.lines o).1) (Prod.ext rfl h),n7,hn.1⟩
section
variable {vars : Int} {nI m : Nat} {s : LoS} {a b : iA}
theorem pc_at{lo:Int}{I:bDr}(hR:RI vars nI s m)(ha:OkR vars s a)(hI: ∀j,j<a.t.sides.length→Pc (OkO vars lo s.bufs.length (rF nI s.steps)) 0 1 5 (I j)):Pc (OkO vars lo s.bufs.length (rF nI s.steps)) 0 1 38 (atL a I):=by
 obtain⟨k,h1,h2⟩:=ha.buf;unfold atL;rw [h1];refine Pc.to (a:=0) ((pc_spot (okN 0) (okD o9) (okD o9) (fun s hs=>okV (bUp ha.wf ha.g hs)) hI).app (pc_1 (okL (hR.md k h2) n7) rfl n7)) n7 n7 ?_;have:=ha.wf.len;omega
theorem pc_from{lo:Int}{first:Nat}(hR:RI vars nI s m)(ha:OkR vars s a)(hl:((first+a.t.sides.length:Nat):Int)≤lo):Pc (OkO vars lo s.bufs.length (rF nI s.steps)) 0 1 38 (fromL a first):=
 pc_at hR ha fun j hj=>(pc_0 (a:=0) (okI n7) rfl n7).to n7 rfl n7
theorem RI.each(h:RI vars nI s (s.bufs.length+1)){lo:List Pol}{ops:List OpC}{n:Nat}(hl:lB lo vars=true)(hp:Pc (OkO vars lo.length s.bufs.length (rF nI s.steps)) 0 1 n ops)(hn:n≤256):
  RI vars nI (iQ lo ops s) (s.bufs.length+1)∧pJ (iQ lo ops s):=⟨h.step (okS ⟨nil_ofB,by rfl⟩ hl hp hn (.inl ⟨rfl,rfl⟩)),bAd⟩
theorem RI.at1(h:RI vars nI s (s.bufs.length+1)){i:Nat}{ops:List OpC}{n:Nat}(hp:Pc (OkO vars 0 s.bufs.length (rF nI s.steps)) 0 1 n ops)(hn:n≤256):
  RI vars nI (tC 1 (bT i) [] 0 ops s) (s.bufs.length+1):=h.step (okS ⟨num_of _,(numG (k:=0) n7).1⟩ nil_grow hp hn (.inl ⟨rfl,rfl⟩))
theorem RI.nums: ∀{l:List Int} {i:Nat} {s:LoS},RI vars nI s (s.bufs.length+1)→RI vars nI (zH i l s) (s.bufs.length+1)∧(zH i l s).bufs=s.bufs∧(l≠[]∨pJ s→pJ (zH i l s))
 | [],i,s,h=>⟨h,rfl,fun k=>by rcases k with k | k;exact absurd rfl k;exact k⟩
 | x::l,i,s,h=>by
  rw [zH];have h1:=h.at1 (i:=i) (pc_0 (okN x) rfl n7) n7;obtain⟨a,b,c⟩:=RI.nums (l:=l) (i:=i+1) (s:=tC 1 (bT i) [] 0 [oN x] s) h1;exact⟨a,b,fun _=>c (.inr bAd)⟩
theorem RI.shapes: ∀{l:List Pol} {i:Nat} {s:LoS},(∀p∈l,ofB p vars=true)→RI vars nI s (s.bufs.length+1)→RI vars nI (sX i l s) (s.bufs.length+1)∧(sX i l s).bufs=s.bufs∧(l≠[]∨pJ s→pJ (sX i l s))
 | [],i,s,_,h=>⟨h,rfl,fun k=>by rcases k with k | k;exact absurd rfl k;exact k⟩
 | x::l,i,s,hp,h=>by
  rw [sX];have h1:=h.at1 (i:=i) (pc_0 (okV (hp x (List.mem_cons_self ..))) rfl n7) n7;obtain⟨a,b,c⟩:=RI.shapes (l:=l) (i:=i+1) (s:=tC 1 (bT i) [] 0 [oV x] s) (fun p hp'=>hp p (List.mem_cons_of_mem _ hp')) h1;exact⟨a,b,fun _=>c (.inr bAd)⟩
theorem okI0{vars lo b:Int}{M:Nat→Prop}(h:0<lo):OkO vars lo b M (oI 0):=okI (k:=0) h
theorem monad_sides{f:Int}{a:TyP}(h:(fA f a).2=0):(f=32∨f=34→(fA f a).1.sides.length=1)∧(f=36→(fA f a).1.sides.length=a.sides.length)∧(¬(32≤f∧f≤34)→f≠36→(fA f a).1.sides=a.sides):=by
 unfold fA at h⊢;split
 ·rename_i h32;rw [if_pos h32] at h;split at h
  ·cases h
  ·rename_i h1;rw [if_neg h1];split at h
   ·cases h
   ·rename_i h2;rw [if_neg h2];split at h
    ·cases h
    ·rename_i h3;rw [if_neg h3];exact⟨fun _=>rfl,fun _=>by omega,fun _=>by omega⟩
 ·rename_i h32;rw [if_neg h32] at h;split
  ·exact⟨fun _=>by omega,fun _=>by omega,fun _=>by omega⟩
  ·rename_i h33;rw [if_neg h33] at h;split
   ·rename_i h34;rw [if_pos h34] at h
    cases e:lK (bT 1) a.sides with
    | none=>rw [e] at h;cases h
    | some p=>exact⟨fun _=>rfl,fun _=>by omega,fun _=>by omega⟩
   ·split
    ·refine⟨fun _=>by omega,fun _=>by omega,fun _ _=>?_⟩;dsimp only;split<;>rfl
    ·split
     ·exact⟨fun _=>by omega,fun _=>by simp,fun _ k=>absurd ‹_› k⟩
     ·split
      ·exact⟨fun _=>by omega,fun _=>by omega,fun _ _=>rfl⟩
      ·split<;>exact⟨fun _=>by omega,fun _=>by omega,fun _ _=>rfl⟩
theorem RI.monad{f:Int}(h:RI vars nI s (s.bufs.length+1))(ha:OkR vars s a)(hf:(32≤f∧f≤36)∨gZ f false=true)(he:(fA f a.t).2=0):
  RI vars nI (mL f a (fA f a.t).1 s) (s.bufs.length+1)∧(mL f a (fA f a.t).1 s).bufs=s.bufs∧pJ (mL f a (fA f a.t).1 s):=by
 have hw:=vL (monad_wf (f:=f) ha.wf) (monad_g (f:=f) ha.g);obtain⟨e1,e2,e3⟩:=monad_sides he
 have fin: ∀{lo:List Pol} {ops:List OpC} {n:Nat},lB lo vars=true→Pc (OkO vars lo.length s.bufs.length (rF nI s.steps)) 0 1 n ops→n≤256→RI vars nI (iQ lo ops s) (s.bufs.length+1)∧(iQ lo ops s).bufs=s.bufs∧pJ (iQ lo ops s):=fun hl hp hn=>⟨(h.each hl hp hn).1,rfl,(h.each hl hp hn).2⟩
 unfold mL;split
 ·rename_i h32;exact fin hw (pc_0 (okI0 (by rw [e1 (.inl h32)];decide)) rfl n7) o9
 ·split
  ·split
   ·exact fin (lo:=[[]]) (by unfold lB;simp [nil_ofB];decide) (pc_0 (okN 0) rfl n7) o9
   ·rename_i hs;obtain⟨a1,a2,a3⟩:=RI.shapes (l:=a.t.sides) (i:=0) (fun p hp=>bUp ha.wf ha.g hp) h;exact⟨a1,a2,a3 (.inl hs)⟩
  ·split
   ·rename_i h34;obtain⟨k,k1,k2⟩:=ha.buf;refine fin (n:=2) hw ?_ o9;rw [k1];exact Pc.to (a:=0) ((pc_0 (okI0 (by rw [e1 (.inr h34)];decide)) rfl n7).app ((pc_1 (okL (h.md k k2) n7) rfl n7).app wL)) n7 n7 n7
   ·split
    ·rename_i n32 n33 n34 h35;have e4:=e3 n7 n7;refine fin hw (pc_at h ha fun j hj=>?_) o9;rw [e4];unfold bKp;split
     ·exact(pc_0 (a:=0) (okI n7) rfl n7).to n7 rfl n7
     ·have hm:a.t.sides.getD j []∈a.t.sides:=by
       rw [List.getD_eq_getElem?_getD,List.getElem?_eq_getElem hj];exact List.getElem_mem _
      exact Pc.to (a:=0) ((pc_0 (okV (bUp ha.wf ha.g hm)) rfl n7).app ((pc_0 (okN 1) rfl n7).app ((bSj (okD o9) rfl n7).app ((pc_0 (okI n7) rfl n7).app ((bSj (okD o9) rfl n7).app wL))))) n7 n7 n7
    ·split
     ·rename_i h36;refine fin hw (pc_at h ha fun j hj=>?_) o9;rw [e2 h36];exact(pc_0 (a:=0) (okI n7) rfl n7).to n7 rfl n7
     ·rename_i n32 n33 n34 n35 n36
      have hk:gZ f false=true:=by
       rcases hf with hf | hf
       ·omega
       ·exact hf
      refine fin (n:=39) hw ?_ o9;have e4:=e3 n7 n36;exact Pc.to (a:=0) ((pc_from h ha (by rw [e4];omega)).app ((pc_1 (okMn hk) rfl n7).app wL)) n7 n7 n7
theorem bSn{tk:Bool}{a b:TyP}(h:(kO tk a b).2=0):(kO tk a b).1.sides.length=b.sides.length∧b.sides≠[]:=by
 unfold kO at h⊢;split
 ·rename_i h1;rw [if_pos h1] at h;cases h
 ·rename_i h1;rw [if_neg h1] at h;rw [not_or] at h1
  have hl: ∀p:Pol,(p::b.sides.tail).length=b.sides.length:=fun p=>by
   cases e:b.sides with
   | nil=>exact absurd e h1.2
   | cons x r=>rfl
  split
  ·rename_i h2;rw [if_pos h2] at h;cases h
  ·rename_i h2;rw [if_neg h2] at h
   cases e:rO (a.values.headD []) with
   | none=>rw [e] at h;cases h
   | some n=>
    rw [e] at h;dsimp only at h⊢;split
    ·rename_i h3;rw [if_pos h3] at h;cases h
    ·rename_i h3;rw [if_neg h3] at h;split
     ·exact⟨hl _,h1.2⟩
     ·rename_i h4;rw [if_neg h4] at h;split
      ·rename_i h5;rw [if_pos h5] at h;cases h
      ·exact⟨hl _,h1.2⟩
theorem RI.dyad{f:Int}(h:RI vars nI s (s.bufs.length+1))(ha:OkR vars s a)(hb:OkR vars s b)(hf:(37≤f∧f≤40)∨gZ f true=true)(he:(kI f a.t b.t).2=0){s':LoS}(hd:mX f a b (kI f a.t b.t).1 s=some s'):
  RI vars nI s' (s.bufs.length+1)∧s'.bufs=s.bufs∧pJ s':=by
 have hww:=dyad_wf (f:=f) ha.wf hb.wf;have hgg:=dyad_g (f:=f) ha.g hb.g;have hw:=vL hww hgg
 have fin: ∀{lo:List Pol} {ops:List OpC} {n:Nat},lB lo vars=true→Pc (OkO vars lo.length s.bufs.length (rF nI s.steps)) 0 1 n ops→n≤256→RI vars nI (iQ lo ops s) (s.bufs.length+1)∧(iQ lo ops s).bufs=s.bufs∧pJ (iQ lo ops s):=fun hl hp hn=>⟨(h.each hl hp hn).1,rfl,(h.each hl hp hn).2⟩
 unfold mX at hd;split at hd
 ·rename_i h37;cases hd;unfold rhoL
  cases hs:b.t.sides with
  | nil=>exact fin hw (pc_from h hb (by rw [hs];simp)) o9
  | cons x r=>
   obtain⟨k,k1,k2⟩:=hb.buf;have hm: ∀y∈x::r,ofB y vars=true:=fun y hy=>bUp hb.wf hb.g (by rw [hs];exact hy);have hl:=hb.wf.len;have hl2:=hww.len;rw [hs,List.length_cons] at hl;dsimp only;rw [k1];refine fin (n:=100) hw ?_ o9;exact Pc.to (a:=0) ((pc_size (okD o9) (fun y hy=>okV (hm y (List.mem_cons_of_mem _ hy))) ((pc_0 (okV (hm x (List.mem_cons_self ..))) rfl n7))).app (((pc_spot (okN 0) (okD o9) (okD o9) (fun y hy=>okV (bUp hww hgg hy)) (fun j hj=>(pc_0 (a:=0) (okI n7) rfl n7).to n7 rfl n7)).to n7 rfl (Nat.le_refl _)).app ((bSj (okD o9) rfl n7).app ((pc_1 (okL (h.md k k2) n7) rfl n7).app wL)))) n7 n7 n7
 ·rename_i h37;split at hd
  ·rename_i h89;cases hd
   have hps:(kI f a.t b.t).1.sides.length=b.t.sides.length∧b.t.sides≠[]:=by
    unfold kI at he⊢;rw [if_neg h37] at he⊢
    rcases h89 with e | e
    ·rw [if_pos e] at he⊢;exact bSn he
    ·rw [if_neg n7,if_pos e] at he⊢;exact bSn he
   have hx:ofB (b.t.sides.headD []) vars=true:=by
    cases hs:b.t.sides with
    | nil=>exact absurd hs hps.2
    | cons x r=>exact bUp hb.wf hb.g (by rw [hs];exact List.mem_cons_self ..)
   refine fin hw (pc_at h hb fun j hj=>?_) o9;have h0:(0:Int)<((kI f a.t b.t).1.sides.length:Nat):=n7
   unfold qW;split
   ·exact Pc.to (a:=0) ((pc_0 (okV hx) rfl n7).app ((pc_0 (okN _) rfl n7).app ((bSj (okD o9) rfl n7).app ((pc_0 (okI0 h0) rfl n7).app ((bSj (okD o9) rfl n7).app wL))))) n7 n7 n7
   ·split
    ·exact Pc.to (a:=0) ((pc_0 (okN _) rfl n7).app ((pc_0 (okI0 h0) rfl n7).app ((bSj (okD o9) rfl n7).app wL))) n7 n7 n7
    ·exact(pc_0 (a:=0) (okI n7) rfl n7).to n7 rfl n7
  ·rename_i h89;split at hd
   ·cases e:lK (bT 1) a.t.sides with
    | none=>rw [e] at hd;cases hd
    | some p=>
     rw [e] at hd;cases hd;have h1:=(h.each (vL ha.wf ha.g) (pc_from (first:=0) h ha o6) o9).1;have hp:=ravel_g (bSd n7) (bDf 1) ha.g.1 e;have hpr:=bBr (mN 1) e;have hb':OkR vars (iQ a.t.sides (fromL a 0) s) b:=hb.ext (pG ..);exact⟨h1.step (okS ⟨bCo.2 ⟨hp.2,hpr⟩,hp.1⟩ (vL hb.wf hb.g) (pc_from (first:=0) h1 hb' o6) o9 (.inl ⟨rfl,rfl⟩)),rfl,bAd⟩
   ·rename_i h40;cases hd
    have hk:gZ f true=true:=by
     rcases hf with hf | hf
     ·omega
     ·exact hf
    have hps:a.t.sides.length≤(kI f a.t b.t).1.sides.length∧b.t.sides.length≤(kI f a.t b.t).1.sides.length:=by
     unfold kI at he⊢;rw [if_neg h37,if_neg n7,if_neg n7,if_neg h40] at he⊢;split
     ·rename_i h1;rw [if_pos h1] at he;cases he
     ·rename_i h1;dsimp only;split
      ·rename_i h2;rw [h2];simp
      ·rename_i h2;refine⟨Nat.le_refl _,?_⟩
       by_cases h3:b.t.sides=[]
       ·rw [h3];simp
       ·by_cases h4:a.t.sides=b.t.sides
        ·rw [h4];exact Nat.le_refl _
        ·exact absurd ⟨h2,h3,h4⟩ h1
    refine fin (n:=77) hw ?_ o9;exact Pc.to (a:=0) ((pc_from (first:=0) h ha q8).app (((pc_from (first:=0) h hb q8).to n7 rfl (Nat.le_refl _)).app ((bSj (okD hk) rfl n7).app wL))) n7 n7 n7
theorem bNk{st:List iA}(hs: ∀v∈st,OkR vars s v)(h:1≤st.length):OkR vars s (st.headD default)∧(gI st).headD default=(st.headD default).t:=by
 match st,h with
 | a::r,_=>exact⟨hs a (List.mem_cons_self ..),rfl⟩
theorem second_r{st:List iA}(hs: ∀v∈st,OkR vars s v)(h:2≤st.length):OkR vars s (st.tail.headD default)∧(gI st).tail.headD default=(st.tail.headD default).t:=by
 match st,h with
 | a::b::r,_=>exact⟨hs b (List.mem_cons_of_mem _ (List.mem_cons_self ..)),rfl⟩
theorem bVj{v:iA}{k:Bs}: ∀{M:iI},uV k M=some v→ ∃p∈M,p.2=v
 | [],h=>by cases h
 | p::r,h=>by
  rw [uV] at h;split at h
  ·cases h;exact⟨p,List.mem_cons_self ..,rfl⟩
  ·obtain⟨q,hq,e⟩:=bVj h;exact⟨q,List.mem_cons_of_mem _ hq,e⟩
theorem item_rightL{N:iI}{NT:dT}{it:cT}{st:List iA}{x:List iA×LoS}(hR:RI vars nI s s.bufs.length)(hN: ∀p∈N,OkR vars s p.2)(hs: ∀v∈st,OkR vars s v)(hf:FnOk it)(h17:1≤it.how∧it.how≤7)(hd:dG it≤st.length)
  (hnum:it.how=1→it.nums≠[]) (he:(dB NT it (gI st)).2=0) (hw:WfT (dB NT it (gI st)).1) (hg:TyG (clampK vars) (dB NT it (gI st)).1) (h:iJ N it (dB NT it (gI st)).1 st s= .ok x):
  RI vars nI x.2 x.2.bufs.length∧ ∀v∈x.1,OkR vars x.2 v:=by
 have hU:=hR.up (Nat.le_succ _)
 have put: ∀{n:Nat} {s':LoS},RI vars nI s' (s.bufs.length+1)→s'.bufs=s.bufs→pJ s'→Ext s s'→yV (dB NT it (gI st)).1 n st s'= .ok x→RI vars nI x.2 x.2.bufs.length∧ ∀v∈x.1,OkR vars x.2 v:=fun{n s'} h1 h2 h3 h4 h5=>
  RI.put (by rw [h2];exact h1) h3 hw hg (fun v hv=>(hs v hv).ext h4) h5
 have k1:it.how=3∨it.how=5∨it.how=6→1≤st.length:=fun h=>by rw [oF h] at hd;exact hd
 have k2:it.how=4∨it.how=7→2≤st.length:=fun h=>by rw [qB h] at hd;exact hd
 unfold iJ at h;split at h
 ·rename_i h1;obtain⟨a1,a2,a3⟩:=RI.nums (l:=it.nums) (i:=0) hU;exact put a1 a2 (a3 (.inl (hnum h1))) (bPr ..) h
 ·rename_i n1;split at h
  ·cases e:uV it.name N with
   | some v=>
    rw [e] at h;cases h;obtain⟨p,hp,rfl⟩:=bVj e;refine⟨hR,fun w hv=>?_⟩
    rcases List.mem_cons.1 hv with rfl | hv
    ·exact hN p hp
    ·exact hs w hv
   | none=>
    rw [e] at h
    have hv:ofB ((dB NT it (gI st)).1.values.headD []) vars=true:=by
     cases hq:(dB NT it (gI st)).1.values with
     | nil=>exact nil_ofB
     | cons p r=>exact bCo.2 ⟨hg.2 p (by rw [hq];exact List.mem_cons_self ..),hw.vr p (by rw [hq];exact List.mem_cons_self ..)⟩
    have h1:=hU.each nil_grow (pc_0 (okV hv) rfl n7) n7;exact put h1.1 rfl h1.2 (pG ..) h
  ·rename_i n2;split at h
   ·rename_i h3;obtain⟨b1,b2⟩:=bNk hs (k1 (.inl h3))
    have e:dB NT it (gI st)=fA it.fn (st.headD default).t:=by
     unfold dB;rw [if_neg n1,if_neg n2,if_pos h3,b2]
    rw [e] at h he put;obtain⟨a1,a2,a3⟩:=hU.monad b1 (hf.one h3) he;exact put a1 a2 a3 (bVi ..) h
   ·rename_i n3;split at h
    ·rename_i h56;split at h
     ·cases h;exact⟨hR,hs⟩
     ·rename_i hne;obtain⟨b1,b2⟩:=bNk hs (k1 n7);have hk:=hf.all n7;refine put (hU.step (okS ⟨nil_ofB,by rfl⟩ (vL b1.wf b1.g) (pc_from (first:=0) hU b1 o6) o9 (.inr ⟨?_,hne,hk⟩))) rfl bAd (wN ..) h;split<;>omega
    ·rename_i n56;split at h
     ·rename_i h4;obtain⟨b1,b2⟩:=bNk hs (Nat.le_of_succ_le (k2 (.inl h4)));obtain⟨c1,c2⟩:=second_r hs (k2 (.inl h4))
      have e:dB NT it (gI st)=kI it.fn (st.tail.headD default).t (st.headD default).t:=by
       unfold dB;rw [if_neg n1,if_neg n2,if_neg n3,if_neg n7,if_neg n7,if_pos h4,b2,c2]
      rw [e] at h he put
      cases ed:mX it.fn (st.tail.headD default) (st.headD default) (kI it.fn (st.tail.headD default).t (st.headD default).t).1 s with
      | none=>rw [ed] at h;cases h
      | some s'=>
       rw [ed] at h;obtain⟨a1,a2,a3⟩:=hU.dyad c1 b1 (hf.two h4) he ed;exact put a1 a2 a3 (dyad_ext ed) h
     ·rename_i n4;obtain⟨b1,b2⟩:=bNk hs (Nat.le_of_succ_le (k2 n7));obtain⟨c1,c2⟩:=second_r hs (k2 n7)
      have e:(dB NT it (gI st)).1.sides=(st.tail.headD default).t.sides++(st.headD default).t.sides:=by
       unfold dB;rw [if_neg n1,if_neg n2,if_neg n3,if_neg n7,if_neg n7,if_neg n4,b2,c2]
      have hl:(dB NT it (gI st)).1.sides.length=(st.tail.headD default).t.sides.length+(st.headD default).t.sides.length:=by rw [e,List.length_append]
      have h1:=hU.each (n:=77) (vL hw hg) (Pc.to (a:=0) ((pc_from (first:=0) hU c1 (by rw [hl];omega)).app (((pc_from (first:=(st.tail.headD default).t.sides.length) hU b1 (by rw [hl];omega)).to n7 rfl (Nat.le_refl _)).app ((bSj (okD (hf.all n7)) rfl n7).app wL))) n7 n7 n7) o9;exact put h1.1 rfl h1.2 (pG ..) h
end
end
section
open Go.RowKit Go.Proofs.Tryz
section
variable {vars : Int} {nI : Nat}
theorem bLl{N:iI}{NT:dT}(hY:zG N NT)(hW:nC NT)(hG:vZ (clampK vars) NT): ∀{l:List cT} {st:List iA} {done:List TyP} {r:List TyP×List TyP} {s:LoS} {x:List iA×LoS},(∀it∈l,(it.how=2→rE it.name)∧FnOk it)→lL l st.length=some 1→mE NT l (gI st) done= .ok r→
  qY N l (r.2.drop done.length) st s= .ok x→RI vars nI s s.bufs.length→(∀p∈N,OkR vars s p.2)→(∀v∈st,OkR vars s v)→s.bufs.length≤1024→s.steps.length≤1024→RI vars nI x.2 x.2.bufs.length∧(∀v∈x.1,OkR vars x.2 v)∧gI x.1=r.1∧x.1.length=1∧x.2.bufs.length≤1024∧x.2.steps.length≤1024
 | [],st,_,_,_,_,_,hd,h,k,hR,_,hs,hb1,hb2=>by
  cases h;cases k;rw [lL] at hd;injection hd with hd
  exact⟨hR,hs,rfl,hd,hb1,hb2⟩
 | it::l,st,done,r,s,x,hp,hd,h,k,hR,hN,hs,hb1,hb2=>by
  obtain⟨h1,h2,h3⟩:=lineT_at h;obtain⟨⟨d1,d2,d3,d5⟩,d4⟩:=depth_at hd;rw [h2,qY] at k;simp only [List.headD_cons,List.tail_cons] at k
  cases e:iJ N it (dB NT it (gI st)).1 st s with
  | error _=>rw [e] at k;cases k
  | ok y=>
   rw [e] at k;obtain⟨p1,p2⟩:=hp it (List.mem_cons_self ..);have hy:=bVy hY p1 d1 ⟨d2,d3⟩ h1 e
   have hl:y.1.length=st.length-dG it+1:=by
    have:=congrArg List.length hy
    simpa using this
   have hw:=item_wf hW (fun t ht=>by
    obtain⟨v,hv,rfl⟩:=List.mem_map.1 ht
    exact(hs v hv).wf) (by rw [List.length_map];exact d1) (fun e=>(d5 e).1) ⟨d2,d3⟩ h1
   have hg:=item_g hG (it:=it) (st:=gI st) (fun t ht=>by
    obtain⟨v,hv,rfl⟩:=List.mem_map.1 ht
    exact(hs v hv).g)
   obtain⟨g1,g2⟩:=item_rightL hR hN hs p2 ⟨d2,d3⟩ d1 (fun e=>(d5 e).1) h1 hw hg e;have hf:=bWr e hb1 hb2;refine bLl hY hW hG (s:=y.2) (done:=done++[(dB NT it (gI st)).1]) (fun i hi=>hp i (List.mem_cons_of_mem _ hi)) (by rw [hl];exact d4) (by rw [hy];exact h3) ?_ g1 (fun p hp=>(hN p hp).ext (item_ext e)) g2 hf.1 hf.2;rw [List.length_append];exact k
theorem bHg: ∀{ls:List mT} {N:iI} {NT:dT} {o R:List (List TyP)} {s:LoS} {outs:List Int} {x:LoS×List Int},zG N NT→nC NT→vZ (clampK vars) NT→(∀p∈N,OkR vars s p.2)→RI vars nI s s.bufs.length→(∀k∈outs,∃j:Nat,k=(j:Int)∧j<s.bufs.length)→
  (∀l∈ls,(∀it∈l.items,(it.how=2→rE it.name)∧FnOk it)∧lL l.items 0=some 1)→s.bufs.length≤1024→s.steps.length≤1024→kS NT ls o=(R,(0,0))→lO N ls (R.drop o.length) s outs= .ok x→
  RI vars nI x.1 x.1.bufs.length∧(∀k∈x.2,∃j:Nat,k=(j:Int)∧j<x.1.bufs.length)∧x.1.bufs.length≤1024∧x.1.steps.length≤1024
 | [],_,_,_,_,_,_,_,_,_,_,_,hR,ho,_,hb1,hb2,_,h=>by
  cases h;exact⟨hR,ho,hb1,hb2⟩
 | l::ls,N,NT,o,R,s,outs,x,hY,hW,hG,hN,hR,ho,hl,hb1,hb2,hT,h=>by
  obtain⟨fin,row,h1,h2,h3,h4⟩:=linesT_head hT;obtain⟨hp,hd⟩:=hl l (List.mem_cons_self ..);rw [h2,lO] at h;simp only [List.headD_cons,List.tail_cons] at h
  cases e:qY N l.items row [] s with
  | error _=>rw [e] at h;cases h
  | ok y=>
   rw [e] at h;obtain⟨g1,g2,g3,g4,g5,g6⟩:=bLl hY hW hG (st:=[]) (done:=[]) (r:=(fin,row)) hp hd h1 (by simpa using e) hR hN (fun v hv=>(by cases hv)) hb1 hb2;have g3:gI y.1=fin:=g3
   match hyl:y.1,g4 with
   | [a],_=>
    have ha:OkR vars y.2 a:=g2 a (by rw [hyl];exact List.mem_singleton.2 rfl);have hx:lO ((l.name,y.1.getLastD default)::N) ls (R.drop (o.length+1)) y.2 (outs++[(y.1.getLastD default).buf])= .ok x:=h;rw [hyl] at hx g3;have hx:lO ((l.name,a)::N) ls (R.drop (o.length+1)) y.2 (outs++[a.buf])= .ok x:=hx;have hfin:fin.getLastD default=a.t:=by rw [←g3];rfl
    rw [hfin] at h4;rw [show o.length+1=(o++[row]).length by simp] at hx;have hext:=bSt e;refine bHg (sync_add hY l.name a) (fun q hq=>?_) (fun q hq=>?_) (fun p hp=>?_) g1 (fun k hk=>?_) (fun m hm=>hl m (List.mem_cons_of_mem _ hm)) g5 g6 h4 hx
    ·rcases List.mem_cons.1 hq with rfl | hq
     ·exact ha.wf
     ·exact hW q hq
    ·rcases List.mem_cons.1 hq with rfl | hq
     ·exact ha.g
     ·exact hG q hq
    ·rcases List.mem_cons.1 hp with rfl | hp
     ·exact ha
     ·exact(hN p hp).ext hext
    ·rcases List.mem_append.1 hk with hk | hk
     ·obtain⟨j,j1,j2⟩:=ho k hk;exact⟨j,j1,Nat.lt_of_lt_of_le j2 hext.1.length_le⟩
     ·rw [List.mem_singleton.1 hk];exact ha.buf
theorem RI.steps_ok{s:LoS}{m:Nat}(h:RI vars nI s m)(hm:m≤s.bufs.length): ∀{l pre:List zI} {made:List Bool},s.steps=pre++l→made.length=s.bufs.length→(∀k,k<s.bufs.length→rF nI pre k→made.getD k false=true)→bBh vars s.bufs l made=true
 | [],_,_,_,_,_=>rfl
 | x::r,pre,made,e,hl,hk=>by
  have hx:s.steps[pre.length]?=some x:=by rw [e,List.getElem?_append_right (Nat.le_refl _)];simp
  obtain⟨⟨b,b1,b2,b3⟩,b4⟩:=h.st _ x hx;have ht:s.steps.take pre.length=pre:=by rw [e,List.take_left]
  rw [ht] at b4
  obtain⟨u,hu⟩: ∃u,s.bufs[b]?=some u:=⟨_,List.getElem?_eq_getElem n7⟩
  have hi:=(h.inp b u hu).2 b2
  have hs:uP vars made x=true:=b4 made fun k k1=>hk k (by
   rcases k1 with k1 | ⟨y,hy,k1⟩
   ·have:=h.n;omega
   ·obtain⟨j,hj⟩:=List.getElem?_of_mem hy
    have hj2:s.steps[j]?=some y:=by
     rw [e,List.getElem?_append_left (List.getElem?_eq_some_iff.1 hj).1];exact hj
    obtain⟨⟨c,c1,c2,c3⟩,_⟩:=h.st j y hj2
    omega) k1
  rw [bBh,b1,show(b:Int).toNat=b by omega,hu,hs];simp only [decide_eq_true (show(0:Int)≤(b:Int) by omega),hi,Bool.true_and];refine RI.steps_ok h hm (pre:=pre++[x]) (by rw [e];simp) (by rw [List.length_set];exact hl) (fun k hkb hk2=>?_);rw [List.getD_eq_getElem?_getD,List.getElem?_set]
  by_cases hbk:b=k
  ·rw [if_pos hbk,if_pos n7];rfl
  ·rw [if_neg hbk,←List.getD_eq_getElem?_getD];refine hk k hkb ?_
   rcases hk2 with hk2 | ⟨y,hy,hk2⟩
   ·exact .inl hk2
   ·rcases List.mem_append.1 hy with hy | hy
    ·exact .inr ⟨y,hy,hk2⟩
    ·rw [List.mem_singleton.1 hy,b1] at hk2;omega
theorem RI.bufs_ok{s:LoS}{m:Nat}(h:RI vars nI s m)(hn:nI<64): ∀{l pre:List rG} {seen:List Int},s.bufs=pre++l→(∀x∈seen,0≤x∧x<pre.length)→bEj vars l seen=true
 | [],_,_,_,_=>rfl
 | b::r,pre,seen,e,hs=>by
  have hb:s.bufs[pre.length]?=some b:=by rw [e,List.getElem?_append_right (Nat.le_refl _)];simp
  obtain⟨h1,h2⟩:=h.inp _ b hb
  have h3: -1≤b.input∧b.input<64:=by
   by_cases hk:pre.length<nI
   ·rw [h1 hk];omega
   ·rw [h2 n7];omega
  have h4:seen.contains b.input=false:=by
   cases hc:seen.contains b.input with
   | false=>rfl
   | true=>
    have:=hs b.input (by simpa using hc)
    by_cases hk:pre.length<nI
    ·rw [h1 hk] at this;omega
    ·rw [h2 n7] at this;omega
  rw [bEj,h.bf b (j4 hb),decide_eq_true h3,h4];simp only [Bool.not_false,Bool.true_and];refine RI.bufs_ok h hn (pre:=pre++[b]) (by rw [e];simp) (fun x hx=>?_);rw [List.length_append,List.length_singleton];split at hx
  ·rcases List.mem_cons.1 hx with rfl | hx
   ·by_cases hk:pre.length<nI
    ·rw [h1 hk];omega
    ·rename_i h0;rw [h2 n7] at h0;omega
   ·have:=hs x hx;omega
  ·have:=hs x hx;omega
end
theorem insB_at{vars:List Bs}: ∀{l:List gM} {i k:Nat} {b:rG},(rB vars i l)[k]?=some b→ ∃x∈l,b=⟨(inT vars x).sides,((i+k:Nat):Int)⟩
 | [],_,_,_,h=>by simp [rB] at h
 | x::l,i,0,b,h=>by
  simp [rB] at h;exact⟨x,List.mem_cons_self ..,by rw [←h];rfl⟩
 | x::l,i,k+1,b,h=>by
  rw [rB,List.getElem?_cons_succ] at h;obtain⟨y,hy,e⟩:=insB_at h;exact⟨y,List.mem_cons_of_mem _ hy,by rw [e];congr 2;omega⟩
theorem insN_ok{vars:List Bs}{v:Int}{s:LoS}: ∀{l:List gM} {i:Nat} {N:iI},(∀p∈N,OkR v s p.2)→i+l.length≤s.bufs.length→(∀x∈l,WfT (inT vars x)∧TyG (clampK v) (inT vars x))→ ∀p∈zT vars i l N,OkR v s p.2
 | [],_,_,h,_,_=>h
 | x::l,i,N,h,hl,hx=>by
  rw [zT];rw [List.length_cons] at hl;refine insN_ok (fun p hp=>?_) n7 (fun y hy=>hx y (List.mem_cons_of_mem _ hy))
  rcases List.mem_cons.1 hp with rfl | hp
  ·exact⟨⟨i,rfl,n7⟩,(hx x (List.mem_cons_self ..)).1,(hx x (List.mem_cons_self ..)).2⟩
  ·exact h p hp
theorem types_rightW{p:gN}(h:(fI p).2=(0,0)):(cV p).2=true:=by
 cases e:(cV p).2 with
 | true=>rfl
 | false=>
  rw [show fI p=([],(0,50)) from if_pos e] at h;cases h
theorem in_wf{vars:List Bs}{x:gM}(h:x.sides.length≤4):WfT (inT vars x):=bMz (l:=[x]) (N:=[]) (fun y hy=>by rw [List.mem_singleton.1 hy];exact h) (fun q hq=>by cases hq) (nIn++x.name,inT vars x) (List.mem_singleton.2 rfl)
theorem lower_none{p:gN}(h:(gT p).2≠(0,0)):(gT p).1=noCore:=by
 unfold gT at h⊢;split
 ·rfl
 ·rename_i hn;rw [if_neg hn] at h
  cases e:lO (zT (cJ p) 0 p.inputs []) p.lines (fI p).1 ⟨rB (cJ p) 0 p.inputs,[]⟩ [] with
  | error f=>rfl
  | ok x=>rw [e] at h;exact absurd rfl h
theorem lower_right{p:gN}(h:(gT p).2=(0,0)):wJ (gT p).1=true∧(∀(k:Nat) b,(gT p).1.bufs[k]?=some b→0≤b.input∨ ∃x∈(gT p).1.steps,x.buf=(k:Int))∧(∀x∈(gT p).1.steps,∃k:Nat,x.buf=(k:Int)∧k<(gT p).1.bufs.length)∧(gT p).1.outs.length=p.lines.length:=by
 obtain⟨x,h1,h2,h3⟩:=lowerP_ok h;have hrt:=types_rightW h1;have hT:kS (pM p) p.lines []=((fI p).1,(0,0)):=(bXx h1).symm.trans (Prod.ext rfl h1);have hnm:=bBc hrt;obtain⟨hfn,hle,hne⟩:=right_fn hrt;have hfine:=vB hrt;have hsix:=six_vars h1;have hl0:(rB (cJ p) 0 p.inputs).length=p.inputs.length:=insB_len
 have hnl:0<p.lines.length:=by
  cases e:p.lines with
  | nil=>exact absurd e hne
  | cons _ _=>simp
 have hin: ∀y∈p.inputs,WfT (inT (cJ p) y)∧TyG (clampK ((cJ p).length:Nat)) (inT (cJ p) y):=fun y hy=>⟨in_wf (hfine.input y hy).2.1,pH (bHp hy (no_few h1 y hy))⟩
 have hR:RI ((cJ p).length:Nat) p.inputs.length ⟨rB (cJ p) 0 p.inputs,[]⟩ (rB (cJ p) 0 p.inputs).length:=by
  refine⟨fun b hb=>?_,fun k b hk=>?_,by show _≤(rB (cJ p) 0 p.inputs).length;rw [hl0];exact Nat.le_refl _,fun k hk=> .inl (by have hk:k<(rB (cJ p) 0 p.inputs).length:=hk;omega),fun i y hy=>by simp at hy⟩
  ·obtain⟨k,hk⟩:=List.getElem?_of_mem hb;obtain⟨y,hy,rfl⟩:=insB_at hk;exact vL (hin y hy).1 (hin y hy).2
  ·obtain⟨y,hy,rfl⟩:=insB_at hk;have hkl:=(List.getElem?_eq_some_iff.1 hk).1;have hkl:k<(rB (cJ p) 0 p.inputs).length:=hkl;exact⟨fun _=>by show((0+k:Nat):Int)=(k:Int);rw [Nat.zero_add],fun hq=>by omega⟩
 obtain⟨g1,g2,g3,g4⟩:=bHg (o:=[]) (bOw hnm.2) (bSi hrt) (check_g h1) (insN_ok (fun p hp=>(by cases hp)) (by show _≤(rB (cJ p) 0 p.inputs).length;omega) hin) hR (fun k hk=>(by cases hk)) (fun l hl=>⟨fun it hi=>⟨hnm.1 l hl it hi,hfn l hl it hi⟩,bBk hrt l hl⟩) (by show(rB (cJ p) 0 p.inputs).length≤1024;omega) o6 hT h2
 have hlen:x.2.length=p.lines.length:=by
  have:=(bXp h2).2.2
  simpa using this
 rw [h3];refine⟨?_,fun k b hk=>?_,fun y hy=>?_,hlen⟩
 ·unfold wJ;dsimp only;rw [decide_eq_true n7,g1.bufs_ok n7 (pre:=[]) rfl (fun _ h=>(by cases h)),g1.steps_ok (Nat.le_refl _) (pre:=[]) rfl (by simp [zK]) (fun k hk hm=>?_)]
  ·refine List.all_eq_true.2 fun k hk=>?_;obtain⟨j,rfl,hj⟩:=g2 k hk;exact decide_eq_true n7
  ·rcases hm with hm | ⟨_,hm,_⟩
   ·obtain⟨b,hb⟩: ∃b,x.1.bufs[k]?=some b:=⟨_,List.getElem?_eq_getElem hk⟩
    have:=(g1.inp k b hb).1 hm;rw [zK,List.getD_eq_getElem?_getD,List.getElem?_map,hb];simp [this]
   ·cases hm
 ·have hkl:=(List.getElem?_eq_some_iff.1 hk).1
  rcases g1.md k hkl with hm | hm
  ·left;rw [(g1.inp k b hk).1 hm];omega
  ·exact .inr hm
 ·obtain⟨i,hi⟩:=List.getElem?_of_mem hy;obtain⟨⟨b,b1,b2,b3⟩,_⟩:=g1.st i y hi;exact⟨b,b1,b3⟩
end
section
open Go.RowKit Go.Proofs.Tryz
theorem takes_le(h:Int):fQ h≤2∧ -1≤fQ h:=by
 unfold fQ
 repeat' split
 all_goals omega
def bXy (l:List OpV)(i:Nat)(m n r:Int):Prop:=vP ((dW l).drop i) m n=r
theorem tV{α:Type}{l:List α}{i:Nat}{x:α}(h:l[i]?=some x):l.drop i=x::l.drop (i+1):=by
 obtain⟨hi,e⟩:=List.getElem?_eq_some_iff.1 h;rw [←e];exact List.drop_eq_getElem_cons hi
section
variable {l : List OpV} {i : Nat} {m n r : Int} {x : OpV}
theorem dep_step(h:bXy l i m n r)(hx:l[i]?=some x):(fQ x.how<0∨n<fQ x.how→r= -1)∧(¬fQ x.how<0→ ¬n<fQ x.how→bXy l (i+1) (if n+(1-fQ x.how)>m then n+(1-fQ x.how) else m) (n+(1-fQ x.how)) r):=by
 unfold bXy at*;rw [tV (opsL_at hx),vP] at h;refine⟨fun e=>?_,fun e1 e2=>?_⟩
 ·rw [if_pos (show fQ x.c.how<0∨n<fQ x.c.how from e)] at h;exact h.symm
 ·rw [if_neg (show ¬(fQ x.c.how<0∨n<fQ x.c.how) from fun h=>h.elim e1 e2)] at h;rw [←h]
  congr 1
  show _=max m (n+(1-fQ x.how));split<;>omega
theorem dep_end(h:bXy l i m n r)(hi:l.length≤i):(n≠1→r= -1)∧(n=1→r=m):=by
 unfold bXy at h;rw [List.drop_of_length_le (by rw [fU];exact hi),vP] at h;exact⟨fun e=>by rw [if_neg e] at h;exact h.symm,fun e=>by rw [if_pos e] at h;exact h.symm⟩
end
section
variable {f : Int} {two : Bool}
theorem bDy(h:f<1∨17<f):Value.bool false= .bool (gZ f two):=by
 unfold gZ;rw [if_pos h]
theorem wtk_b(h3:f=16):Value.bool (!two)= .bool (gZ f two):=by
 unfold gZ;rw [if_neg n7,if_pos h3]
theorem wtk_c(h1:1≤f)(h2:f≤17)(h3:f≠16)(h:two=true):Value.bool true= .bool (gZ f two):=by
 unfold gZ;rw [if_neg n7,if_neg h3,h,Bool.true_or]
theorem wtk_d(h1:1≤f)(h2:f≤17)(h3:f≠16)(h:two=false):Value.bool (decide (f≤7))= .bool (gZ f two):=by
 unfold gZ;rw [if_neg n7,if_neg h3,h,Bool.false_or]
end
theorem bEq:(prog.info? 68).bind (·.zero)=some (.agg #[.int .i64 0,.int .i64 0,.int .i64 0,.slice none 0 0,.int .u8 0]):=n9
theorem takes_specK(o:OpV):cM prog 110 [.agg #[.int .i64 o.how,.int .i64 o.k,.int .i64 o.n,.slice o.p.addr o.p.list.length o.p.cap,.int .u8 o.fn]] [] [] (fun(_:Unit)=> .int .i64 (fQ o.how)) (fun _=>[]) (fun _=>[]):=by
 have hT:=kZ;refine k6 func110 ntmps110 ?_;intro β hM;refine g2 ?_;refine j9 fun b1=>?_;refine g18 ?_;refine dP rfl (fun hc5=>?_) (fun hc5=>?_)
 ·have hc5_r:=hc5;have hc5:=eq_of_beq hc5;refine g2 ?_;refine pK rfl hc5_r ?_;refine g8 ?_;exact rs1 () j0 (he:=by simp [fQ, *])
 have hc5_r:=hc5;have hc5:=beq_eq_false_iff_ne.1 hc5;refine g6 ?_;refine dP rfl (fun hc5_2=>?_) (fun hc5_2=>?_)
 ·have hc5_2_r:=hc5_2;have hc5_2:=eq_of_beq hc5_2;refine g2 ?_;refine pK rfl hc5_2_r ?_;refine g8 ?_;exact rs1 () j0 (he:=by simp [fQ, *])
 have hc5_2_r:=hc5_2;have hc5_2:=beq_eq_false_iff_ne.1 hc5_2;refine g5 ?_;refine dP rfl (fun hc5_3=>?_) (fun hc5_3=>?_)
 ·have hc5_3_r:=hc5_3;have hc5_3:=eq_of_beq hc5_3;refine g8 ?_;exact rs1 () j0 (he:=by simp [fQ, *])
 have hc5_3_r:=hc5_3;have hc5_3:=beq_eq_false_iff_ne.1 hc5_3;refine g7 ?_;refine dP rfl (fun hc9=>?_) (fun hc9=>?_)
 ·have hc9_r:=hc9;have hc9:=eq_of_beq hc9;refine g2 ?_;refine pK rfl hc9_r ?_;refine g8 ?_;exact rs1 () j0 (he:=by simp [fQ, *])
 have hc9_r:=hc9;have hc9:=beq_eq_false_iff_ne.1 hc9;refine g5 ?_;refine dP rfl (fun hc9_4=>?_) (fun hc9_4=>?_)
 ·have hc9_4_r:=hc9_4;have hc9_4:=eq_of_beq hc9_4;refine g8 ?_;exact rs1 () j0 (he:=by simp [fQ, *])
 have hc9_4_r:=hc9_4;have hc9_4:=beq_eq_false_iff_ne.1 hc9_4;refine g6 ?_;refine dP rfl (fun hc12=>?_) (fun hc12=>?_)
 ·have hc12_r:=hc12;have hc12:=eq_of_beq hc12;refine g8 ?_;exact rs1 () j0 (he:=by simp [fQ, *])
 have hc12_r:=hc12;have hc12:=beq_eq_false_iff_ne.1 hc12;refine g9 ?_;exact rs1 () j0 (he:=by simp [fQ, *])
theorem Depth_spec(A:Option Addr)(c:Nat)(l:List OpV)(hl:l.length≤140737488355328):cM prog 67 [.slice A l.length c] [] [opE.sl (.slice A l.length c) l,Fact.each l opF] (fun(_:Unit)=> .int .i64 (bAg (dW l))) (fun _=>[]) (fun _=>[]):=by
 have hT:=kZ;generalize hR:bAg (dW l)=r;refine k6 func67 ntmps67 ?_;intro β hM;refine g20 ?_;refine cB (ι:=Nat×Int×Int) [(8,_),(9,_)] ⟨rfl,rfl,j0⟩ (fun⟨i,m,n⟩=>[(3,.int .i64 m),(4,.int .i64 n),(10,.int .i64 (i:Nat))]) (fun _=>[]) (fun⟨i,m,n⟩=>[Fact.pure (i≤l.length∧bXy l i m n r∧0≤n∧n≤i)]) (fun⟨i,m,n⟩=>l.length-i) (0,0,0) ⟨rfl,rfl,rfl,j0⟩ .nil ⟨j3 (⟨n7,hR,n7,n7⟩),j0⟩ ?_;rintro⟨i,m,n⟩;dsimp only;refine bC d7 fun hinv3=>?_;refine g6 ?_;refine dJ (fun hc11=>?_) fun hc11=>?_
 ·refine g6 ?_;obtain⟨x1,hx2⟩:=gx l i;refine ss (ixs i) ?_;refine ss (lS hx2 0) ?_;refine j6 bEq fun b3=>?_;refine g4 ?_;have htk:=takes_le x1.how
  have hd0:=(dep_step hinv3.2.1 hx2)
  refine g2 ?_;refine j5 func110 (takes_specK x1) j0 fun _=>?_;refine g9 ?_;refine jX (fun hg18=>?_) fun hg18=>?_
  ·refine g19 ?_;have hr:=hd0.1 n7;subst hr;exact rs1 () trivial
  refine g6 ?_;refine dJ (fun hc22=>?_) fun hc22=>?_
  ·refine g12 ?_;have hr:=hd0.1 n7;subst hr;exact rs1 () trivial
  refine g7 ?_;refine cP (bEm n7 n7) ?_;refine one ?_;refine cP (bEm n7 n7) ?_;refine g13 ?_;refine inc (i+1) ?_;refine g3 ?_;exact dM (i+1,_,_) z8 ⟨rfl,rfl,rfl,j0⟩ ⟨rfl,rfl,j0⟩ .nil ⟨j3 (⟨by dsimp only;omega,hd0.2 n7 n7,by dsimp only;omega,by dsimp only;omega⟩),j0⟩ (bA.drop 1)
 refine g12 ?_;refine wG (fun hc32=>?_) fun hc32=>?_
 ·refine g7 ?_;have hr:=(dep_end hinv3.2.1 n7).1 ‹_›;subst hr;exact rs1 () trivial
 refine g9 ?_;have hr:=(dep_end hinv3.2.1 n7).2 ‹_›;subst hr;exact rs1 () trivial
theorem vI(f:Int)(two:Bool):cM prog 68 [.int .u8 f,.bool two] [] [] (fun(_:Unit)=> .bool (gZ f two)) (fun _=>[]) (fun _=>[]):=by
 have hT:=kZ;refine k6 func68 ntmps68 ?_;intro β hM;refine g12 ?_;refine jX (fun hg8=>?_) fun hg8=>?_
 ·refine g15 ?_;exact rs1 () j0 (he:=by first | exact bDy (.inl n7) | exact bDy (.inr n7) | exact wtk_b n7 | exact wtk_c n7 n7 n7 ‹_› | exact wtk_d n7 n7 n7 ‹_›)
 refine g6 ?_;refine dJ (fun hc5=>?_) fun hc5=>?_
 ·refine g8 ?_;exact rs1 () j0 (he:=by first | exact bDy (.inl n7) | exact bDy (.inr n7) | exact wtk_b n7 | exact wtk_c n7 n7 n7 ‹_› | exact wtk_d n7 n7 n7 ‹_›)
 refine g7 ?_;refine fN (fun hc12=>?_) fun hc12=>?_
 ·refine g10 ?_;exact rs1 () j0 (he:=by first | exact bDy (.inl n7) | exact bDy (.inr n7) | exact wtk_b n7 | exact wtk_c n7 n7 n7 ‹_› | exact wtk_d n7 n7 n7 ‹_›)
 refine g7 ?_;refine cI (fun hg18=>?_) (fun hg18=>?_)
 ·refine g7 ?_;exact rs1 () j0 (he:=by first | exact bDy (.inl n7) | exact bDy (.inr n7) | exact wtk_b n7 | exact wtk_c n7 n7 n7 ‹_› | exact wtk_d n7 n7 n7 ‹_›)
 refine g7 ?_;exact rs1 () j0 (he:=by first | exact bDy (.inl n7) | exact bDy (.inr n7) | exact wtk_b n7 | exact wtk_c n7 n7 n7 ‹_› | exact wtk_d n7 n7 n7 ‹_›)
end
section
open Go.RowKit Go.Proofs.Tryz
section
variable {P : Program} {β : dF} {n : Nat} {Γ : Env} {H : List bH} {F : List Fact} {K : Act → World → Prop} {T : Tab} {α : Type} {E : Flat α}
theorem St.recast'{c c':bH}{S:mG}{w:World}(s:St β (c::H) S w)(hb: ∀b,c'.blk=some b→c.blk=some b)(ok:c'.ok w):St β (c'::H) S w:=by
 have hs:=List.pairwise_cons.1 s.sep;refine⟨s.kept,fun d hd=>?_,fun d hd b h=>?_,List.pairwise_cons.2 ⟨fun d hd b h=>hs.1 d hd b (hb b h),hs.2⟩,s.zone⟩
 ·rcases List.mem_cons.1 hd with rfl | hd
  ·exact ok
  ·exact s.ok d (List.mem_cons_of_mem _ hd)
 ·rcases List.mem_cons.1 hd with rfl | hd
  ·exact s.own c (List.mem_cons_self ..) b (hb b h)
  ·exact s.own d (List.mem_cons_of_mem _ hd) b h
theorem at_obj_held{b:Nat}{t:TypeId}{xs:List α}{H':List bH}(hH:cD H (.obj b (.cells (E.all xs).toArray t)) H')(h:At β n Γ (E.held (.slice (some ⟨b,0,none⟩) xs.length xs.length) xs::H') F K):At β n Γ H F K:=fun a w S f s k=>by
 have s2:=s.perm hH.perm;have hok:w.heap[b]?=some (.cells (E.all xs).toArray t):=s2.ok _ (List.mem_cons_self ..);refine h a w S f (s2.recast' (fun b' hb=>?_) ?_) k
 ·cases xs with
  | nil=>cases hb
  | cons x r=>exact hb
 ·cases xs with
  | nil=>exact⟨_,_,rfl,.inl rfl⟩
  | cons x r=>
   refine⟨_,_,rfl,.inr ⟨b,0,_,t,(0,0),rfl,hok,fun j u hj=>⟨?_,?_⟩⟩⟩
   ·rw [Nat.zero_add];exact hj
   ·simp
theorem rI{b:Nat}{cs:List Value}{t:TypeId}{L:List bH}{G:List Fact}(h:bWk L G):bWk (.obj b (.cells cs.toArray t)::L) (Fact.cells b 0 cs::G):=fun S w hok hS=>
 All.cons ⟨hS _ (List.mem_cons_self ..) b rfl,fun j u hj=>by
  have h0:w.heap[b]?=some (.cells cs.toArray t):=hok _ (List.mem_cons_self ..);unfold World.cell?;rw [h0]
  simpa using hj⟩ (h S w (fun c hc=>hok c (List.mem_cons_of_mem _ hc)) fun c hc=>hS c (List.mem_cons_of_mem _ hc))
theorem run_arrFrom(hT:fD P T){t e m sz k:Nat}{ei:TI}(ht:T.get t=some ⟨.array m e,sz⟩)(he:T.get e=some ei){b off:Nat}(hk:k≤m)(kk:IntKind)(w:World):
  (Instr.sliceAt t (.pointer (some ⟨b,off,none⟩)) (some (.int kk (k:Nat))) none none).run P w= .ok (.slice (some ⟨b,if m=k then off else off+k*ei.size,none⟩) (m-k) (m-k)) w:=by
 have ha:(⟨b,off,none⟩:Addr).add (k*ei.size)=⟨b,off+k*ei.size,none⟩:=Addr.add_mid _ _ _;unfold Instr.sliceAt;rw [Sem.run_bind,hT.array ht,Result.andThen_ok]
 have h1:(Instr.sliceBound (.int kk (k:Nat)) m .sliceB).run P w= .ok k w:=by
  rw [run_sliceBound w kk (k:Int) m .sliceB n7 n7,Int.toNat_natCast]
 simp only [Instr.sureAddr,Instr.sliceBounds,Sem.run_bind,Sem.run_pure,Result.andThen_ok,Option.isSome_none,Bool.false_eq_true,if_false,h1,hT.size he,ha]
 by_cases e0:m=k
 ·rw [if_pos e0,if_pos e0]
 ·rw [if_neg e0,if_neg e0]
theorem sti_arrFrom(hT:fD P T){o:Oper}{t e m sz k b off:Nat}{ei:TI}{x i:Operand}{kk:IntKind}{z:Int}(ho:o.op= .slice t x (some i) none none)(hx:Γ.ev x=some (.pointer (some ⟨b,off,none⟩)))(hi:Γ.ev i=some (.int kk z))
  (ht:T.get t=some ⟨.array m e,sz⟩) (he:T.get e=some ei) (hz:z=(k:Nat)) (hk:k≤m):Sti P β n Γ H F o (.slice (some ⟨b,if m=k then off else off+k*ei.size,none⟩) (m-k) (m-k)):=fun a w S f s hF=>by
 subst hz;unfold execOp;simp only [ho,f.ev hx,Option.map_some,Option.map_none,f.ev hi];rw [Sem.run_bind,run_arrFrom hT ht he hk];rfl
end
end
section
open Go.RowKit Go.Proofs.Tryz
theorem mono_zero:(prog.info? 100).bind (·.zero)=some (.agg #[.int .i64 0,.int .u8 0,.int .u8 0,.int .u8 0,.int .u8 0,.int .u8 0,.int .u8 0]):=n9
def EI (m:Mono):List Int:=[m.e0.toNat,m.e1.toNat,m.e2.toNat,m.e3.toNat,m.e4.toNat,m.e5.toNat]
def u8I:Flat Int where
 size:=1
 cells:=fun x=>[.int .u8 x]
 len:=fun _=>rfl
 one:=fun x u hu=>by simp at hu;subst hu;rfl
 pos:=o9
theorem clamp_le(vars:Int):clampK vars≤6:=by unfold clampK;omega
theorem clamp_eq(vars:Int):(if (6:Int)<(if (0:Int)>vars then 0 else vars) then 6 else (if (0:Int)>vars then 0 else vars))=((clampK vars:Nat):Int):=by
 unfold clampK;split<;>split<;>omega
theorem ei_len(m:Mono)(vars:Int):((EI m).drop (clampK vars)).length=6-clampK vars:=by
 rw [List.length_drop];rfl
theorem bVd{β:dF}{H H':List bH}{F:List Fact}{b:Nat}{t:TypeId}{m:Mono}{k:Nat}(hH:cD H (.obj b (.cells m.cells.toArray t)) H'):dQ β H F u8I (some ⟨b,if 6=k then 1 else 1+k*1,none⟩) ((EI m).drop k):=fun w S s hF j x hx=>by
 refine⟨⟨b,_,rfl⟩,fun q u hq=>?_⟩;have hj:=(List.getElem?_eq_some_iff.1 hx).1;rw [List.length_drop] at hj;have hj:j<6-k:=hj;rw [List.getElem?_drop] at hx
 have h0:=cA (β:=β) (F:=F) (off:=0) hH w S s hF (1+k+j) (.int .u8 x) (by
  show m.cells[1+k+j]?=_;have e:m.cells= .int .i64 m.n::(EI m).map (fun z=>Value.int .u8 z):=rfl;rw [e,show 1+k+j=(k+j)+1 by omega,List.getElem?_cons_succ,List.getElem?_map,hx]
  rfl)
 have hq0:q=0:=by
  have:=(List.getElem?_eq_some_iff.1 hq).1;simp [u8I] at this;exact this
 subst hq0;cases hq;show w.cell? ⟨b,(if 6=k then 1 else 1+k*1)+j*1+0,none⟩=_;rw [if_neg n7];rw [show 1+k*1+j*1+0=0+(1+k+j) by omega];exact h0
def okM (k:Nat)(m:Mono):Bool:=(m.E.drop k).all (fun e=>e==0)
theorem okM_eq(k:Nat)(m:Mono):okM k m=((EI m).drop k).all (fun e=>e==0):=by
 have e:EI m=m.E.map fun e=>((e.toNat:Nat):Int):=rfl;unfold okM;rw [e,←List.map_drop,List.all_map]
 congr 1
 funext u
 rw [Bool.eq_iff_iff];simp [←UInt8.toNat_inj]
theorem bIz{α:Type}{p:α→Bool}{l:List α}{i:Nat}{x:α}(h:(l.take i).all p=true)(hx:l[i]?=some x)(k:p x=true):(l.take (i+1)).all p=true:=by
 obtain⟨hi,e⟩:=List.getElem?_eq_some_iff.1 hx;rw [List.take_succ_eq_append_getElem hi,e,List.all_append,h];simp [k]
theorem bQk{α:Type}{p:α→Bool}{l:List α}{i:Nat}(h:(l.take i).all p=true)(hi:l.length≤i):l.all p=true:=by
 rwa [List.take_of_length_le hi] at h
theorem all_bad{α:Type}{p:α→Bool}{l:List α}{i:Nat}{x:α}(hx:l[i]?=some x)(k:p x=false):l.all p=false:=List.all_eq_false.2 ⟨x,List.mem_of_getElem? hx,by simp [k]⟩
theorem okM_end{k j:Nat}{m:Mono}(h:(((EI m).drop k).take j).all (fun e=>e==0)=true)(hj:((EI m).drop k).length≤j):okM k m=true:=by
 rw [okM_eq];exact bQk h hj
theorem okM_bad{k j:Nat}{m:Mono}{e:Int}(hx:((EI m).drop k)[j]?=some e)(h:e≠0):okM k m=false:=by
 rw [okM_eq];exact all_bad hx ag7
theorem ei_ge{k j:Nat}{m:Mono}{e:Int}(hx:((EI m).drop k)[j]?=some e):0≤e:=by
 have:=List.mem_of_mem_drop (j4 hx);simp [EI] at this;omega
theorem le_zero{e:Int}(h:e≤0)(k:0≤e):e=0:=n7
theorem of_bad{p:List Mono}{vars:Int}{i:Nat}{m:Mono}(hx:p[i]?=some m)(h:okM (clampK vars) m=false):Value.bool false= .bool (ofB p vars):=by
 unfold ofB;rw [show p.all (fun m=>(m.E.drop (clampK vars)).all (fun e=>e==0))=false from all_bad hx h];rfl
theorem of_end{p:List Mono}{vars:Int}(h:p.all (okM (clampK vars))=true):Value.bool (cU p)= .bool (ofB p vars):=by
 unfold ofB;rw [show p.all (fun m=>(m.E.drop (clampK vars)).all (fun e=>e==0))=true from h];rfl
theorem grow_bad{l:List (List Mono)}{vars:Int}{i:Nat}{p:List Mono}(hx:l[i]?=some p)(h:(ofB p vars&&fS p)=false):Value.bool false= .bool (lB l vars):=by
 unfold lB;rw [all_bad hx h];rfl
theorem grow_end{l:List PolV}{vars:Int}(h:(bJ l).all (fun p=>ofB p vars&&fS p)=true):Value.bool (decide ((l.length:Int)≤4))= .bool (lB (bJ l) vars):=by
 unfold lB;rw [h,bF,Bool.true_and]
 congr 1
 rw [decide_eq_decide];omega
theorem of_spec(p:PolV)(vars:Int):cM prog 65 [.slice p.addr p.list.length p.cap,.int .i64 vars] [] [kT p] (fun(_:Unit)=> .bool (ofB p.list vars)) (fun _=>[]) (fun _=>[]):=by
 have hT:=kZ;refine k6 func65 ntmps65 ?_;intro β hM;refine cO<|bC (bEp d7) fun hp=>?_;refine bB (nH.sl (.slice p.addr p.list.length p.cap) p.list) (qI d7) ?_;refine g13 ?_;refine cB (ι:=Nat) [(0,_),(1,_),(9,_),(10,_)] ⟨rfl,rfl,rfl,rfl,j0⟩ (fun i=>[(11,.int .i64 (i:Nat))]) (fun _=>[]) (fun i=>[Fact.pure (i≤p.list.length∧(p.list.take i).all (okM (clampK vars))=true)]) (fun i=>p.list.length-i) 0 ⟨rfl,j0⟩ .nil ⟨j3 (⟨n7,rfl⟩),j0⟩ ?_;rintro i;refine bC d7 fun hinv2=>?_;refine g6 ?_;refine dJ (fun hc12=>?_) fun hc12=>?_
 ·refine g6 ?_;obtain⟨x1,hx2⟩:=gx p.list i;refine ss (ixs i) ?_;refine ss (lS hx2 0) ?_;refine j6 mono_zero fun b3=>?_;refine g9 ?_;refine cP (z':=((clampK vars:Nat):Int)) (clamp_eq vars) ?_;have hcl:=clamp_le vars;refine ss (sti_arrFrom hT (k:=clampK vars) rfl rfl rfl rfl rfl rfl (clamp_le vars)) ?_;refine one ?_;refine cP (z':=(((6-clampK vars):Nat):Int)) (rfl) ?_;refine g4 ?_;refine cB (ι:=Nat) [(0,_),(1,_),(9,_),(10,_),(11,_),(19,_),(20,_)] ⟨rfl,rfl,rfl,rfl,rfl,rfl,rfl,j0⟩ (fun j=>[(21,.int .i64 (j:Nat))]) (fun _=>[]) (fun j=>[Fact.pure (j≤6-clampK vars∧(((EI x1).drop (clampK vars)).take j).all (fun e=>e==0)=true)]) (fun j=>6-clampK vars-j) 0 ⟨rfl,j0⟩ .nil ⟨j3 (⟨n7,rfl⟩),j0⟩ ?_;rintro j;refine bC d7 fun hinv5=>?_;refine g6 ?_;refine dJ (fun hc22=>?_) fun hc22=>?_
  ·refine g6 ?_;obtain⟨x4,hx5⟩:=gx ((EI x1).drop (clampK vars)) j (by rw [ei_len];omega);refine ss (cF hT (k:=j) (bVd .head) rfl rfl rfl rfl rfl (ei_len x1 vars).symm rfl (by rw [ei_len];omega)) ?_;refine ss (j7 hT (dQ.knows (bVd .head) (k:=j) (x:=x4) hx5 0)) ?_;refine g9 ?_;refine dJ (fun hc26=>?_) fun hc26=>?_
   ·refine g15 ?_;exact rs1 () j0 (he:=of_bad hx2 (okM_bad hx5 n7))
   refine g5 ?_;refine inc (j+1) ?_;refine g3 ?_;exact bk2 (j+1) ⟨j3 (⟨n7,bIz hinv5.2 hx5 (beq_iff_eq.2 (le_zero ‹_› (ei_ge hx5)))⟩),j0⟩
  refine g8 ?_;refine inc (i+1) ?_;refine g3 ?_;exact bk2 (i+1) ⟨j3 (⟨n7,bIz hinv2.2 hx2 (okM_end hinv5.2 (by rw [ei_len];omega))⟩),j0⟩
 refine g8 ?_;refine j5 func107 (polR_spec p hp) ⟨d9,j0⟩ fun _=>?_;refine g4 ?_;exact rs1 () j0 (he:=of_end (bQk hinv2.2 n7))
theorem bVs(l:Sl PolV)(vars:Int):cM prog 30 [.slice l.addr l.list.length l.cap,.int .i64 vars] [] [xU l] (fun(_:Unit)=> .bool (lB (bJ l.list) vars)) (fun _=>[]) (fun _=>[]):=by
 have hT:=kZ;refine k6 func30 ntmps30 ?_;intro β hM;refine cO<|bC (listF_cK d7) fun hlz=>?_;have hlz2:=hlz.2;refine bB (bS.sl (.slice l.addr l.list.length l.cap) l.list) (listF_sK d7) ?_;refine g13 ?_;refine cB (ι:=Nat) [(0,_),(1,_),(7,_),(8,_)] ⟨rfl,rfl,rfl,rfl,j0⟩ (fun i=>[(9,.int .i64 (i:Nat))]) (fun _=>[]) (fun i=>[Fact.pure (i≤l.list.length∧((bJ l.list).take i).all (fun p=>ofB p vars&&fS p)=true)]) (fun i=>l.list.length-i) 0 ⟨rfl,j0⟩ .nil ⟨j3 (⟨n7,rfl⟩),j0⟩ ?_;rintro i;refine bC d7 fun hinv2=>?_;refine g6 ?_;refine dJ (fun hc10=>?_) fun hc10=>?_
 ·refine g6 ?_;obtain⟨x1,hx2⟩:=gx l.list i;refine ss (ixs i) ?_;refine ss (fL hx2 0) ?_;refine g4 ?_;refine bB (kT x1) (Has.each (listF_eK d9) (j4 hx2))<|bC (bEp d7) fun hpx1=>?_;refine g3 ?_;refine j5 func65 (of_spec x1 vars) ⟨d7,j0⟩ fun _=>?_;refine g2 ?_;refine k_nt (fun hg17=>?_) fun hg17=>?_
  ·refine g18 ?_;exact rs1 () j0 (he:=grow_bad (gD hx2) (by simp_all))
  refine one ?_;refine j5 func66 (yD x1 hpx1) ⟨d7,j0⟩ fun _=>?_;refine g4 ?_;refine jJ (fun hc21=>?_) fun hc21=>?_
  ·refine g11 ?_;exact rs1 () j0 (he:=grow_bad (gD hx2) (by simp_all))
  refine g5 ?_;refine inc (i+1) ?_;refine g3 ?_;exact bk2 (i+1) ⟨j3 (⟨n7,bIz hinv2.2 (gD hx2) (by simp_all)⟩),j0⟩
 refine g14 ?_;exact rs1 () j0 (he:=grow_end (bQk hinv2.2 af0))
end
end Go.Proofs.YtakphiannlpnfaaGreatDoor
