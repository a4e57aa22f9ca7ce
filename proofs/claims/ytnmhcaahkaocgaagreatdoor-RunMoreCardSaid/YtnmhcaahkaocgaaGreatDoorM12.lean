/- Texts of one proof, one behind the other: RnF, UG, UH, UI, UJ, UK. -/
import Derived.Test.YtnmhcaahkaocgaaGreatDoorM11
namespace Go.Proofs.YtnmhcaahkaocgaaGreatDoor
section
variable {ds : List Int} {mem : List (List Int)} {d : List Int}
theorem bDd{α:Type}{L:List α}{k:Nat}{y:α}{f:α→α}(h:L[k]?=some y):L.modify k f=L.set k (f y):=by
 apply List.ext_getElem?;intro j;rw [List.getElem?_set,List.getElem?_modify];have hk:=(List.getElem?_eq_some_iff.1 h).1
 by_cases e:k=j
 ·subst e;rw [h];simp [hk]
 ·simp [e]
theorem rC{α:Type}{l:List α}{x z:α}{k:Nat}(hk:k<l.length):(l++[x]).getD k z=l.getD k z:=by
 rw [List.getD_eq_getElem?_getD,List.getD_eq_getElem?_getD,List.getElem?_append_left hk]
def OpIn (n:Nat)(o:OpC):Prop:=o.how=4→o.k.toNat<n
theorem op_more{at_:List Int}{o:OpC}(h:OpIn mem.length o)(s:List Int):kP ds (mem++[d]) at_ o s=kP ds mem at_ o s:=by
 unfold kP;split
 ·rfl
 ·split
  ·rfl
  ·split
   ·rfl
   ·split
    ·rename_i h4;rw [rC (h h4)]
    ·rfl
theorem ops_more{at_:List Int}: ∀{l:List OpC},(∀o∈l,OpIn mem.length o)→ ∀s,rnOps ds (mem++[d]) at_ l s=rnOps ds mem at_ l s
 | [],_,s=>rfl
 | o::l,h,s=>by
  show(kP ds (mem++[d]) at_ o s).bind _=(kP ds mem at_ o s).bind _;rw [op_more (h o (List.mem_cons_self ..))]
  congr 1
  funext t
  exact ops_more (fun o ho=>h o (List.mem_cons_of_mem _ ho)) t
theorem one_more{at_:List Int}{l:List OpC}(h: ∀o∈l,OpIn mem.length o):cY ds (mem++[d]) at_ l=cY ds mem at_ l:=by
 unfold cY;rw [ops_more h]
theorem bAn{x:cZ}{n:Nat}{v:Int}{m:List (List Int)}(h:hJ ds x n v mem= .ok m):m.length=mem.length:=by
 obtain⟨t,_,h⟩:=nD h;split at h
 ·cases h
 ·cases h;exact List.length_modify ..
theorem put_more{x:cZ}(hb:x.buf.toNat<mem.length)(n:Nat)(v:Int):hJ ds x n v (mem++[d])=(hJ ds x n v mem).map (· ++[d]):=by
 unfold hJ
 cases rnVal ds x.at_ 121 with
 | error e=>rfl
 | ok t=>
  show(if (((mem++[d]).getD x.buf.toNat []).length:Int)≤t+n then _ else _)=Except.map _ (if ((mem.getD x.buf.toNat []).length:Int)≤t+n then _ else _);rw [rC hb];split
  ·rfl
  ·show Except.ok _=Except.ok _
   congr 1
   apply List.ext_getElem?;intro i;rw [List.getElem?_modify]
   by_cases hi:i<mem.length
   ·rw [List.getElem?_append_left hi,List.getElem?_append_left (by rw [List.length_modify];exact hi),List.getElem?_modify]
   ·have hne:x.buf.toNat≠i:=by omega
    rw [List.getElem?_append_right (by omega),List.getElem?_append_right (by rw [List.length_modify];omega),List.length_modify];simp [hne]
theorem bEt{at_:List Int}{x:cZ}(h: ∀o∈x.ops,OpIn mem.length o): ∀(m k:Nat) (v:Int),rnFold ds (mem++[d]) at_ x m k v=rnFold ds mem at_ x m k v
 | 0,_,_=>rfl
 | m+1,k,v=>by
  show(cY ds (mem++[d]) (at_++[(k:Int)]) x.ops).bind _=(cY ds mem (at_++[(k:Int)]) x.ops).bind _;rw [one_more h]
  congr 1
  funext y
  congr 1
  funext u
  exact bEt h m (k+1) u
theorem turn_more{at_:List Int}{x:cZ}{many last:Int}{n:Nat}(h: ∀o∈x.ops,OpIn mem.length o)(hb:x.buf.toNat<mem.length):dI ds x many at_ last n (mem++[d])=(dI ds x many at_ last n mem).map fun q=>(q.1,q.2++[d]):=by
 unfold dI;split
 ·rw [bEt h]
  cases rnFold ds mem at_ x many.toNat 0 (unitW x.fn).1 with
  | error e=>rfl
  | ok v=>
   show(hJ ds x n v (mem++[d])).map _=((hJ ds x n v mem).map _).map _;rw [put_more hb];cases hJ ds x n v mem<;>rfl
 ·rw [one_more h]
  cases cY ds mem at_ x.ops with
  | error e=>rfl
  | ok v=>
   show((if x.how=3∧0<at_.getLastD 0 then rnMust (dyadW x.fn last v) else .ok v).bind _)=((if x.how=3∧0<at_.getLastD 0 then rnMust (dyadW x.fn last v) else .ok v).bind _).map _
   cases (if x.how=3∧0<at_.getLastD 0 then rnMust (dyadW x.fn last v) else (.ok v:Rn Int)) with
   | error e=>rfl
   | ok v=>
    show(hJ ds x n v (mem++[d])).map _=((hJ ds x n v mem).map _).map _;rw [put_more hb];cases hJ ds x n v mem<;>rfl
theorem turn_len{at_:List Int}{x:cZ}{many last:Int}{n:Nat}{q:Int×List (List Int)}(h:dI ds x many at_ last n mem= .ok q):q.2.length=mem.length:=by
 unfold dI at h;split at h
 ·obtain⟨v,_,h⟩:=nD h;obtain⟨m,hm,rfl⟩:=map_ok h;exact bAn hm
 ·obtain⟨v,_,h⟩:=nD h;obtain⟨v,_,h⟩:=nD h;obtain⟨m,hm,rfl⟩:=map_ok h;exact bAn hm
end
section
variable {ds : List Int} {d : List Int} {x : cZ} {many : Int} {lr : List Int}
theorem bDf: ∀(m:Nat) (r:List Int) (last:Int) (n:Nat) (mem:List (List Int)),(∀o∈x.ops,OpIn mem.length o)→x.buf.toNat<mem.length→rnWalk ds x many lr m r last n (mem++[d])=(rnWalk ds x many lr m r last n mem).map (· ++[d])
 | 0,_,_,_,_,_,_=>rfl
 | m+1,r,last,n,mem,h,hb=>by
  show(dI ds x many r.reverse last n (mem++[d])).bind _=((dI ds x many r.reverse last n mem).bind _).map _;rw [turn_more h hb]
  cases ht:dI ds x many r.reverse last n mem with
  | error e=>rfl
  | ok q=>
   show(match lF r lr with
    | some r'=>rnWalk ds x many lr m r' q.1 (n+1) (q.2++[d])
    | none=> .ok (q.2++[d]))=Except.map _ (match lF r lr with
    | some r'=>rnWalk ds x many lr m r' q.1 (n+1) q.2
    | none=> .ok q.2)
   have hl:=turn_len ht
   cases lF r lr with
   | none=>rfl
   | some r'=>exact bDf m r' q.1 (n+1) q.2 (by rw [hl];exact h) (by rw [hl];exact hb)
theorem walk_len: ∀{m:Nat} {r:List Int} {last:Int} {n:Nat} {mem mem':List (List Int)},rnWalk ds x many lr m r last n mem= .ok mem'→mem'.length=mem.length
 | 0,_,_,_,_,_,h=>by cases h;rfl
 | m+1,r,last,n,mem,mem',h=>by
  obtain⟨q,hq,h⟩:=nD (show(dI ds x many r.reverse last n mem).bind _= .ok mem' from h);rw [←turn_len hq];split at h
  ·exact walk_len h
  ·cases h;rfl
def stepIn(n:Nat)(x:cZ):Prop:=(∀o∈x.ops,OpIn n o)∧x.buf.toNat<n
theorem step_more{m:RnM}(h:stepIn m.mem.length x):gN ds x ⟨m.mem++[d],m.turns⟩=(gN ds x m).map fun q=>⟨q.mem++[d],q.turns⟩:=by
 unfold gN
 cases rnLoops ds x.loops [] with
 | error e=>rfl
 | ok l=>
  show(if 2097152<m.turns+dP x l then _ else _)=Except.map _ (if 2097152<m.turns+dP x l then _ else _);split
  ·rfl
  ·simp only;generalize (if x.how=2 then l.dropLast else l)=outer
   by_cases hc:outer.contains 0=true
   ·rw [if_pos hc,if_pos hc];rfl
   ·rw [if_neg hc,if_neg hc,bDf _ _ _ _ _ h.1 h.2];cases rnWalk ds x (l.getLastD 0) outer.reverse (sizeR outer.reverse).toNat (List.replicate outer.length 0) 0 0 m.mem<;>rfl
theorem step_len{m m':RnM}(h:gN ds x m= .ok m'):m'.mem.length=m.mem.length:=by
 unfold gN at h;obtain⟨l,_,h⟩:=nD h;split at h
 ·cases h
 ·simp only at h;generalize (if x.how=2 then l.dropLast else l)=outer at h
  by_cases hc:outer.contains 0=true
  ·rw [if_pos hc] at h;cases h;rfl
  ·rw [if_neg hc] at h;obtain⟨mem,hm,rfl⟩:=map_ok h;exact walk_len hm
end
theorem zJ{ds d:List Int}{last:cZ}: ∀{l:List cZ} {i:Nat} {m:RnM},(∀x∈l,stepIn m.mem.length x)→dU ds (l++[last]) i ⟨m.mem++[d],m.turns⟩=
  match dU ds l i m with
  | .error e=> .error e
  | .ok m=>dU ds [last] (i+l.length) ⟨m.mem++[d],m.turns⟩
 | [],i,m,_=>rfl
 | x::l,i,m,h=>by
  have h1: ∀(r:List cZ) (q:RnM),dU ds (x::r) i q=match gN ds x q with
   | .error e=>(Except.error (i,e):Except (Nat×Int) RnM)
   | .ok m=>dU ds r (i+1) m:=fun _ _=>rfl
  rw [List.cons_append,h1,h1];rw [step_more (h x (List.mem_cons_self ..))]
  cases hs:gN ds x m with
  | error e=>rfl
  | ok m'=>
   have hl:=step_len hs;show dU ds (l++[last]) (i+1) ⟨m'.mem++[d],m'.turns⟩=_;rw [zJ (fun y hy=>by rw [hl];exact h y (List.mem_cons_of_mem _ hy))];rw [show i+(x::l).length=i+1+l.length by rw [List.length_cons];omega]
theorem stepsl{ds:List Int}: ∀{l:List cZ} {i:Nat} {m m':RnM},dU ds l i m= .ok m'→m'.mem.length=m.mem.length
 | [],i,m,m',h=>by cases h;rfl
 | x::l,i,m,m',h=>by
  unfold dU at h;split at h
  ·cases h
  ·rename_i m1 h1;rw [stepsl h,step_len h1]
theorem vK{ds:List Int}{ins:List Arr}{u:fV}: ∀{l:List fV} {mem:List (List Int)},rnLoad ds ins (l++[u]) mem=(rnLoad ds ins l mem).bind (rnLoad ds ins [u])
 | [],mem=>rfl
 | b::l,mem=>by
  have h1: ∀r,rnLoad ds ins (b::r) mem=if b.input<0 then rnLoad ds ins r (mem++[List.replicate (gA (dA ds b)).1.toNat 0]) else if kX (ins.getD b.input.toNat rJ)=true∧(ins.getD b.input.toNat rJ).sides=dA ds b then rnLoad ds ins r (mem++[(ins.getD b.input.toNat rJ).data]) else .error 120:=fun _=>rfl
  rw [List.cons_append,h1,h1];split
  ·exact vK
  ·split
   ·exact vK
   ·rfl
theorem yO{ds:List Int}{ins:List Arr}: ∀{l:List fV} {mem mem':List (List Int)},rnLoad ds ins l mem= .ok mem'→mem'.length=mem.length+l.length
 | [],mem,mem',h=>by cases h;rfl
 | b::l,mem,mem',h=>by
  unfold rnLoad at h;split at h
  ·have:=yO h;simp at this⊢;omega
  ·split at h
   ·have:=yO h;simp at this⊢;omega
   ·cases h
theorem bCu{u:fV}(hu:u.input= -1): ∀{l:List fV} {n:Int},0≤n→rnMost (l++[u]) n=rnMost l n
 | [],n,h=>by
  show max n (u.input+1)=n;omega
 | b::l,n,h=>by
  show rnMost (l++[u]) (max n (b.input+1))=rnMost l (max n (b.input+1));exact bCu hu (by omega)
theorem yN{ds:List Int}{u:fV}: ∀{l:List fV} {all:Int},cellsGo ds (l++[u]) all=if (cellsGo ds l all).2≠0 then cellsGo ds l all else cellsGo ds [u] (cellsGo ds l all).1
 | [],all=>rfl
 | b::l,all=>by
  have h1: ∀r,cellsGo ds (b::r) all=match sizeB b.sides ds with
   | none=>((0,102):Int×Int)
   | some n=>if 1048576<all+n then (0,102) else cellsGo ds r (all+n):=fun _=>rfl
  rw [List.cons_append,h1,h1]
  cases sizeB b.sides ds with
  | none=>rfl
  | some n=>
   simp only;split
   ·rfl
   ·exact yN
def iN:fV:=⟨[],-1⟩
def gQ (n:Nat):cZ:=⟨1,(n:Int),[],[],0,[⟨1,0,7,[],0⟩]⟩
def moreCore(c:jK):jK:=⟨c.vars,c.bufs++[iN],c.steps++[gQ c.bufs.length],c.outs⟩
theorem yE{vars:Int}: ∀{l:List fV} {seen:List Int},(∀k∈seen,0≤k)→kW vars l seen=true→kW vars (l++[iN]) seen=true
 | [],seen,hs,_=>by
  show(iW [] vars&&(decide (-1≤(-1:Int)∧(-1:Int)<64)&&(!(seen.contains (-1))&&kW vars [] _)))=true
  have h1:seen.contains (-1)=false:=by
   cases hc:seen.contains (-1) with
   | false=>rfl
   | true=>
    have:=hs (-1) (by simpa using hc);omega
  rw [h1];rfl
 | b::l,seen,hs,h=>by
  obtain⟨h1,h2⟩:=gB (show(iW b.sides vars&&(decide (-1≤b.input∧b.input<64)&&(!(seen.contains b.input)&&kW vars l (if 0≤b.input then b.input::seen else seen))))=true from h);obtain⟨h3,h4⟩:=gB h2;obtain⟨h5,h6⟩:=gB h4;show(iW b.sides vars&&(decide (-1≤b.input∧b.input<64)&&(!(seen.contains b.input)&&kW vars (l++[iN]) (if 0≤b.input then b.input::seen else seen))))=true;rw [h1,h3,h5,yE (fun k hk=>?_) h6]
  ·rfl
  ·split at hk
   ·rcases List.mem_cons.1 hk with rfl | hk
    ·assumption
    ·exact hs k hk
   ·exact hs k hk
theorem opB_more{vars loops buf:Int}{made:List Bool}{o:OpC}{b:Bool}(h:opB vars loops buf made o=true):opB vars loops buf (made++[b]) o=true:=by
 unfold opB at h⊢;split at h
 ·rename_i h1;rw [if_pos h1];exact h
 ·rename_i h1;rw [if_neg h1];split at h
  ·rename_i h2;rw [if_pos h2];exact h
  ·rename_i h2;rw [if_neg h2];split at h
   ·rename_i h3;rw [if_pos h3];exact h
   ·rename_i h3;rw [if_neg h3];split at h
    ·rename_i h4;rw [if_pos h4];obtain⟨h5,h6⟩:=gB h;obtain⟨h7,h8⟩:=gB h6
     have hlt:o.k.toNat<made.length:=by
      rw [List.getD_eq_getElem?_getD] at h7
      cases hg:made[o.k.toNat]? with
      | none=>rw [hg] at h7;cases h7
      | some z=>exact(List.getElem?_eq_some_iff.1 hg).1
     rw [rC hlt,h5,h7,h8];rfl
    ·rename_i h4;rw [if_neg h4];exact h
theorem stepB_more{vars:Int}{made:List Bool}{x:cZ}{b:Bool}(h:hU vars made x=true):hU vars (made++[b]) x=true:=by
 unfold hU at h⊢;simp only [Bool.and_eq_true,List.all_eq_true] at h⊢;exact⟨h.1,h.2.1,h.2.2.1,h.2.2.2.1,h.2.2.2.2.1,fun o ho=>opB_more (h.2.2.2.2.2 o ho)⟩
theorem bBy{vars:Int}{made:List Bool}{n:Nat}:hU vars made (gQ n)=true:=by
 have h1:ofB [] vars=true:=by unfold ofB;simp;decide+kernel
 have h2:jY []=true:=by decide+kernel
 have h3:rH (gQ n).ops=1:=by show rH [⟨1,0,7,[],0⟩]=1;decide+kernel
 unfold hU;rw [h3];show((ofB [] vars&&jY [])&&(true&&_))=true;rw [h1,h2];rfl
theorem wB{vars:Int}{bufs:List fV}: ∀{l:List cZ} {made:List Bool},made.length=bufs.length→jC vars bufs l made=true→jC vars (bufs++[iN]) (l++[gQ bufs.length]) (made++[false])=true
 | [],made,hm,_=>by
  show((decide (0≤(bufs.length:Int))&&(match (bufs++[iN])[(bufs.length:Int).toNat]? with
   | some b=>decide (b.input<0)
   | none=>false))&&(hU vars (made++[false]) (gQ bufs.length)&&true))=true
  rw [bBy,show(bufs.length:Int).toNat=bufs.length by omega,List.getElem?_append_right (Nat.le_refl _),Nat.sub_self];simp [iN]
 | x::l,made,hm,h=>by
  obtain⟨h1,h2⟩:=gB (show((decide (0≤x.buf)&&(match bufs[x.buf.toNat]? with
   | some b=>decide (b.input<0)
   | none=>false))&&(hU vars made x&&jC vars bufs l (made.set x.buf.toNat true)))=true from h)
  obtain⟨h3,h4⟩:=gB h1;obtain⟨h5,h6⟩:=gB h2
  have hlt:x.buf.toNat<bufs.length:=by
   cases hg:bufs[x.buf.toNat]? with
   | none=>rw [hg] at h4;cases h4
   | some z=>exact(List.getElem?_eq_some_iff.1 hg).1
  show((decide (0≤x.buf)&&(match (bufs++[iN])[x.buf.toNat]? with
   | some b=>decide (b.input<0)
   | none=>false))&&(hU vars (made++[false]) x&&jC vars (bufs++[iN]) (l++[gQ bufs.length]) ((made++[false]).set x.buf.toNat true)))=true
  rw [List.getElem?_append_left hlt,h3,h4,stepB_more h5,List.set_append_left _ _ (by rw [hm];exact hlt),wB (by rw [List.length_set];exact hm) h6];rfl
theorem right_more{c:jK}(hr:fJ c=true)(hb:c.bufs.length<1024)(hs:c.steps.length<1024):fJ (moreCore c)=true:=by
 obtain⟨h1,h2⟩:=gB hr;obtain⟨h3,h4⟩:=gB h2;obtain⟨h5,h6⟩:=gB h4;have h1:=of_decide_eq_true h1;show(decide (0≤c.vars∧c.vars≤6∧(c.bufs++[iN]).length≤1024∧(c.steps++[gQ c.bufs.length]).length≤1024∧c.outs.length≤64)&&(kW c.vars (c.bufs++[iN]) []&&(jC c.vars (c.bufs++[iN]) (c.steps++[gQ c.bufs.length]) (mK (c.bufs++[iN]))&&c.outs.all fun k=>decide (0≤k∧k<(c.bufs++[iN]).length))))=true
 have hm:mK (c.bufs++[iN])=mK c.bufs++[false]:=by
  unfold mK;rw [List.map_append];rfl
 have ho:(c.outs.all fun k=>decide (0≤k∧k<(c.bufs++[iN]).length))=true:=by
  rw [List.all_eq_true] at h6⊢;intro k hk;have:=of_decide_eq_true (h6 k hk);rw [List.length_append,List.length_singleton];exact decide_eq_true (by omega)
 rw [hm,yE (fun k hk=>by cases hk) h3,wB (by unfold mK;rw [List.length_map]) h5,ho];simp only [List.length_append,List.length_singleton,Bool.and_true,decide_eq_true_eq];omega
theorem opB_inF{vars loops buf:Int}{made:List Bool}{o:OpC}(h:opB vars loops buf made o=true):OpIn made.length o:=fun h4=>by
 unfold opB at h;rw [if_neg (by omega),if_neg (by omega),if_neg (by omega),if_pos h4] at h;have h7:=(gB (gB h).2).1;rw [List.getD_eq_getElem?_getD] at h7
 cases hg:made[o.k.toNat]? with
 | none=>rw [hg] at h7;cases h7
 | some z=>exact(List.getElem?_eq_some_iff.1 hg).1
theorem stepB_inF{vars:Int}{made:List Bool}{x:cZ}(h:hU vars made x=true): ∀o∈x.ops,OpIn made.length o:=by
 unfold hU at h;simp only [Bool.and_eq_true,List.all_eq_true] at h;exact fun o ho=>opB_inF (h.2.2.2.2.2 o ho)
theorem bBm{vars:Int}{bufs:List fV}: ∀{l:List cZ} {made:List Bool},made.length=bufs.length→jC vars bufs l made=true→ ∀x∈l,stepIn bufs.length x
 | [],_,_,_,x,hx=>by cases hx
 | y::l,made,hm,h,x,hx=>by
  obtain⟨h1,h2⟩:=gB (show((decide (0≤y.buf)&&(match bufs[y.buf.toNat]? with
   | some b=>decide (b.input<0)
   | none=>false))&&(hU vars made y&&jC vars bufs l (made.set y.buf.toNat true)))=true from h)
  obtain⟨h3,h4⟩:=gB h1;obtain⟨h5,h6⟩:=gB h2
  rcases List.mem_cons.1 hx with rfl | hx
  ·refine⟨by rw [←hm];exact stepB_inF h5,?_⟩
   cases hg:bufs[x.buf.toNat]? with
   | none=>rw [hg] at h4;cases h4
   | some z=>exact(List.getElem?_eq_some_iff.1 hg).1
  ·exact bBm (by rw [List.length_set];exact hm) h6 x hx
theorem right_stepIn{c:jK}(hr:fJ c=true): ∀x∈c.steps,stepIn c.bufs.length x:=bBm (by unfold mK;rw [List.length_map]) (gB (gB (gB hr).2).2).1
theorem right_outs{c:jK}(hr:fJ c=true): ∀k∈c.outs,0≤k∧k<c.bufs.length:=fun k hk=>of_decide_eq_true (List.all_eq_true.1 (gB (gB (gB hr).2).2).2 k hk)
theorem dims_in{c:jK}{ds:List Int}(hr:fJ c=true)(hd:lA c.vars ds=true):oJ ds=true:=by
 have h1:=of_decide_eq_true (gB hr).1;obtain⟨h2,h3⟩:=gB hd;have h2:=of_decide_eq_true h2;unfold oJ;rw [Bool.and_eq_true];refine⟨decide_eq_true (by omega),?_⟩;rw [List.all_eq_true];intro d hd;have h4:ds.any badD=false:=by simpa using h3
 rw [List.any_eq_false] at h4;have:=h4 d hd;unfold badD at this;simp only [Bool.or_eq_true,decide_eq_true_eq,not_or] at this;exact decide_eq_true (by omega)
theorem rn_evalE{ds:List Int}(h:oJ ds=true):evalP [] ds=(0,0):=by
 unfold evalP;rw [if_pos (by decide+kernel),if_pos h];rfl
theorem sizeB_none(ds:List Int):sizeB [] ds=some 1:=by
 show(if ([]:List Int).contains 0=true then some 0 else prodQ [] 1)=some 1;rfl
theorem last_more{ds:List Int}(hd:oJ ds=true){m:RnM}{n i:Nat}(hn:m.mem.length=n):dU ds [gQ n] i ⟨m.mem++[[0]],m.turns⟩=if 2097152<m.turns+1 then .error (i,122) else .ok ⟨m.mem++[[7]],m.turns+1⟩:=by
 have hs:gN ds (gQ n) ⟨m.mem++[[0]],m.turns⟩=if 2097152<m.turns+1 then .error 122 else .ok ⟨m.mem++[[7]],m.turns+1⟩:=by
  unfold gN;show(if 2097152<m.turns+1 then Except.error 122 else _)=_;split
  ·rfl
  ·have hp:hJ ds (gQ n) 0 7 (m.mem++[[0]])= .ok (m.mem++[[7]]):=by
    unfold hJ rnVal;show(if (evalP [] ds).2=0 then Except.ok (evalP [] ds).1 else Except.error 121).bind _=_;rw [rn_evalE hd];show(if (((m.mem++[[0]]).getD (n:Int).toNat []).length:Int)≤0+((0:Nat):Int) then _ else Except.ok ((m.mem++[[0]]).modify (n:Int).toNat fun d=>d.set 0 7))=_
    have hg:(m.mem++[[(0:Int)]]).getD (n:Int).toNat []=[0]:=by
     rw [show(n:Int).toNat=m.mem.length by omega,List.getD_eq_getElem?_getD,List.getElem?_append_right (Nat.le_refl _),Nat.sub_self];rfl
    rw [hg,if_neg (by decide)]
    congr 1
    rw [show(n:Int).toNat=m.mem.length by omega];rw [bDd (y:=[0]) (by rw [List.getElem?_append_right (Nat.le_refl _),Nat.sub_self];rfl)];rw [List.set_append_right _ _ (Nat.le_refl _),Nat.sub_self];rfl
   show(rnWalk ds (gQ n) _ [] 1 [] 0 0 (m.mem++[[0]])).map _=_;show((dI ds (gQ n) _ [] 0 0 (m.mem++[[0]])).bind _).map _=_
   have ht:dI ds (gQ n) (([]:List Int).getLastD 0) [] 0 0 (m.mem++[[0]])= .ok (7,m.mem++[[7]]):=by
    unfold dI;rw [if_neg (by show ¬(1:Int)=2;decide)];show(hJ ds (gQ n) 0 7 (m.mem++[[0]])).map _=_;rw [hp];rfl
   rw [ht];rfl
 unfold dU;rw [hs]
 by_cases h:2097152<m.turns+1
 ·rw [if_pos h,if_pos h]
 ·rw [if_neg h,if_neg h];rfl
theorem outs_more{ds:List Int}{bufs:List fV}{u:fV}{mem:List (List Int)}{d:List Int}{outs:List Int}(hm:mem.length=bufs.length)(ho: ∀k∈outs,0≤k∧k<bufs.length):lO ds (bufs++[u]) (mem++[d]) outs=lO ds bufs mem outs:=by
 unfold lO;apply List.map_congr_left;intro k hk;have:=ho k hk;rw [rC (by omega),rC (by omega)]
theorem cells_ok{c:jK}{ds:List Int}(h:(dO c ds).2=0):fJ c=true∧lA c.vars ds=true∧dO c ds=cellsGo ds c.bufs 0:=by
 unfold dO at h⊢;split at h
 ·rename_i h1;split at h
  ·rename_i h2;rw [if_pos h1,if_pos h2];exact⟨h1,h2,rfl⟩
  ·cases h
 ·cases h
theorem rn_more{c:jK}{ds:List Int}{ins:List Arr}(hr:fJ c=true)(hb:c.bufs.length<1024)(hs:c.steps.length<1024):let A:=rnRun c ds ins;let B:=rnRun (moreCore c) ds ins
  if A.2.2=0∧(B.2.2=122∨B.2.2=102) then B.1=[] else ((A.2.2=B.2.2∧A.2.1=B.2.1)∨B.2.2=102)∧(B.2.2=0→A.1=B.1):=by
 intro A B;have hr':=right_more hr hb hs;have hB:B=rnRun (moreCore c) ds ins:=rfl;have hA:A=rnRun c ds ins:=rfl
 have same:B=A→(if A.2.2=0∧(B.2.2=122∨B.2.2=102) then B.1=[] else ((A.2.2=B.2.2∧A.2.1=B.2.1)∨B.2.2=102)∧(B.2.2=0→A.1=B.1)):=fun e=>by
  rw [e];split
  ·rename_i h;omega
  ·exact⟨.inl ⟨rfl,rfl⟩,fun _=>rfl⟩
 have hc:dO (moreCore c) ds=if (dO c ds).2≠0 then dO c ds else if 1048576<(dO c ds).1+1 then (0,102) else ((dO c ds).1+1,0):=by
  unfold dO;rw [if_pos hr,if_pos hr'];show(if lA c.vars ds=true then cellsGo ds (c.bufs++[iN]) 0 else (0,101))=_;split
  ·rw [yN];split
   ·rfl
   ·show(match sizeB [] ds with
     | none=>((0,102):Int×Int)
     | some n=>if 1048576<(cellsGo ds c.bufs 0).1+n then (0,102) else cellsGo ds [] ((cellsGo ds c.bufs 0).1+n))=_
    rw [sizeB_none];rfl
  ·rw [if_pos (by decide)]
 by_cases h0:(dO c ds).2=0
 ·rw [if_neg (by omega)] at hc;obtain⟨_,hd,_⟩:=cells_ok h0;have hdb:=dims_in hr hd
  by_cases h1:1048576<(dO c ds).1+1
  ·have hb':B=([],0,102):=by
    rw [hB];unfold rnRun;rw [hc,if_pos h1];rfl
   rw [hb'];split
   ·rfl
   ·exact⟨.inr rfl,fun h=>absurd h (by decide)⟩
  ·rw [if_neg h1] at hc;have hmost:rnMost (moreCore c).bufs 0=rnMost c.bufs 0:=bCu rfl (Int.le_refl _)
   by_cases h2:(ins.length:Int)≠rnMost c.bufs 0
   ·apply same;rw [hA,hB];unfold rnRun;rw [hc,hmost,if_neg (by simp),if_pos h2,if_neg (by omega),if_pos h2]
   ·have hl:rnLoad ds ins (moreCore c).bufs []=(rnLoad ds ins c.bufs []).bind (rnLoad ds ins [iN]):=vK
    cases hld:rnLoad ds ins c.bufs [] with
    | error e=>
     apply same;rw [hA,hB];unfold rnRun;rw [hc,hmost,if_neg (by simp),if_neg h2,if_neg (by omega),if_neg h2,hl,hld];rfl
    | ok mem=>
     have hm:mem.length=c.bufs.length:=by have:=yO hld;simpa using this
     have hl2:rnLoad ds ins (moreCore c).bufs []= .ok (mem++[[0]]):=by
      rw [hl,hld];show rnLoad ds ins [iN] mem=_;unfold rnLoad;rw [if_pos (by decide)];rfl
     have hsteps:=zJ (ds:=ds) (d:=[0]) (last:=gQ c.bufs.length) (l:=c.steps) (i:=0) (m:=⟨mem,0⟩) (fun x hx=>by rw [hm];exact right_stepIn hr x hx)
     have hBe:B=match dU ds (c.steps++[gQ c.bufs.length]) 0 ⟨mem++[[0]],0⟩ with
       | .error (i,e)=>([],i,e)
       | .ok m=>(lO ds (c.bufs++[iN]) m.mem c.outs,0,0):=by
      rw [hB];unfold rnRun;rw [hc,hmost,if_neg (by simp),if_neg h2,hl2];rfl
     have hAe:A=match dU ds c.steps 0 ⟨mem,0⟩ with
       | .error (i,e)=>([],i,e)
       | .ok m=>(lO ds c.bufs m.mem c.outs,0,0):=by
      rw [hA];unfold rnRun;rw [if_neg (by omega),if_neg h2,hld];rfl
     rw [hsteps] at hBe
     cases hst:dU ds c.steps 0 ⟨mem,0⟩ with
     | error q=>
      apply same;rw [hst] at hAe hBe;rw [hAe,hBe]
     | ok m=>
      have hml:m.mem.length=c.bufs.length:=by rw [←hm];exact stepsl hst
      rw [hst] at hAe hBe;simp only at hAe hBe;rw [last_more hdb hml] at hBe
      by_cases h3:2097152<m.turns+1
      ·rw [if_pos h3] at hBe;simp only at hBe;rw [hAe,hBe];rw [if_pos ⟨rfl,.inl rfl⟩]
      ·rw [if_neg h3] at hBe;simp only at hBe;rw [outs_more hml (right_outs hr)] at hBe;exact same (by rw [hAe,hBe])
 ·apply same;rw [if_pos h0] at hc;rw [hA,hB];unfold rnRun;rw [hc,if_pos h0,if_pos h0]
def bnC (b n:Nat):bM:= .obj b (.cells ([.int .i64 (n:Nat)]:List Value).toArray 3)
def btC (b:Nat)(z:Int):bM:= .obj b (.cells ([.int .i64 z]:List Value).toArray 2)
section
variable {β : dL} {n : Nat} {Γ : Env} {H H' : List bM} {F : List bQ} {K : Act → World → Prop}
theorem at_eqc{c c':bM}(hH:dE H c H')(e:c=c')(k:At β n Γ (c'::H') F K):At β n Γ H F K:=fun a w S f s hF=>k a w S f (by subst e;exact s.perm hH.perm) hF
end
theorem memC_set{r:Sl Int}{k:Nat}{v:Int}:memC ⟨r.addr,r.cap,r.list.set k v⟩=cL.held (.slice r.addr r.list.length r.cap) (r.list.set k v):=by
 unfold memC;simp only [List.length_set]
theorem maO_set{mb:Nat}{m:fS}{k:Nat}{r y:Sl Int}(_h:m.mem.list[k]?=some r)(_ha:y.addr=r.addr)(_hc:y.cap=r.cap)(_hl:y.list.length=r.list.length):maO mb (m.me (m.mem.list.set k y))=maO mb m:=by
 unfold maO fS.me;simp only [List.length_set]
theorem maR_set{m:fS}{k:Nat}{r y:Sl Int}(h:m.mem.list[k]?=some r)(ha:y.addr=r.addr)(hc:y.cap=r.cap)(hl:y.list.length=r.list.length):maR (m.me (m.mem.list.set k y))=maR m:=by
 have e:rA.all (m.mem.list.set k y)=rA.all m.mem.list:=by
  have e1:rA.cells y=rA.cells r:=by
   show [Value.slice y.addr y.list.length y.cap]=[Value.slice r.addr r.list.length r.cap];rw [ha,hc,hl]
  unfold Flat.all;rw [List.flatMap_def,List.flatMap_def,List.map_set,e1]
  congr 1
  obtain⟨hlt,e2⟩:=List.getElem?_eq_some_iff.1 h;apply List.ext_getElem?;intro i;rw [List.getElem?_set];split
  ·rename_i hi;subst hi;rw [List.getElem?_map,h];simp [hlt]
  ·rfl
 show bM.row (.slice m.mem.addr (m.mem.list.set k y).length m.mem.cap) _ _ (m.mem.list.set k y).length (rA.all (m.mem.list.set k y))=_;rw [e,List.length_set];rfl
section
variable {ds : List Int} {x : cZ} {n : Nat} {v to_ : Int} {mem : List (List Int)} {d : List Int} {u : Value}
theorem put_errV(h:dD (rnVal ds x.at_ 121)=some u):dD (hJ ds x n v mem)=some u:=iG h
theorem put_big(h:(evalP x.at_ ds).2=0)(hd:mem[x.buf.toNat]?=some d)(hb:(d.length:Int)≤(evalP x.at_ ds).1+n):dD (hJ ds x n v mem)=some (bBt 121):=by
 unfold hJ rnVal;rw [if_pos h];have hg:mem.getD x.buf.toNat []=d:=by rw [List.getD_eq_getElem?_getD,hd];rfl
 show dD (if ((mem.getD x.buf.toNat []).length:Int)≤(evalP x.at_ ds).1+n then _ else _)=_;rw [hg,if_pos hb];rfl
theorem lL(h:(evalP x.at_ ds).2=0)(hd:mem[x.buf.toNat]?=some d)(hb: ¬(d.length:Int)≤(evalP x.at_ ds).1+n):hJ ds x n v mem= .ok (mem.set x.buf.toNat (d.set ((evalP x.at_ ds).1+n).toNat v)):=by
 unfold hJ rnVal;rw [if_pos h];have hg:mem.getD x.buf.toNat []=d:=by rw [List.getD_eq_getElem?_getD,hd];rfl
 show(if ((mem.getD x.buf.toNat []).length:Int)≤(evalP x.at_ ds).1+n then _ else _)=_;rw [hg,if_neg hb,bDd hd]
end
set_option maxHeartbeats 1000000 in
set_option maxRecDepth 100000 in
theorem sA(mb bm bs bn:Nat)(m:fS)(x:fG)(n:Nat)(v:Int)(r:Sl Int)(hb0:0≤x.buf)(hr:m.mem.list[x.buf.toNat]?=some r)(hA:(evalP x.at_.list m.dims.list).2=0→0≤(evalP x.at_.list m.dims.list).1)(hn:n≤10000000)(hrl:r.list.length≤1000000)(hdl:m.dims.list.length≤140737488355328):oZ Tryz.prog 88 [.int .i64 v,.pointer (some ⟨bm,0,none⟩),.pointer (some ⟨bs,0,none⟩),.pointer (some ⟨bn,0,none⟩)] (bnC bn n::maH mb m) [bQ.cells bm 0 [.pointer (some ⟨mb,0,none⟩)],bQ.cells bs 0 [.int .i64 x.how,.int .i64 x.buf,.slice x.at_.addr x.at_.list.length x.at_.cap,.slice x.loops.addr x.loops.list.length x.loops.cap,.int .u8 x.fn,.slice x.ops.addr x.ops.list.length x.ops.cap],mN x,cL.sl (.slice m.dims.addr m.dims.list.length m.dims.cap) m.dims.list] (fun(_:Unit)=>dD (hJ m.dims.list x.c n v (memL m))) (fun(_:Unit)=> .tuple #[]) (fun(_:Unit)=>bnC bn (n+1)::maH mb (m.me (m.mem.list.set x.buf.toNat ⟨r.addr,r.cap,r.list.set ((evalP x.at_.list m.dims.list).1+(n:Nat)).toNat v⟩))) (fun(_:Unit)=>[bQ.pure (hJ m.dims.list x.c n v (memL m)= .ok ((m.me (m.mem.list.set x.buf.toNat ⟨r.addr,r.cap,r.list.set ((evalP x.at_.list m.dims.list).1+(n:Nat)).toNat v⟩)).mem.list.map (·.list)))]):=by
 have hT:=cV;refine kZ Tryz.func88 rfl Tryz.ntmps88 rfl ?_;intro β hM;refine bH<|cI (nK x.at_) (stepF_a (Has.of (.tail _ (.tail _ (.head _))))) ?_;refine bE<|bD rfl rfl rfl (bP hT (cE (off:=0) (Has.of (.tail _ (.head _)))) rfl rfl rfl rfl rfl) ?_;refine bD rfl rfl rfl (bB hT rfl) ?_;refine bD rfl rfl rfl (bP hT (cE (off:=2) (Has.of (.tail _ (.tail _ (.head _))))) rfl rfl rfl rfl rfl) ?_;refine iH (bV Tryz.func89 rfl rfl) (oH mb m x.at_ 121 hdl) rfl rfl rfl rfl rfl (.cons (.tail .head) .nil) ⟨Has.of (.head _),Has.of (.tail _ (.tail _ (.tail _ (.tail _ (.head _))))),trivial⟩ ?_ ?_
 ·intro y2 u1 hpv3;refine cQ ?_;exact dY () (put_errV (x:=x.c) hpv3)
 rintro _ hpv4;have hvt:=val_ok hpv4;have ht0:=hA hvt.1;refine cD (z':=(evalP x.at_.list m.dims.list).1) hvt.2 ?_;refine bD rfl rfl rfl (bB hT rfl) ?_;refine bU<|bF<|bH<|bH<|jA _ _ [(true,0),(true,1),(true,2),(true,3),(true,4),(true,5),(true,6),(true,7),(true,8),(true,9),(true,10),(true,11),(true,12),(true,13),(true,14),(true,15),(true,16),(true,17),(true,18),(true,19),(true,20),(true,21),(true,22),(true,23),(true,24),(true,25)] gL (by decide+kernel) (.cons .head (.cons .head (.cons .head (.cons .head Sel.self)))) bO.self ?_;refine puM hT ?_;refine stM rfl (bP hT (cE (off:=0) (Has.of (.tail _ (.head _)))) rfl rfl rfl rfl rfl) ?_;refine puM hT ?_;refine puM hT ?_;refine stM rfl (bP hT (sN .head) rfl rfl rfl rfl rfl) ?_;refine puM hT ?_;refine stM rfl (bP hT (cE (off:=1) (Has.of (.tail _ (.tail _ (.head _))))) rfl rfl rfl rfl rfl) ?_;refine stM rfl (cC hT (k:=x.buf.toNat) (cU (.tail (.tail (.tail .head)))) rfl rfl rfl rfl rfl rfl (by omega) ((List.getElem?_eq_some_iff.1 hr).1)) ?_;refine stM rfl (bP hT (cN.knows (cU (.tail (.tail (.tail .head)))) (k:=x.buf.toNat) (x:=r) hr 0) rfl rfl rfl rfl rfl) ?_;refine puM hT ?_;refine puM hT ?_;refine puM hT ?_;refine bZ (fun hg21=>?_) (fun hg21=>?_)
 ·have hg21:=of_decide_eq_true hg21;refine bG rfl rfl rfl rfl ?_;refine bG rfl rfl rfl rfl ?_;refine bG rfl rfl rfl rfl ?_;refine bG rfl rfl rfl rfl ?_;refine bG rfl rfl rfl rfl ?_;refine bG rfl rfl rfl rfl ?_;refine bG rfl rfl rfl rfl ?_;refine bG rfl rfl rfl rfl ?_;refine bG rfl rfl rfl rfl ?_;refine bG rfl rfl rfl rfl ?_;refine bG rfl rfl rfl rfl ?_;refine bG rfl rfl rfl rfl ?_;refine bG rfl rfl rfl rfl ?_;refine puM hT ?_;refine dH<|bF<|cK rfl rfl ?_;refine bE<|bD rfl rfl rfl (jL rfl Tryz.underlying32 (fun _ e=>by cases e) rfl) ?_;refine jM rfl rfl rfl ?_;refine cQ ?_;exact dY () (put_big (x:=x.c) hvt.1 (rZ hr) (by show _≤(evalP x.at_.list m.dims.list).1+(n:Nat);omega))
 ·have hg21:=Int.not_le.1 (of_decide_eq_false hg21);refine stM rfl (bP hT (fE (.tail .head)) rfl rfl rfl rfl rfl) ?_;refine stM rfl (bP hT (cE (off:=0) (Has.of (.tail _ (.head _)))) rfl rfl rfl rfl rfl) ?_;refine puM hT ?_;refine puM hT ?_;refine stM rfl (bP hT (sN .head) rfl rfl rfl rfl rfl) ?_;refine puM hT ?_;refine stM rfl (bP hT (cE (off:=1) (Has.of (.tail _ (.tail _ (.head _))))) rfl rfl rfl rfl rfl) ?_;refine stM rfl (cC hT (k:=x.buf.toNat) (cU (.tail (.tail (.tail .head)))) rfl rfl rfl rfl rfl rfl (by omega) ((List.getElem?_eq_some_iff.1 hr).1)) ?_;refine stM rfl (bP hT (cN.knows (cU (.tail (.tail (.tail .head)))) (k:=x.buf.toNat) (x:=r) hr 0) rfl rfl rfl rfl rfl) ?_;refine puM hT ?_;refine puM hT ?_;refine puM hT ?_;refine cD (kM (by omega) (by omega)) ?_;refine puM hT ?_;refine puM hT ?_;refine dH<|bF<|bN rfl (fun hc35=>?_) (fun hc35=>?_)
  ·have hc35:=of_decide_eq_true hc35;refine bE<|bD rfl rfl rfl (jL rfl Tryz.underlying32 (fun _ e=>by cases e) rfl) ?_;refine jM rfl rfl rfl ?_;refine cQ ?_;exact dY () (put_big (x:=x.c) hvt.1 (rZ hr) (by show _≤(evalP x.at_.list m.dims.list).1+(n:Nat);omega))
  ·have hc35:=Int.not_le.1 (of_decide_eq_false hc35);refine bS<|bF<|bH<|nC 13 _ _ [(true,0),(true,1),(true,2),(true,3),(true,4),(true,5),(true,6),(true,7),(true,8),(true,9),(true,10),(true,11),(true,12)] gL (by decide+kernel) (.cons .head (.cons .head (.cons .head (.cons .head Sel.self)))) bO.self ?_;refine stL rfl (bP hT (cE (off:=0) (Has.of (.tail _ (.head _)))) rfl rfl rfl rfl rfl) ?_;refine puL hT ?_;refine puL hT ?_;refine stL rfl (bP hT (sN .head) rfl rfl rfl rfl rfl) ?_;refine puL hT ?_;refine stL rfl (bP hT (cE (off:=1) (Has.of (.tail _ (.tail _ (.head _))))) rfl rfl rfl rfl rfl) ?_;refine stL rfl (cC hT (k:=x.buf.toNat) (cU (.tail (.tail (.tail .head)))) rfl rfl rfl rfl rfl rfl (by omega) ((List.getElem?_eq_some_iff.1 hr).1)) ?_;refine stL rfl (bP hT (cN.knows (cU (.tail (.tail (.tail .head)))) (k:=x.buf.toNat) (x:=r) hr 0) rfl rfl rfl rfl rfl) ?_;refine puL hT ?_;refine stL rfl (bP hT (fE (.tail .head)) rfl rfl rfl rfl rfl) ?_;refine puL hT ?_;refine cD (kM (by omega) (by omega)) ?_;refine puL hT ?_
   obtain⟨x5,hx6⟩: ∃x',r.list[((evalP x.at_.list m.dims.list).1+(n:Nat)).toNat]?=some x':=⟨_,List.getElem?_eq_getElem (by omega)⟩
   refine stL rfl (cC hT (k:=((evalP x.at_.list m.dims.list).1+(n:Nat)).toNat) (vP (x:=r) (List.mem_cons_of_mem _ (List.mem_cons_of_mem _ (List.mem_cons_of_mem _ (List.mem_cons_of_mem _ (famM_at hr)))))) rfl rfl rfl rfl rfl rfl (by omega) (by omega)) ?_;refine kE (o:=_) rfl ?_;refine dC (famM_out hr [_,_,_,_]) ?_;refine oO hT (k:=((evalP x.at_.list m.dims.list).1+(n:Nat)).toNat) (fo:=0) (y':=v) .head rfl rfl rfl rfl rfl rfl rfl rfl rfl hx6 rfl ?_;rw [←memC_set];refine dC (famM_back hr _ [_,_,_,_]) ?_;refine at_eqc .head (maO_set (y:=⟨r.addr,r.cap,r.list.set ((evalP x.at_.list m.dims.list).1+(n:Nat)).toNat v⟩) hr rfl rfl (List.length_set ..)).symm ?_;refine at_eqc (.tail (.tail (.tail .head))) (maR_set (y:=⟨r.addr,r.cap,r.list.set ((evalP x.at_.list m.dims.list).1+(n:Nat)).toNat v⟩) hr rfl rfl (List.length_set ..)).symm ?_;refine lW<|bF<|bE<|bD rfl rfl rfl (bP hT (fE (.tail (.tail .head))) rfl rfl rfl rfl rfl) ?_;refine bD rfl rfl rfl (bB hT rfl) ?_;refine cD (z':=((n+1:Nat):Int)) (dM (by omega) (by omega)) ?_;refine fM hT rfl rfl rfl rfl rfl (.tail (.tail .head)) rfl rfl rfl rfl rfl ?_;refine bU ?_;have hok:=lL (x:=x.c) (n:=n) (v:=v) hvt.1 (rZ hr) (by show ¬_≤(evalP x.at_.list m.dims.list).1+(n:Nat);omega);exact tX () rfl (.cons .head (.cons (.tail .head) (.cons (.tail .head) (.cons .head Sel.self)))) ⟨Has.pure (by rw [hok];show Except.ok _=Except.ok ((m.mem.list.set _ _).map _);rw [List.map_set];rfl),trivial⟩ (by rw [hok];rfl) rfl
section
variable {ds : List Int} {x : cZ} {n : Nat} {v w last many : Int} {mem mem' : List (List Int)} {at_ : List Int} {u : Value} {Q : Rn Int} {k M : Nat}
theorem wY{l:List Int}{z:Int}(h:l[l.length-1]?=some z):l.getLastD 0=z:=by
 rw [List.getLastD_eq_getLast?,List.getLast?_eq_getElem?,h];rfl
theorem turn_err1(hh:x.how≠2)(h:dD (cY ds mem at_ x.ops)=some u):dD (dI ds x many at_ last n mem)=some u:=by
 unfold dI;rw [if_neg hh];exact iG h
theorem turn_at(hh:x.how≠2)(h1:dD (cY ds mem at_ x.ops)=none):dI ds x many at_ last n mem=(if x.how=3∧0<at_.getLastD 0 then rnMust (dyadW x.fn last (rval 0 (cY ds mem at_ x.ops))) else .ok (rval 0 (cY ds mem at_ x.ops))).bind fun v=>(hJ ds x n v mem).map fun m=>(v,m):=by
 obtain⟨y,e⟩:=kY h1;unfold dI;rw [if_neg hh,e];rfl
theorem turn_err2(hh:x.how=3)(h1:dD (cY ds mem at_ x.ops)=none)(hz:0<at_.getLastD 0)(h:dD (rnMust (dyadW x.fn last (rval 0 (cY ds mem at_ x.ops))))=some u):dD (dI ds x many at_ last n mem)=some u:=by
 rw [turn_at (by omega) h1,if_pos ⟨hh,hz⟩];exact iG h
theorem bEg(hh:x.how=3)(h1:dD (cY ds mem at_ x.ops)=none)(hz:0<at_.getLastD 0)(h:dD (rnMust (dyadW x.fn last (rval 0 (cY ds mem at_ x.ops))))=none):
  dI ds x many at_ last n mem=(hJ ds x n (rval 0 (rnMust (dyadW x.fn last (rval 0 (cY ds mem at_ x.ops))))) mem).map fun m=>(rval 0 (rnMust (dyadW x.fn last (rval 0 (cY ds mem at_ x.ops)))),m):=by
 rw [turn_at (by omega) h1,if_pos ⟨hh,hz⟩];obtain⟨y,e⟩:=kY h;rw [e];rfl
theorem rY(hh:x.how≠2)(h1:dD (cY ds mem at_ x.ops)=none)(hz: ¬(x.how=3∧0<at_.getLastD 0)):
  dI ds x many at_ last n mem=(hJ ds x n (rval 0 (cY ds mem at_ x.ops)) mem).map fun m=>(rval 0 (cY ds mem at_ x.ops),m):=by
 rw [turn_at hh h1,if_neg hz];rfl
theorem bEk(hh:x.how=2)(h:rnFold ds mem at_ x many.toNat 0 (unitW x.fn).1= .ok v):dI ds x many at_ last n mem=(hJ ds x n v mem).map fun m=>(last,m):=by
 unfold dI;rw [if_pos hh,h];rfl
theorem bCm(hh:x.how=2)(hQ:rnFold ds mem at_ x many.toNat 0 (unitW x.fn).1=Q)(h:dD Q=some u):dD (dI ds x many at_ last n mem)=some u:=by
 unfold dI;rw [if_pos hh,hQ];exact iG h
theorem xH{α β:Type}{r:Rn α}{f:α→β}{q:Rn β}(e:q=r.map f)(h:dD r=some u):dD q=some u:=by rw [e,pE,h]
theorem xV(h:Q=rnFold ds mem at_ x (M-k) k v)(hk:k<M):Q=(cY ds mem (at_++[(k:Int)]) x.ops).bind fun y=>(if 0<k then rnMust (dyadW x.fn v y) else .ok y).bind (rnFold ds mem at_ x (M-(k+1)) (k+1)):=by
 rw [h,show M-k=(M-(k+1))+1 by omega];rfl
theorem fold_errO(h:Q=rnFold ds mem at_ x (M-k) k v)(hk:k<M)(hu:dD (cY ds mem (at_++[(k:Int)]) x.ops)=some u):dD Q=some u:=by
 rw [xV h hk];exact iG hu
theorem fold_errM(h:Q=rnFold ds mem at_ x (M-k) k v)(hk:k<M)(h1:dD (cY ds mem (at_++[(k:Int)]) x.ops)=none)(h0:0<k)(hu:dD (rnMust (dyadW x.fn v (rval 0 (cY ds mem (at_++[(k:Int)]) x.ops))))=some u):dD Q=some u:=by
 obtain⟨y,e⟩:=kY h1;rw [e] at hu;rw [xV h hk,e];show dD ((if 0<k then rnMust (dyadW x.fn v y) else .ok y).bind _)=_;rw [if_pos h0];exact iG hu
theorem fold_goM(h:Q=rnFold ds mem at_ x (M-k) k v)(hk:k<M)(h1:dD (cY ds mem (at_++[(k:Int)]) x.ops)=none)(h0:0<k)(hu:dD (rnMust (dyadW x.fn v (rval 0 (cY ds mem (at_++[(k:Int)]) x.ops))))=none):
  Q=rnFold ds mem at_ x (M-(k+1)) (k+1) (rval 0 (rnMust (dyadW x.fn v (rval 0 (cY ds mem (at_++[(k:Int)]) x.ops))))):=by
 obtain⟨y,e⟩:=kY h1;rw [e] at hu⊢;obtain⟨z,e2⟩:=kY hu;have e2:rnMust (dyadW x.fn v y)= .ok z:=e2;rw [xV h hk,e];show(if 0<k then rnMust (dyadW x.fn v y) else .ok y).bind _=rnFold _ _ _ _ _ _ (rval 0 (rnMust (dyadW x.fn v y)));rw [if_pos h0,e2];rfl
theorem fold_go1(h:Q=rnFold ds mem at_ x (M-k) k v)(hk:k<M)(h1:dD (cY ds mem (at_++[(k:Int)]) x.ops)=none)(h0: ¬0<k):Q=rnFold ds mem at_ x (M-(k+1)) (k+1) (rval 0 (cY ds mem (at_++[(k:Int)]) x.ops)):=by
 obtain⟨y,e⟩:=kY h1;rw [e];rw [xV h hk,e];show(if 0<k then rnMust (dyadW x.fn v y) else .ok y).bind _=rnFold _ _ _ _ _ _ y;rw [if_neg h0];rfl
theorem fold_end(h:Q=rnFold ds mem at_ x (M-k) k v)(hk:M≤k):Q= .ok v:=by
 rw [h,show M-k=0 by omega];rfl
theorem uW{f:List (List Int)→Int×List (List Int)}{q:Rn (Int×List (List Int))}(e:q=(hJ ds x n v mem).map f)(h:hJ ds x n v mem= .ok mem'):q= .ok (f mem'):=by rw [e,h];rfl
end
theorem set_snoc{l:List Int}{z y:Int}:(l++[z]).set l.length y=l++[y]:=by
 rw [List.set_append_right _ _ (Nat.le_refl _),Nat.sub_self];rfl
def fR (a b:List (Sl Int)):Prop:=a.map (fun r=>r.list.length)=b.map (fun r=>r.list.length)
theorem fR.refl(a:List (Sl Int)):fR a a:=rfl
theorem fR.trans{a b c:List (Sl Int)}(h:fR a b)(k:fR b c):fR a c:=Eq.trans h k
theorem fR.set{a:List (Sl Int)}{k:Nat}{r y:Sl Int}(h:a[k]?=some r)(hl:y.list.length=r.list.length):fR (a.set k y) a:=by
 unfold fR;rw [List.map_set,hl];apply List.ext_getElem?;intro i;rw [List.getElem?_set];split
 ·rename_i hi;subst hi;rw [List.getElem?_map,h];simp [(List.getElem?_eq_some_iff.1 h).1]
 ·rfl
theorem fR.len{a b:List (Sl Int)}(h:fR a b):a.length=b.length:=by
 have:=congrArg List.length h
 simpa using this
theorem fR.at_{a b:List (Sl Int)}(h:fR a b){k:Nat}{y:Sl Int}(hy:a[k]?=some y): ∃r,b[k]?=some r∧y.list.length=r.list.length:=by
 have h1:=congrArg (fun l=>l[k]?) h;simp only [List.getElem?_map,hy,Option.map_some] at h1
 cases hb:b[k]? with
 | none=>rw [hb] at h1;cases h1
 | some r=>rw [hb] at h1;exact⟨r,rfl,by simpa using h1⟩
set_option maxHeartbeats 1000000 in
set_option maxRecDepth 100000 in
theorem bodyR_spec(mb bm bs bn bt bp bl:Nat)(m:fS)(x:fG)(a:Option Addr×Nat)(n:Nat)(last:Int)(aA:Option Addr)(an ac:Nat)(at_:List Int)(han:an=at_.length)(LA:Option Addr)(lcp:Nat)(loops:List Int)(r:Sl Int)(hb0:0≤x.buf)(hr:m.mem.list[x.buf.toNat]?=some r)(hA:(evalP x.at_.list m.dims.list).2=0→0≤(evalP x.at_.list m.dims.list).1)(hn:n≤10000000)(hrl:r.list.length≤1000000)(hlo:x.ops.list.length≤256)(hal:at_.length≤4)(hO:bDu (opsL x.ops.list) (if x.how=2 then at_.length+1 else at_.length) m.mem.list.length)(hD:Deep (opsL x.ops.list) 0)(hscan:x.how=3→1≤at_.length)(hlp:x.how=2→1≤loops.length)(hlm:x.how=2→0≤loops.getLastD 0∧loops.getLastD 0≤65536)(hll:loops.length≤4)(hdl:m.dims.list.length≤140737488355328):oZ Tryz.prog 91 [.slice aA an ac,.pointer (some ⟨bs,0,none⟩),.pointer (some ⟨bm,0,none⟩),.pointer (some ⟨bt,0,none⟩),.pointer (some ⟨bp,0,none⟩),.pointer (some ⟨bl,0,none⟩)] (cL.row (.slice aA an ac) 2 at_::bnC bn n::btC bt last::maH mb (m.st a [])) [bQ.cells bm 0 [.pointer (some ⟨mb,0,none⟩)],bQ.cells bs 0 [.int .i64 x.how,.int .i64 x.buf,.slice x.at_.addr x.at_.list.length x.at_.cap,.slice x.loops.addr x.loops.list.length x.loops.cap,.int .u8 x.fn,.slice x.ops.addr x.ops.list.length x.ops.cap],bQ.cells bp 0 [.func (.func 88) #[] #[.pointer (some ⟨bm,0,none⟩),.pointer (some ⟨bs,0,none⟩),.pointer (some ⟨bn,0,none⟩)]],bQ.cells bl 0 [.slice LA loops.length lcp],cL.sl (.slice LA loops.length lcp) loops,mN x,cL.sl (.slice m.dims.addr m.dims.list.length m.dims.cap) m.dims.list] (fun(_:(Option Addr×Nat)×List (Sl Int)×Int)=>dD (dI m.dims.list x.c (loops.getLastD 0) at_ last n (memL m))) (fun(_:(Option Addr×Nat)×List (Sl Int)×Int)=> .tuple #[]) (fun(y:(Option Addr×Nat)×List (Sl Int)×Int)=>cL.row (.slice aA an ac) 2 at_::bnC bn (n+1)::btC bt y.2.2::maH mb ((m.me y.2.1).st y.1 [])) (fun(y:(Option Addr×Nat)×List (Sl Int)×Int)=>[bQ.pure (dI m.dims.list x.c (loops.getLastD 0) at_ last n (memL m)= .ok (y.2.2,y.2.1.map (·.list))∧fR y.2.1 m.mem.list)]):=by
 have hT:=cV;subst han;refine kZ Tryz.func91 rfl Tryz.ntmps91 rfl ?_;intro β hM;refine bH<|bH<|cI (opsF x.ops) (uB (Has.of (.tail _ (.tail _ (.tail _ (.tail _ (.tail _ (.head _)))))))) ?_;refine bE<|bD rfl rfl rfl (bB hT rfl) ?_;refine bD rfl rfl rfl (bP hT (cE (off:=0) (Has.of (.tail _ (.tail _ (.head _))))) rfl rfl rfl rfl rfl) ?_;refine bD rfl rfl rfl (bB hT rfl) ?_;refine bU<|bF<|bN rfl (fun hc15=>?_) (fun hc15=>?_)
 ·have hc15:=bne_iff_ne.1 hc15;refine bH<|bE<|bD rfl rfl rfl (bP hT (cE (off:=0) (Has.of (.tail _ (.head _)))) rfl rfl rfl rfl rfl) ?_;refine bD rfl rfl rfl (bB hT rfl) ?_;refine bD rfl rfl rfl (bP hT (cE (off:=5) (Has.of (.tail _ (.tail _ (.head _))))) rfl rfl rfl rfl rfl) ?_;refine bD rfl rfl rfl (bB hT rfl) ?_;refine iF (.cons (.tail .head) (.cons (.tail .head) (.cons .head (.cons .head (.cons .head (.cons .head Sel.self)))))) ?_;refine dC (List.perm_append_comm (l₁:=[_,_])) ?_;refine iH (bV Tryz.func92 rfl rfl) (bDy mb m a x.ops aA at_.length ac at_ rfl (by omega) (by have:=hO;rwa [if_neg hc15] at this) hD hdl) rfl rfl rfl rfl rfl (fO.front _ _) ⟨Has.of (.head _),Has.of (.tail _ (.tail _ (.tail _ (.tail _ (.tail _ (.tail _ (.tail _ (.head _)))))))),trivial⟩ ?_ ?_
  ·intro y2 u1 hpo3;refine cQ ?_;refine cQ ?_;exact dY (a,m.mem.list,last) (turn_err1 (x:=x.c) hc15 hpo3)
  rintro y4 hpo5;refine dC List.perm_append_comm ?_;refine bD rfl rfl rfl (bB hT rfl) ?_;refine bU<|bF<|bH<|bH<|bE<|bD rfl rfl rfl (bB hT rfl) ?_;refine bD rfl rfl rfl (bP hT (cE (off:=0) (Has.of (.tail _ (.tail _ (.head _))))) rfl rfl rfl rfl rfl) ?_;refine bD rfl rfl rfl (bB hT rfl) ?_;refine bD rfl rfl rfl (bB hT rfl) ?_;refine bZ (fun hg24=>?_) (fun hg24=>?_)
  ·have hg24:=eq_of_beq hg24;refine bD rfl rfl rfl (bB hT rfl) ?_;refine bD rfl rfl rfl (bB hT rfl) ?_;refine bD rfl rfl rfl (bB hT rfl) ?_;refine bD rfl rfl rfl (bB hT rfl) ?_;refine cD (z':=((at_.length-1:Nat):Int)) (by have:=hscan ‹_›;rw [show((at_.length:Nat):Int)-1=((at_.length-1:Nat):Int) by omega];exact dM rfl (by omega)) ?_
   obtain⟨x6,hx7⟩: ∃x',at_[(at_.length-1)]?=some x':=⟨_,List.getElem?_eq_getElem (by have:=hscan ‹_›;omega)⟩
   refine bD rfl rfl rfl (cC hT (k:=(at_.length-1)) (cU (.tail (.tail .head))) rfl rfl rfl rfl rfl rfl rfl (by have:=hscan ‹_›;omega)) ?_;refine bD rfl rfl rfl (bP hT (cN.knows (cU (.tail (.tail .head))) (k:=(at_.length-1)) (x:=x6) hx7 0) rfl rfl rfl rfl rfl) ?_;have hgl:=wY hx7;refine bD rfl rfl rfl (bB hT rfl) ?_;refine bD rfl rfl rfl (bB hT rfl) ?_;refine bU<|bF<|bN rfl (fun hc32=>?_) (fun hc32=>?_)
   ·have hc32:=of_decide_eq_true hc32;have hz0:0<at_.getLastD 0:=by rw [hgl];omega
    refine bE<|bD rfl rfl rfl (bB hT rfl) ?_;refine bD rfl rfl rfl (bP hT (cE (off:=4) (Has.of (.tail _ (.tail _ (.head _))))) rfl rfl rfl rfl rfl) ?_;refine bD rfl rfl rfl (bP hT (fE (.tail .head)) rfl rfl rfl rfl rfl) ?_;refine bD rfl rfl rfl (bB hT rfl) ?_;refine cM Tryz.func94 (rU x.fn last (rval 0 (cY m.dims.list (memL m) at_ (opsL x.ops.list)))) rfl rfl .nil trivial fun _=>?_;refine bD rfl rfl rfl (bB hT rfl) ?_;refine bD rfl rfl rfl (bB hT rfl) ?_;refine iH (bV Tryz.func93 rfl rfl) (sI (dyadW x.fn last (rval 0 (cY m.dims.list (memL m) at_ (opsL x.ops.list)))).1 (dyadW x.fn last (rval 0 (cY m.dims.list (memL m) at_ (opsL x.ops.list)))).2) rfl rfl rfl rfl rfl .nil trivial ?_ ?_
    ·intro y9 u8 hpm10;refine cQ ?_;refine cQ ?_;exact dY (a,m.mem.list,last) (turn_err2 (x:=x.c) ‹_› hpo5 hz0 hpm10)
    rintro _ hpm11;refine bD rfl rfl rfl (bB hT rfl) ?_;refine bU<|bF<|bH<|bE<|bD rfl rfl rfl (bB hT rfl) ?_;refine fM hT rfl rfl rfl rfl rfl (.tail .head) rfl rfl rfl rfl rfl ?_;refine bU<|bF<|bH<|bE<|bD rfl rfl rfl (bP hT (cE (off:=0) (Has.of (.tail _ (.tail _ (.tail _ (.head _)))))) rfl rfl rfl rfl rfl) ?_;refine bD rfl rfl rfl (bB hT rfl) ?_;refine iF (.cons .head (.cons (.tail .head) (.cons .head (.cons .head (.cons .head (.cons .head Sel.self)))))) ?_;refine dC (List.perm_append_comm (l₁:=[_,_])) ?_;refine oW (bV Tryz.func88 rfl rfl) (sA mb bm bs bn (m.st y4 []) x n ((rval 0 (rnMust (dyadW x.fn last (rval 0 (cY m.dims.list (memL m) at_ (opsL x.ops.list))))))) r hb0 hr hA (by omega) (by omega) hdl) rfl rfl rfl rfl rfl rfl rfl (fO.front _ _) ⟨Has.of (.tail _ (.head _)),Has.of (.tail _ (.tail _ (.head _))),Has.of (.tail _ (.tail _ (.tail _ (.tail _ (.tail _ (.tail _ (.head _))))))),Has.of (.tail _ (.tail _ (.tail _ (.tail _ (.tail _ (.tail _ (.tail _ (.head _)))))))),trivial⟩ ?_ ?_
    ·intro y13 u12 hpp14;refine cQ ?_;refine cQ ?_;exact dY (a,m.mem.list,last) (xH (bEg (x:=x.c) ‹_› hpo5 hz0 hpm11) hpp14)
    rintro _ hpp16;refine dC List.perm_append_comm ?_;refine cG (Has.of (.head _)) fun hpu=>?_;refine bU<|bF<|bJ<|bL ?_;have hTR:=uW (q:=dI m.dims.list x.c (loops.getLastD 0) at_ last n (memL m)) (bEg (x:=x.c) ‹_› hpo5 hz0 hpm11) hpu;exact rI (y4,(m.mem.list.set x.buf.toNat ⟨r.addr,r.cap,r.list.set ((evalP x.at_.list m.dims.list).1+(n:Nat)).toNat (rval 0 (rnMust (dyadW x.fn last (rval 0 (cY m.dims.list (memL m) at_ (opsL x.ops.list))))))⟩),(rval 0 (rnMust (dyadW x.fn last (rval 0 (cY m.dims.list (memL m) at_ (opsL x.ops.list))))))) rfl (.cons (.tail .head) (.cons (.tail .head) (.cons .head (.cons .head (.cons .head (.cons .head Sel.self)))))) ⟨Has.pure ⟨hTR,fR.set hr (List.length_set ..)⟩,trivial⟩ (by rw [hTR];rfl) rfl
   ·have hc32:=Int.not_lt.1 (of_decide_eq_false hc32);refine bS<|bF<|bH<|bE<|bD rfl rfl rfl (bB hT rfl) ?_;refine fM hT rfl rfl rfl rfl rfl (.tail .head) rfl rfl rfl rfl rfl ?_;refine bU<|bF<|bH<|bE<|bD rfl rfl rfl (bP hT (cE (off:=0) (Has.of (.tail _ (.tail _ (.tail _ (.head _)))))) rfl rfl rfl rfl rfl) ?_;refine bD rfl rfl rfl (bB hT rfl) ?_;refine iF (.cons .head (.cons (.tail .head) (.cons .head (.cons .head (.cons .head (.cons .head Sel.self)))))) ?_;refine dC (List.perm_append_comm (l₁:=[_,_])) ?_;refine oW (bV Tryz.func88 rfl rfl) (sA mb bm bs bn (m.st y4 []) x n ((rval 0 (cY m.dims.list (memL m) at_ (opsL x.ops.list)))) r hb0 hr hA (by omega) (by omega) hdl) rfl rfl rfl rfl rfl rfl rfl (fO.front _ _) ⟨Has.of (.tail _ (.head _)),Has.of (.tail _ (.tail _ (.head _))),Has.of (.tail _ (.tail _ (.tail _ (.tail _ (.tail _ (.tail _ (.head _))))))),Has.of (.tail _ (.tail _ (.tail _ (.tail _ (.tail _ (.tail _ (.tail _ (.head _)))))))),trivial⟩ ?_ ?_
    ·intro y18 u17 hpp19;refine cQ ?_;refine cQ ?_;exact dY (a,m.mem.list,last) (xH (rY (x:=x.c) hc15 hpo5 (by first | exact fun e=>absurd e.1 ‹_› | (rintro⟨_,e⟩;rw [hgl] at e;omega))) hpp19)
    rintro _ hpp21;refine dC List.perm_append_comm ?_;refine cG (Has.of (.head _)) fun hpu=>?_;refine bU<|bF<|bJ<|bL ?_;have hTR:=uW (q:=dI m.dims.list x.c (loops.getLastD 0) at_ last n (memL m)) (rY (x:=x.c) hc15 hpo5 (by first | exact fun e=>absurd e.1 ‹_› | (rintro⟨_,e⟩;rw [hgl] at e;omega))) hpu;exact rI (y4,(m.mem.list.set x.buf.toNat ⟨r.addr,r.cap,r.list.set ((evalP x.at_.list m.dims.list).1+(n:Nat)).toNat (rval 0 (cY m.dims.list (memL m) at_ (opsL x.ops.list)))⟩),(rval 0 (cY m.dims.list (memL m) at_ (opsL x.ops.list)))) rfl (.cons (.tail .head) (.cons (.tail .head) (.cons .head (.cons .head (.cons .head (.cons .head Sel.self)))))) ⟨Has.pure ⟨hTR,fR.set hr (List.length_set ..)⟩,trivial⟩ (by rw [hTR];rfl) rfl
  ·have hg24:=beq_eq_false_iff_ne.1 hg24;refine dB rfl rfl rfl ?_;refine dB rfl rfl rfl ?_;refine dB rfl rfl rfl ?_;refine dB rfl rfl rfl ?_;refine dB rfl rfl rfl ?_;refine dB rfl rfl rfl ?_;refine dB rfl rfl rfl ?_;refine bD rfl rfl rfl (bB hT rfl) ?_;refine bU<|bF<|nR rfl rfl ?_;refine bS<|bF<|bH<|bE<|bD rfl rfl rfl (bB hT rfl) ?_;refine fM hT rfl rfl rfl rfl rfl (.tail .head) rfl rfl rfl rfl rfl ?_;refine bU<|bF<|bH<|bE<|bD rfl rfl rfl (bP hT (cE (off:=0) (Has.of (.tail _ (.tail _ (.tail _ (.head _)))))) rfl rfl rfl rfl rfl) ?_;refine bD rfl rfl rfl (bB hT rfl) ?_;refine iF (.cons .head (.cons (.tail .head) (.cons .head (.cons .head (.cons .head (.cons .head Sel.self)))))) ?_;refine dC (List.perm_append_comm (l₁:=[_,_])) ?_;refine oW (bV Tryz.func88 rfl rfl) (sA mb bm bs bn (m.st y4 []) x n ((rval 0 (cY m.dims.list (memL m) at_ (opsL x.ops.list)))) r hb0 hr hA (by omega) (by omega) hdl) rfl rfl rfl rfl rfl rfl rfl (fO.front _ _) ⟨Has.of (.tail _ (.head _)),Has.of (.tail _ (.tail _ (.head _))),Has.of (.tail _ (.tail _ (.tail _ (.tail _ (.tail _ (.tail _ (.head _))))))),Has.of (.tail _ (.tail _ (.tail _ (.tail _ (.tail _ (.tail _ (.tail _ (.head _)))))))),trivial⟩ ?_ ?_
   ·intro y23 u22 hpp24;refine cQ ?_;refine cQ ?_;exact dY (a,m.mem.list,last) (xH (rY (x:=x.c) hc15 hpo5 (by first | exact fun e=>absurd e.1 ‹_› | (rintro⟨_,e⟩;rw [hgl] at e;omega))) hpp24)
   rintro _ hpp26;refine dC List.perm_append_comm ?_;refine cG (Has.of (.head _)) fun hpu=>?_;refine bU<|bF<|bJ<|bL ?_;have hTR:=uW (q:=dI m.dims.list x.c (loops.getLastD 0) at_ last n (memL m)) (rY (x:=x.c) hc15 hpo5 (by first | exact fun e=>absurd e.1 ‹_› | (rintro⟨_,e⟩;rw [hgl] at e;omega))) hpu;exact rI (y4,(m.mem.list.set x.buf.toNat ⟨r.addr,r.cap,r.list.set ((evalP x.at_.list m.dims.list).1+(n:Nat)).toNat (rval 0 (cY m.dims.list (memL m) at_ (opsL x.ops.list)))⟩),(rval 0 (cY m.dims.list (memL m) at_ (opsL x.ops.list)))) rfl (.cons (.tail .head) (.cons (.tail .head) (.cons .head (.cons .head (.cons .head (.cons .head Sel.self)))))) ⟨Has.pure ⟨hTR,fR.set hr (List.length_set ..)⟩,trivial⟩ (by rw [hTR];rfl) rfl
 ·have hc15:=bne_eq_false_iff_eq.1 hc15;refine bS<|bF<|bH<|bE<|bD rfl rfl rfl (bB hT rfl) ?_;refine bD rfl rfl rfl (bP hT (cE (off:=4) (Has.of (.tail _ (.tail _ (.head _))))) rfl rfl rfl rfl rfl) ?_;refine cM Tryz.func95 (Unit_spec x.fn) rfl rfl .nil trivial fun _=>?_;refine bD rfl rfl rfl (bB hT rfl) ?_;refine bD rfl rfl rfl (bB hT rfl) ?_;refine bD rfl rfl rfl (bB hT rfl) ?_;refine bD rfl rfl rfl (bB hT rfl) ?_;refine bD rfl rfl rfl (bB hT rfl) ?_;refine bU<|bF<|bH<|bE<|bD rfl rfl rfl (bB hT rfl) ?_;refine gT (bV Tryz.func43 rfl rfl) (tL aA ac at_ (by omega)) rfl rfl rfl rfl rfl .nil (.cons .head .nil) (sJ kN) ⟨Has.of (.head _),trivial⟩ (fun _=>True) (fun _ _ _ _=>trivial) fun⟨A27,c28⟩ _=>?_;refine kV (m:=0) rfl rfl rfl rfl rfl fun b29=>?_;refine jT (.tail .head) (gP .head rfl) rfl rfl rfl rfl rfl rfl rfl (by simp only [List.length_singleton];omega) fun bA bc=>?_;rw [show(at_++[(0:Int)]).length=at_.length+1 from by simp];refine bD rfl rfl rfl (bB hT rfl) ?_;refine bU<|bF<|bH<|bH ?_
  obtain⟨many,hmany⟩: ∃q,loops[loops.length-1]?=some q:=⟨_,List.getElem?_eq_getElem (by have:=hlp hc15;omega)⟩
  have hgm:=wY hmany;have hmb:=hlm hc15;rw [hgm] at hmb
  obtain⟨Q,hQ⟩: ∃Q,rnFold m.dims.list (memL m) at_ x.c (loops.getLastD 0).toNat 0 (unitW x.c.fn).1=Q:=⟨_,rfl⟩
  refine bE<|bD rfl rfl rfl (bP hT (cE (off:=0) (Has.of (.tail _ (.tail _ (.tail _ (.tail _ (.head _))))))) rfl rfl rfl rfl rfl) ?_;refine bD rfl rfl rfl (bP hT (cE (off:=0) (Has.of (.tail _ (.tail _ (.tail _ (.tail _ (.head _))))))) rfl rfl rfl rfl rfl) ?_;refine bD rfl rfl rfl (bB hT rfl) ?_;refine bD rfl rfl rfl (bB hT rfl) ?_;refine cD (z':=((loops.length-1:Nat):Int)) (by have:=hlp hc15;rw [show((loops.length:Nat):Int)-1=((loops.length-1:Nat):Int) by omega];exact dM rfl (by omega)) ?_;refine bD rfl rfl rfl (cC hT (k:=(loops.length-1)) (bR (Has.of (.tail _ (.tail _ (.tail _ (.tail _ (.tail _ (.head _)))))))) rfl rfl rfl rfl rfl rfl rfl (by have:=hlp hc15;omega)) ?_;refine bD rfl rfl rfl (bP hT (cN.knows (bR (Has.of (.tail _ (.tail _ (.tail _ (.tail _ (.tail _ (.head _)))))))) (k:=(loops.length-1)) (x:=many) hmany 0) rfl rfl rfl rfl rfl) ?_;refine bD rfl rfl rfl (bB hT rfl) ?_;refine bU<|bF<|bY<|iF (.cons (.tail (.tail .head)) (.cons (.tail (.tail .head)) (.cons (.tail (.tail .head)) (.cons .head (.cons (.tail .head) (.cons (.tail .head) (.cons (.tail .head) (Sel.skip Sel.self)))))))) ?_;refine uQ (ι:=(Option Addr×Nat)×Int×Int×Nat) [(0,_),(1,_),(2,_),(4,_),(10,_),(60,_)] ⟨rfl,rfl,rfl,rfl,rfl,rfl,trivial⟩ (fun⟨a,z,v,k⟩=>[(8,.int .i64 v),(61,.int .i64 (k:Nat))]) (fun⟨a,z,v,k⟩=>cL.row (.slice aA at_.length ac) 2 at_::bnC bn n::btC bt last::cL.row (.slice bA (at_.length+1) bc) 2 (at_++[z])::maH mb (m.st a [])) (fun⟨a,z,v,k⟩=>[bQ.pure ((k:Int)≤many∧Q=rnFold m.dims.list (memL m) at_ x.c ((loops.getLastD 0).toNat-k) k v)]) (fun⟨a,z,v,k⟩=>many.toNat-k) (a,0,(unitW x.fn).1,0) ⟨rfl,rfl,trivial⟩ (List.Perm.refl _) ⟨Has.pure (⟨by omega,hQ.symm⟩),trivial⟩ ?_;rintro⟨a,z,v,k⟩;dsimp only;refine cG (Has.of (.head _)) fun hinv9=>?_;rw [hgm] at hinv9;refine bH<|bE<|bD rfl rfl rfl (bB hT rfl) ?_;refine bU<|bF<|bH<|bN rfl (fun hc62=>?_) (fun hc62=>?_)
  ·have hc62:=of_decide_eq_true hc62;refine bS<|bF<|bH<|bY<|bH<|bE<|bD rfl rfl rfl (bB hT rfl) ?_;refine bD rfl rfl rfl (bB hT rfl) ?_;refine bU<|bF<|bH<|bE<|bD rfl rfl rfl (bB hT rfl) ?_;refine bD rfl rfl rfl (bB hT rfl) ?_;refine bD rfl rfl rfl (bB hT rfl) ?_;refine bD rfl rfl rfl (bB hT rfl) ?_
   obtain⟨x30,hx31⟩: ∃x',(at_++[z])[at_.length]?=some x':=⟨_,List.getElem?_eq_getElem (by simp)⟩
   refine bD rfl rfl rfl (cC hT (k:=at_.length) (cU (.tail (.tail (.tail .head)))) rfl rfl rfl rfl rfl (by simp) rfl (by simp)) ?_;refine lX hT (k:=at_.length) (fo:=0) (y':=((k:Nat):Int)) (.tail (.tail (.tail .head))) rfl rfl rfl rfl rfl rfl rfl rfl rfl hx31 rfl ?_;refine bU<|bF<|bH ?_;rw [set_snoc];refine bE<|bD rfl rfl rfl (bP hT (cE (off:=0) (Has.of (.tail _ (.tail _ (.head _))))) rfl rfl rfl rfl rfl) ?_;refine bD rfl rfl rfl (bB hT rfl) ?_;refine bD rfl rfl rfl (bP hT (cE (off:=5) (Has.of (.tail _ (.tail _ (.tail _ (.head _)))))) rfl rfl rfl rfl rfl) ?_;refine bD rfl rfl rfl (bB hT rfl) ?_;refine iF (.cons (.tail .head) (.cons (.tail .head) (.cons (.tail .head) (.cons .head (.cons .head (.cons .head (.cons .head Sel.self))))))) ?_;refine dC (List.perm_append_comm (l₁:=[_,_,_])) ?_;refine iH (bV Tryz.func92 rfl rfl) (bDy mb m a x.ops bA (at_.length+1) bc (at_++[((k:Nat):Int)]) (by simp) (by omega) (by have:=hO;rw [if_pos hc15] at this;simpa using this) hD hdl) rfl rfl rfl rfl rfl (fO.front _ _) ⟨Has.of (.tail _ (.head _)),Has.of (.tail _ (.tail _ (.tail _ (.tail _ (.tail _ (.tail _ (.tail _ (.tail _ (.head _))))))))),trivial⟩ ?_ ?_
   ·intro y33 u32 hpo34;refine cQ ?_;refine fD ?_;refine cQ ?_;refine cQ ?_;refine fD ?_;refine cQ ?_;exact dY (a,m.mem.list,last) (bCm (x:=x.c) hc15 hQ (fold_errO hinv9.2 (by omega) hpo34))
   rintro y35 hpo36;refine dC List.perm_append_comm ?_;refine bD rfl rfl rfl (bB hT rfl) ?_;refine bU<|bF<|bH<|bH<|bE<|bD rfl rfl rfl (bB hT rfl) ?_;refine bD rfl rfl rfl (bB hT rfl) ?_;refine bU<|bF<|bN rfl (fun hc75=>?_) (fun hc75=>?_)
   ·have hc75:=of_decide_eq_true hc75;refine bE<|bD rfl rfl rfl (bB hT rfl) ?_;refine bD rfl rfl rfl (bP hT (cE (off:=4) (Has.of (.tail _ (.tail _ (.tail _ (.head _)))))) rfl rfl rfl rfl rfl) ?_;refine bD rfl rfl rfl (bB hT rfl) ?_;refine bD rfl rfl rfl (bB hT rfl) ?_;refine cM Tryz.func94 (rU x.fn v (rval 0 (cY m.dims.list (memL m) (at_++[((k:Nat):Int)]) (opsL x.ops.list)))) rfl rfl .nil trivial fun _=>?_;refine bD rfl rfl rfl (bB hT rfl) ?_;refine bD rfl rfl rfl (bB hT rfl) ?_;refine iH (bV Tryz.func93 rfl rfl) (sI (dyadW x.fn v (rval 0 (cY m.dims.list (memL m) (at_++[((k:Nat):Int)]) (opsL x.ops.list)))).1 (dyadW x.fn v (rval 0 (cY m.dims.list (memL m) (at_++[((k:Nat):Int)]) (opsL x.ops.list)))).2) rfl rfl rfl rfl rfl .nil trivial ?_ ?_
    ·intro y38 u37 hpm39;refine cQ ?_;refine fD ?_;refine cQ ?_;refine cQ ?_;refine fD ?_;refine cQ ?_;exact dY (a,m.mem.list,last) (bCm (x:=x.c) hc15 hQ (fold_errM hinv9.2 (by omega) hpo36 (by omega) hpm39))
    rintro _ hpm40;refine bD rfl rfl rfl (bB hT rfl) ?_;refine bU<|bF<|bE<|bD rfl rfl rfl (bB hT rfl) ?_;refine bD rfl rfl rfl (bB hT rfl) ?_;refine bU<|cB<|bF<|bE<|bD rfl rfl rfl (bB hT rfl) ?_;refine cD (z':=((k+1:Nat):Int)) (dM (by omega) (by omega)) ?_;refine bD rfl rfl rfl (bB hT rfl) ?_;refine bU<|bF ?_;exact iC (y35,((k:Nat):Int),(rval 0 (rnMust (dyadW x.fn v (rval 0 (cY m.dims.list (memL m) (at_++[((k:Nat):Int)]) (opsL x.ops.list)))))),k+1) (by dsimp only;omega) ⟨rfl,rfl,trivial⟩ ⟨rfl,rfl,rfl,rfl,rfl,rfl,trivial⟩ (List.Perm.refl _) ⟨Has.pure (⟨by dsimp only;omega,by dsimp only;rw [hgm];exact fold_goM hinv9.2 (by omega) hpo36 (by omega) hpm40⟩),trivial⟩ (bO.drop 1)
   ·have hc75:=Int.not_lt.1 (of_decide_eq_false hc75);refine bS<|bF<|bE<|bD rfl rfl rfl (bB hT rfl) ?_;refine bD rfl rfl rfl (bB hT rfl) ?_;refine bU<|cB<|bF<|bE<|bD rfl rfl rfl (bB hT rfl) ?_;refine cD (z':=((k+1:Nat):Int)) (dM (by omega) (by omega)) ?_;refine bD rfl rfl rfl (bB hT rfl) ?_;refine bU<|bF ?_;exact iC (y35,((k:Nat):Int),(rval 0 (cY m.dims.list (memL m) (at_++[((k:Nat):Int)]) (opsL x.ops.list))),k+1) (by dsimp only;omega) ⟨rfl,rfl,trivial⟩ ⟨rfl,rfl,rfl,rfl,rfl,rfl,trivial⟩ (List.Perm.refl _) ⟨Has.pure (⟨by dsimp only;omega,by dsimp only;rw [hgm];exact fold_go1 hinv9.2 (by omega) hpo36 (by omega)⟩),trivial⟩ (bO.drop 1)
  ·have hc62:=Int.not_lt.1 (of_decide_eq_false hc62);refine dQ<|cP<|cP<|dN<|bF ?_;have hfe:=hQ.trans (fold_end hinv9.2 (by omega));refine bE<|bD rfl rfl rfl (bP hT (cE (off:=0) (Has.of (.tail _ (.tail _ (.tail _ (.tail _ (.head _))))))) rfl rfl rfl rfl rfl) ?_;refine bD rfl rfl rfl (bB hT rfl) ?_;refine iF (.cons .head (.cons (.tail .head) (.cons (.tail .head) (.cons .head (.cons .head (.cons .head (.cons .head Sel.self))))))) ?_;refine dC (List.perm_append_comm (l₁:=[_,_,_])) ?_;refine oW (bV Tryz.func88 rfl rfl) (sA mb bm bs bn (m.st a []) x n (v) r hb0 hr hA (by omega) (by omega) hdl) rfl rfl rfl rfl rfl rfl rfl (fO.front _ _) ⟨Has.of (.tail _ (.tail _ (.head _))),Has.of (.tail _ (.tail _ (.tail _ (.head _)))),Has.of (.tail _ (.tail _ (.tail _ (.tail _ (.tail _ (.tail _ (.tail _ (.head _)))))))),Has.of (.tail _ (.tail _ (.tail _ (.tail _ (.tail _ (.tail _ (.tail _ (.tail _ (.head _))))))))),trivial⟩ ?_ ?_
   ·intro y42 u41 hpp43;exact dY (a,m.mem.list,last) (xH (bEk (x:=x.c) hc15 hfe) hpp43)
   rintro _ hpp45;refine dC List.perm_append_comm ?_;refine cG (Has.of (.head _)) fun hpu=>?_;refine bU ?_;have hTR:=uW (q:=dI m.dims.list x.c (loops.getLastD 0) at_ last n (memL m)) (bEk (x:=x.c) hc15 hfe) hpu;exact tX (a,(m.mem.list.set x.buf.toNat ⟨r.addr,r.cap,r.list.set ((evalP x.at_.list m.dims.list).1+(n:Nat)).toNat v⟩),last) rfl (.cons .head (.cons (.tail (.tail .head)) (.cons .head (.cons (.tail .head) (.cons (.tail .head) (.cons (.tail .head) (Sel.skip Sel.self))))))) ⟨Has.pure ⟨hTR,fR.set hr (List.length_set ..)⟩,trivial⟩ (by rw [hTR];rfl) rfl
theorem i64Info: ∃i:TypeInfo,Tryz.prog.info? 2=some i∧i.zero=some (.int .i64 0)∧i.size=1∧i.bytes=8:=sF
theorem madeI64(m:Nat):(madeCells (Value.int .i64 0).cells (m*cL.size)).toList=cL.all (List.replicate m 0):=by
 have e: ∀m,cL.all (List.replicate m 0)=List.replicate m (.int .i64 0):=fun m=>by
  induction m with
  | zero=>rfl
  | succ m ih=>rw [List.replicate_succ,List.replicate_succ,←ih];rfl
 rw [e];unfold madeCells;apply List.ext_getElem
 ·simp [cL]
 ·intro i h1 h2;simp [Value.cells,Nat.mod_one]
theorem bAk{β:dL}{n:Nat}{Γ:Env}{H:List bM}{F:List bQ}{Q:Exit→Act→World→Prop}{ops:Array Oper}{rest:List Oper}{o:Oper}{d m:Nat}{x y:Operand}(hw:want ops Γ o=some true)(ho:o.op= .makeSlice 63 x y)(hd:o.dst=some d)(hn:Nat.blt d n=true)
  (hx:Γ.ev x=some (.int .i64 (m:Nat))) (hy:Γ.ev y=some (.int .i64 (m:Nat))) (hm:m≤1000000)
  (k: ∀b,At β n ((d,.slice (some ⟨b,0,none⟩) m m)::Γ) (cL.row (.slice (some ⟨b,0,none⟩) m m) 2 (List.replicate m 0)::H) F (wpList Tryz.prog ops Q rest)):At β n Γ H F (wpList Tryz.prog ops Q (o::rest)):=by
 obtain⟨i,hi,hz,hs,hb⟩:=i64Info;exact at_make (E:=cL) hw ho hd hn hx hy Tryz.underlying63 hi hz hs (by rw [hb];omega) (by simp [maxLen];omega) (madeI64 m) (by simp) k
def pK (ds:List Int)(x:cZ)(many:Int)(l:List Int)(mem:List (List Int)):Rn (List (List Int)):=if l.contains 0=true then .ok mem else rnWalk ds x many l.reverse (sizeR l.reverse).toNat (List.replicate l.length 0) 0 0 mem
section
variable {ds : List Int} {x : cZ} {many : Int} {lr r : List Int} {last last' : Int} {n m : Nat} {mem mem' : List (List Int)} {W : Rn (List (List Int))} {u : Value}
theorem walk_err(h:W=rnWalk ds x many lr (m+1) r last n mem)(hu:dD (dI ds x many r.reverse last n mem)=some u):dD W=some u:=by
 rw [h];exact iG hu
theorem walk_more'{r':List Int}(h:W=rnWalk ds x many lr (m+1) r last n mem)(ht:dI ds x many r.reverse last n mem= .ok (last',mem'))(hn:lF r lr=some r'):W=rnWalk ds x many lr m r' last' (n+1) mem':=by
 have e:rnWalk ds x many lr (m+1) r last n mem=(dI ds x many r.reverse last n mem).bind fun y=>match lF r lr with
  | some r'=>rnWalk ds x many lr m r' y.1 (n+1) y.2
  | none=> .ok y.2:=rfl
 rw [h,e,ht,hn];rfl
theorem walk_end(h:W=rnWalk ds x many lr (m+1) r last n mem)(ht:dI ds x many r.reverse last n mem= .ok (last',mem'))(hn:lF r lr=none):W= .ok mem':=by
 have e:rnWalk ds x many lr (m+1) r last n mem=(dI ds x many r.reverse last n mem).bind fun y=>match lF r lr with
  | some r'=>rnWalk ds x many lr m r' y.1 (n+1) y.2
  | none=> .ok y.2:=rfl
 rw [h,e,ht,hn];rfl
end
section
variable {at_ l : List Int} {q N : Nat} {a b : Int}
theorem take_full(h:at_.length=N):at_=at_.take N++List.replicate (N-N) 0:=by
 rw [List.take_of_length_le (by omega),Nat.sub_self,List.replicate_zero,List.append_nil]
theorem lP(h:at_[q]?=some a):at_.take (q+1)=at_.take q++[a]:=by
 obtain⟨hlt,e⟩:=List.getElem?_eq_some_iff.1 h;subst e;exact List.take_succ_eq_append_getElem hlt
theorem pad_get(hl:at_.length=N)(h0:0<q)(hq:q≤N):(at_.take q++List.replicate (N-q) 0)[q-1]?=at_[q-1]?:=by
 rw [List.getElem?_append_left (by rw [List.length_take];omega),List.getElem?_take,if_pos (by omega)]
theorem pad_zero(hl:at_.length=N)(h0:0<q)(hq:q≤N):(at_.take q++List.replicate (N-q) 0).set (q-1) 0=at_.take (q-1)++List.replicate (N-(q-1)) 0:=by
 obtain⟨p,rfl⟩: ∃p,q=p+1:=⟨q-1,by omega⟩
 have hp:at_[p]?=some (at_[p]'(by omega)):=List.getElem?_eq_getElem (by omega);rw [Nat.add_sub_cancel,lP hp,List.append_assoc,List.set_append_right _ _ (by rw [List.length_take];omega),List.length_take,show p-min p at_.length=0 by omega,show N-p=(N-(p+1))+1 by omega,List.replicate_succ];rfl
theorem pad_next(hl:at_.length=N)(h0:0<q)(hq:q≤N):(at_.take q++List.replicate (N-q) 0).set (q-1) b=at_.take (q-1)++b::List.replicate (N-q) 0:=by
 obtain⟨p,rfl⟩: ∃p,q=p+1:=⟨q-1,by omega⟩
 have hp:at_[p]?=some (at_[p]'(by omega)):=List.getElem?_eq_getElem (by omega);rw [Nat.add_sub_cancel,lP hp,List.append_assoc,List.set_append_right _ _ (by rw [List.length_take];omega),List.length_take,show p-min p at_.length=0 by omega];rfl
def wG (at_ l:List Int)(q:Nat):Prop:=lF at_.reverse l.reverse=(lF (at_.take q).reverse (l.take q).reverse).map (List.replicate (l.length-q) 0++ ·)
theorem nextI_all(h:at_.length=l.length):wG at_ l l.length:=by
 unfold wG;rw [List.take_of_length_le (by omega),List.take_of_length_le (by omega),Nat.sub_self];cases lF at_.reverse l.reverse<;>rfl
theorem nextI_carry(h:wG at_ l q)(h0:0<q)(hq:q≤l.length)(ha:at_[q-1]?=some a)(hb:l[q-1]?=some b)(e: ¬a+1<b):wG at_ l (q-1):=by
 obtain⟨p,rfl⟩: ∃p,q=p+1:=⟨q-1,by omega⟩
 rw [Nat.add_sub_cancel] at ha hb⊢;unfold wG at*;rw [h,lP ha,lP hb,List.reverse_append,List.reverse_append];show((if a+1<b then some ((a+1)::(at_.take p).reverse) else (lF (at_.take p).reverse (l.take p).reverse).map (0:: ·))).map _=_;rw [if_neg e,Option.map_map]
 congr 1
 funext z
 show List.replicate (l.length-(p+1)) 0++0::z=List.replicate (l.length-p) 0++z;rw [show l.length-p=(l.length-(p+1))+1 by omega,List.replicate_succ',List.append_assoc];rfl
theorem nextI_none(h:wG at_ l 0):lF at_.reverse l.reverse=none:=by
 rw [h];rfl
theorem nextI_some(h:wG at_ l q)(h0:0<q)(hq:q≤l.length)(ha:at_[q-1]?=some a)(hb:l[q-1]?=some b)(e:a+1<b):lF at_.reverse l.reverse=some (at_.take (q-1)++(a+1)::List.replicate (l.length-q) 0).reverse:=by
 obtain⟨p,rfl⟩: ∃p,q=p+1:=⟨q-1,by omega⟩
 rw [Nat.add_sub_cancel] at ha hb⊢;rw [h,lP ha,lP hb,List.reverse_append,List.reverse_append];show((if a+1<b then some ((a+1)::(at_.take p).reverse) else (lF (at_.take p).reverse (l.take p).reverse).map (0:: ·))).map _=_;rw [if_pos e];show some (List.replicate (l.length-(p+1)) 0++(a+1)::(at_.take p).reverse)=_;rw [List.reverse_append,List.reverse_cons,List.reverse_replicate,List.append_assoc];rfl
theorem inR_at: ∀{xs ns:List Int} {k:Nat} {a b:Int},InR xs ns→xs[k]?=some a→ns[k]?=some b→0≤a∧a<b
 | [],[],k,a,b,_,h,_=>by simp at h
 | x::xs,n::ns,0,a,b,h,h1,h2=>by
  cases h1;cases h2;exact⟨h.1,h.2.1⟩
 | x::xs,n::ns,k+1,a,b,h,h1,h2=>inR_at h.2.2 h1 h2
theorem inR_rev(h:InR at_.reverse l.reverse)(ha:at_[q]?=some a)(hb:l[q]?=some b):0≤a∧a<b:=by
 have hl:=inR_len h;rw [List.length_reverse,List.length_reverse] at hl;have h1:=(List.getElem?_eq_some_iff.1 ha).1;have e1:at_.reverse[at_.length-1-q]?=some a:=by rw [List.getElem?_reverse (by omega),show at_.length-1-(at_.length-1-q)=q by omega,ha]
 have e2:l.reverse[at_.length-1-q]?=some b:=by rw [List.getElem?_reverse (by omega),show l.length-1-(at_.length-1-q)=q by omega,hb]
 exact inR_at h e1 e2
end
theorem same_get{a b:List (Sl Int)}{k:Nat}{r:Sl Int}(h:fR a b)(hr:b[k]?=some r): ∃y,a[k]?=some y∧y.list.length=r.list.length:=by
 obtain⟨y,h1,h2⟩:=fR.at_ (a:=b) (b:=a) h.symm hr;exact⟨y,h1,h2.symm⟩
theorem rank_rep{l:List Int}:nY (List.replicate l.length 0).reverse l.reverse=0:=by
 rw [List.reverse_replicate,←List.length_reverse];exact bEd
theorem inR_rep{l:List Int}(h: ∀k∈l,0≤k)(hc:l.contains 0=false):InR (List.replicate l.length 0).reverse l.reverse:=by
 rw [List.reverse_replicate,←List.length_reverse];refine inR_zero (fun k hk=>h k (List.mem_reverse.1 hk)) ?_;rw [List.contains_eq_any_beq] at hc⊢;rw [List.any_reverse];exact hc
set_option maxHeartbeats 1000000 in
set_option maxRecDepth 100000 in
theorem walkR_spec(mb bm bs bn bt bp bl:Nat)(m:fS)(x:fG)(a:Option Addr×Nat)(OA:Option Addr)(ol oc:Nat)(l:List Int)(hol:ol=l.length)(LA:Option Addr)(lcp:Nat)(loops:List Int)(r0:Sl Int)(hl0: ∀k∈l,0≤k)(hlm2: ∀k∈l,k≤65536)(hsz:sizeR l.reverse≤4000000)(hb0:0≤x.buf)(hr0:m.mem.list[x.buf.toNat]?=some r0)(hA:(evalP x.at_.list m.dims.list).2=0→0≤(evalP x.at_.list m.dims.list).1)(hrl0:r0.list.length≤1000000)(hlo:x.ops.list.length≤256)(hal0:l.length≤4)(hO:bDu (opsL x.ops.list) (if x.how=2 then l.length+1 else l.length) m.mem.list.length)(hD:Deep (opsL x.ops.list) 0)(hscan:x.how=3→1≤l.length)(hlp:x.how=2→1≤loops.length)(hlm:x.how=2→0≤loops.getLastD 0∧loops.getLastD 0≤65536)(hll:loops.length≤4)(hdl:m.dims.list.length≤140737488355328):oZ Tryz.prog 90 [.slice OA ol oc,.func (.func 91) #[] #[.pointer (some ⟨bs,0,none⟩),.pointer (some ⟨bm,0,none⟩),.pointer (some ⟨bt,0,none⟩),.pointer (some ⟨bp,0,none⟩),.pointer (some ⟨bl,0,none⟩)]] (bnC bn 0::btC bt 0::maH mb (m.st a [])) [bQ.cells bm 0 [.pointer (some ⟨mb,0,none⟩)],bQ.cells bs 0 [.int .i64 x.how,.int .i64 x.buf,.slice x.at_.addr x.at_.list.length x.at_.cap,.slice x.loops.addr x.loops.list.length x.loops.cap,.int .u8 x.fn,.slice x.ops.addr x.ops.list.length x.ops.cap],bQ.cells bp 0 [.func (.func 88) #[] #[.pointer (some ⟨bm,0,none⟩),.pointer (some ⟨bs,0,none⟩),.pointer (some ⟨bn,0,none⟩)]],bQ.cells bl 0 [.slice LA loops.length lcp],cL.sl (.slice LA loops.length lcp) loops,mN x,cL.sl (.slice m.dims.addr m.dims.list.length m.dims.cap) m.dims.list,cL.sl (.slice OA ol oc) l] (fun(_:(Option Addr×Nat)×List (Sl Int)×Int×Nat)=>dD (pK m.dims.list x.c (loops.getLastD 0) l (memL m))) (fun(_:(Option Addr×Nat)×List (Sl Int)×Int×Nat)=> .tuple #[]) (fun(y:(Option Addr×Nat)×List (Sl Int)×Int×Nat)=>bnC bn y.2.2.2::btC bt y.2.2.1::maH mb ((m.me y.2.1).st y.1 [])) (fun(y:(Option Addr×Nat)×List (Sl Int)×Int×Nat)=>[bQ.pure ((pK m.dims.list x.c (loops.getLastD 0) l (memL m))= .ok (y.2.1.map (·.list))∧fR y.2.1 m.mem.list)]):=by
 have hT:=cV;subst hol;refine kZ Tryz.func90 rfl Tryz.ntmps90 rfl ?_;intro β hM;refine bH<|bH<|bE<|bD rfl rfl rfl (bB hT rfl) ?_;refine cM Tryz.func143 (nW OA oc l (by omega) 0) rfl rfl .nil ⟨Has.of (.tail _ (.tail _ (.tail _ (.tail _ (.tail _ (.tail _ (.tail _ (.head _)))))))),trivial⟩ fun _=>?_;refine bU<|bF<|bN rfl (fun hc7=>?_) (fun hc7=>?_)
 ·refine bJ<|bL ?_;have hWK:(pK m.dims.list x.c (loops.getLastD 0) l (memL m))= .ok (memL m):=by unfold pK;rw [if_pos hc7]
  exact rI (a,m.mem.list,0,0) rfl (.cons .head (.cons .head (.cons .head (.cons .head (.cons .head Sel.self))))) ⟨Has.pure ⟨hWK,fR.refl _⟩,trivial⟩ (by rw [hWK];rfl) rfl
 ·refine bS<|bF<|bH<|bE<|bD rfl rfl rfl (bB hT rfl) ?_;refine bD rfl rfl rfl (bB hT rfl) ?_;refine bAk (m:=l.length) rfl rfl rfl rfl rfl rfl (by omega) fun ab=>?_;refine bD rfl rfl rfl (bB hT rfl) ?_;have hc0:l.contains 0=false:=hc7
  obtain⟨W,hW⟩: ∃W,rnWalk m.dims.list x.c (loops.getLastD 0) l.reverse (sizeR l.reverse).toNat (List.replicate l.length 0) 0 0 (memL m)=W:=⟨_,rfl⟩
  have hWK:(pK m.dims.list x.c (loops.getLastD 0) l (memL m))=W:=by unfold pK;rw [if_neg (by rw [hc0];simp),hW]
  have hin0:=inR_rep hl0 hc0;have hrk0:=rank_in hin0;rw [rank_rep] at hrk0;refine bU<|bF<|bY<|uQ (ι:=(Option Addr×Nat)×List (Sl Int)×Int×Nat×List Int) [(0,_),(1,_),(4,_)] ⟨rfl,rfl,rfl,trivial⟩ (fun _=>[]) (fun⟨a,M,last,n,at_⟩=>cL.row (.slice (some ⟨ab,0,none⟩) l.length l.length) 2 at_::bnC bn n::btC bt last::maH mb ((m.me M).st a [])) (fun⟨a,M,last,n,at_⟩=>[bQ.pure (at_.length=l.length∧InR at_.reverse l.reverse∧(n:Int)=nY at_.reverse l.reverse∧W=rnWalk m.dims.list x.c (loops.getLastD 0) l.reverse ((sizeR l.reverse).toNat-n) at_.reverse last n (M.map (·.list))∧fR M m.mem.list)]) (fun⟨a,M,last,n,at_⟩=>(sizeR l.reverse).toNat-n) (a,m.mem.list,0,0,List.replicate l.length 0) trivial (List.Perm.refl _) ⟨Has.pure (⟨by simp,hin0,rank_rep.symm,by rw [List.reverse_replicate,Nat.sub_zero];exact hW.symm,fR.refl _⟩),trivial⟩ ?_;rintro⟨a,M,last,n,at_⟩;dsimp only;refine cG (Has.of (.head _)) fun hinv2=>?_;have hal:=hinv2.1;have hin:=hinv2.2.1;have hrk:=rank_in hin;have hnk:=hinv2.2.2.1;have hsm:=hinv2.2.2.2.2;obtain⟨r,hr,hrl⟩:=same_get hsm hr0;have hW2:=hinv2.2.2.2.1
  obtain⟨left_,hleft⟩: ∃q,(sizeR l.reverse).toNat-n=q+1:=⟨(sizeR l.reverse).toNat-n-1,by omega⟩
  rw [hleft] at hW2;refine bY<|bH<|bE<|bD rfl rfl rfl (bB hT rfl) ?_;refine bD rfl rfl rfl (bB hT rfl) ?_;refine oW (bV Tryz.func91 rfl rfl) (bodyR_spec mb bm bs bn bt bp bl (m.me M) x a n last (some ⟨ab,0,none⟩) l.length l.length at_ hal.symm LA lcp loops r hb0 hr hA (by omega) (by omega) hlo (by omega) (by rw [hal];rw [show(m.me M).mem.list.length=m.mem.list.length from fR.len hsm];exact hO) hD (by rw [hal];exact hscan) hlp hlm hll hdl) rfl rfl rfl rfl rfl rfl rfl fO.all ⟨Has.of (.tail _ (.head _)),Has.of (.tail _ (.tail _ (.head _))),Has.of (.tail _ (.tail _ (.tail _ (.head _)))),Has.of (.tail _ (.tail _ (.tail _ (.tail _ (.head _))))),Has.of (.tail _ (.tail _ (.tail _ (.tail _ (.tail _ (.head _)))))),Has.of (.tail _ (.tail _ (.tail _ (.tail _ (.tail _ (.tail _ (.head _))))))),Has.of (.tail _ (.tail _ (.tail _ (.tail _ (.tail _ (.tail _ (.tail _ (.head _)))))))),trivial⟩ ?_ ?_
  ·intro y2 u1 hpb3;refine cQ ?_;refine fD ?_;refine cQ ?_;refine fD ?_;exact dY (a,m.mem.list,0,0) (by rw [hWK];exact walk_err hW2 (by rw [List.reverse_reverse];exact hpb3))
  rintro y4 hpb5;rw [List.append_nil];refine cG (Has.of (.head _)) fun hbt=>?_;have hbt1:dI m.dims.list x.c (loops.getLastD 0) at_.reverse.reverse last n (M.map (·.list))= .ok (y4.2.2,y4.2.1.map (·.list)):=by rw [List.reverse_reverse];exact hbt.1
  replace hbt:=And.intro hbt1 hbt.2
  refine bU<|bF<|bH<|at_eqc .head (congrArg (cL.row _ _) (take_full hal)) ?_;refine bE<|bD rfl rfl rfl (bB hT rfl) ?_;refine bD rfl rfl rfl (bB hT rfl) ?_;refine bD rfl rfl rfl (bB hT rfl) ?_;refine cD (kM (by omega) (by omega)) ?_;refine bD rfl rfl rfl (bB hT rfl) ?_;refine bU<|bF<|bH<|bY<|dR (ι:=Nat) [(0,_),(1,_),(4,_)] ⟨rfl,rfl,rfl,trivial⟩ (fun q=>[(5,.int .i64 ((q:Nat)-1:Int))]) (fun q=>[cL.row (.slice (some ⟨ab,0,none⟩) l.length l.length) 2 (at_.take q++List.replicate (l.length-q) 0)]) (fun q=>[bQ.pure (q≤l.length∧wG at_ l q)]) (fun q=>q) l.length ⟨rfl,trivial⟩ (.cons .head .nil) ⟨Has.pure (⟨by omega,nextI_all hal⟩),trivial⟩ ?_;rintro q;refine cG (Has.of (.head _)) fun hinv4=>?_;refine bH<|bH<|jA _ _ [(true,0),(true,1),(true,2),(true,3),(true,4),(true,5),(true,6),(true,7),(true,8),(true,9),(true,10),(true,11),(true,12),(true,13)] gL (by decide+kernel) (.cons .head (.cons .head (.cons .head (.cons .head (.cons .head (.cons .head Sel.self)))))) bO.self ?_;refine puM hT ?_;refine puM hT ?_;refine puM hT ?_;refine bZ (fun hg19=>?_) (fun hg19=>?_)
  ·have hg19:=of_decide_eq_true hg19;have hq0:0<q:=by omega
   obtain⟨za,hza⟩: ∃z,at_[q-1]?=some z:=⟨_,List.getElem?_eq_getElem (by omega)⟩
   obtain⟨zb,hzb⟩: ∃z,l[q-1]?=some z:=⟨_,List.getElem?_eq_getElem (by omega)⟩
   have hab:=inR_rev hin hza hzb;have hlb:=hlm2 _ (List.mem_of_getElem? hzb);have hzp:=(pad_get hal hq0 hinv4.1).trans hza;refine puM hT ?_;refine puM hT ?_;refine stM rfl (cC hT (k:=(q-1)) (cU .head) rfl rfl rfl rfl rfl (by simp only [List.length_append,List.length_take,List.length_replicate];omega) (by omega) (by simp only [List.length_append,List.length_take,List.length_replicate];omega)) ?_;refine stM rfl (bP hT (cN.knows (cU .head) (k:=(q-1)) (x:=za) hzp 0) rfl rfl rfl rfl rfl) ?_;refine puM hT ?_;refine puM hT ?_;refine stM rfl (cC hT (k:=(q-1)) (bR (Has.of (.tail _ (.tail _ (.tail _ (.tail _ (.tail _ (.tail _ (.tail _ (.tail _ (.tail _ (.tail _ (.head _))))))))))))) rfl rfl rfl rfl rfl rfl (by omega) (by omega)) ?_;refine stM rfl (bP hT (cN.knows (bR (Has.of (.tail _ (.tail _ (.tail _ (.tail _ (.tail _ (.tail _ (.tail _ (.tail _ (.tail _ (.tail _ (.head _))))))))))))) (k:=(q-1)) (x:=zb) hzb 0) rfl rfl rfl rfl rfl) ?_;refine puM hT ?_;refine cD (kM (by omega) (by omega)) ?_;refine puM hT ?_;refine puM hT ?_;refine dH<|bF<|bN rfl (fun hc30=>?_) (fun hc30=>?_)
   ·have hc30:=eq_of_beq hc30;refine bS<|bF<|bY<|bH<|bE<|bD rfl rfl rfl (bB hT rfl) ?_;refine bD rfl rfl rfl (bB hT rfl) ?_;refine bD rfl rfl rfl (cC hT (k:=(q-1)) (cU .head) rfl rfl rfl rfl rfl (by simp only [List.length_append,List.length_take,List.length_replicate];omega) (by omega) (by simp only [List.length_append,List.length_take,List.length_replicate];omega)) ?_;refine lX hT (k:=(q-1)) (fo:=0) (y':=0) .head rfl rfl rfl rfl rfl rfl rfl rfl rfl hzp rfl ?_;refine bU<|bF ?_;rw [pad_zero hal hq0 hinv4.1];refine bE<|bD rfl rfl rfl (bB hT rfl) ?_;refine bD rfl rfl rfl (bB hT rfl) ?_;refine cD (z':=(((q-1:Nat):Int)-1)) ((kM (by omega) (by omega)).trans (by omega)) ?_;refine bD rfl rfl rfl (bB hT rfl) ?_;refine bU<|cB<|bF ?_;exact cT (q-1) (by omega) ⟨rfl,trivial⟩ ⟨rfl,rfl,rfl,trivial⟩ (.cons .head (.cons .head (.cons .head (.cons .head (.cons .head (.cons .head Sel.self)))))) ⟨Has.pure (⟨by omega,nextI_carry hinv4.2 hq0 hinv4.1 hza hzb (by omega)⟩),trivial⟩ (bO.drop 1)
   ·have hc30:=beq_eq_false_iff_ne.1 hc30;refine dQ<|cP<|cP<|dN<|bF<|bH<|bH<|bE<|bD rfl rfl rfl (bB hT rfl) ?_;refine bD rfl rfl rfl (bB hT rfl) ?_;refine bU<|bF<|bN rfl (fun hc37=>?_) (fun hc37=>?_)
    ·have hc37:=of_decide_eq_true hc37
     exfalso
     omega
    ·have hc37:=Int.not_lt.1 (of_decide_eq_false hc37);have hnx:=nextI_some hinv4.2 hq0 hinv4.1 hza hzb (by omega);refine bS<|bF<|bE<|bD rfl rfl rfl (bB hT rfl) ?_;refine bD rfl rfl rfl (bB hT rfl) ?_;refine bD rfl rfl rfl (cC hT (k:=(q-1)) (cU .head) rfl rfl rfl rfl rfl (by simp only [List.length_append,List.length_take,List.length_replicate];omega) (by omega) (by simp only [List.length_append,List.length_take,List.length_replicate];omega)) ?_;refine bD rfl rfl rfl (bP hT (cN.knows (cU .head) (k:=(q-1)) (x:=za) hzp 0) rfl rfl rfl rfl rfl) ?_;refine bD rfl rfl rfl (bB hT rfl) ?_;refine cD (kM (by omega) (by omega)) ?_;refine bD rfl rfl rfl (cC hT (k:=(q-1)) (cU .head) rfl rfl rfl rfl rfl (by simp only [List.length_append,List.length_take,List.length_replicate];omega) (by omega) (by simp only [List.length_append,List.length_take,List.length_replicate];omega)) ?_;refine lX hT (k:=(q-1)) (fo:=0) (y':=(za+1)) .head rfl rfl rfl rfl rfl rfl rfl rfl rfl hzp rfl ?_;refine bU<|cB<|bF ?_;rw [pad_next hal hq0 hinv4.1];exact iC (y4.1,y4.2.1,y4.2.2,n+1,at_.take (q-1)++(za+1)::List.replicate (l.length-q) 0) (by dsimp only;omega) trivial ⟨rfl,rfl,rfl,trivial⟩ (List.Perm.refl _) ⟨Has.pure (⟨by dsimp only;simp only [List.length_append,List.length_take,List.length_cons,List.length_replicate];omega,(vG hin hnx).1,by dsimp only;rw [(vG hin hnx).2];omega,by dsimp only;rw [show(sizeR l.reverse).toNat-(n+1)=left_ by omega];exact walk_more' hW2 hbt.1 hnx,hbt.2.trans hsm⟩),trivial⟩ (bO.drop 3)
  ·have hg19:=Int.not_le.1 (of_decide_eq_false hg19);refine bG rfl rfl rfl rfl ?_;refine bG rfl rfl rfl rfl ?_;refine bG rfl rfl rfl rfl ?_;refine bG rfl rfl rfl rfl ?_;refine bG rfl rfl rfl rfl ?_;refine bG rfl rfl rfl rfl ?_;refine bG rfl rfl rfl rfl ?_;refine bG rfl rfl rfl rfl ?_;refine bG rfl rfl rfl rfl ?_;refine bG rfl rfl rfl rfl ?_;refine puM hT ?_;refine dH<|bF<|nR rfl rfl ?_;refine dQ<|cP<|cP<|dN<|bF<|bH<|bH<|bE<|bD rfl rfl rfl (bB hT rfl) ?_;refine bD rfl rfl rfl (bB hT rfl) ?_;refine bU<|bF<|bN rfl (fun hc37=>?_) (fun hc37=>?_)
   ·have hc37:=of_decide_eq_true hc37;have hq:q=0:=by omega
    subst hq;have hno:=nextI_none hinv4.2;refine bJ<|bL<|bT<|bL<|bT ?_;have hWe:=hWK.trans (walk_end hW2 hbt.1 hno);exact rI (y4.1,y4.2.1,y4.2.2,n+1) rfl (.cons (.tail .head) (.cons (.tail .head) (.cons (.tail .head) (.cons (.tail .head) (.cons (.tail .head) (Sel.skip Sel.self)))))) ⟨Has.pure ⟨hWe,hbt.2.trans hsm⟩,trivial⟩ (by rw [hWe];rfl) rfl
   ·have hc37:=Int.not_lt.1 (of_decide_eq_false hc37)
    exfalso
    omega
theorem zero_ints:(Tryz.prog.info? 63).bind (·.zero)=some (.slice none 0 0):=by kernel_rfl
theorem zero_i64:(Tryz.prog.info? 2).bind (·.zero)=some (.int .i64 0):=by kernel_rfl
theorem zero_i:(Tryz.prog.info? 3).bind (·.zero)=some (.int .i64 0):=by kernel_rfl
theorem zero_fni:(Tryz.prog.info? 189).bind (·.zero)=some .nilFunc:=by kernel_rfl
section
variable {ds : List Int} {x : cZ} {m : RnM} {l : List Int} {u : Value} {mem : List (List Int)}
theorem xP:gN ds x m=(iL ds x m.turns).bind fun l=>(pK ds x (l.getLastD 0) (if x.how=2 then l.dropLast else l) m.mem).map fun mem=>⟨mem,m.turns+dP x l⟩:=by
 unfold gN iL
 cases rnLoops ds x.loops [] with
 | error e=>rfl
 | ok l=>
  show(if 2097152<m.turns+dP x l then _ else _)=Except.bind (if 2097152<m.turns+dP x l then Except.error 122 else Except.ok l) _;split
  ·rfl
  ·show _=(pK ds x (l.getLastD 0) (if x.how=2 then l.dropLast else l) m.mem).map _;unfold pK;generalize (if x.how=2 then l.dropLast else l)=outer
   by_cases hc:outer.contains 0=true
   ·rw [if_pos hc,if_pos hc];rfl
   ·rw [if_neg hc,if_neg hc]
theorem step_err1(h:dD (iL ds x m.turns)=some u):dD (gN ds x m)=some u:=by
 rw [xP];exact iG h
theorem step_err2(h:iL ds x m.turns= .ok l)(hu:dD (pK ds x (l.getLastD 0) (if x.how=2 then l.dropLast else l) m.mem)=some u):dD (gN ds x m)=some u:=by
 rw [xP,h];show dD ((pK ds x (l.getLastD 0) (if x.how=2 then l.dropLast else l) m.mem).map _)=_;rw [pE];exact hu
theorem step_ok(h:iL ds x m.turns= .ok l)(hw:pK ds x (l.getLastD 0) (if x.how=2 then l.dropLast else l) m.mem= .ok mem):gN ds x m= .ok ⟨mem,m.turns+dP x l⟩:=by
 rw [xP,h];show(pK ds x (l.getLastD 0) (if x.how=2 then l.dropLast else l) m.mem).map _=_;rw [hw];rfl
end
theorem xU{α:Type}{l:List α}(h:l≠[]):1≤l.length:=List.length_pos_iff.2 h
theorem loops_in{ds:List Int}: ∀{L:List (List Mono)} {acc l:List Int},rnLoops ds L acc= .ok l→(∀p∈L,(evalP p ds).2=0→0≤(evalP p ds).1)→(∀k∈acc,0≤k∧k≤65536)→(∀k∈l,0≤k∧k≤65536)∧l.length=acc.length+L.length
 | [],acc,l,h,_,ha=>by
  cases h;exact⟨ha,rfl⟩
 | p::L,acc,l,h,hN,ha=>by
  obtain⟨k,hk,h⟩:=nD (show(rnVal ds p 122).bind (fun k=>if 65536<k then .error 122 else rnLoops ds L (acc++[k]))= .ok l from h);split at h
  ·cases h
  ·have hv:(evalP p ds).2=0∧k=(evalP p ds).1:=by
    unfold rnVal at hk;split at hk
    ·rename_i h0;cases hk;exact⟨h0,rfl⟩
    ·cases hk
   have h0:=hN p (List.mem_cons_self ..) hv.1
   obtain⟨h1,h2⟩:=loops_in h (fun q hq=>hN q (List.mem_cons_of_mem _ hq)) (fun j hj=>by
    rcases List.mem_append.1 hj with hj | hj
    ·exact ha j hj
    ·have:j=k:=by simpa using hj
     omega)
   refine⟨h1,?_⟩;rw [h2,List.length_append,List.length_singleton,List.length_cons];omega
theorem zO: ∀{a:List Int} {b:Int},sizeR (a++[b])=sizeR a*b
 | [],b=>by show b*1=1*b;omega
 | n::a,b=>by
  show n*sizeR (a++[b])=n*sizeR a*b;rw [zO,Int.mul_assoc]
theorem bDl: ∀{l:List Int},sizeR l.reverse=iK l
 | []=>rfl
 | k::l=>by rw [List.reverse_cons,zO,bDl,iK,Int.mul_comm]
theorem yM: ∀{a:List Int} {b:Int},iK (a++[b])=iK a*b
 | [],b=>by show b*1=1*b;omega
 | n::a,b=>by
  show n*iK (a++[b])=n*iK a*b;rw [yM,Int.mul_assoc]
theorem count_in{ds:List Int}{x:cZ}{t:Int}{l:List Int}(h:iL ds x t= .ok l)(hN: ∀p∈x.loops,(evalP p ds).2=0→0≤(evalP p ds).1)(hL:1≤x.ops.length)(ht:0≤t):
  (∀k∈l,0≤k∧k≤65536)∧l.length=x.loops.length∧0≤dP x l∧t+dP x l≤2097152∧sizeR (if x.how=2 then l.dropLast else l).reverse≤4000000:=by
 unfold iL at h;obtain⟨l',hl,h⟩:=nD h;split at h
 ·cases h
 ·rename_i hle;cases h;obtain⟨h1,h2⟩:=loops_in hl hN (fun k hk=>by cases hk);have h2:l.length=x.loops.length:=by rw [h2,List.length_nil,Nat.zero_add]
  have hp: ∀{a:List Int},(∀k∈a,0≤k)→0≤iK a:=fun h=>vL h
  have hR:0≤iK (if x.how=2 then l.dropLast++[l.getLastD 0+1] else l)∧sizeR (if x.how=2 then l.dropLast else l).reverse≤iK (if x.how=2 then l.dropLast++[l.getLastD 0+1] else l):=by
   rw [bDl];split
   ·have hd:=hp (a:=l.dropLast) fun k hk=>(h1 k (List.dropLast_subset _ hk)).1
    have hg:0≤l.getLastD 0:=by
     rw [List.getLastD_eq_getLast?]
     cases hl:l.getLast? with
     | none=>decide
     | some z=>exact(h1 z (List.mem_of_getLast? hl)).1
    rw [yM];have e1:iK l.dropLast*1≤iK l.dropLast*(l.getLastD 0+1):=Int.mul_le_mul_of_nonneg_left (by omega) hd;exact⟨by omega,by omega⟩
   ·exact⟨hp fun k hk=>(h1 k hk).1,Int.le_refl _⟩
  have e2:iK (if x.how=2 then l.dropLast++[l.getLastD 0+1] else l)*1≤dP x l:=Int.mul_le_mul_of_nonneg_left (by omega) hR.1;exact⟨h1,h2,by omega,by omega,by omega⟩
theorem outer_in{how:Int}{l:List Int}(hne:how=2→1≤l.length): ∃fo:Nat,(if how=2 then (1:Int) else 0)=(fo:Int)∧fo≤l.length∧l.take (l.length-fo)=(if how=2 then l.dropLast else l)∧(if how=2 then l.length-fo+1 else l.length-fo)=l.length∧(how≠2→fo=0):=by
 by_cases h:how=2
 ·refine⟨1,by rw [if_pos h];rfl,hne h,?_,?_,fun e=>absurd h e⟩
  ·rw [if_pos h,List.dropLast_eq_take]
  ·rw [if_pos h];have:=hne h;omega
 ·refine⟨0,by rw [if_neg h];rfl,Nat.zero_le _,?_,?_,fun _=>rfl⟩
  ·rw [if_neg h,Nat.sub_zero,List.take_of_length_le (Nat.le_refl _)]
  ·rw [if_neg h];rfl
theorem getLastD_in{l:List Int}(h0:1≤l.length)(h: ∀k∈l,0≤k∧k≤65536):0≤l.getLastD 0∧l.getLastD 0≤65536:=by
 rw [List.getLastD_eq_getLast?]
 cases hl:l.getLast? with
 | none=>rw [List.getLast?_eq_none_iff] at hl;subst hl;simp at h0
 | some z=>exact h z (List.mem_of_getLast? hl)
set_option maxHeartbeats 1000000 in
set_option maxRecDepth 100000 in
theorem stepR_spec(mb:Nat)(m:fS)(a:Option Addr×Nat)(x:fG)(r0:Sl Int)(hN: ∀p∈polsL x.loops.list,(evalP p m.dims.list).2=0→0≤(evalP p m.dims.list).1)(hlo:x.ops.list.length≤256)(hL1:1≤x.ops.list.length)(hll:x.loops.list.length≤4)(hne:x.how=2→x.loops.list≠[])(hne3:x.how=3→x.loops.list≠[])(ht0:0≤m.turns)(ht1:m.turns≤2097152)(hb0:0≤x.buf)(hr0:m.mem.list[x.buf.toNat]?=some r0)(hrl0:r0.list.length≤1000000)(hA:(evalP x.at_.list m.dims.list).2=0→0≤(evalP x.at_.list m.dims.list).1)(hO:bDu (opsL x.ops.list) x.loops.list.length m.mem.list.length)(hD:Deep (opsL x.ops.list) 0)(hdl:m.dims.list.length≤140737488355328):oZ Tryz.prog 41 [.pointer (some ⟨mb,0,none⟩),.agg #[.int .i64 x.how,.int .i64 x.buf,.slice x.at_.addr x.at_.list.length x.at_.cap,.slice x.loops.addr x.loops.list.length x.loops.cap,.int .u8 x.fn,.slice x.ops.addr x.ops.list.length x.ops.cap]] (maH mb (m.st a [])) [mN x,cL.sl (.slice m.dims.addr m.dims.list.length m.dims.cap) m.dims.list] (fun(_:(Option Addr×Nat)×List (Sl Int)×Int)=>dD (gN m.dims.list x.c ⟨memL m,m.turns⟩)) (fun(_:(Option Addr×Nat)×List (Sl Int)×Int)=> .tuple #[]) (fun(y:(Option Addr×Nat)×List (Sl Int)×Int)=>maH mb (((m.me y.2.1).tu y.2.2).st y.1 [])) (fun(y:(Option Addr×Nat)×List (Sl Int)×Int)=>[bQ.pure ((gN m.dims.list x.c ⟨memL m,m.turns⟩)= .ok ⟨y.2.1.map (·.list),y.2.2⟩∧fR y.2.1 m.mem.list)]):=by
 have hT:=cV;refine kZ Tryz.func41 rfl Tryz.ntmps41 rfl ?_;intro β hM;refine bH<|bE<|jB rfl rfl rfl rfl rfl rfl fun b1=>?_;refine jB rfl rfl rfl rfl rfl rfl fun b2=>?_;refine bU<|bF<|bH<|bE<|bD rfl rfl rfl (bP hT (fE (.tail .head)) rfl rfl rfl rfl rfl) ?_;refine bD rfl rfl rfl (fF hT (fE .head) rfl rfl rfl rfl rfl) ?_;refine iH (bV Tryz.func86 rfl rfl) (countR_spec mb (m.st a []) x hN hlo hll hne ht0 ht1 hdl) rfl rfl rfl rfl rfl (.cons (.tail (.tail .head)) .nil) ⟨Has.of (.head _),Has.of (.tail _ (.head _)),trivial⟩ ?_ ?_
 ·intro y4 u3 hpc5;refine cQ ?_;exact dY (a,[],0) (step_err1 (m:=⟨memL m,m.turns⟩) hpc5)
 rintro y6 hpc7;refine cG (Has.of (.head _)) fun hct=>?_;have hin:=count_in (x:=x.c) hct hN (by show 1≤(opsL x.ops.list).length;rw [fL];exact hL1) ht0;have hlen:y6.2.2.length=x.loops.list.length:=hin.2.1.trans (dG _);obtain⟨fo,hfo,hfo1,hfo2,hfo3,hfo4⟩:=outer_in (how:=x.how) (l:=y6.2.2) (fun e=>by have:=xU (hne e);omega);refine fN rfl rfl rfl rfl zero_ints rfl fun b8=>?_;refine fM hT rfl rfl rfl rfl rfl .head rfl rfl rfl rfl rfl ?_;refine bU<|bF<|bH<|at_cap (.tail (.tail .head)) fun hcap=>?_;refine jR (E:=cL) (.tail (.tail .head)) ?_;refine cI (cL.sl (.slice y6.1 (y6.2.2.length-fo) y6.2.1) (y6.2.2.take (y6.2.2.length-fo))) (has_take (Has.of (.head _)) (by omega)) ?_;refine jA _ _ [(true,0),(true,1),(true,2),(true,3),(false,4),(true,5),(true,6),(true,7)] gL (by decide+kernel) (.cons .head (.cons .head (.cons .head (.cons .head (.cons .head (.cons .head Sel.self)))))) bO.self ?_;refine stM rfl (bP hT (fE .head) rfl rfl rfl rfl rfl) ?_;refine stM rfl (bP hT (fE .head) rfl rfl rfl rfl rfl) ?_;refine puM hT ?_;refine stM rfl (fF hT (fE (.tail (.tail .head))) rfl rfl rfl rfl rfl) ?_;refine gE (o:=_) rfl ?_;refine cM Tryz.func87 (foldR_spec x) rfl rfl .nil trivial fun _=>?_;refine cD hfo ?_;refine fZ (.cons .head (.cons .head (.cons .head (.cons .head (.cons .head (.cons .head Sel.self)))))) (bO.drop 0) ?_;refine puM hT ?_;refine cD (z':=((y6.2.2.length-fo:Nat):Int)) (by rw [show((y6.2.2.length:Nat):Int)-(fo:Int)=((y6.2.2.length-fo:Nat):Int) by omega];exact dM rfl (by omega)) ?_;refine stM rfl (sti_cutTo hT (k:=(y6.2.2.length-fo)) rfl rfl rfl rfl rfl rfl (by omega)) ?_;refine puM hT ?_;refine dH<|bF<|bH<|bE<|fN rfl rfl rfl rfl zero_i rfl fun b9=>?_;refine fM hT rfl rfl rfl rfl rfl .head rfl rfl rfl rfl rfl ?_;refine bU<|bF<|bH<|bE<|bD rfl rfl rfl (bB hT rfl) ?_;refine fN rfl rfl rfl rfl zero_fni rfl fun b10=>?_;refine fM hT rfl rfl rfl rfl rfl .head rfl rfl rfl rfl rfl ?_;refine bU<|bF<|bH<|bE<|fN rfl rfl rfl rfl zero_i64 rfl fun b11=>?_;refine fM hT rfl rfl rfl rfl rfl .head rfl rfl rfl rfl rfl ?_;refine bU<|bF<|mA (.tail (.tail (.tail (.tail (.tail (.tail .head)))))) ?_;refine mA (.tail (.tail (.tail (.tail (.tail .head))))) ?_;refine mA (.tail (.tail (.tail .head))) ?_;refine mA (.tail .head) ?_;refine bE<|bD rfl rfl rfl (bB hT rfl) ?_;refine bD rfl rfl rfl (bB hT rfl) ?_;refine iF (.cons (.tail .head) (.cons .head (.cons .head (.cons .head (.cons .head Sel.self))))) ?_;refine iH (bV Tryz.func90 rfl rfl) (walkR_spec mb b1 b2 b9 b11 b10 b8 ((m.tu (m.turns+dP x.c y6.2.2))) x a y6.1 (y6.2.2.length-fo) y6.2.1 (y6.2.2.take (y6.2.2.length-fo)) (by rw [List.length_take];omega) y6.1 y6.2.1 y6.2.2 r0 (fun k hk=>(hin.1 k (List.mem_of_mem_take hk)).1) (fun k hk=>(hin.1 k (List.mem_of_mem_take hk)).2) (by rw [hfo2];exact hin.2.2.2.2) hb0 hr0 hA hrl0 hlo (by rw [List.length_take];omega) (by rw [List.length_take,show min (y6.2.2.length-fo) y6.2.2.length=y6.2.2.length-fo by omega,hfo3,hlen];exact hO) hD (fun e=>by rw [List.length_take];have:=xU (hne3 e);have:=hfo4 (by omega);omega) (fun e=>by have:=xU (hne e);omega) (fun e=>getLastD_in (by have:=xU (hne e);omega) hin.1) (by omega) hdl) rfl rfl rfl rfl rfl fO.all ⟨Has.of (.tail _ (.tail _ (.tail _ (.head _)))),Has.of (.tail _ (.tail _ (.head _))),Has.of (.head _),Has.of (.tail _ (.head _)),Has.of (.tail _ (.tail _ (.tail _ (.tail _ (.tail _ (.head _)))))),Has.of (.tail _ (.tail _ (.tail _ (.tail _ (.tail _ (.tail _ (.tail _ (.head _)))))))),Has.of (.tail _ (.tail _ (.tail _ (.tail _ (.tail _ (.tail _ (.tail _ (.tail _ (.head _))))))))),Has.of (.tail _ (.tail _ (.tail _ (.tail _ (.head _))))),trivial⟩ ?_ ?_
 ·intro y13 u12 hpw14;exact dY (a,[],0) (step_err2 (m:=⟨memL m,m.turns⟩) hct (by have:=hpw14;rw [hfo2] at this;exact this))
 rintro y15 hpw16;rw [List.append_nil];refine cG (Has.of (.head _)) fun hwk=>?_;refine bU ?_;have hwk1:=hwk.1;rw [hfo2] at hwk1;have hse:(gN m.dims.list x.c ⟨memL m,m.turns⟩)= .ok ⟨y15.2.1.map (·.list),m.turns+dP x.c y6.2.2⟩:=step_ok (m:=⟨memL m,m.turns⟩) hct hwk1;exact tX (y15.1,y15.2.1,m.turns+dP x.c y6.2.2) rfl (.cons (.tail (.tail .head)) (.cons (.tail (.tail .head)) (.cons (.tail (.tail .head)) (Sel.skip (Sel.skip Sel.self))))) ⟨Has.pure ⟨hse,hwk.2⟩,trivial⟩ (by rw [hse];rfl) rfl
theorem bEj: ∀{l:List Int} {n:Int},0≤n→n≤65536→(∀k∈l,0≤k∧k≤65536)→0≤(lJ l n).1∧(lJ l n).1≤65536
 | [],n,h0,h1,_=>⟨h0,h1⟩
 | k::l,n,h0,h1,h=>by
  have hk:=h k (List.mem_cons_self ..);have hm:0≤n*k∧n*k≤4294967296:=mul_in ⟨h0,h1⟩ hk;have hw:w64 (n*k)=n*k:=rn_w64 (by omega) (by omega);unfold lJ;rw [hw];split
  ·exact⟨Int.le_refl _,by show(0:Int)≤65536;decide⟩
  ·exact bEj hm.1 (by omega) fun j hj=>h j (List.mem_cons_of_mem _ hj)
theorem bAl(l:List Int):0≤(gA l).1∧(gA l).1≤65536:=by
 unfold gA;split
 ·exact⟨Int.le_refl _,by show(0:Int)≤65536;decide⟩
 ·rename_i h;split
  ·exact⟨Int.le_refl _,by show(0:Int)≤65536;decide⟩
  ·refine bEj (by decide) (by decide) fun k hk=>?_;have h1: ¬l.any uT=true:=fun e=>h (.inr e)
   have h2:uT k=false:=by
    cases hb:uT k with
    | false=>rfl
    | true=>exact absurd (List.any_eq_true.2 ⟨k,hk,hb⟩) h1
   unfold uT at h2;simp only [Bool.or_eq_false_iff,decide_eq_false_iff_not] at h2;omega
theorem most_ge: ∀{l:List fV} {n:Int},n≤rnMost l n
 | [],n=>Int.le_refl _
 | u::l,n=>by
  have:=most_ge (l:=l) (n:=max n (u.input+1));show n≤rnMost l (max n (u.input+1));omega
theorem most_gt{u:fV}: ∀{l:List fV} {n:Int},u∈l→u.input<rnMost l n
 | [],_,h=>by cases h
 | v::l,n,h=>by
  show u.input<rnMost l (max n (v.input+1))
  rcases List.mem_cons.1 h with rfl | h
  ·have:=most_ge (l:=l) (n:=max n (u.input+1));omega
  ·exact most_gt h
theorem most_at{l:List fV}{i:Nat}{u:fV}{n R:Int}(h:R=rnMost (l.drop i) n)(hu:l[i]?=some u):R=rnMost (l.drop (i+1)) (max n (u.input+1)):=by
 obtain⟨hlt,e⟩:=List.getElem?_eq_some_iff.1 hu;rw [h,←List.getElem_cons_drop hlt,e];rfl
theorem most_end{l:List fV}{i:Nat}{n R:Int}(h:R=rnMost (l.drop i) n)(hi:l.length≤i):R=n:=by
 rw [h,List.drop_of_length_le hi];rfl
def xE (ds:List Int)(ins:List Arr)(bufs:List fV):Rn (List (List Int)):=if (ins.length:Int)≠rnMost bufs 0 then .error 120 else rnLoad ds ins bufs []
section
variable {ds : List Int} {ins : List Arr} {l : List fV} {i : Nat} {u : fV} {mem : List (List Int)} {R : Rn (List (List Int))} {a : Arr} {n : Nat}
theorem load_at(h:R=rnLoad ds ins (l.drop i) mem)(hu:l[i]?=some u):R=if u.input<0 then rnLoad ds ins (l.drop (i+1)) (mem++[List.replicate (gA (dA ds u)).1.toNat 0]) else if kX (ins.getD u.input.toNat rJ)=true∧(ins.getD u.input.toNat rJ).sides=dA ds u then rnLoad ds ins (l.drop (i+1)) (mem++[(ins.getD u.input.toNat rJ).data]) else .error 120:=by
 obtain⟨hlt,e⟩:=List.getElem?_eq_some_iff.1 hu;rw [h,←List.getElem_cons_drop hlt,e];rfl
theorem load_zero(h:R=rnLoad ds ins (l.drop i) mem)(hu:l[i]?=some u)(hi:u.input<0):R=rnLoad ds ins (l.drop (i+1)) (mem++[List.replicate (gA (dA ds u)).1.toNat 0]):=by rw [load_at h hu,if_pos hi]
theorem load_data(h:R=rnLoad ds ins (l.drop i) mem)(hu:l[i]?=some u)(hi: ¬u.input<0)(ha:ins[u.input.toNat]?=some a)(hr:kX a=true)(hs:a.sides=dA ds u):R=rnLoad ds ins (l.drop (i+1)) (mem++[a.data]):=by
 have hg:ins.getD u.input.toNat rJ=a:=by rw [List.getD_eq_getElem?_getD,ha];rfl
 rw [load_at h hu,if_neg hi,hg,if_pos ⟨hr,hs⟩]
theorem load_bad(h:R=rnLoad ds ins (l.drop i) mem)(hu:l[i]?=some u)(hi: ¬u.input<0)(ha:ins[u.input.toNat]?=some a)(hb: ¬(kX a=true∧a.sides=dA ds u)):dD R=some (bBt 120):=by
 have hg:ins.getD u.input.toNat rJ=a:=by rw [List.getD_eq_getElem?_getD,ha];rfl
 rw [load_at h hu,if_neg hi,hg,if_neg hb];rfl
theorem load_end(h:R=rnLoad ds ins (l.drop i) mem)(hi:l.length≤i):R= .ok mem:=by
 rw [h,List.drop_of_length_le hi];rfl
theorem in_eq(h:(ins.length:Int)=rnMost l 0):xE ds ins l=rnLoad ds ins l []:=by
 unfold xE;rw [if_neg (fun e=>e h)]
theorem in_no(h:(ins.length:Int)≠rnMost l 0):dD (xE ds ins l)=some (bBt 120):=by
 unfold xE;rw [if_pos h];rfl
end
theorem maxI{a b:Int}:(if b>a then b else a)=max a b:=by
 split<;>omega
theorem right_data{a:Arr}(h:kX a=true):a.data.length≤65536:=by
 unfold kX at h;rw [Bool.and_eq_true,beq_iff_eq,beq_iff_eq] at h;have:=bAl a.sides;omega
def arrL (l:List ArrV):List Arr:=l.map ArrV.arr
theorem arrL_at{l:List ArrV}{i:Nat}{x:ArrV}(h:l[i]?=some x):(arrL l)[i]?=some x.arr:=by
 unfold arrL;rw [List.getElem?_map,h];rfl
theorem zI(l:List ArrV):(arrL l).length=l.length:=List.length_map _
theorem memC_rep{b n:Nat}:cL.held (.slice (some ⟨b,0,none⟩) n n) (List.replicate n 0)=memC ⟨some ⟨b,0,none⟩,n,List.replicate n 0⟩:=by
 unfold memC;simp only [List.length_replicate]
theorem zB{M:List (Sl Int)}{y:Sl Int}(h: ∀r∈M,r.list.length≤65536)(hy:y.list.length≤65536): ∀r∈M++[y],r.list.length≤65536:=fun r hr=>by
 rcases List.mem_append.1 hr with hr | hr
 ·exact h r hr
 ·have:r=y:=by simpa using hr
  rw [this];exact hy
theorem pZ:(Tryz.prog.info? 77).bind (·.zero)=some (.agg #[.slice none 0 0,.slice none 0 0]):=by kernel_rfl
set_option maxHeartbeats 1000000 in
set_option maxRecDepth 100000 in
theorem loadR_spec(mb:Nat)(m:fS)(IA:Option Addr)(ic:Nat)(ins:List ArrV)(hnb:m.core.bufs.list.length≤1024)(hI: ∀u∈m.core.bufs.list,-1≤u.input∧u.input<64)(hS: ∀u∈m.core.bufs.list,(∀p∈polsL u.sides.list,(evalP p m.dims.list).2=0)∧(dA m.dims.list u.c).length≤4)(hdl:m.dims.list.length≤140737488355328):oZ Tryz.prog 40 [.pointer (some ⟨mb,0,none⟩),.slice IA ins.length ic] (maH mb (m.mm (none,0) [])) [nU m.core,cL.sl (.slice m.dims.addr m.dims.list.length m.dims.cap) m.dims.list,kO.sl (.slice IA ins.length ic) ins,bQ.each ins xF] (fun(_:(Option Addr×Nat)×List (Sl Int))=>dD (xE m.dims.list (arrL ins) (bufsL m.core.bufs.list))) (fun(_:(Option Addr×Nat)×List (Sl Int))=> .tuple #[]) (fun(y:(Option Addr×Nat)×List (Sl Int))=>maH mb (m.mm y.1 y.2)) (fun(y:(Option Addr×Nat)×List (Sl Int))=>[bQ.pure ((xE m.dims.list (arrL ins) (bufsL m.core.bufs.list))= .ok (y.2.map (·.list))∧y.2.length=m.core.bufs.list.length∧ ∀r∈y.2,r.list.length≤65536)]):=by
 have hT:=cV
 obtain⟨K,hK⟩: ∃K,rnMost (bufsL m.core.bufs.list) 0=K:=⟨_,rfl⟩
 refine kZ Tryz.func40 rfl Tryz.ntmps40 rfl ?_;intro β hM;refine bH<|bE<|bD rfl rfl rfl (bB hT rfl) ?_;refine bU<|bF<|bH<|bH<|cI (oS.sl (.slice m.core.bufs.addr m.core.bufs.list.length m.core.bufs.cap) m.core.bufs.list) (sL (lZ (Has.of (.head _)))) ?_;refine bE<|bD rfl rfl rfl (bB hT rfl) ?_;refine bD rfl rfl rfl (bB hT rfl) ?_;refine bD rfl rfl rfl (bB hT rfl) ?_;refine bD rfl rfl rfl (bB hT rfl) ?_;refine bD rfl rfl rfl (bP hT (gZ .head) rfl rfl rfl rfl rfl) ?_;refine bD rfl rfl rfl (bB hT rfl) ?_;refine cD (z':=((m.core.bufs.list.length:Nat):Int)) rfl ?_;refine bD rfl rfl rfl (bB hT rfl) ?_;refine bU<|bF<|bY<|dR (ι:=Nat×Int) [(0,_),(1,_),(17,_),(18,_)] ⟨rfl,rfl,rfl,rfl,trivial⟩ (fun⟨i,z⟩=>[(4,.int .i64 z),(19,.int .i64 (i:Nat))]) (fun _=>[]) (fun⟨i,z⟩=>[bQ.pure (i≤m.core.bufs.list.length∧0≤z∧z≤64∧K=rnMost ((bufsL m.core.bufs.list).drop i) z)]) (fun⟨i,z⟩=>m.core.bufs.list.length-i) (0,0) ⟨rfl,rfl,trivial⟩ .nil ⟨Has.pure (⟨by omega,by omega,by omega,hK.symm⟩),trivial⟩ ?_;rintro⟨i,z⟩;dsimp only;refine cG (Has.of (.head _)) fun hinv2=>?_;refine bH<|bE<|bD rfl rfl rfl (bB hT rfl) ?_;refine bU<|bF<|bH<|bN rfl (fun hc20=>?_) (fun hc20=>?_)
 ·have hc20:=of_decide_eq_true hc20;refine bS<|bF<|bH<|bY<|bH<|bE ?_
  obtain⟨x1,hx2⟩: ∃x',m.core.bufs.list[i]?=some x':=⟨_,List.getElem?_eq_getElem (by omega)⟩
  refine bD rfl rfl rfl (cC hT (k:=i) (bR (Has.of (.tail _ (.head _)))) rfl rfl rfl rfl rfl rfl rfl (by omega)) ?_;refine bD rfl rfl rfl (fF hT (cN.knows (bR (Has.of (.tail _ (.head _)))) (k:=i) (x:=x1) hx2 0) rfl rfl rfl rfl rfl) ?_;refine fN rfl rfl rfl rfl qT rfl fun b3=>?_;refine fM hT rfl rfl rfl rfl rfl .head rfl rfl rfl rfl rfl ?_;refine bU<|bF ?_;have hib:=hI x1 (List.mem_of_getElem? hx2);refine bE<|bD rfl rfl rfl (bB hT rfl) ?_;refine bD rfl rfl rfl (bB hT rfl) ?_;refine bD rfl rfl rfl (bP hT (gZ .head) rfl rfl rfl rfl rfl) ?_;refine bD rfl rfl rfl (bB hT rfl) ?_;refine cD (kM (by omega) (by omega)) ?_;refine bD rfl rfl rfl (bB hT rfl) ?_;refine cD (z':=max z (x1.input+1)) maxI ?_;refine bD rfl rfl rfl (bB hT rfl) ?_;refine bU<|cB<|bF<|bE<|bD rfl rfl rfl (bB hT rfl) ?_;refine cD (z':=(((i+1):Nat):Int)) (dM (by omega) (by omega)) ?_;refine bD rfl rfl rfl (bB hT rfl) ?_;refine bU<|bF ?_;exact cT (i+1,max z (x1.input+1)) (by dsimp only;omega) ⟨rfl,rfl,trivial⟩ ⟨rfl,rfl,rfl,rfl,trivial⟩ (.cons (.tail .head) (.cons (.tail .head) (.cons (.tail .head) (Sel.skip Sel.self)))) ⟨Has.pure (⟨by dsimp only;omega,by dsimp only;omega,by dsimp only;omega,most_at hinv2.2.2.2 (dJ hx2)⟩),trivial⟩ (bO.drop 1)
 ·have hc20:=Int.not_lt.1 (of_decide_eq_false hc20);refine dQ<|cP<|cP<|dN<|bF<|bH<|bH ?_;have hke:=most_end hinv2.2.2.2 (by rw [cR];omega);refine bE<|bD rfl rfl rfl (bB hT rfl) ?_;refine bD rfl rfl rfl (bB hT rfl) ?_;refine bD rfl rfl rfl (bB hT rfl) ?_;refine bD rfl rfl rfl (bB hT rfl) ?_;refine bU<|bF<|bN rfl (fun hc32=>?_) (fun hc32=>?_)
  ·have hc32:=bne_iff_ne.1 hc32;refine bE<|bD rfl rfl rfl (jL rfl Tryz.underlying32 (fun _ e=>by cases e) rfl) ?_;refine jM rfl rfl rfl ?_;refine cQ ?_;exact dY ((none,0),[]) (in_no (by rw [zI];exact fun e=>hc32 (by omega)))
  ·have hc32:=bne_eq_false_iff_eq.1 hc32;refine bS<|bF<|bH ?_;have hml:((arrL ins).length:Int)=rnMost (bufsL m.core.bufs.list) 0:=by rw [zI];omega
   have hRI:=in_eq (ds:=m.dims.list) hml
   obtain⟨R,hR⟩: ∃R,rnLoad m.dims.list (arrL ins) (bufsL m.core.bufs.list) []=R:=⟨_,rfl⟩
   have hRL:(xE m.dims.list (arrL ins) (bufsL m.core.bufs.list))=R:=hRI.trans hR;refine bE<|bD rfl rfl rfl (bB hT rfl) ?_;refine bD rfl rfl rfl (bB hT rfl) ?_;refine bD rfl rfl rfl (bB hT rfl) ?_;refine bD rfl rfl rfl (bB hT rfl) ?_;refine bD rfl rfl rfl (bP hT (gZ .head) rfl rfl rfl rfl rfl) ?_;refine bD rfl rfl rfl (bB hT rfl) ?_;refine cD (z':=((m.core.bufs.list.length:Nat):Int)) rfl ?_;refine bD rfl rfl rfl (bB hT rfl) ?_;refine bU<|bF<|bY<|uQ (ι:=(Option Addr×Nat)×List (Sl Int)×Nat) [(0,_),(1,_),(38,_),(39,_)] ⟨rfl,rfl,rfl,rfl,trivial⟩ (fun⟨q,M,i⟩=>[(40,.int .i64 (i:Nat))]) (fun⟨q,M,i⟩=>maH mb (m.mm q M)) (fun⟨q,M,i⟩=>[bQ.pure (i≤m.core.bufs.list.length∧M.length=i∧R=rnLoad m.dims.list (arrL ins) ((bufsL m.core.bufs.list).drop i) (M.map (·.list))∧(∀r∈M,r.list.length≤65536))]) (fun⟨q,M,i⟩=>m.core.bufs.list.length-i) ((none,0),[],0) ⟨rfl,trivial⟩ (List.Perm.refl _) ⟨Has.pure (⟨by omega,rfl,hR.symm,fun _ h=>(by cases h)⟩),trivial⟩ ?_;rintro⟨q,M,i⟩;dsimp only;refine cG (Has.of (.head _)) fun hinv9=>?_;refine bH<|bE<|bD rfl rfl rfl (bB hT rfl) ?_;refine bU<|bF<|bH<|bN rfl (fun hc41=>?_) (fun hc41=>?_)
   ·have hc41:=of_decide_eq_true hc41;refine bS<|bF<|bH<|bY<|bH ?_
    obtain⟨u,hu⟩: ∃u,m.core.bufs.list[i]?=some u:=⟨_,List.getElem?_eq_getElem (by omega)⟩
    have hub:=hS u (List.mem_of_getElem? hu);have hsz:=bAl (dA m.dims.list u.c);refine bE<|bD rfl rfl rfl (bB hT rfl) ?_;refine bD rfl rfl rfl (cC hT (k:=i) (bR (Has.of (.tail _ (.tail _ (.head _))))) rfl rfl rfl rfl rfl rfl rfl (by omega)) ?_;refine bD rfl rfl rfl (fF hT (cN.knows (bR (Has.of (.tail _ (.tail _ (.head _))))) (k:=i) (x:=u) hu 0) rfl rfl rfl rfl rfl) ?_;refine fN rfl rfl rfl rfl qT rfl fun b4=>?_;refine bD rfl rfl rfl (bB hT rfl) ?_;refine fM hT rfl rfl rfl rfl rfl .head rfl rfl rfl rfl rfl ?_;refine bU<|bF<|bH<|bE<|bD rfl rfl rfl (bB hT rfl) ?_;refine bD rfl rfl rfl (bB hT rfl) ?_;refine cM Tryz.func42 (wD mb (m.mm q M) (i:Nat) u (by omega) hu hub.1 hdl) rfl rfl (.cons (.tail .head) .nil) ⟨(Has.of (.tail _ (.tail _ (.tail _ (.head _))))),(Has.of (.tail _ (.tail _ (.tail _ (.tail _ (.head _)))))),trivial⟩ fun y5=>?_;refine bD rfl rfl rfl (bB hT rfl) ?_;refine bU<|bF<|bH<|bH<|bE<|bD rfl rfl rfl (bB hT rfl) ?_;refine bD rfl rfl rfl (bP hT (gZ (.tail (.tail .head))) rfl rfl rfl rfl rfl) ?_;refine bD rfl rfl rfl (bB hT rfl) ?_;refine bU<|bF<|bN rfl (fun hc50=>?_) (fun hc50=>?_)
    ·have hc50:=of_decide_eq_true hc50;refine bH<|bE<|bD rfl rfl rfl (bB hT rfl) ?_;refine gT (bV Tryz.func83 rfl rfl) (bCl y5.1 y5.2 (dA m.dims.list u.c) (by have:=hub.2;omega)) rfl rfl rfl rfl rfl .nil (.cons (.tail .head) .nil) (sJ kN) ⟨Has.of (.head _),trivial⟩ (fun _=>True) (fun _ _ _ _=>trivial) fun _ _=>?_;refine bD rfl rfl rfl (bB hT rfl) ?_;refine bD rfl rfl rfl (bB hT rfl) ?_;refine cD (z':=(((gA (dA m.dims.list u.c)).1.toNat:Nat):Int)) (by omega) ?_;refine bD rfl rfl rfl (bB hT rfl) ?_;refine bD rfl rfl rfl (bB hT rfl) ?_;refine bD rfl rfl rfl (bB hT rfl) ?_;refine bU<|bF<|bH<|nC 11 _ _ [(true,0),(true,1),(true,2),(true,3),(true,4),(true,5),(false,6),(false,7),(false,8),(true,9),(true,10)] gL (by decide+kernel) (.cons .head (.cons .head (.cons .head (.cons .head (Sel.skip Sel.self))))) bO.self ?_;refine puL hT ?_;refine puL hT ?_;refine puL hT ?_;refine puL hT ?_;refine stL rfl (bP hT (sN .head) rfl rfl rfl rfl rfl) ?_;refine puL hT ?_;refine iP (o:=_) rfl ?_;refine bAk (m:=(gA (dA m.dims.list u.c)).1.toNat) rfl rfl rfl rfl rfl rfl (by omega) fun b6=>?_;refine at_val (v':= .slice (some ⟨b6,0,none⟩) (List.replicate (gA (dA m.dims.list u.c)).1.toNat (0:Int)).length (gA (dA m.dims.list u.c)).1.toNat) (by rw [List.length_replicate]) ?_;refine iR (.cons (.tail .head) (.cons (.tail .head) (.cons (.tail .head) (.cons (.tail .head) (Sel.skip (Sel.skip Sel.self)))))) (bO.drop 0) ?_;refine iP (o:=_) rfl ?_;refine wJ (m:=(⟨some ⟨b6,0,none⟩,(gA (dA m.dims.list u.c)).1.toNat,List.replicate (gA (dA m.dims.list u.c)).1.toNat 0⟩:Sl Int)) rfl rfl rfl rfl rfl fun b7=>?_;refine iR (.cons (.tail (.tail .head)) (.cons (.tail (.tail .head)) (.cons (.tail (.tail .head)) (.cons (.tail (.tail .head)) (Sel.skip (Sel.skip (Sel.skip Sel.self))))))) (bO.drop 0) ?_;refine iP (o:=_) rfl ?_;refine wH (.tail (.tail (.tail (.tail (.tail (.tail .head)))))) (gP .head rfl) rfl rfl rfl rfl rfl rfl rfl (by show M.length+1≤_;omega) fun A8 c9=>?_;refine iR (.cons (.tail (.tail (.tail .head))) (.cons (.tail (.tail (.tail .head))) (.cons (.tail (.tail (.tail .head))) (.cons (.tail (.tail (.tail .head))) (Sel.skip (Sel.skip (Sel.skip Sel.self))))))) (bO.drop 0) ?_;refine puL hT ?_;refine puL hT ?_;refine kE (o:=_) rfl ?_;refine fM hT rfl rfl rfl rfl rfl (.tail (.tail (.tail .head))) rfl rfl rfl rfl rfl ?_;refine lW<|bF<|dQ<|cP<|dN<|bF<|bE<|bD rfl rfl rfl (bB hT rfl) ?_;refine cD (z':=(((i+1):Nat):Int)) (dM (by omega) (by omega)) ?_;refine bD rfl rfl rfl (bB hT rfl) ?_;refine bU<|bF<|wR (E:=cL) (.tail (.tail (.tail .head))) ?_;rw [memC_rep];refine iF (.cons .head (.cons .head (.cons (.tail (.tail (.tail (.tail .head)))) (.cons .head (Sel.skip (Sel.skip (Sel.skip Sel.self))))))) ?_;refine dC (famM_new M ⟨some ⟨b6,0,none⟩,(gA (dA m.dims.list u.c)).1.toNat,List.replicate (gA (dA m.dims.list u.c)).1.toNat 0⟩ [_,_,_]) ?_;exact iC ((A8,c9),M++[⟨some ⟨b6,0,none⟩,(gA (dA m.dims.list u.c)).1.toNat,List.replicate (gA (dA m.dims.list u.c)).1.toNat 0⟩],i+1) (by dsimp only;omega) ⟨rfl,trivial⟩ ⟨rfl,rfl,rfl,rfl,trivial⟩ (List.Perm.refl _) ⟨Has.pure (⟨by dsimp only;omega,by dsimp only;rw [List.length_append,List.length_singleton];omega,by dsimp only;rw [List.map_append];exact load_zero hinv9.2.2.1 (dJ hu) (by show u.input<0;omega),zB hinv9.2.2.2 (by show(List.replicate _ _).length≤_;rw [List.length_replicate];have:=bAl (dA m.dims.list u.c);omega)⟩),trivial⟩ (bO.drop 1)
    ·have hc50:=Int.not_lt.1 (of_decide_eq_false hc50);refine bS<|bF<|bH ?_;have hmg:=most_gt (n:=0) (List.mem_of_getElem? (dJ hu))
     replace hmg:u.input<rnMost (bufsL m.core.bufs.list) 0:=hmg
     rw [←hml,zI] at hmg
     obtain⟨x,hx⟩: ∃x,ins[u.input.toNat]?=some x:=⟨_,List.getElem?_eq_getElem (by omega)⟩
     refine cI (xF x) (Has.each (Has.of (.tail _ (.tail _ (.tail _ (.tail _ (.tail _ (.tail _ (.head _)))))))) (List.mem_of_getElem? hx)) ?_;refine cG (arrF_sz (Has.of (.head _))) fun haz=>?_;refine cI (cL.sl (.slice x.sides.addr x.sides.list.length x.sides.cap) x.sides.list) (arrF_s (Has.of (.head _))) ?_;refine cI (cL.sl (.slice x.data.addr x.data.list.length x.data.cap) x.data.list) (arrF_d (Has.of (.tail _ (.head _)))) ?_;refine bE<|bD rfl rfl rfl (bB hT rfl) ?_;refine bD rfl rfl rfl (bB hT rfl) ?_;refine bD rfl rfl rfl (bP hT (gZ (.tail (.tail .head))) rfl rfl rfl rfl rfl) ?_;refine bD rfl rfl rfl (cC hT (k:=u.input.toNat) (bR (Has.of (.tail _ (.tail _ (.tail _ (.tail _ (.tail _ (.tail _ (.tail _ (.tail _ (.head _))))))))))) rfl rfl rfl rfl rfl rfl (by omega) ((List.getElem?_eq_some_iff.1 hx).1)) ?_;refine bD rfl rfl rfl (fF hT (cN.knows (bR (Has.of (.tail _ (.tail _ (.tail _ (.tail _ (.tail _ (.tail _ (.tail _ (.tail _ (.head _))))))))))) (k:=u.input.toNat) (x:=x) hx 0) rfl rfl rfl rfl rfl) ?_;refine fN rfl rfl rfl rfl pZ rfl fun b10=>?_;refine fM hT rfl rfl rfl rfl rfl .head rfl rfl rfl rfl rfl ?_;refine bU<|bF<|bH<|bH<|bE<|bD rfl rfl rfl (fF hT (fE .head) rfl rfl rfl rfl rfl) ?_;refine cM Tryz.func84 (rightAr_spec x (by omega)) rfl rfl .nil ⟨(Has.of (.tail _ (.head _))),trivial⟩ fun _=>?_;refine bD rfl rfl rfl (bB hT rfl) ?_;refine bD rfl rfl rfl (bB hT rfl) ?_;refine bZ (fun hg75=>?_) (fun hg75=>?_)
     ·have hg75:=mH hg75;have hrt:kX x.arr=false:=by simpa using hg75
      refine dB rfl rfl rfl ?_;refine dB rfl rfl rfl ?_;refine dB rfl rfl rfl ?_;refine dB rfl rfl rfl ?_;refine dB rfl rfl rfl ?_;refine bD rfl rfl rfl (bB hT rfl) ?_;refine bU<|bF<|cK rfl rfl ?_;refine bE<|bD rfl rfl rfl (jL rfl Tryz.underlying32 (fun _ e=>by cases e) rfl) ?_;refine jM rfl rfl rfl ?_;refine cQ ?_;refine fD ?_;refine cQ ?_;refine cQ ?_;refine fD ?_;exact dY ((none,0),[]) (by rw [hRL];exact load_bad hinv9.2.2.1 (dJ hu) (by show ¬u.input<0;omega) (arrL_at hx) (by first | (rintro⟨e,_⟩;rw [e] at hrt;cases hrt;done) | (rintro⟨_,e⟩;exact hne e)))
     ·have hg75:=mI hg75;have hrt:kX x.arr=true:=by simpa using hg75
      refine bD rfl rfl rfl (bB hT rfl) ?_;refine bD rfl rfl rfl (bP hT (fE .head) rfl rfl rfl rfl rfl) ?_;refine bD rfl rfl rfl (bB hT rfl) ?_;refine gT (bV Tryz.func85 rfl rfl) (equal_spec x.sides.addr y5.1 x.sides.cap y5.2 x.sides.list (dA m.dims.list u.c) (by omega)) rfl rfl rfl rfl rfl .nil (.cons (.tail (.tail .head)) .nil) (sJ kN) ⟨Has.of (.tail _ (.tail _ (.head _))),Has.of (.head _),trivial⟩ (fun _=>True) (fun _ _ _ _=>trivial) fun _ _=>?_;refine bD rfl rfl rfl (bB hT rfl) ?_;refine bD rfl rfl rfl (bB hT rfl) ?_;refine bU<|bF<|bN rfl (fun hc81=>?_) (fun hc81=>?_)
      ·have hc81:=mH hc81;have hne:x.arr.sides≠(dA m.dims.list u.c):=by have h:=hc81;simp at h;exact h
       refine bE<|bD rfl rfl rfl (jL rfl Tryz.underlying32 (fun _ e=>by cases e) rfl) ?_;refine jM rfl rfl rfl ?_;refine cQ ?_;refine fD ?_;refine cQ ?_;refine cQ ?_;refine fD ?_;exact dY ((none,0),[]) (by rw [hRL];exact load_bad hinv9.2.2.1 (dJ hu) (by show ¬u.input<0;omega) (arrL_at hx) (by first | (rintro⟨e,_⟩;rw [e] at hrt;cases hrt;done) | (rintro⟨_,e⟩;exact hne e)))
      ·have hc81:=mI hc81;have hse:x.arr.sides=(dA m.dims.list u.c):=by have h:=hc81;simp at h;exact h
       refine bS<|bF<|nC 12 _ _ [(true,0),(true,1),(true,2),(true,3),(true,4),(true,5),(true,6),(false,7),(false,8),(false,9),(true,10),(true,11)] gL (by decide+kernel) (.cons .head (.cons .head (.cons .head (.cons .head (.cons .head (Sel.skip Sel.self)))))) bO.self ?_;refine puL hT ?_;refine puL hT ?_;refine puL hT ?_;refine puL hT ?_;refine stL rfl (bP hT (sN (.tail .head)) rfl rfl rfl rfl rfl) ?_;refine puL hT ?_;refine stL rfl (bP hT (gZ .head) rfl rfl rfl rfl rfl) ?_;refine iP (o:=_) rfl ?_;refine cM Tryz.func43 (tL x.data.addr x.data.cap x.data.list (by omega)) rfl rfl .nil ⟨Has.of (.head _),trivial⟩ fun y11=>?_;refine iR (.cons (.tail .head) (.cons (.tail .head) (.cons (.tail .head) (.cons (.tail .head) (.cons (.tail .head) (Sel.skip (Sel.skip Sel.self))))))) (bO.drop 0) ?_;refine iP (o:=_) rfl ?_;refine wJ (m:=(⟨y11.1,y11.2,x.data.list⟩:Sl Int)) rfl rfl rfl rfl rfl fun b12=>?_;refine iR (.cons (.tail (.tail .head)) (.cons (.tail (.tail .head)) (.cons (.tail (.tail .head)) (.cons (.tail (.tail .head)) (.cons (.tail (.tail .head)) (Sel.skip (Sel.skip (Sel.skip Sel.self)))))))) (bO.drop 0) ?_;refine iP (o:=_) rfl ?_;refine wH (.tail (.tail (.tail (.tail (.tail (.tail (.tail .head))))))) (gP .head rfl) rfl rfl rfl rfl rfl rfl rfl (by show M.length+1≤_;omega) fun A13 c14=>?_;refine iR (.cons (.tail (.tail (.tail .head))) (.cons (.tail (.tail (.tail .head))) (.cons (.tail (.tail (.tail .head))) (.cons (.tail (.tail (.tail .head))) (.cons (.tail (.tail (.tail .head))) (Sel.skip (Sel.skip (Sel.skip Sel.self)))))))) (bO.drop 0) ?_;refine puL hT ?_;refine puL hT ?_;refine kE (o:=_) rfl ?_;refine fM hT rfl rfl rfl rfl rfl (.tail (.tail (.tail (.tail .head)))) rfl rfl rfl rfl rfl ?_;refine lW<|cB<|bF<|bE<|bD rfl rfl rfl (bB hT rfl) ?_;refine cD (z':=(((i+1):Nat):Int)) (dM (by omega) (by omega)) ?_;refine bD rfl rfl rfl (bB hT rfl) ?_;refine bU<|bF<|wR (E:=cL) (.tail (.tail (.tail .head))) ?_;refine iF (.cons .head (.cons .head (.cons (.tail (.tail (.tail (.tail (.tail .head))))) (.cons .head (Sel.skip (Sel.skip (Sel.skip (Sel.skip Sel.self)))))))) ?_;refine dC (famM_new M ⟨y11.1,y11.2,x.data.list⟩ [_,_,_]) ?_;exact iC ((A13,c14),M++[⟨y11.1,y11.2,x.data.list⟩],i+1) (by dsimp only;omega) ⟨rfl,trivial⟩ ⟨rfl,rfl,rfl,rfl,trivial⟩ (List.Perm.refl _) ⟨Has.pure (⟨by dsimp only;omega,by dsimp only;rw [List.length_append,List.length_singleton];omega,by dsimp only;rw [List.map_append];exact load_data hinv9.2.2.1 (dJ hu) (by show ¬u.input<0;omega) (arrL_at hx) hrt hse,zB hinv9.2.2.2 (by exact right_data hrt)⟩),trivial⟩ (bO.drop 4)
   ·have hc41:=Int.not_lt.1 (of_decide_eq_false hc41);refine dQ<|cP<|cP<|dN ?_;have hLe:=hRL.trans (load_end hinv9.2.2.1 (by rw [cR];omega));exact tX (q,M) rfl (.cons .head (.cons .head (.cons .head Sel.self))) ⟨Has.pure ⟨hLe,by show M.length=_;omega,hinv9.2.2.2⟩,trivial⟩ (by rw [hLe];rfl) rfl
end Go.Proofs.YtnmhcaahkaocgaaGreatDoor
