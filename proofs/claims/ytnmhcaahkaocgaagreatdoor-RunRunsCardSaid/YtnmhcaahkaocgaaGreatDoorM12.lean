/- Texts of one proof, one behind the other: RnF, UG, UH, UI, UJ, UK. -/
import Derived.Test.YtnmhcaahkaocgaaGreatDoorM11
namespace Go.Proofs.YtnmhcaahkaocgaaGreatDoor
section
variable {ds : List Int} {mem : List (List Int)} {d : List Int}
theorem rn_modify{α:Type}{L:List α}{k:Nat}{y:α}{f:α→α}(h:L[k]?=some y):L.modify k f=L.set k (f y):=by
 apply List.ext_getElem?;intro j;rw [List.getElem?_set,List.getElem?_modify];have hk:=(List.getElem?_eq_some_iff.1 h).1
 by_cases e:k=j
 ·subst e;rw [h];simp [hk]
 ·simp [e]
def OpIn (n:Nat)(o:OpC):Prop:=o.how=4→o.k.toNat<n
end
theorem opB_inF{vars loops buf:Int}{made:List Bool}{o:OpC}(h:opB vars loops buf made o=true):OpIn made.length o:=fun h4=>by
 unfold opB at h;rw [if_neg (by omega),if_neg (by omega),if_neg (by omega),if_pos h4] at h;have h7:=(tS (tS h).2).1;rw [List.getD_eq_getElem?_getD] at h7
 cases hg:made[o.k.toNat]? with
 | none=>rw [hg] at h7;cases h7
 | some z=>exact(List.getElem?_eq_some_iff.1 hg).1
theorem dims_in{c:mE}{ds:List Int}(hr:gO c=true)(hd:iD c.vars ds=true):nA ds=true:=by
 have h1:=of_decide_eq_true (tS hr).1;obtain⟨h2,h3⟩:=tS hd;have h2:=of_decide_eq_true h2;unfold nA;rw [Bool.and_eq_true];refine⟨decide_eq_true (by omega),?_⟩;rw [List.all_eq_true];intro d hd;have h4:ds.any yT=false:=by simpa using h3
 rw [List.any_eq_false] at h4;have:=h4 d hd;unfold yT at this;simp only [Bool.or_eq_true,decide_eq_true_eq,not_or] at this;exact decide_eq_true (by omega)
theorem bEg{c:mE}{ds:List Int}(h:(fI c ds).2=0):gO c=true∧iD c.vars ds=true∧fI c ds=cellsGo ds c.bufs 0:=by
 unfold fI at h⊢;split at h
 ·rename_i h1;split at h
  ·rename_i h2;rw [if_pos h1,if_pos h2];exact⟨h1,h2,rfl⟩
  ·cases h
 ·cases h
def bnC (b n:Nat):bX:= .obj b (.cells ([.int .i64 (n:Nat)]:List Value).toArray 3)
def btC (b:Nat)(z:Int):bX:= .obj b (.cells ([.int .i64 z]:List Value).toArray 2)
section
variable {β : fY} {n : Nat} {Γ : Env} {H H' : List bX} {F : List bU} {K : Act → World → Prop}
theorem tX{c c':bX}(hH:fU H c H')(e:c=c')(k:At β n Γ (c'::H') F K):At β n Γ H F K:=fun a w S f s hF=>k a w S f (by subst e;exact s.perm hH.perm) hF
end
theorem memC_set{r:Sl Int}{k:Nat}{v:Int}:memC ⟨r.addr,r.cap,r.list.set k v⟩=cQ.held (.slice r.addr r.list.length r.cap) (r.list.set k v):=by
 unfold memC;simp only [List.length_set]
theorem maO_set{mb:Nat}{m:gF}{k:Nat}{r y:Sl Int}(_h:m.mem.list[k]?=some r)(_ha:y.addr=r.addr)(_hc:y.cap=r.cap)(_hl:y.list.length=r.list.length):maO mb (m.me (m.mem.list.set k y))=maO mb m:=by
 unfold maO gF.me;simp only [List.length_set]
theorem maR_set{m:gF}{k:Nat}{r y:Sl Int}(h:m.mem.list[k]?=some r)(ha:y.addr=r.addr)(hc:y.cap=r.cap)(hl:y.list.length=r.list.length):maR (m.me (m.mem.list.set k y))=maR m:=by
 have e:tD.all (m.mem.list.set k y)=tD.all m.mem.list:=by
  have e1:tD.cells y=tD.cells r:=by
   show [Value.slice y.addr y.list.length y.cap]=[Value.slice r.addr r.list.length r.cap];rw [ha,hc,hl]
  unfold Flat.all;rw [List.flatMap_def,List.flatMap_def,List.map_set,e1]
  congr 1
  obtain⟨hlt,e2⟩:=List.getElem?_eq_some_iff.1 h;apply List.ext_getElem?;intro i;rw [List.getElem?_set];split
  ·rename_i hi;subst hi;rw [List.getElem?_map,h];simp [hlt]
  ·rfl
 show bX.row (.slice m.mem.addr (m.mem.list.set k y).length m.mem.cap) _ _ (m.mem.list.set k y).length (tD.all (m.mem.list.set k y))=_;rw [e,List.length_set];rfl
section
variable {ds : List Int} {x : fG} {n : Nat} {v to_ : Int} {mem : List (List Int)} {d : List Int} {u : Value}
theorem put_errV(h:fR (rnVal ds x.at_ 121)=some u):fR (iM ds x n v mem)=some u:=jN h
theorem put_big(h:(evalP x.at_ ds).2=0)(hd:mem[x.buf.toNat]?=some d)(hb:(d.length:Int)≤(evalP x.at_ ds).1+n):fR (iM ds x n v mem)=some (bDb 121):=by
 unfold iM rnVal;rw [if_pos h];have hg:mem.getD x.buf.toNat []=d:=by rw [List.getD_eq_getElem?_getD,hd];rfl
 show fR (if ((mem.getD x.buf.toNat []).length:Int)≤(evalP x.at_ ds).1+n then _ else _)=_;rw [hg,if_pos hb];rfl
theorem mT(h:(evalP x.at_ ds).2=0)(hd:mem[x.buf.toNat]?=some d)(hb: ¬(d.length:Int)≤(evalP x.at_ ds).1+n):iM ds x n v mem= .ok (mem.set x.buf.toNat (d.set ((evalP x.at_ ds).1+n).toNat v)):=by
 unfold iM rnVal;rw [if_pos h];have hg:mem.getD x.buf.toNat []=d:=by rw [List.getD_eq_getElem?_getD,hd];rfl
 show(if ((mem.getD x.buf.toNat []).length:Int)≤(evalP x.at_ ds).1+n then _ else _)=_;rw [hg,if_neg hb,rn_modify hd]
end
set_option maxHeartbeats 1000000 in
set_option maxRecDepth 100000 in
theorem uN(mb bm bs bn:Nat)(m:gF)(x:fV)(n:Nat)(v:Int)(r:Sl Int)(hb0:0≤x.buf)(hr:m.mem.list[x.buf.toNat]?=some r)(hA:(evalP x.at_.list m.dims.list).2=0→0≤(evalP x.at_.list m.dims.list).1)(hn:n≤10000000)(hrl:r.list.length≤1000000)(hdl:m.dims.list.length≤140737488355328):rC Tryz.prog 88 [.int .i64 v,.pointer (some ⟨bm,0,none⟩),.pointer (some ⟨bs,0,none⟩),.pointer (some ⟨bn,0,none⟩)] (bnC bn n::maH mb m) [bU.cells bm 0 [.pointer (some ⟨mb,0,none⟩)],bU.cells bs 0 [.int .i64 x.how,.int .i64 x.buf,.slice x.at_.addr x.at_.list.length x.at_.cap,.slice x.loops.addr x.loops.list.length x.loops.cap,.int .u8 x.fn,.slice x.ops.addr x.ops.list.length x.ops.cap],kB x,cQ.sl (.slice m.dims.addr m.dims.list.length m.dims.cap) m.dims.list] (fun(_:Unit)=>fR (iM m.dims.list x.c n v (memL m))) (fun(_:Unit)=> .tuple #[]) (fun(_:Unit)=>bnC bn (n+1)::maH mb (m.me (m.mem.list.set x.buf.toNat ⟨r.addr,r.cap,r.list.set ((evalP x.at_.list m.dims.list).1+(n:Nat)).toNat v⟩))) (fun(_:Unit)=>[bU.pure (iM m.dims.list x.c n v (memL m)= .ok ((m.me (m.mem.list.set x.buf.toNat ⟨r.addr,r.cap,r.list.set ((evalP x.at_.list m.dims.list).1+(n:Nat)).toNat v⟩)).mem.list.map (·.list)))]):=by
 have hT:=cZ;refine mX Tryz.func88 rfl Tryz.ntmps88 rfl ?_;intro β hM;refine bE<|cL (lS x.at_) (bCf (Has.of (.tail _ (.tail _ (.head _))))) ?_;refine bB<|bK rfl rfl rfl (bR hT (cS (off:=0) (Has.of (.tail _ (.head _)))) rfl rfl rfl rfl rfl) ?_;refine bK rfl rfl rfl (bG hT rfl) ?_;refine bK rfl rfl rfl (bR hT (cS (off:=2) (Has.of (.tail _ (.tail _ (.head _))))) rfl rfl rfl rfl rfl) ?_;refine jK (cE Tryz.func89 rfl rfl) (pW mb m x.at_ 121 hdl) rfl rfl rfl rfl rfl (.cons (.tail .head) .nil) ⟨Has.of (.head _),Has.of (.tail _ (.tail _ (.tail _ (.tail _ (.head _))))),trivial⟩ ?_ ?_
 ·intro y2 u1 hpv3;refine dK ?_;exact gJ () (put_errV (x:=x.c) hpv3)
 rintro _ hpv4;have hvt:=val_ok hpv4;have ht0:=hA hvt.1;refine bZ (z':=(evalP x.at_.list m.dims.list).1) hvt.2 ?_;refine bK rfl rfl rfl (bG hT rfl) ?_;refine cA<|bC<|bE<|bE<|fJ _ _ [(true,0),(true,1),(true,2),(true,3),(true,4),(true,5),(true,6),(true,7),(true,8),(true,9),(true,10),(true,11),(true,12),(true,13),(true,14),(true,15),(true,16),(true,17),(true,18),(true,19),(true,20),(true,21),(true,22),(true,23),(true,24),(true,25)] dS (by decide+kernel) (.cons .head (.cons .head (.cons .head (.cons .head Sel.self)))) bQ.self ?_;refine puM hT ?_;refine stM rfl (bR hT (cS (off:=0) (Has.of (.tail _ (.head _)))) rfl rfl rfl rfl rfl) ?_;refine puM hT ?_;refine puM hT ?_;refine stM rfl (bR hT (jD .head) rfl rfl rfl rfl rfl) ?_;refine puM hT ?_;refine stM rfl (bR hT (cS (off:=1) (Has.of (.tail _ (.tail _ (.head _))))) rfl rfl rfl rfl rfl) ?_;refine stM rfl (bV hT (k:=x.buf.toNat) (cF (.tail (.tail (.tail .head)))) rfl rfl rfl rfl rfl rfl (by omega) ((List.getElem?_eq_some_iff.1 hr).1)) ?_;refine stM rfl (bR hT (cM.knows (cF (.tail (.tail (.tail .head)))) (k:=x.buf.toNat) (x:=r) hr 0) rfl rfl rfl rfl rfl) ?_;refine puM hT ?_;refine puM hT ?_;refine puM hT ?_;refine cB (fun hg21=>?_) (fun hg21=>?_)
 ·have hg21:=of_decide_eq_true hg21;refine bF rfl rfl rfl rfl ?_;refine bF rfl rfl rfl rfl ?_;refine bF rfl rfl rfl rfl ?_;refine bF rfl rfl rfl rfl ?_;refine bF rfl rfl rfl rfl ?_;refine bF rfl rfl rfl rfl ?_;refine bF rfl rfl rfl rfl ?_;refine bF rfl rfl rfl rfl ?_;refine bF rfl rfl rfl rfl ?_;refine bF rfl rfl rfl rfl ?_;refine bF rfl rfl rfl rfl ?_;refine bF rfl rfl rfl rfl ?_;refine bF rfl rfl rfl rfl ?_;refine puM hT ?_;refine cW<|bC<|cG rfl rfl ?_;refine bB<|bK rfl rfl rfl (kO rfl Tryz.underlying32 (fun _ e=>by cases e) rfl) ?_;refine kQ rfl rfl rfl ?_;refine dK ?_;exact gJ () (put_big (x:=x.c) hvt.1 (lB hr) (by show _≤(evalP x.at_.list m.dims.list).1+(n:Nat);omega))
 ·have hg21:=Int.not_le.1 (of_decide_eq_false hg21);refine stM rfl (bR hT (dO (.tail .head)) rfl rfl rfl rfl rfl) ?_;refine stM rfl (bR hT (cS (off:=0) (Has.of (.tail _ (.head _)))) rfl rfl rfl rfl rfl) ?_;refine puM hT ?_;refine puM hT ?_;refine stM rfl (bR hT (jD .head) rfl rfl rfl rfl rfl) ?_;refine puM hT ?_;refine stM rfl (bR hT (cS (off:=1) (Has.of (.tail _ (.tail _ (.head _))))) rfl rfl rfl rfl rfl) ?_;refine stM rfl (bV hT (k:=x.buf.toNat) (cF (.tail (.tail (.tail .head)))) rfl rfl rfl rfl rfl rfl (by omega) ((List.getElem?_eq_some_iff.1 hr).1)) ?_;refine stM rfl (bR hT (cM.knows (cF (.tail (.tail (.tail .head)))) (k:=x.buf.toNat) (x:=r) hr 0) rfl rfl rfl rfl rfl) ?_;refine puM hT ?_;refine puM hT ?_;refine puM hT ?_;refine bZ (gK (by omega) (by omega)) ?_;refine puM hT ?_;refine puM hT ?_;refine cW<|bC<|bL rfl (fun hc35=>?_) (fun hc35=>?_)
  ·have hc35:=of_decide_eq_true hc35;refine bB<|bK rfl rfl rfl (kO rfl Tryz.underlying32 (fun _ e=>by cases e) rfl) ?_;refine kQ rfl rfl rfl ?_;refine dK ?_;exact gJ () (put_big (x:=x.c) hvt.1 (lB hr) (by show _≤(evalP x.at_.list m.dims.list).1+(n:Nat);omega))
  ·have hc35:=Int.not_le.1 (of_decide_eq_false hc35);refine bO<|bC<|bE<|jG 13 _ _ [(true,0),(true,1),(true,2),(true,3),(true,4),(true,5),(true,6),(true,7),(true,8),(true,9),(true,10),(true,11),(true,12)] dS (by decide+kernel) (.cons .head (.cons .head (.cons .head (.cons .head Sel.self)))) bQ.self ?_;refine stL rfl (bR hT (cS (off:=0) (Has.of (.tail _ (.head _)))) rfl rfl rfl rfl rfl) ?_;refine puL hT ?_;refine puL hT ?_;refine stL rfl (bR hT (jD .head) rfl rfl rfl rfl rfl) ?_;refine puL hT ?_;refine stL rfl (bR hT (cS (off:=1) (Has.of (.tail _ (.tail _ (.head _))))) rfl rfl rfl rfl rfl) ?_;refine stL rfl (bV hT (k:=x.buf.toNat) (cF (.tail (.tail (.tail .head)))) rfl rfl rfl rfl rfl rfl (by omega) ((List.getElem?_eq_some_iff.1 hr).1)) ?_;refine stL rfl (bR hT (cM.knows (cF (.tail (.tail (.tail .head)))) (k:=x.buf.toNat) (x:=r) hr 0) rfl rfl rfl rfl rfl) ?_;refine puL hT ?_;refine stL rfl (bR hT (dO (.tail .head)) rfl rfl rfl rfl rfl) ?_;refine puL hT ?_;refine bZ (gK (by omega) (by omega)) ?_;refine puL hT ?_
   obtain⟨x5,hx6⟩: ∃x',r.list[((evalP x.at_.list m.dims.list).1+(n:Nat)).toNat]?=some x':=⟨_,List.getElem?_eq_getElem (by omega)⟩
   refine stL rfl (bV hT (k:=((evalP x.at_.list m.dims.list).1+(n:Nat)).toNat) (pB (x:=r) (List.mem_cons_of_mem _ (List.mem_cons_of_mem _ (List.mem_cons_of_mem _ (List.mem_cons_of_mem _ (vA hr)))))) rfl rfl rfl rfl rfl rfl (by omega) (by omega)) ?_;refine hU (o:=_) rfl ?_;refine cR (famM_out hr [_,_,_,_]) ?_;refine nZ hT (k:=((evalP x.at_.list m.dims.list).1+(n:Nat)).toNat) (fo:=0) (y':=v) .head rfl rfl rfl rfl rfl rfl rfl rfl rfl hx6 rfl ?_;rw [←memC_set];refine cR (bIf hr _ [_,_,_,_]) ?_;refine tX .head (maO_set (y:=⟨r.addr,r.cap,r.list.set ((evalP x.at_.list m.dims.list).1+(n:Nat)).toNat v⟩) hr rfl rfl (List.length_set ..)).symm ?_;refine tX (.tail (.tail (.tail .head))) (maR_set (y:=⟨r.addr,r.cap,r.list.set ((evalP x.at_.list m.dims.list).1+(n:Nat)).toNat v⟩) hr rfl rfl (List.length_set ..)).symm ?_;refine iX<|bC<|bB<|bK rfl rfl rfl (bR hT (dO (.tail (.tail .head))) rfl rfl rfl rfl rfl) ?_;refine bK rfl rfl rfl (bG hT rfl) ?_;refine bZ (z':=((n+1:Nat):Int)) (cV (by omega) (by omega)) ?_;refine hZ hT rfl rfl rfl rfl rfl (.tail (.tail .head)) rfl rfl rfl rfl rfl ?_;refine cA ?_;have hok:=mT (x:=x.c) (n:=n) (v:=v) hvt.1 (lB hr) (by show ¬_≤(evalP x.at_.list m.dims.list).1+(n:Nat);omega);exact xL () rfl (.cons .head (.cons (.tail .head) (.cons (.tail .head) (.cons .head Sel.self)))) ⟨Has.pure (by rw [hok];show Except.ok _=Except.ok ((m.mem.list.set _ _).map _);rw [List.map_set];rfl),trivial⟩ (by rw [hok];rfl) rfl
section
variable {ds : List Int} {x : fG} {n : Nat} {v w last many : Int} {mem mem' : List (List Int)} {at_ : List Int} {u : Value} {Q : Rn Int} {k M : Nat}
theorem bAm{l:List Int}{z:Int}(h:l[l.length-1]?=some z):l.getLastD 0=z:=by
 rw [List.getLastD_eq_getLast?,List.getLast?_eq_getElem?,h];rfl
theorem turn_err1(hh:x.how≠2)(h:fR (dR ds mem at_ x.ops)=some u):fR (dU ds x many at_ last n mem)=some u:=by
 unfold dU;rw [if_neg hh];exact jN h
theorem turn_at(hh:x.how≠2)(h1:fR (dR ds mem at_ x.ops)=none):dU ds x many at_ last n mem=(if x.how=3∧0<at_.getLastD 0 then rnMust (dyadW x.fn last (rval 0 (dR ds mem at_ x.ops))) else .ok (rval 0 (dR ds mem at_ x.ops))).bind fun v=>(iM ds x n v mem).map fun m=>(v,m):=by
 obtain⟨y,e⟩:=mU h1;unfold dU;rw [if_neg hh,e];rfl
theorem turn_err2(hh:x.how=3)(h1:fR (dR ds mem at_ x.ops)=none)(hz:0<at_.getLastD 0)(h:fR (rnMust (dyadW x.fn last (rval 0 (dR ds mem at_ x.ops))))=some u):fR (dU ds x many at_ last n mem)=some u:=by
 rw [turn_at (by omega) h1,if_pos ⟨hh,hz⟩];exact jN h
theorem bKb(hh:x.how=3)(h1:fR (dR ds mem at_ x.ops)=none)(hz:0<at_.getLastD 0)(h:fR (rnMust (dyadW x.fn last (rval 0 (dR ds mem at_ x.ops))))=none):
  dU ds x many at_ last n mem=(iM ds x n (rval 0 (rnMust (dyadW x.fn last (rval 0 (dR ds mem at_ x.ops))))) mem).map fun m=>(rval 0 (rnMust (dyadW x.fn last (rval 0 (dR ds mem at_ x.ops)))),m):=by
 rw [turn_at (by omega) h1,if_pos ⟨hh,hz⟩];obtain⟨y,e⟩:=mU h;rw [e];rfl
theorem uO(hh:x.how≠2)(h1:fR (dR ds mem at_ x.ops)=none)(hz: ¬(x.how=3∧0<at_.getLastD 0)):
  dU ds x many at_ last n mem=(iM ds x n (rval 0 (dR ds mem at_ x.ops)) mem).map fun m=>(rval 0 (dR ds mem at_ x.ops),m):=by
 rw [turn_at hh h1,if_neg hz];rfl
theorem bHf(hh:x.how=2)(h:rnFold ds mem at_ x many.toNat 0 (unitW x.fn).1= .ok v):dU ds x many at_ last n mem=(iM ds x n v mem).map fun m=>(last,m):=by
 unfold dU;rw [if_pos hh,h];rfl
theorem bKj(hh:x.how=2)(hQ:rnFold ds mem at_ x many.toNat 0 (unitW x.fn).1=Q)(h:fR Q=some u):fR (dU ds x many at_ last n mem)=some u:=by
 unfold dU;rw [if_pos hh,hQ];exact jN h
theorem bBk{α β:Type}{r:Rn α}{f:α→β}{q:Rn β}(e:q=r.map f)(h:fR r=some u):fR q=some u:=by rw [e,rK,h]
theorem bBp(h:Q=rnFold ds mem at_ x (M-k) k v)(hk:k<M):Q=(dR ds mem (at_++[(k:Int)]) x.ops).bind fun y=>(if 0<k then rnMust (dyadW x.fn v y) else .ok y).bind (rnFold ds mem at_ x (M-(k+1)) (k+1)):=by
 rw [h,show M-k=(M-(k+1))+1 by omega];rfl
theorem fold_errO(h:Q=rnFold ds mem at_ x (M-k) k v)(hk:k<M)(hu:fR (dR ds mem (at_++[(k:Int)]) x.ops)=some u):fR Q=some u:=by
 rw [bBp h hk];exact jN hu
theorem fold_errM(h:Q=rnFold ds mem at_ x (M-k) k v)(hk:k<M)(h1:fR (dR ds mem (at_++[(k:Int)]) x.ops)=none)(h0:0<k)(hu:fR (rnMust (dyadW x.fn v (rval 0 (dR ds mem (at_++[(k:Int)]) x.ops))))=some u):fR Q=some u:=by
 obtain⟨y,e⟩:=mU h1;rw [e] at hu;rw [bBp h hk,e];show fR ((if 0<k then rnMust (dyadW x.fn v y) else .ok y).bind _)=_;rw [if_pos h0];exact jN hu
theorem fold_goM(h:Q=rnFold ds mem at_ x (M-k) k v)(hk:k<M)(h1:fR (dR ds mem (at_++[(k:Int)]) x.ops)=none)(h0:0<k)(hu:fR (rnMust (dyadW x.fn v (rval 0 (dR ds mem (at_++[(k:Int)]) x.ops))))=none):
  Q=rnFold ds mem at_ x (M-(k+1)) (k+1) (rval 0 (rnMust (dyadW x.fn v (rval 0 (dR ds mem (at_++[(k:Int)]) x.ops))))):=by
 obtain⟨y,e⟩:=mU h1;rw [e] at hu⊢;obtain⟨z,e2⟩:=mU hu;have e2:rnMust (dyadW x.fn v y)= .ok z:=e2;rw [bBp h hk,e];show(if 0<k then rnMust (dyadW x.fn v y) else .ok y).bind _=rnFold _ _ _ _ _ _ (rval 0 (rnMust (dyadW x.fn v y)));rw [if_pos h0,e2];rfl
theorem fold_go1(h:Q=rnFold ds mem at_ x (M-k) k v)(hk:k<M)(h1:fR (dR ds mem (at_++[(k:Int)]) x.ops)=none)(h0: ¬0<k):Q=rnFold ds mem at_ x (M-(k+1)) (k+1) (rval 0 (dR ds mem (at_++[(k:Int)]) x.ops)):=by
 obtain⟨y,e⟩:=mU h1;rw [e];rw [bBp h hk,e];show(if 0<k then rnMust (dyadW x.fn v y) else .ok y).bind _=rnFold _ _ _ _ _ _ y;rw [if_neg h0];rfl
theorem fold_end(h:Q=rnFold ds mem at_ x (M-k) k v)(hk:M≤k):Q= .ok v:=by
 rw [h,show M-k=0 by omega];rfl
theorem xI{f:List (List Int)→Int×List (List Int)}{q:Rn (Int×List (List Int))}(e:q=(iM ds x n v mem).map f)(h:iM ds x n v mem= .ok mem'):q= .ok (f mem'):=by rw [e,h];rfl
end
theorem set_snoc{l:List Int}{z y:Int}:(l++[z]).set l.length y=l++[y]:=by
 rw [List.set_append_right _ _ (Nat.le_refl _),Nat.sub_self];rfl
def fQ (a b:List (Sl Int)):Prop:=a.map (fun r=>r.list.length)=b.map (fun r=>r.list.length)
theorem fQ.refl(a:List (Sl Int)):fQ a a:=rfl
theorem fQ.trans{a b c:List (Sl Int)}(h:fQ a b)(k:fQ b c):fQ a c:=Eq.trans h k
theorem fQ.set{a:List (Sl Int)}{k:Nat}{r y:Sl Int}(h:a[k]?=some r)(hl:y.list.length=r.list.length):fQ (a.set k y) a:=by
 unfold fQ;rw [List.map_set,hl];apply List.ext_getElem?;intro i;rw [List.getElem?_set];split
 ·rename_i hi;subst hi;rw [List.getElem?_map,h];simp [(List.getElem?_eq_some_iff.1 h).1]
 ·rfl
theorem fQ.len{a b:List (Sl Int)}(h:fQ a b):a.length=b.length:=by
 have:=congrArg List.length h
 simpa using this
theorem fQ.at_{a b:List (Sl Int)}(h:fQ a b){k:Nat}{y:Sl Int}(hy:a[k]?=some y): ∃r,b[k]?=some r∧y.list.length=r.list.length:=by
 have h1:=congrArg (fun l=>l[k]?) h;simp only [List.getElem?_map,hy,Option.map_some] at h1
 cases hb:b[k]? with
 | none=>rw [hb] at h1;cases h1
 | some r=>rw [hb] at h1;exact⟨r,rfl,by simpa using h1⟩
set_option maxHeartbeats 1000000 in
set_option maxRecDepth 100000 in
theorem bodyR_spec(mb bm bs bn bt bp bl:Nat)(m:gF)(x:fV)(a:Option Addr×Nat)(n:Nat)(last:Int)(aA:Option Addr)(an ac:Nat)(at_:List Int)(han:an=at_.length)(LA:Option Addr)(lcp:Nat)(loops:List Int)(r:Sl Int)(hb0:0≤x.buf)(hr:m.mem.list[x.buf.toNat]?=some r)(hA:(evalP x.at_.list m.dims.list).2=0→0≤(evalP x.at_.list m.dims.list).1)(hn:n≤10000000)(hrl:r.list.length≤1000000)(hlo:x.ops.list.length≤256)(hal:at_.length≤4)(hO:vU (opsL x.ops.list) (if x.how=2 then at_.length+1 else at_.length) m.mem.list.length)(hD:Deep (opsL x.ops.list) 0)(hscan:x.how=3→1≤at_.length)(hlp:x.how=2→1≤loops.length)(hlm:x.how=2→0≤loops.getLastD 0∧loops.getLastD 0≤65536)(hll:loops.length≤4)(hdl:m.dims.list.length≤140737488355328):rC Tryz.prog 91 [.slice aA an ac,.pointer (some ⟨bs,0,none⟩),.pointer (some ⟨bm,0,none⟩),.pointer (some ⟨bt,0,none⟩),.pointer (some ⟨bp,0,none⟩),.pointer (some ⟨bl,0,none⟩)] (cQ.row (.slice aA an ac) 2 at_::bnC bn n::btC bt last::maH mb (m.st a [])) [bU.cells bm 0 [.pointer (some ⟨mb,0,none⟩)],bU.cells bs 0 [.int .i64 x.how,.int .i64 x.buf,.slice x.at_.addr x.at_.list.length x.at_.cap,.slice x.loops.addr x.loops.list.length x.loops.cap,.int .u8 x.fn,.slice x.ops.addr x.ops.list.length x.ops.cap],bU.cells bp 0 [.func (.func 88) #[] #[.pointer (some ⟨bm,0,none⟩),.pointer (some ⟨bs,0,none⟩),.pointer (some ⟨bn,0,none⟩)]],bU.cells bl 0 [.slice LA loops.length lcp],cQ.sl (.slice LA loops.length lcp) loops,kB x,cQ.sl (.slice m.dims.addr m.dims.list.length m.dims.cap) m.dims.list] (fun(_:(Option Addr×Nat)×List (Sl Int)×Int)=>fR (dU m.dims.list x.c (loops.getLastD 0) at_ last n (memL m))) (fun(_:(Option Addr×Nat)×List (Sl Int)×Int)=> .tuple #[]) (fun(y:(Option Addr×Nat)×List (Sl Int)×Int)=>cQ.row (.slice aA an ac) 2 at_::bnC bn (n+1)::btC bt y.2.2::maH mb ((m.me y.2.1).st y.1 [])) (fun(y:(Option Addr×Nat)×List (Sl Int)×Int)=>[bU.pure (dU m.dims.list x.c (loops.getLastD 0) at_ last n (memL m)= .ok (y.2.2,y.2.1.map (·.list))∧fQ y.2.1 m.mem.list)]):=by
 have hT:=cZ;subst han;refine mX Tryz.func91 rfl Tryz.ntmps91 rfl ?_;intro β hM;refine bE<|bE<|cL (bDg x.ops) (nV (Has.of (.tail _ (.tail _ (.tail _ (.tail _ (.tail _ (.head _)))))))) ?_;refine bB<|bK rfl rfl rfl (bG hT rfl) ?_;refine bK rfl rfl rfl (bR hT (cS (off:=0) (Has.of (.tail _ (.tail _ (.head _))))) rfl rfl rfl rfl rfl) ?_;refine bK rfl rfl rfl (bG hT rfl) ?_;refine cA<|bC<|bL rfl (fun hc15=>?_) (fun hc15=>?_)
 ·have hc15:=bne_iff_ne.1 hc15;refine bE<|bB<|bK rfl rfl rfl (bR hT (cS (off:=0) (Has.of (.tail _ (.head _)))) rfl rfl rfl rfl rfl) ?_;refine bK rfl rfl rfl (bG hT rfl) ?_;refine bK rfl rfl rfl (bR hT (cS (off:=5) (Has.of (.tail _ (.tail _ (.head _))))) rfl rfl rfl rfl rfl) ?_;refine bK rfl rfl rfl (bG hT rfl) ?_;refine gB (.cons (.tail .head) (.cons (.tail .head) (.cons .head (.cons .head (.cons .head (.cons .head Sel.self)))))) ?_;refine cR (List.perm_append_comm (l₁:=[_,_])) ?_;refine jK (cE Tryz.func92 rfl rfl) (bJk mb m a x.ops aA at_.length ac at_ rfl (by omega) (by have:=hO;rwa [if_neg hc15] at this) hD hdl) rfl rfl rfl rfl rfl (fZ.front _ _) ⟨Has.of (.head _),Has.of (.tail _ (.tail _ (.tail _ (.tail _ (.tail _ (.tail _ (.tail _ (.head _)))))))),trivial⟩ ?_ ?_
  ·intro y2 u1 hpo3;refine dK ?_;refine dK ?_;exact gJ (a,m.mem.list,last) (turn_err1 (x:=x.c) hc15 hpo3)
  rintro y4 hpo5;refine cR List.perm_append_comm ?_;refine bK rfl rfl rfl (bG hT rfl) ?_;refine cA<|bC<|bE<|bE<|bB<|bK rfl rfl rfl (bG hT rfl) ?_;refine bK rfl rfl rfl (bR hT (cS (off:=0) (Has.of (.tail _ (.tail _ (.head _))))) rfl rfl rfl rfl rfl) ?_;refine bK rfl rfl rfl (bG hT rfl) ?_;refine bK rfl rfl rfl (bG hT rfl) ?_;refine cB (fun hg24=>?_) (fun hg24=>?_)
  ·have hg24:=eq_of_beq hg24;refine bK rfl rfl rfl (bG hT rfl) ?_;refine bK rfl rfl rfl (bG hT rfl) ?_;refine bK rfl rfl rfl (bG hT rfl) ?_;refine bK rfl rfl rfl (bG hT rfl) ?_;refine bZ (z':=((at_.length-1:Nat):Int)) (by have:=hscan ‹_›;rw [show((at_.length:Nat):Int)-1=((at_.length-1:Nat):Int) by omega];exact cV rfl (by omega)) ?_
   obtain⟨x6,hx7⟩: ∃x',at_[(at_.length-1)]?=some x':=⟨_,List.getElem?_eq_getElem (by have:=hscan ‹_›;omega)⟩
   refine bK rfl rfl rfl (bV hT (k:=(at_.length-1)) (cF (.tail (.tail .head))) rfl rfl rfl rfl rfl rfl rfl (by have:=hscan ‹_›;omega)) ?_;refine bK rfl rfl rfl (bR hT (cM.knows (cF (.tail (.tail .head))) (k:=(at_.length-1)) (x:=x6) hx7 0) rfl rfl rfl rfl rfl) ?_;have hgl:=bAm hx7;refine bK rfl rfl rfl (bG hT rfl) ?_;refine bK rfl rfl rfl (bG hT rfl) ?_;refine cA<|bC<|bL rfl (fun hc32=>?_) (fun hc32=>?_)
   ·have hc32:=of_decide_eq_true hc32;have hz0:0<at_.getLastD 0:=by rw [hgl];omega
    refine bB<|bK rfl rfl rfl (bG hT rfl) ?_;refine bK rfl rfl rfl (bR hT (cS (off:=4) (Has.of (.tail _ (.tail _ (.head _))))) rfl rfl rfl rfl rfl) ?_;refine bK rfl rfl rfl (bR hT (dO (.tail .head)) rfl rfl rfl rfl rfl) ?_;refine bK rfl rfl rfl (bG hT rfl) ?_;refine cK Tryz.func94 (uL x.fn last (rval 0 (dR m.dims.list (memL m) at_ (opsL x.ops.list)))) rfl rfl .nil trivial fun _=>?_;refine bK rfl rfl rfl (bG hT rfl) ?_;refine bK rfl rfl rfl (bG hT rfl) ?_;refine jK (cE Tryz.func93 rfl rfl) (uR (dyadW x.fn last (rval 0 (dR m.dims.list (memL m) at_ (opsL x.ops.list)))).1 (dyadW x.fn last (rval 0 (dR m.dims.list (memL m) at_ (opsL x.ops.list)))).2) rfl rfl rfl rfl rfl .nil trivial ?_ ?_
    ·intro y9 u8 hpm10;refine dK ?_;refine dK ?_;exact gJ (a,m.mem.list,last) (turn_err2 (x:=x.c) ‹_› hpo5 hz0 hpm10)
    rintro _ hpm11;refine bK rfl rfl rfl (bG hT rfl) ?_;refine cA<|bC<|bE<|bB<|bK rfl rfl rfl (bG hT rfl) ?_;refine hZ hT rfl rfl rfl rfl rfl (.tail .head) rfl rfl rfl rfl rfl ?_;refine cA<|bC<|bE<|bB<|bK rfl rfl rfl (bR hT (cS (off:=0) (Has.of (.tail _ (.tail _ (.tail _ (.head _)))))) rfl rfl rfl rfl rfl) ?_;refine bK rfl rfl rfl (bG hT rfl) ?_;refine gB (.cons .head (.cons (.tail .head) (.cons .head (.cons .head (.cons .head (.cons .head Sel.self)))))) ?_;refine cR (List.perm_append_comm (l₁:=[_,_])) ?_;refine rM (cE Tryz.func88 rfl rfl) (uN mb bm bs bn (m.st y4 []) x n ((rval 0 (rnMust (dyadW x.fn last (rval 0 (dR m.dims.list (memL m) at_ (opsL x.ops.list))))))) r hb0 hr hA (by omega) (by omega) hdl) rfl rfl rfl rfl rfl rfl rfl (fZ.front _ _) ⟨Has.of (.tail _ (.head _)),Has.of (.tail _ (.tail _ (.head _))),Has.of (.tail _ (.tail _ (.tail _ (.tail _ (.tail _ (.tail _ (.head _))))))),Has.of (.tail _ (.tail _ (.tail _ (.tail _ (.tail _ (.tail _ (.tail _ (.head _)))))))),trivial⟩ ?_ ?_
    ·intro y13 u12 hpp14;refine dK ?_;refine dK ?_;exact gJ (a,m.mem.list,last) (bBk (bKb (x:=x.c) ‹_› hpo5 hz0 hpm11) hpp14)
    rintro _ hpp16;refine cR List.perm_append_comm ?_;refine cD (Has.of (.head _)) fun hpu=>?_;refine cA<|bC<|bI<|bH ?_;have hTR:=xI (q:=dU m.dims.list x.c (loops.getLastD 0) at_ last n (memL m)) (bKb (x:=x.c) ‹_› hpo5 hz0 hpm11) hpu;exact uD (y4,(m.mem.list.set x.buf.toNat ⟨r.addr,r.cap,r.list.set ((evalP x.at_.list m.dims.list).1+(n:Nat)).toNat (rval 0 (rnMust (dyadW x.fn last (rval 0 (dR m.dims.list (memL m) at_ (opsL x.ops.list))))))⟩),(rval 0 (rnMust (dyadW x.fn last (rval 0 (dR m.dims.list (memL m) at_ (opsL x.ops.list))))))) rfl (.cons (.tail .head) (.cons (.tail .head) (.cons .head (.cons .head (.cons .head (.cons .head Sel.self)))))) ⟨Has.pure ⟨hTR,fQ.set hr (List.length_set ..)⟩,trivial⟩ (by rw [hTR];rfl) rfl
   ·have hc32:=Int.not_lt.1 (of_decide_eq_false hc32);refine bO<|bC<|bE<|bB<|bK rfl rfl rfl (bG hT rfl) ?_;refine hZ hT rfl rfl rfl rfl rfl (.tail .head) rfl rfl rfl rfl rfl ?_;refine cA<|bC<|bE<|bB<|bK rfl rfl rfl (bR hT (cS (off:=0) (Has.of (.tail _ (.tail _ (.tail _ (.head _)))))) rfl rfl rfl rfl rfl) ?_;refine bK rfl rfl rfl (bG hT rfl) ?_;refine gB (.cons .head (.cons (.tail .head) (.cons .head (.cons .head (.cons .head (.cons .head Sel.self)))))) ?_;refine cR (List.perm_append_comm (l₁:=[_,_])) ?_;refine rM (cE Tryz.func88 rfl rfl) (uN mb bm bs bn (m.st y4 []) x n ((rval 0 (dR m.dims.list (memL m) at_ (opsL x.ops.list)))) r hb0 hr hA (by omega) (by omega) hdl) rfl rfl rfl rfl rfl rfl rfl (fZ.front _ _) ⟨Has.of (.tail _ (.head _)),Has.of (.tail _ (.tail _ (.head _))),Has.of (.tail _ (.tail _ (.tail _ (.tail _ (.tail _ (.tail _ (.head _))))))),Has.of (.tail _ (.tail _ (.tail _ (.tail _ (.tail _ (.tail _ (.tail _ (.head _)))))))),trivial⟩ ?_ ?_
    ·intro y18 u17 hpp19;refine dK ?_;refine dK ?_;exact gJ (a,m.mem.list,last) (bBk (uO (x:=x.c) hc15 hpo5 (by first | exact fun e=>absurd e.1 ‹_› | (rintro⟨_,e⟩;rw [hgl] at e;omega))) hpp19)
    rintro _ hpp21;refine cR List.perm_append_comm ?_;refine cD (Has.of (.head _)) fun hpu=>?_;refine cA<|bC<|bI<|bH ?_;have hTR:=xI (q:=dU m.dims.list x.c (loops.getLastD 0) at_ last n (memL m)) (uO (x:=x.c) hc15 hpo5 (by first | exact fun e=>absurd e.1 ‹_› | (rintro⟨_,e⟩;rw [hgl] at e;omega))) hpu;exact uD (y4,(m.mem.list.set x.buf.toNat ⟨r.addr,r.cap,r.list.set ((evalP x.at_.list m.dims.list).1+(n:Nat)).toNat (rval 0 (dR m.dims.list (memL m) at_ (opsL x.ops.list)))⟩),(rval 0 (dR m.dims.list (memL m) at_ (opsL x.ops.list)))) rfl (.cons (.tail .head) (.cons (.tail .head) (.cons .head (.cons .head (.cons .head (.cons .head Sel.self)))))) ⟨Has.pure ⟨hTR,fQ.set hr (List.length_set ..)⟩,trivial⟩ (by rw [hTR];rfl) rfl
  ·have hg24:=beq_eq_false_iff_ne.1 hg24;refine fM rfl rfl rfl ?_;refine fM rfl rfl rfl ?_;refine fM rfl rfl rfl ?_;refine fM rfl rfl rfl ?_;refine fM rfl rfl rfl ?_;refine fM rfl rfl rfl ?_;refine fM rfl rfl rfl ?_;refine bK rfl rfl rfl (bG hT rfl) ?_;refine cA<|bC<|bS rfl rfl ?_;refine bO<|bC<|bE<|bB<|bK rfl rfl rfl (bG hT rfl) ?_;refine hZ hT rfl rfl rfl rfl rfl (.tail .head) rfl rfl rfl rfl rfl ?_;refine cA<|bC<|bE<|bB<|bK rfl rfl rfl (bR hT (cS (off:=0) (Has.of (.tail _ (.tail _ (.tail _ (.head _)))))) rfl rfl rfl rfl rfl) ?_;refine bK rfl rfl rfl (bG hT rfl) ?_;refine gB (.cons .head (.cons (.tail .head) (.cons .head (.cons .head (.cons .head (.cons .head Sel.self)))))) ?_;refine cR (List.perm_append_comm (l₁:=[_,_])) ?_;refine rM (cE Tryz.func88 rfl rfl) (uN mb bm bs bn (m.st y4 []) x n ((rval 0 (dR m.dims.list (memL m) at_ (opsL x.ops.list)))) r hb0 hr hA (by omega) (by omega) hdl) rfl rfl rfl rfl rfl rfl rfl (fZ.front _ _) ⟨Has.of (.tail _ (.head _)),Has.of (.tail _ (.tail _ (.head _))),Has.of (.tail _ (.tail _ (.tail _ (.tail _ (.tail _ (.tail _ (.head _))))))),Has.of (.tail _ (.tail _ (.tail _ (.tail _ (.tail _ (.tail _ (.tail _ (.head _)))))))),trivial⟩ ?_ ?_
   ·intro y23 u22 hpp24;refine dK ?_;refine dK ?_;exact gJ (a,m.mem.list,last) (bBk (uO (x:=x.c) hc15 hpo5 (by first | exact fun e=>absurd e.1 ‹_› | (rintro⟨_,e⟩;rw [hgl] at e;omega))) hpp24)
   rintro _ hpp26;refine cR List.perm_append_comm ?_;refine cD (Has.of (.head _)) fun hpu=>?_;refine cA<|bC<|bI<|bH ?_;have hTR:=xI (q:=dU m.dims.list x.c (loops.getLastD 0) at_ last n (memL m)) (uO (x:=x.c) hc15 hpo5 (by first | exact fun e=>absurd e.1 ‹_› | (rintro⟨_,e⟩;rw [hgl] at e;omega))) hpu;exact uD (y4,(m.mem.list.set x.buf.toNat ⟨r.addr,r.cap,r.list.set ((evalP x.at_.list m.dims.list).1+(n:Nat)).toNat (rval 0 (dR m.dims.list (memL m) at_ (opsL x.ops.list)))⟩),(rval 0 (dR m.dims.list (memL m) at_ (opsL x.ops.list)))) rfl (.cons (.tail .head) (.cons (.tail .head) (.cons .head (.cons .head (.cons .head (.cons .head Sel.self)))))) ⟨Has.pure ⟨hTR,fQ.set hr (List.length_set ..)⟩,trivial⟩ (by rw [hTR];rfl) rfl
 ·have hc15:=bne_eq_false_iff_eq.1 hc15;refine bO<|bC<|bE<|bB<|bK rfl rfl rfl (bG hT rfl) ?_;refine bK rfl rfl rfl (bR hT (cS (off:=4) (Has.of (.tail _ (.tail _ (.head _))))) rfl rfl rfl rfl rfl) ?_;refine cK Tryz.func95 (Unit_spec x.fn) rfl rfl .nil trivial fun _=>?_;refine bK rfl rfl rfl (bG hT rfl) ?_;refine bK rfl rfl rfl (bG hT rfl) ?_;refine bK rfl rfl rfl (bG hT rfl) ?_;refine bK rfl rfl rfl (bG hT rfl) ?_;refine bK rfl rfl rfl (bG hT rfl) ?_;refine cA<|bC<|bE<|bB<|bK rfl rfl rfl (bG hT rfl) ?_;refine iH (cE Tryz.func43 rfl rfl) (wB aA ac at_ (by omega)) rfl rfl rfl rfl rfl .nil (.cons .head .nil) (rV kZ) ⟨Has.of (.head _),trivial⟩ (fun _=>True) (fun _ _ _ _=>trivial) fun⟨A27,c28⟩ _=>?_;refine fF (m:=0) rfl rfl rfl rfl rfl fun b29=>?_;refine dH (.tail .head) (dP .head rfl) rfl rfl rfl rfl rfl rfl rfl (by simp only [List.length_singleton];omega) fun bA bc=>?_;rw [show(at_++[(0:Int)]).length=at_.length+1 from by simp];refine bK rfl rfl rfl (bG hT rfl) ?_;refine cA<|bC<|bE<|bE ?_
  obtain⟨many,hmany⟩: ∃q,loops[loops.length-1]?=some q:=⟨_,List.getElem?_eq_getElem (by have:=hlp hc15;omega)⟩
  have hgm:=bAm hmany;have hmb:=hlm hc15;rw [hgm] at hmb
  obtain⟨Q,hQ⟩: ∃Q,rnFold m.dims.list (memL m) at_ x.c (loops.getLastD 0).toNat 0 (unitW x.c.fn).1=Q:=⟨_,rfl⟩
  refine bB<|bK rfl rfl rfl (bR hT (cS (off:=0) (Has.of (.tail _ (.tail _ (.tail _ (.tail _ (.head _))))))) rfl rfl rfl rfl rfl) ?_;refine bK rfl rfl rfl (bR hT (cS (off:=0) (Has.of (.tail _ (.tail _ (.tail _ (.tail _ (.head _))))))) rfl rfl rfl rfl rfl) ?_;refine bK rfl rfl rfl (bG hT rfl) ?_;refine bK rfl rfl rfl (bG hT rfl) ?_;refine bZ (z':=((loops.length-1:Nat):Int)) (by have:=hlp hc15;rw [show((loops.length:Nat):Int)-1=((loops.length-1:Nat):Int) by omega];exact cV rfl (by omega)) ?_;refine bK rfl rfl rfl (bV hT (k:=(loops.length-1)) (bP (Has.of (.tail _ (.tail _ (.tail _ (.tail _ (.tail _ (.head _)))))))) rfl rfl rfl rfl rfl rfl rfl (by have:=hlp hc15;omega)) ?_;refine bK rfl rfl rfl (bR hT (cM.knows (bP (Has.of (.tail _ (.tail _ (.tail _ (.tail _ (.tail _ (.head _)))))))) (k:=(loops.length-1)) (x:=many) hmany 0) rfl rfl rfl rfl rfl) ?_;refine bK rfl rfl rfl (bG hT rfl) ?_;refine cA<|bC<|bW<|gB (.cons (.tail (.tail .head)) (.cons (.tail (.tail .head)) (.cons (.tail (.tail .head)) (.cons .head (.cons (.tail .head) (.cons (.tail .head) (.cons (.tail .head) (Sel.skip Sel.self)))))))) ?_;refine mJ (ι:=(Option Addr×Nat)×Int×Int×Nat) [(0,_),(1,_),(2,_),(4,_),(10,_),(60,_)] ⟨rfl,rfl,rfl,rfl,rfl,rfl,trivial⟩ (fun⟨a,z,v,k⟩=>[(8,.int .i64 v),(61,.int .i64 (k:Nat))]) (fun⟨a,z,v,k⟩=>cQ.row (.slice aA at_.length ac) 2 at_::bnC bn n::btC bt last::cQ.row (.slice bA (at_.length+1) bc) 2 (at_++[z])::maH mb (m.st a [])) (fun⟨a,z,v,k⟩=>[bU.pure ((k:Int)≤many∧Q=rnFold m.dims.list (memL m) at_ x.c ((loops.getLastD 0).toNat-k) k v)]) (fun⟨a,z,v,k⟩=>many.toNat-k) (a,0,(unitW x.fn).1,0) ⟨rfl,rfl,trivial⟩ (List.Perm.refl _) ⟨Has.pure (⟨by omega,hQ.symm⟩),trivial⟩ ?_;rintro⟨a,z,v,k⟩;dsimp only;refine cD (Has.of (.head _)) fun hinv9=>?_;rw [hgm] at hinv9;refine bE<|bB<|bK rfl rfl rfl (bG hT rfl) ?_;refine cA<|bC<|bE<|bL rfl (fun hc62=>?_) (fun hc62=>?_)
  ·have hc62:=of_decide_eq_true hc62;refine bO<|bC<|bE<|bW<|bE<|bB<|bK rfl rfl rfl (bG hT rfl) ?_;refine bK rfl rfl rfl (bG hT rfl) ?_;refine cA<|bC<|bE<|bB<|bK rfl rfl rfl (bG hT rfl) ?_;refine bK rfl rfl rfl (bG hT rfl) ?_;refine bK rfl rfl rfl (bG hT rfl) ?_;refine bK rfl rfl rfl (bG hT rfl) ?_
   obtain⟨x30,hx31⟩: ∃x',(at_++[z])[at_.length]?=some x':=⟨_,List.getElem?_eq_getElem (by simp)⟩
   refine bK rfl rfl rfl (bV hT (k:=at_.length) (cF (.tail (.tail (.tail .head)))) rfl rfl rfl rfl rfl (by simp) rfl (by simp)) ?_;refine gW hT (k:=at_.length) (fo:=0) (y':=((k:Nat):Int)) (.tail (.tail (.tail .head))) rfl rfl rfl rfl rfl rfl rfl rfl rfl hx31 rfl ?_;refine cA<|bC<|bE ?_;rw [set_snoc];refine bB<|bK rfl rfl rfl (bR hT (cS (off:=0) (Has.of (.tail _ (.tail _ (.head _))))) rfl rfl rfl rfl rfl) ?_;refine bK rfl rfl rfl (bG hT rfl) ?_;refine bK rfl rfl rfl (bR hT (cS (off:=5) (Has.of (.tail _ (.tail _ (.tail _ (.head _)))))) rfl rfl rfl rfl rfl) ?_;refine bK rfl rfl rfl (bG hT rfl) ?_;refine gB (.cons (.tail .head) (.cons (.tail .head) (.cons (.tail .head) (.cons .head (.cons .head (.cons .head (.cons .head Sel.self))))))) ?_;refine cR (List.perm_append_comm (l₁:=[_,_,_])) ?_;refine jK (cE Tryz.func92 rfl rfl) (bJk mb m a x.ops bA (at_.length+1) bc (at_++[((k:Nat):Int)]) (by simp) (by omega) (by have:=hO;rw [if_pos hc15] at this;simpa using this) hD hdl) rfl rfl rfl rfl rfl (fZ.front _ _) ⟨Has.of (.tail _ (.head _)),Has.of (.tail _ (.tail _ (.tail _ (.tail _ (.tail _ (.tail _ (.tail _ (.tail _ (.head _))))))))),trivial⟩ ?_ ?_
   ·intro y33 u32 hpo34;refine dK ?_;refine gQ ?_;refine dK ?_;refine dK ?_;refine gQ ?_;refine dK ?_;exact gJ (a,m.mem.list,last) (bKj (x:=x.c) hc15 hQ (fold_errO hinv9.2 (by omega) hpo34))
   rintro y35 hpo36;refine cR List.perm_append_comm ?_;refine bK rfl rfl rfl (bG hT rfl) ?_;refine cA<|bC<|bE<|bE<|bB<|bK rfl rfl rfl (bG hT rfl) ?_;refine bK rfl rfl rfl (bG hT rfl) ?_;refine cA<|bC<|bL rfl (fun hc75=>?_) (fun hc75=>?_)
   ·have hc75:=of_decide_eq_true hc75;refine bB<|bK rfl rfl rfl (bG hT rfl) ?_;refine bK rfl rfl rfl (bR hT (cS (off:=4) (Has.of (.tail _ (.tail _ (.tail _ (.head _)))))) rfl rfl rfl rfl rfl) ?_;refine bK rfl rfl rfl (bG hT rfl) ?_;refine bK rfl rfl rfl (bG hT rfl) ?_;refine cK Tryz.func94 (uL x.fn v (rval 0 (dR m.dims.list (memL m) (at_++[((k:Nat):Int)]) (opsL x.ops.list)))) rfl rfl .nil trivial fun _=>?_;refine bK rfl rfl rfl (bG hT rfl) ?_;refine bK rfl rfl rfl (bG hT rfl) ?_;refine jK (cE Tryz.func93 rfl rfl) (uR (dyadW x.fn v (rval 0 (dR m.dims.list (memL m) (at_++[((k:Nat):Int)]) (opsL x.ops.list)))).1 (dyadW x.fn v (rval 0 (dR m.dims.list (memL m) (at_++[((k:Nat):Int)]) (opsL x.ops.list)))).2) rfl rfl rfl rfl rfl .nil trivial ?_ ?_
    ·intro y38 u37 hpm39;refine dK ?_;refine gQ ?_;refine dK ?_;refine dK ?_;refine gQ ?_;refine dK ?_;exact gJ (a,m.mem.list,last) (bKj (x:=x.c) hc15 hQ (fold_errM hinv9.2 (by omega) hpo36 (by omega) hpm39))
    rintro _ hpm40;refine bK rfl rfl rfl (bG hT rfl) ?_;refine cA<|bC<|bB<|bK rfl rfl rfl (bG hT rfl) ?_;refine bK rfl rfl rfl (bG hT rfl) ?_;refine cA<|bY<|bC<|bB<|bK rfl rfl rfl (bG hT rfl) ?_;refine bZ (z':=((k+1:Nat):Int)) (cV (by omega) (by omega)) ?_;refine bK rfl rfl rfl (bG hT rfl) ?_;refine cA<|bC ?_;exact gH (y35,((k:Nat):Int),(rval 0 (rnMust (dyadW x.fn v (rval 0 (dR m.dims.list (memL m) (at_++[((k:Nat):Int)]) (opsL x.ops.list)))))),k+1) (by dsimp only;omega) ⟨rfl,rfl,trivial⟩ ⟨rfl,rfl,rfl,rfl,rfl,rfl,trivial⟩ (List.Perm.refl _) ⟨Has.pure (⟨by dsimp only;omega,by dsimp only;rw [hgm];exact fold_goM hinv9.2 (by omega) hpo36 (by omega) hpm40⟩),trivial⟩ (bQ.drop 1)
   ·have hc75:=Int.not_lt.1 (of_decide_eq_false hc75);refine bO<|bC<|bB<|bK rfl rfl rfl (bG hT rfl) ?_;refine bK rfl rfl rfl (bG hT rfl) ?_;refine cA<|bY<|bC<|bB<|bK rfl rfl rfl (bG hT rfl) ?_;refine bZ (z':=((k+1:Nat):Int)) (cV (by omega) (by omega)) ?_;refine bK rfl rfl rfl (bG hT rfl) ?_;refine cA<|bC ?_;exact gH (y35,((k:Nat):Int),(rval 0 (dR m.dims.list (memL m) (at_++[((k:Nat):Int)]) (opsL x.ops.list))),k+1) (by dsimp only;omega) ⟨rfl,rfl,trivial⟩ ⟨rfl,rfl,rfl,rfl,rfl,rfl,trivial⟩ (List.Perm.refl _) ⟨Has.pure (⟨by dsimp only;omega,by dsimp only;rw [hgm];exact fold_go1 hinv9.2 (by omega) hpo36 (by omega)⟩),trivial⟩ (bQ.drop 1)
  ·have hc62:=Int.not_lt.1 (of_decide_eq_false hc62);refine cU<|cI<|cI<|cT<|bC ?_;have hfe:=hQ.trans (fold_end hinv9.2 (by omega));refine bB<|bK rfl rfl rfl (bR hT (cS (off:=0) (Has.of (.tail _ (.tail _ (.tail _ (.tail _ (.head _))))))) rfl rfl rfl rfl rfl) ?_;refine bK rfl rfl rfl (bG hT rfl) ?_;refine gB (.cons .head (.cons (.tail .head) (.cons (.tail .head) (.cons .head (.cons .head (.cons .head (.cons .head Sel.self))))))) ?_;refine cR (List.perm_append_comm (l₁:=[_,_,_])) ?_;refine rM (cE Tryz.func88 rfl rfl) (uN mb bm bs bn (m.st a []) x n (v) r hb0 hr hA (by omega) (by omega) hdl) rfl rfl rfl rfl rfl rfl rfl (fZ.front _ _) ⟨Has.of (.tail _ (.tail _ (.head _))),Has.of (.tail _ (.tail _ (.tail _ (.head _)))),Has.of (.tail _ (.tail _ (.tail _ (.tail _ (.tail _ (.tail _ (.tail _ (.head _)))))))),Has.of (.tail _ (.tail _ (.tail _ (.tail _ (.tail _ (.tail _ (.tail _ (.tail _ (.head _))))))))),trivial⟩ ?_ ?_
   ·intro y42 u41 hpp43;exact gJ (a,m.mem.list,last) (bBk (bHf (x:=x.c) hc15 hfe) hpp43)
   rintro _ hpp45;refine cR List.perm_append_comm ?_;refine cD (Has.of (.head _)) fun hpu=>?_;refine cA ?_;have hTR:=xI (q:=dU m.dims.list x.c (loops.getLastD 0) at_ last n (memL m)) (bHf (x:=x.c) hc15 hfe) hpu;exact xL (a,(m.mem.list.set x.buf.toNat ⟨r.addr,r.cap,r.list.set ((evalP x.at_.list m.dims.list).1+(n:Nat)).toNat v⟩),last) rfl (.cons .head (.cons (.tail (.tail .head)) (.cons .head (.cons (.tail .head) (.cons (.tail .head) (.cons (.tail .head) (Sel.skip Sel.self))))))) ⟨Has.pure ⟨hTR,fQ.set hr (List.length_set ..)⟩,trivial⟩ (by rw [hTR];rfl) rfl
theorem i64Info: ∃i:TypeInfo,Tryz.prog.info? 2=some i∧i.zero=some (.int .i64 0)∧i.size=1∧i.bytes=8:=vG
theorem madeI64(m:Nat):(madeCells (Value.int .i64 0).cells (m*cQ.size)).toList=cQ.all (List.replicate m 0):=by
 have e: ∀m,cQ.all (List.replicate m 0)=List.replicate m (.int .i64 0):=fun m=>by
  induction m with
  | zero=>rfl
  | succ m ih=>rw [List.replicate_succ,List.replicate_succ,←ih];rfl
 rw [e];unfold madeCells;apply List.ext_getElem
 ·simp [cQ]
 ·intro i h1 h2;simp [Value.cells,Nat.mod_one]
theorem pD{β:fY}{n:Nat}{Γ:Env}{H:List bX}{F:List bU}{Q:Exit→Act→World→Prop}{ops:Array Oper}{rest:List Oper}{o:Oper}{d m:Nat}{x y:Operand}(hw:want ops Γ o=some true)(ho:o.op= .makeSlice 63 x y)(hd:o.dst=some d)(hn:Nat.blt d n=true)
  (hx:Γ.ev x=some (.int .i64 (m:Nat))) (hy:Γ.ev y=some (.int .i64 (m:Nat))) (hm:m≤1000000)
  (k: ∀b,At β n ((d,.slice (some ⟨b,0,none⟩) m m)::Γ) (cQ.row (.slice (some ⟨b,0,none⟩) m m) 2 (List.replicate m 0)::H) F (wpList Tryz.prog ops Q rest)):At β n Γ H F (wpList Tryz.prog ops Q (o::rest)):=by
 obtain⟨i,hi,hz,hs,hb⟩:=i64Info;exact at_make (E:=cQ) hw ho hd hn hx hy Tryz.underlying63 hi hz hs (by rw [hb];omega) (by simp [maxLen];omega) (madeI64 m) (by simp) k
def lJ (ds:List Int)(x:fG)(many:Int)(l:List Int)(mem:List (List Int)):Rn (List (List Int)):=if l.contains 0=true then .ok mem else rnWalk ds x many l.reverse (sizeR l.reverse).toNat (List.replicate l.length 0) 0 0 mem
section
variable {ds : List Int} {x : fG} {many : Int} {lr r : List Int} {last last' : Int} {n m : Nat} {mem mem' : List (List Int)} {W : Rn (List (List Int))} {u : Value}
theorem walk_err(h:W=rnWalk ds x many lr (m+1) r last n mem)(hu:fR (dU ds x many r.reverse last n mem)=some u):fR W=some u:=by
 rw [h];exact jN hu
theorem pG{r':List Int}(h:W=rnWalk ds x many lr (m+1) r last n mem)(ht:dU ds x many r.reverse last n mem= .ok (last',mem'))(hn:kR r lr=some r'):W=rnWalk ds x many lr m r' last' (n+1) mem':=by
 have e:rnWalk ds x many lr (m+1) r last n mem=(dU ds x many r.reverse last n mem).bind fun y=>match kR r lr with
  | some r'=>rnWalk ds x many lr m r' y.1 (n+1) y.2
  | none=> .ok y.2:=rfl
 rw [h,e,ht,hn];rfl
theorem tM(h:W=rnWalk ds x many lr (m+1) r last n mem)(ht:dU ds x many r.reverse last n mem= .ok (last',mem'))(hn:kR r lr=none):W= .ok mem':=by
 have e:rnWalk ds x many lr (m+1) r last n mem=(dU ds x many r.reverse last n mem).bind fun y=>match kR r lr with
  | some r'=>rnWalk ds x many lr m r' y.1 (n+1) y.2
  | none=> .ok y.2:=rfl
 rw [h,e,ht,hn];rfl
end
section
variable {at_ l : List Int} {q N : Nat} {a b : Int}
theorem bIi(h:at_.length=N):at_=at_.take N++List.replicate (N-N) 0:=by
 rw [List.take_of_length_le (by omega),Nat.sub_self,List.replicate_zero,List.append_nil]
theorem nG(h:at_[q]?=some a):at_.take (q+1)=at_.take q++[a]:=by
 obtain⟨hlt,e⟩:=List.getElem?_eq_some_iff.1 h;subst e;exact List.take_succ_eq_append_getElem hlt
theorem pad_get(hl:at_.length=N)(h0:0<q)(hq:q≤N):(at_.take q++List.replicate (N-q) 0)[q-1]?=at_[q-1]?:=by
 rw [List.getElem?_append_left (by rw [List.length_take];omega),List.getElem?_take,if_pos (by omega)]
theorem pad_zero(hl:at_.length=N)(h0:0<q)(hq:q≤N):(at_.take q++List.replicate (N-q) 0).set (q-1) 0=at_.take (q-1)++List.replicate (N-(q-1)) 0:=by
 obtain⟨p,rfl⟩: ∃p,q=p+1:=⟨q-1,by omega⟩
 have hp:at_[p]?=some (at_[p]'(by omega)):=List.getElem?_eq_getElem (by omega);rw [Nat.add_sub_cancel,nG hp,List.append_assoc,List.set_append_right _ _ (by rw [List.length_take];omega),List.length_take,show p-min p at_.length=0 by omega,show N-p=(N-(p+1))+1 by omega,List.replicate_succ];rfl
theorem pad_next(hl:at_.length=N)(h0:0<q)(hq:q≤N):(at_.take q++List.replicate (N-q) 0).set (q-1) b=at_.take (q-1)++b::List.replicate (N-q) 0:=by
 obtain⟨p,rfl⟩: ∃p,q=p+1:=⟨q-1,by omega⟩
 have hp:at_[p]?=some (at_[p]'(by omega)):=List.getElem?_eq_getElem (by omega);rw [Nat.add_sub_cancel,nG hp,List.append_assoc,List.set_append_right _ _ (by rw [List.length_take];omega),List.length_take,show p-min p at_.length=0 by omega];rfl
def wV (at_ l:List Int)(q:Nat):Prop:=kR at_.reverse l.reverse=(kR (at_.take q).reverse (l.take q).reverse).map (List.replicate (l.length-q) 0++ ·)
theorem bJb(h:at_.length=l.length):wV at_ l l.length:=by
 unfold wV;rw [List.take_of_length_le (by omega),List.take_of_length_le (by omega),Nat.sub_self];cases kR at_.reverse l.reverse<;>rfl
theorem bAh(h:wV at_ l q)(h0:0<q)(hq:q≤l.length)(ha:at_[q-1]?=some a)(hb:l[q-1]?=some b)(e: ¬a+1<b):wV at_ l (q-1):=by
 obtain⟨p,rfl⟩: ∃p,q=p+1:=⟨q-1,by omega⟩
 rw [Nat.add_sub_cancel] at ha hb⊢;unfold wV at*;rw [h,nG ha,nG hb,List.reverse_append,List.reverse_append];show((if a+1<b then some ((a+1)::(at_.take p).reverse) else (kR (at_.take p).reverse (l.take p).reverse).map (0:: ·))).map _=_;rw [if_neg e,Option.map_map]
 congr 1
 funext z
 show List.replicate (l.length-(p+1)) 0++0::z=List.replicate (l.length-p) 0++z;rw [show l.length-p=(l.length-(p+1))+1 by omega,List.replicate_succ',List.append_assoc];rfl
theorem bFq(h:wV at_ l 0):kR at_.reverse l.reverse=none:=by
 rw [h];rfl
theorem bGg(h:wV at_ l q)(h0:0<q)(hq:q≤l.length)(ha:at_[q-1]?=some a)(hb:l[q-1]?=some b)(e:a+1<b):kR at_.reverse l.reverse=some (at_.take (q-1)++(a+1)::List.replicate (l.length-q) 0).reverse:=by
 obtain⟨p,rfl⟩: ∃p,q=p+1:=⟨q-1,by omega⟩
 rw [Nat.add_sub_cancel] at ha hb⊢;rw [h,nG ha,nG hb,List.reverse_append,List.reverse_append];show((if a+1<b then some ((a+1)::(at_.take p).reverse) else (kR (at_.take p).reverse (l.take p).reverse).map (0:: ·))).map _=_;rw [if_pos e];show some (List.replicate (l.length-(p+1)) 0++(a+1)::(at_.take p).reverse)=_;rw [List.reverse_append,List.reverse_cons,List.reverse_replicate,List.append_assoc];rfl
theorem inR_at: ∀{xs ns:List Int} {k:Nat} {a b:Int},InR xs ns→xs[k]?=some a→ns[k]?=some b→0≤a∧a<b
 | [],[],k,a,b,_,h,_=>by simp at h
 | x::xs,n::ns,0,a,b,h,h1,h2=>by
  cases h1;cases h2;exact⟨h.1,h.2.1⟩
 | x::xs,n::ns,k+1,a,b,h,h1,h2=>inR_at h.2.2 h1 h2
theorem inR_rev(h:InR at_.reverse l.reverse)(ha:at_[q]?=some a)(hb:l[q]?=some b):0≤a∧a<b:=by
 have hl:=inR_len h;rw [List.length_reverse,List.length_reverse] at hl;have h1:=(List.getElem?_eq_some_iff.1 ha).1;have e1:at_.reverse[at_.length-1-q]?=some a:=by rw [List.getElem?_reverse (by omega),show at_.length-1-(at_.length-1-q)=q by omega,ha]
 have e2:l.reverse[at_.length-1-q]?=some b:=by rw [List.getElem?_reverse (by omega),show l.length-1-(at_.length-1-q)=q by omega,hb]
 exact inR_at h e1 e2
end
theorem bDw{a b:List (Sl Int)}{k:Nat}{r:Sl Int}(h:fQ a b)(hr:b[k]?=some r): ∃y,a[k]?=some y∧y.list.length=r.list.length:=by
 obtain⟨y,h1,h2⟩:=fQ.at_ (a:=b) (b:=a) h.symm hr;exact⟨y,h1,h2.symm⟩
theorem qZ{l:List Int}:oR (List.replicate l.length 0).reverse l.reverse=0:=by
 rw [List.reverse_replicate,←List.length_reverse];exact bIp
theorem inR_rep{l:List Int}(h: ∀k∈l,0≤k)(hc:l.contains 0=false):InR (List.replicate l.length 0).reverse l.reverse:=by
 rw [List.reverse_replicate,←List.length_reverse];refine inR_zero (fun k hk=>h k (List.mem_reverse.1 hk)) ?_;rw [List.contains_eq_any_beq] at hc⊢;rw [List.any_reverse];exact hc
set_option maxHeartbeats 1000000 in
set_option maxRecDepth 100000 in
theorem walkR_spec(mb bm bs bn bt bp bl:Nat)(m:gF)(x:fV)(a:Option Addr×Nat)(OA:Option Addr)(ol oc:Nat)(l:List Int)(hol:ol=l.length)(LA:Option Addr)(lcp:Nat)(loops:List Int)(r0:Sl Int)(hl0: ∀k∈l,0≤k)(hlm2: ∀k∈l,k≤65536)(hsz:sizeR l.reverse≤4000000)(hb0:0≤x.buf)(hr0:m.mem.list[x.buf.toNat]?=some r0)(hA:(evalP x.at_.list m.dims.list).2=0→0≤(evalP x.at_.list m.dims.list).1)(hrl0:r0.list.length≤1000000)(hlo:x.ops.list.length≤256)(hal0:l.length≤4)(hO:vU (opsL x.ops.list) (if x.how=2 then l.length+1 else l.length) m.mem.list.length)(hD:Deep (opsL x.ops.list) 0)(hscan:x.how=3→1≤l.length)(hlp:x.how=2→1≤loops.length)(hlm:x.how=2→0≤loops.getLastD 0∧loops.getLastD 0≤65536)(hll:loops.length≤4)(hdl:m.dims.list.length≤140737488355328):rC Tryz.prog 90 [.slice OA ol oc,.func (.func 91) #[] #[.pointer (some ⟨bs,0,none⟩),.pointer (some ⟨bm,0,none⟩),.pointer (some ⟨bt,0,none⟩),.pointer (some ⟨bp,0,none⟩),.pointer (some ⟨bl,0,none⟩)]] (bnC bn 0::btC bt 0::maH mb (m.st a [])) [bU.cells bm 0 [.pointer (some ⟨mb,0,none⟩)],bU.cells bs 0 [.int .i64 x.how,.int .i64 x.buf,.slice x.at_.addr x.at_.list.length x.at_.cap,.slice x.loops.addr x.loops.list.length x.loops.cap,.int .u8 x.fn,.slice x.ops.addr x.ops.list.length x.ops.cap],bU.cells bp 0 [.func (.func 88) #[] #[.pointer (some ⟨bm,0,none⟩),.pointer (some ⟨bs,0,none⟩),.pointer (some ⟨bn,0,none⟩)]],bU.cells bl 0 [.slice LA loops.length lcp],cQ.sl (.slice LA loops.length lcp) loops,kB x,cQ.sl (.slice m.dims.addr m.dims.list.length m.dims.cap) m.dims.list,cQ.sl (.slice OA ol oc) l] (fun(_:(Option Addr×Nat)×List (Sl Int)×Int×Nat)=>fR (lJ m.dims.list x.c (loops.getLastD 0) l (memL m))) (fun(_:(Option Addr×Nat)×List (Sl Int)×Int×Nat)=> .tuple #[]) (fun(y:(Option Addr×Nat)×List (Sl Int)×Int×Nat)=>bnC bn y.2.2.2::btC bt y.2.2.1::maH mb ((m.me y.2.1).st y.1 [])) (fun(y:(Option Addr×Nat)×List (Sl Int)×Int×Nat)=>[bU.pure ((lJ m.dims.list x.c (loops.getLastD 0) l (memL m))= .ok (y.2.1.map (·.list))∧fQ y.2.1 m.mem.list)]):=by
 have hT:=cZ;subst hol;refine mX Tryz.func90 rfl Tryz.ntmps90 rfl ?_;intro β hM;refine bE<|bE<|bB<|bK rfl rfl rfl (bG hT rfl) ?_;refine cK Tryz.func143 (pK OA oc l (by omega) 0) rfl rfl .nil ⟨Has.of (.tail _ (.tail _ (.tail _ (.tail _ (.tail _ (.tail _ (.tail _ (.head _)))))))),trivial⟩ fun _=>?_;refine cA<|bC<|bL rfl (fun hc7=>?_) (fun hc7=>?_)
 ·refine bI<|bH ?_;have hWK:(lJ m.dims.list x.c (loops.getLastD 0) l (memL m))= .ok (memL m):=by unfold lJ;rw [if_pos hc7]
  exact uD (a,m.mem.list,0,0) rfl (.cons .head (.cons .head (.cons .head (.cons .head (.cons .head Sel.self))))) ⟨Has.pure ⟨hWK,fQ.refl _⟩,trivial⟩ (by rw [hWK];rfl) rfl
 ·refine bO<|bC<|bE<|bB<|bK rfl rfl rfl (bG hT rfl) ?_;refine bK rfl rfl rfl (bG hT rfl) ?_;refine pD (m:=l.length) rfl rfl rfl rfl rfl rfl (by omega) fun ab=>?_;refine bK rfl rfl rfl (bG hT rfl) ?_;have hc0:l.contains 0=false:=hc7
  obtain⟨W,hW⟩: ∃W,rnWalk m.dims.list x.c (loops.getLastD 0) l.reverse (sizeR l.reverse).toNat (List.replicate l.length 0) 0 0 (memL m)=W:=⟨_,rfl⟩
  have hWK:(lJ m.dims.list x.c (loops.getLastD 0) l (memL m))=W:=by unfold lJ;rw [if_neg (by rw [hc0];simp),hW]
  have hin0:=inR_rep hl0 hc0;have hrk0:=sO hin0;rw [qZ] at hrk0;refine cA<|bC<|bW<|mJ (ι:=(Option Addr×Nat)×List (Sl Int)×Int×Nat×List Int) [(0,_),(1,_),(4,_)] ⟨rfl,rfl,rfl,trivial⟩ (fun _=>[]) (fun⟨a,M,last,n,at_⟩=>cQ.row (.slice (some ⟨ab,0,none⟩) l.length l.length) 2 at_::bnC bn n::btC bt last::maH mb ((m.me M).st a [])) (fun⟨a,M,last,n,at_⟩=>[bU.pure (at_.length=l.length∧InR at_.reverse l.reverse∧(n:Int)=oR at_.reverse l.reverse∧W=rnWalk m.dims.list x.c (loops.getLastD 0) l.reverse ((sizeR l.reverse).toNat-n) at_.reverse last n (M.map (·.list))∧fQ M m.mem.list)]) (fun⟨a,M,last,n,at_⟩=>(sizeR l.reverse).toNat-n) (a,m.mem.list,0,0,List.replicate l.length 0) trivial (List.Perm.refl _) ⟨Has.pure (⟨by simp,hin0,qZ.symm,by rw [List.reverse_replicate,Nat.sub_zero];exact hW.symm,fQ.refl _⟩),trivial⟩ ?_;rintro⟨a,M,last,n,at_⟩;dsimp only;refine cD (Has.of (.head _)) fun hinv2=>?_;have hal:=hinv2.1;have hin:=hinv2.2.1;have hrk:=sO hin;have hnk:=hinv2.2.2.1;have hsm:=hinv2.2.2.2.2;obtain⟨r,hr,hrl⟩:=bDw hsm hr0;have hW2:=hinv2.2.2.2.1
  obtain⟨left_,hleft⟩: ∃q,(sizeR l.reverse).toNat-n=q+1:=⟨(sizeR l.reverse).toNat-n-1,by omega⟩
  rw [hleft] at hW2;refine bW<|bE<|bB<|bK rfl rfl rfl (bG hT rfl) ?_;refine bK rfl rfl rfl (bG hT rfl) ?_;refine rM (cE Tryz.func91 rfl rfl) (bodyR_spec mb bm bs bn bt bp bl (m.me M) x a n last (some ⟨ab,0,none⟩) l.length l.length at_ hal.symm LA lcp loops r hb0 hr hA (by omega) (by omega) hlo (by omega) (by rw [hal];rw [show(m.me M).mem.list.length=m.mem.list.length from fQ.len hsm];exact hO) hD (by rw [hal];exact hscan) hlp hlm hll hdl) rfl rfl rfl rfl rfl rfl rfl fZ.all ⟨Has.of (.tail _ (.head _)),Has.of (.tail _ (.tail _ (.head _))),Has.of (.tail _ (.tail _ (.tail _ (.head _)))),Has.of (.tail _ (.tail _ (.tail _ (.tail _ (.head _))))),Has.of (.tail _ (.tail _ (.tail _ (.tail _ (.tail _ (.head _)))))),Has.of (.tail _ (.tail _ (.tail _ (.tail _ (.tail _ (.tail _ (.head _))))))),Has.of (.tail _ (.tail _ (.tail _ (.tail _ (.tail _ (.tail _ (.tail _ (.head _)))))))),trivial⟩ ?_ ?_
  ·intro y2 u1 hpb3;refine dK ?_;refine gQ ?_;refine dK ?_;refine gQ ?_;exact gJ (a,m.mem.list,0,0) (by rw [hWK];exact walk_err hW2 (by rw [List.reverse_reverse];exact hpb3))
  rintro y4 hpb5;rw [List.append_nil];refine cD (Has.of (.head _)) fun hbt=>?_;have hbt1:dU m.dims.list x.c (loops.getLastD 0) at_.reverse.reverse last n (M.map (·.list))= .ok (y4.2.2,y4.2.1.map (·.list)):=by rw [List.reverse_reverse];exact hbt.1
  replace hbt:=And.intro hbt1 hbt.2
  refine cA<|bC<|bE<|tX .head (congrArg (cQ.row _ _) (bIi hal)) ?_;refine bB<|bK rfl rfl rfl (bG hT rfl) ?_;refine bK rfl rfl rfl (bG hT rfl) ?_;refine bK rfl rfl rfl (bG hT rfl) ?_;refine bZ (gK (by omega) (by omega)) ?_;refine bK rfl rfl rfl (bG hT rfl) ?_;refine cA<|bC<|bE<|bW<|cX (ι:=Nat) [(0,_),(1,_),(4,_)] ⟨rfl,rfl,rfl,trivial⟩ (fun q=>[(5,.int .i64 ((q:Nat)-1:Int))]) (fun q=>[cQ.row (.slice (some ⟨ab,0,none⟩) l.length l.length) 2 (at_.take q++List.replicate (l.length-q) 0)]) (fun q=>[bU.pure (q≤l.length∧wV at_ l q)]) (fun q=>q) l.length ⟨rfl,trivial⟩ (.cons .head .nil) ⟨Has.pure (⟨by omega,bJb hal⟩),trivial⟩ ?_;rintro q;refine cD (Has.of (.head _)) fun hinv4=>?_;refine bE<|bE<|fJ _ _ [(true,0),(true,1),(true,2),(true,3),(true,4),(true,5),(true,6),(true,7),(true,8),(true,9),(true,10),(true,11),(true,12),(true,13)] dS (by decide+kernel) (.cons .head (.cons .head (.cons .head (.cons .head (.cons .head (.cons .head Sel.self)))))) bQ.self ?_;refine puM hT ?_;refine puM hT ?_;refine puM hT ?_;refine cB (fun hg19=>?_) (fun hg19=>?_)
  ·have hg19:=of_decide_eq_true hg19;have hq0:0<q:=by omega
   obtain⟨za,hza⟩: ∃z,at_[q-1]?=some z:=⟨_,List.getElem?_eq_getElem (by omega)⟩
   obtain⟨zb,hzb⟩: ∃z,l[q-1]?=some z:=⟨_,List.getElem?_eq_getElem (by omega)⟩
   have hab:=inR_rev hin hza hzb;have hlb:=hlm2 _ (List.mem_of_getElem? hzb);have hzp:=(pad_get hal hq0 hinv4.1).trans hza;refine puM hT ?_;refine puM hT ?_;refine stM rfl (bV hT (k:=(q-1)) (cF .head) rfl rfl rfl rfl rfl (by simp only [List.length_append,List.length_take,List.length_replicate];omega) (by omega) (by simp only [List.length_append,List.length_take,List.length_replicate];omega)) ?_;refine stM rfl (bR hT (cM.knows (cF .head) (k:=(q-1)) (x:=za) hzp 0) rfl rfl rfl rfl rfl) ?_;refine puM hT ?_;refine puM hT ?_;refine stM rfl (bV hT (k:=(q-1)) (bP (Has.of (.tail _ (.tail _ (.tail _ (.tail _ (.tail _ (.tail _ (.tail _ (.tail _ (.tail _ (.tail _ (.head _))))))))))))) rfl rfl rfl rfl rfl rfl (by omega) (by omega)) ?_;refine stM rfl (bR hT (cM.knows (bP (Has.of (.tail _ (.tail _ (.tail _ (.tail _ (.tail _ (.tail _ (.tail _ (.tail _ (.tail _ (.tail _ (.head _))))))))))))) (k:=(q-1)) (x:=zb) hzb 0) rfl rfl rfl rfl rfl) ?_;refine puM hT ?_;refine bZ (gK (by omega) (by omega)) ?_;refine puM hT ?_;refine puM hT ?_;refine cW<|bC<|bL rfl (fun hc30=>?_) (fun hc30=>?_)
   ·have hc30:=eq_of_beq hc30;refine bO<|bC<|bW<|bE<|bB<|bK rfl rfl rfl (bG hT rfl) ?_;refine bK rfl rfl rfl (bG hT rfl) ?_;refine bK rfl rfl rfl (bV hT (k:=(q-1)) (cF .head) rfl rfl rfl rfl rfl (by simp only [List.length_append,List.length_take,List.length_replicate];omega) (by omega) (by simp only [List.length_append,List.length_take,List.length_replicate];omega)) ?_;refine gW hT (k:=(q-1)) (fo:=0) (y':=0) .head rfl rfl rfl rfl rfl rfl rfl rfl rfl hzp rfl ?_;refine cA<|bC ?_;rw [pad_zero hal hq0 hinv4.1];refine bB<|bK rfl rfl rfl (bG hT rfl) ?_;refine bK rfl rfl rfl (bG hT rfl) ?_;refine bZ (z':=(((q-1:Nat):Int)-1)) ((gK (by omega) (by omega)).trans (by omega)) ?_;refine bK rfl rfl rfl (bG hT rfl) ?_;refine cA<|bY<|bC ?_;exact cJ (q-1) (by omega) ⟨rfl,trivial⟩ ⟨rfl,rfl,rfl,trivial⟩ (.cons .head (.cons .head (.cons .head (.cons .head (.cons .head (.cons .head Sel.self)))))) ⟨Has.pure (⟨by omega,bAh hinv4.2 hq0 hinv4.1 hza hzb (by omega)⟩),trivial⟩ (bQ.drop 1)
   ·have hc30:=beq_eq_false_iff_ne.1 hc30;refine cU<|cI<|cI<|cT<|bC<|bE<|bE<|bB<|bK rfl rfl rfl (bG hT rfl) ?_;refine bK rfl rfl rfl (bG hT rfl) ?_;refine cA<|bC<|bL rfl (fun hc37=>?_) (fun hc37=>?_)
    ·have hc37:=of_decide_eq_true hc37
     exfalso
     omega
    ·have hc37:=Int.not_lt.1 (of_decide_eq_false hc37);have hnx:=bGg hinv4.2 hq0 hinv4.1 hza hzb (by omega);refine bO<|bC<|bB<|bK rfl rfl rfl (bG hT rfl) ?_;refine bK rfl rfl rfl (bG hT rfl) ?_;refine bK rfl rfl rfl (bV hT (k:=(q-1)) (cF .head) rfl rfl rfl rfl rfl (by simp only [List.length_append,List.length_take,List.length_replicate];omega) (by omega) (by simp only [List.length_append,List.length_take,List.length_replicate];omega)) ?_;refine bK rfl rfl rfl (bR hT (cM.knows (cF .head) (k:=(q-1)) (x:=za) hzp 0) rfl rfl rfl rfl rfl) ?_;refine bK rfl rfl rfl (bG hT rfl) ?_;refine bZ (gK (by omega) (by omega)) ?_;refine bK rfl rfl rfl (bV hT (k:=(q-1)) (cF .head) rfl rfl rfl rfl rfl (by simp only [List.length_append,List.length_take,List.length_replicate];omega) (by omega) (by simp only [List.length_append,List.length_take,List.length_replicate];omega)) ?_;refine gW hT (k:=(q-1)) (fo:=0) (y':=(za+1)) .head rfl rfl rfl rfl rfl rfl rfl rfl rfl hzp rfl ?_;refine cA<|bY<|bC ?_;rw [pad_next hal hq0 hinv4.1];exact gH (y4.1,y4.2.1,y4.2.2,n+1,at_.take (q-1)++(za+1)::List.replicate (l.length-q) 0) (by dsimp only;omega) trivial ⟨rfl,rfl,rfl,trivial⟩ (List.Perm.refl _) ⟨Has.pure (⟨by dsimp only;simp only [List.length_append,List.length_take,List.length_cons,List.length_replicate];omega,(jO hin hnx).1,by dsimp only;rw [(jO hin hnx).2];omega,by dsimp only;rw [show(sizeR l.reverse).toNat-(n+1)=left_ by omega];exact pG hW2 hbt.1 hnx,hbt.2.trans hsm⟩),trivial⟩ (bQ.drop 3)
  ·have hg19:=Int.not_le.1 (of_decide_eq_false hg19);refine bF rfl rfl rfl rfl ?_;refine bF rfl rfl rfl rfl ?_;refine bF rfl rfl rfl rfl ?_;refine bF rfl rfl rfl rfl ?_;refine bF rfl rfl rfl rfl ?_;refine bF rfl rfl rfl rfl ?_;refine bF rfl rfl rfl rfl ?_;refine bF rfl rfl rfl rfl ?_;refine bF rfl rfl rfl rfl ?_;refine bF rfl rfl rfl rfl ?_;refine puM hT ?_;refine cW<|bC<|bS rfl rfl ?_;refine cU<|cI<|cI<|cT<|bC<|bE<|bE<|bB<|bK rfl rfl rfl (bG hT rfl) ?_;refine bK rfl rfl rfl (bG hT rfl) ?_;refine cA<|bC<|bL rfl (fun hc37=>?_) (fun hc37=>?_)
   ·have hc37:=of_decide_eq_true hc37;have hq:q=0:=by omega
    subst hq;have hno:=bFq hinv4.2;refine bI<|bH<|bM<|bH<|bM ?_;have hWe:=hWK.trans (tM hW2 hbt.1 hno);exact uD (y4.1,y4.2.1,y4.2.2,n+1) rfl (.cons (.tail .head) (.cons (.tail .head) (.cons (.tail .head) (.cons (.tail .head) (.cons (.tail .head) (Sel.skip Sel.self)))))) ⟨Has.pure ⟨hWe,hbt.2.trans hsm⟩,trivial⟩ (by rw [hWe];rfl) rfl
   ·have hc37:=Int.not_lt.1 (of_decide_eq_false hc37)
    exfalso
    omega
theorem zero_ints:(Tryz.prog.info? 63).bind (·.zero)=some (.slice none 0 0):=by kernel_rfl
theorem zero_i64:(Tryz.prog.info? 2).bind (·.zero)=some (.int .i64 0):=by kernel_rfl
theorem zero_i:(Tryz.prog.info? 3).bind (·.zero)=some (.int .i64 0):=by kernel_rfl
theorem zero_fni:(Tryz.prog.info? 189).bind (·.zero)=some .nilFunc:=by kernel_rfl
section
variable {ds : List Int} {x : fG} {m : RnM} {l : List Int} {u : Value} {mem : List (List Int)}
theorem uP:kY ds x m=(gX ds x m.turns).bind fun l=>(lJ ds x (l.getLastD 0) (if x.how=2 then l.dropLast else l) m.mem).map fun mem=>⟨mem,m.turns+fH x l⟩:=by
 unfold kY gX
 cases rnLoops ds x.loops [] with
 | error e=>rfl
 | ok l=>
  show(if 2097152<m.turns+fH x l then _ else _)=Except.bind (if 2097152<m.turns+fH x l then Except.error 122 else Except.ok l) _;split
  ·rfl
  ·show _=(lJ ds x (l.getLastD 0) (if x.how=2 then l.dropLast else l) m.mem).map _;unfold lJ;generalize (if x.how=2 then l.dropLast else l)=outer
   by_cases hc:outer.contains 0=true
   ·rw [if_pos hc,if_pos hc];rfl
   ·rw [if_neg hc,if_neg hc]
theorem step_err1(h:fR (gX ds x m.turns)=some u):fR (kY ds x m)=some u:=by
 rw [uP];exact jN h
theorem step_err2(h:gX ds x m.turns= .ok l)(hu:fR (lJ ds x (l.getLastD 0) (if x.how=2 then l.dropLast else l) m.mem)=some u):fR (kY ds x m)=some u:=by
 rw [uP,h];show fR ((lJ ds x (l.getLastD 0) (if x.how=2 then l.dropLast else l) m.mem).map _)=_;rw [rK];exact hu
theorem bBj(h:gX ds x m.turns= .ok l)(hw:lJ ds x (l.getLastD 0) (if x.how=2 then l.dropLast else l) m.mem= .ok mem):kY ds x m= .ok ⟨mem,m.turns+fH x l⟩:=by
 rw [uP,h];show(lJ ds x (l.getLastD 0) (if x.how=2 then l.dropLast else l) m.mem).map _=_;rw [hw];rfl
end
theorem mI{α:Type}{l:List α}(h:l≠[]):1≤l.length:=List.length_pos_iff.2 h
theorem loops_in{ds:List Int}: ∀{L:List (List Mono)} {acc l:List Int},rnLoops ds L acc= .ok l→(∀p∈L,(evalP p ds).2=0→0≤(evalP p ds).1)→(∀k∈acc,0≤k∧k≤65536)→(∀k∈l,0≤k∧k≤65536)∧l.length=acc.length+L.length
 | [],acc,l,h,_,ha=>by
  cases h;exact⟨ha,rfl⟩
 | p::L,acc,l,h,hN,ha=>by
  obtain⟨k,hk,h⟩:=bBv (show(rnVal ds p 122).bind (fun k=>if 65536<k then .error 122 else rnLoops ds L (acc++[k]))= .ok l from h);split at h
  ·cases h
  ·have hv:(evalP p ds).2=0∧k=(evalP p ds).1:=by
    unfold rnVal at hk;split at hk
    ·rename_i h0;cases hk;exact⟨h0,rfl⟩
    ·cases hk
   have h0:=hN p (List.mem_cons_self ..) hv.1
   obtain⟨h1,h2⟩:=loops_in h (fun q hq=>hN q (List.mem_cons_of_mem _ hq)) (fun j hj=>by
    rcases List.mem_append.1 hj with hj | hj
    ·exact ha j hj
    ·have:j=k:=by simpa using hj
     omega)
   refine⟨h1,?_⟩;rw [h2,List.length_append,List.length_singleton,List.length_cons];omega
theorem bEk: ∀{a:List Int} {b:Int},sizeR (a++[b])=sizeR a*b
 | [],b=>by show b*1=1*b;omega
 | n::a,b=>by
  show n*sizeR (a++[b])=n*sizeR a*b;rw [bEk,Int.mul_assoc]
theorem bIx: ∀{l:List Int},sizeR l.reverse=gT l
 | []=>rfl
 | k::l=>by rw [List.reverse_cons,bEk,bIx,gT,Int.mul_comm]
theorem bCp: ∀{a:List Int} {b:Int},gT (a++[b])=gT a*b
 | [],b=>by show b*1=1*b;omega
 | n::a,b=>by
  show n*gT (a++[b])=n*gT a*b;rw [bCp,Int.mul_assoc]
theorem bFm{ds:List Int}{x:fG}{t:Int}{l:List Int}(h:gX ds x t= .ok l)(hN: ∀p∈x.loops,(evalP p ds).2=0→0≤(evalP p ds).1)(hL:1≤x.ops.length)(ht:0≤t):
  (∀k∈l,0≤k∧k≤65536)∧l.length=x.loops.length∧0≤fH x l∧t+fH x l≤2097152∧sizeR (if x.how=2 then l.dropLast else l).reverse≤4000000:=by
 unfold gX at h;obtain⟨l',hl,h⟩:=bBv h;split at h
 ·cases h
 ·rename_i hle;cases h;obtain⟨h1,h2⟩:=loops_in hl hN (fun k hk=>by cases hk);have h2:l.length=x.loops.length:=by rw [h2,List.length_nil,Nat.zero_add]
  have hp: ∀{a:List Int},(∀k∈a,0≤k)→0≤gT a:=fun h=>zP h
  have hR:0≤gT (if x.how=2 then l.dropLast++[l.getLastD 0+1] else l)∧sizeR (if x.how=2 then l.dropLast else l).reverse≤gT (if x.how=2 then l.dropLast++[l.getLastD 0+1] else l):=by
   rw [bIx];split
   ·have hd:=hp (a:=l.dropLast) fun k hk=>(h1 k (List.dropLast_subset _ hk)).1
    have hg:0≤l.getLastD 0:=by
     rw [List.getLastD_eq_getLast?]
     cases hl:l.getLast? with
     | none=>decide
     | some z=>exact(h1 z (List.mem_of_getLast? hl)).1
    rw [bCp];have e1:gT l.dropLast*1≤gT l.dropLast*(l.getLastD 0+1):=Int.mul_le_mul_of_nonneg_left (by omega) hd;exact⟨by omega,by omega⟩
   ·exact⟨hp fun k hk=>(h1 k hk).1,Int.le_refl _⟩
  have e2:gT (if x.how=2 then l.dropLast++[l.getLastD 0+1] else l)*1≤fH x l:=Int.mul_le_mul_of_nonneg_left (by omega) hR.1;exact⟨h1,h2,by omega,by omega,by omega⟩
theorem outer_in{how:Int}{l:List Int}(hne:how=2→1≤l.length): ∃fo:Nat,(if how=2 then (1:Int) else 0)=(fo:Int)∧fo≤l.length∧l.take (l.length-fo)=(if how=2 then l.dropLast else l)∧(if how=2 then l.length-fo+1 else l.length-fo)=l.length∧(how≠2→fo=0):=by
 by_cases h:how=2
 ·refine⟨1,by rw [if_pos h];rfl,hne h,?_,?_,fun e=>absurd h e⟩
  ·rw [if_pos h,List.dropLast_eq_take]
  ·rw [if_pos h];have:=hne h;omega
 ·refine⟨0,by rw [if_neg h];rfl,Nat.zero_le _,?_,?_,fun _=>rfl⟩
  ·rw [if_neg h,Nat.sub_zero,List.take_of_length_le (Nat.le_refl _)]
  ·rw [if_neg h];rfl
theorem getLastD_in{l:List Int}(h0:1≤l.length)(h: ∀k∈l,0≤k∧k≤65536):0≤l.getLastD 0∧l.getLastD 0≤65536:=by
 rw [List.getLastD_eq_getLast?]
 cases hl:l.getLast? with
 | none=>rw [List.getLast?_eq_none_iff] at hl;subst hl;simp at h0
 | some z=>exact h z (List.mem_of_getLast? hl)
set_option maxHeartbeats 1000000 in
set_option maxRecDepth 100000 in
theorem stepR_spec(mb:Nat)(m:gF)(a:Option Addr×Nat)(x:fV)(r0:Sl Int)(hN: ∀p∈polsL x.loops.list,(evalP p m.dims.list).2=0→0≤(evalP p m.dims.list).1)(hlo:x.ops.list.length≤256)(hL1:1≤x.ops.list.length)(hll:x.loops.list.length≤4)(hne:x.how=2→x.loops.list≠[])(hne3:x.how=3→x.loops.list≠[])(ht0:0≤m.turns)(ht1:m.turns≤2097152)(hb0:0≤x.buf)(hr0:m.mem.list[x.buf.toNat]?=some r0)(hrl0:r0.list.length≤1000000)(hA:(evalP x.at_.list m.dims.list).2=0→0≤(evalP x.at_.list m.dims.list).1)(hO:vU (opsL x.ops.list) x.loops.list.length m.mem.list.length)(hD:Deep (opsL x.ops.list) 0)(hdl:m.dims.list.length≤140737488355328):rC Tryz.prog 41 [.pointer (some ⟨mb,0,none⟩),.agg #[.int .i64 x.how,.int .i64 x.buf,.slice x.at_.addr x.at_.list.length x.at_.cap,.slice x.loops.addr x.loops.list.length x.loops.cap,.int .u8 x.fn,.slice x.ops.addr x.ops.list.length x.ops.cap]] (maH mb (m.st a [])) [kB x,cQ.sl (.slice m.dims.addr m.dims.list.length m.dims.cap) m.dims.list] (fun(_:(Option Addr×Nat)×List (Sl Int)×Int)=>fR (kY m.dims.list x.c ⟨memL m,m.turns⟩)) (fun(_:(Option Addr×Nat)×List (Sl Int)×Int)=> .tuple #[]) (fun(y:(Option Addr×Nat)×List (Sl Int)×Int)=>maH mb (((m.me y.2.1).tu y.2.2).st y.1 [])) (fun(y:(Option Addr×Nat)×List (Sl Int)×Int)=>[bU.pure ((kY m.dims.list x.c ⟨memL m,m.turns⟩)= .ok ⟨y.2.1.map (·.list),y.2.2⟩∧fQ y.2.1 m.mem.list)]):=by
 have hT:=cZ;refine mX Tryz.func41 rfl Tryz.ntmps41 rfl ?_;intro β hM;refine bE<|bB<|gG rfl rfl rfl rfl rfl rfl fun b1=>?_;refine gG rfl rfl rfl rfl rfl rfl fun b2=>?_;refine cA<|bC<|bE<|bB<|bK rfl rfl rfl (bR hT (dO (.tail .head)) rfl rfl rfl rfl rfl) ?_;refine bK rfl rfl rfl (dT hT (dO .head) rfl rfl rfl rfl rfl) ?_;refine jK (cE Tryz.func86 rfl rfl) (countR_spec mb (m.st a []) x hN hlo hll hne ht0 ht1 hdl) rfl rfl rfl rfl rfl (.cons (.tail (.tail .head)) .nil) ⟨Has.of (.head _),Has.of (.tail _ (.head _)),trivial⟩ ?_ ?_
 ·intro y4 u3 hpc5;refine dK ?_;exact gJ (a,[],0) (step_err1 (m:=⟨memL m,m.turns⟩) hpc5)
 rintro y6 hpc7;refine cD (Has.of (.head _)) fun hct=>?_;have hin:=bFm (x:=x.c) hct hN (by show 1≤(opsL x.ops.list).length;rw [dV];exact hL1) ht0;have hlen:y6.2.2.length=x.loops.list.length:=hin.2.1.trans (dC _);obtain⟨fo,hfo,hfo1,hfo2,hfo3,hfo4⟩:=outer_in (how:=x.how) (l:=y6.2.2) (fun e=>by have:=mI (hne e);omega);refine gP rfl rfl rfl rfl zero_ints rfl fun b8=>?_;refine hZ hT rfl rfl rfl rfl rfl .head rfl rfl rfl rfl rfl ?_;refine cA<|bC<|bE<|at_cap (.tail (.tail .head)) fun hcap=>?_;refine lE (E:=cQ) (.tail (.tail .head)) ?_;refine cL (cQ.sl (.slice y6.1 (y6.2.2.length-fo) y6.2.1) (y6.2.2.take (y6.2.2.length-fo))) (has_take (Has.of (.head _)) (by omega)) ?_;refine fJ _ _ [(true,0),(true,1),(true,2),(true,3),(false,4),(true,5),(true,6),(true,7)] dS (by decide+kernel) (.cons .head (.cons .head (.cons .head (.cons .head (.cons .head (.cons .head Sel.self)))))) bQ.self ?_;refine stM rfl (bR hT (dO .head) rfl rfl rfl rfl rfl) ?_;refine stM rfl (bR hT (dO .head) rfl rfl rfl rfl rfl) ?_;refine puM hT ?_;refine stM rfl (dT hT (dO (.tail (.tail .head))) rfl rfl rfl rfl rfl) ?_;refine fN (o:=_) rfl ?_;refine cK Tryz.func87 (foldR_spec x) rfl rfl .nil trivial fun _=>?_;refine bZ hfo ?_;refine fO (.cons .head (.cons .head (.cons .head (.cons .head (.cons .head (.cons .head Sel.self)))))) (bQ.drop 0) ?_;refine puM hT ?_;refine bZ (z':=((y6.2.2.length-fo:Nat):Int)) (by rw [show((y6.2.2.length:Nat):Int)-(fo:Int)=((y6.2.2.length-fo:Nat):Int) by omega];exact cV rfl (by omega)) ?_;refine stM rfl (bHk hT (k:=(y6.2.2.length-fo)) rfl rfl rfl rfl rfl rfl (by omega)) ?_;refine puM hT ?_;refine cW<|bC<|bE<|bB<|gP rfl rfl rfl rfl zero_i rfl fun b9=>?_;refine hZ hT rfl rfl rfl rfl rfl .head rfl rfl rfl rfl rfl ?_;refine cA<|bC<|bE<|bB<|bK rfl rfl rfl (bG hT rfl) ?_;refine gP rfl rfl rfl rfl zero_fni rfl fun b10=>?_;refine hZ hT rfl rfl rfl rfl rfl .head rfl rfl rfl rfl rfl ?_;refine cA<|bC<|bE<|bB<|gP rfl rfl rfl rfl zero_i64 rfl fun b11=>?_;refine hZ hT rfl rfl rfl rfl rfl .head rfl rfl rfl rfl rfl ?_;refine cA<|bC<|nW (.tail (.tail (.tail (.tail (.tail (.tail .head)))))) ?_;refine nW (.tail (.tail (.tail (.tail (.tail .head))))) ?_;refine nW (.tail (.tail (.tail .head))) ?_;refine nW (.tail .head) ?_;refine bB<|bK rfl rfl rfl (bG hT rfl) ?_;refine bK rfl rfl rfl (bG hT rfl) ?_;refine gB (.cons (.tail .head) (.cons .head (.cons .head (.cons .head (.cons .head Sel.self))))) ?_;refine jK (cE Tryz.func90 rfl rfl) (walkR_spec mb b1 b2 b9 b11 b10 b8 ((m.tu (m.turns+fH x.c y6.2.2))) x a y6.1 (y6.2.2.length-fo) y6.2.1 (y6.2.2.take (y6.2.2.length-fo)) (by rw [List.length_take];omega) y6.1 y6.2.1 y6.2.2 r0 (fun k hk=>(hin.1 k (List.mem_of_mem_take hk)).1) (fun k hk=>(hin.1 k (List.mem_of_mem_take hk)).2) (by rw [hfo2];exact hin.2.2.2.2) hb0 hr0 hA hrl0 hlo (by rw [List.length_take];omega) (by rw [List.length_take,show min (y6.2.2.length-fo) y6.2.2.length=y6.2.2.length-fo by omega,hfo3,hlen];exact hO) hD (fun e=>by rw [List.length_take];have:=mI (hne3 e);have:=hfo4 (by omega);omega) (fun e=>by have:=mI (hne e);omega) (fun e=>getLastD_in (by have:=mI (hne e);omega) hin.1) (by omega) hdl) rfl rfl rfl rfl rfl fZ.all ⟨Has.of (.tail _ (.tail _ (.tail _ (.head _)))),Has.of (.tail _ (.tail _ (.head _))),Has.of (.head _),Has.of (.tail _ (.head _)),Has.of (.tail _ (.tail _ (.tail _ (.tail _ (.tail _ (.head _)))))),Has.of (.tail _ (.tail _ (.tail _ (.tail _ (.tail _ (.tail _ (.tail _ (.head _)))))))),Has.of (.tail _ (.tail _ (.tail _ (.tail _ (.tail _ (.tail _ (.tail _ (.tail _ (.head _))))))))),Has.of (.tail _ (.tail _ (.tail _ (.tail _ (.head _))))),trivial⟩ ?_ ?_
 ·intro y13 u12 hpw14;exact gJ (a,[],0) (step_err2 (m:=⟨memL m,m.turns⟩) hct (by have:=hpw14;rw [hfo2] at this;exact this))
 rintro y15 hpw16;rw [List.append_nil];refine cD (Has.of (.head _)) fun hwk=>?_;refine cA ?_;have hwk1:=hwk.1;rw [hfo2] at hwk1;have hse:(kY m.dims.list x.c ⟨memL m,m.turns⟩)= .ok ⟨y15.2.1.map (·.list),m.turns+fH x.c y6.2.2⟩:=bBj (m:=⟨memL m,m.turns⟩) hct hwk1;exact xL (y15.1,y15.2.1,m.turns+fH x.c y6.2.2) rfl (.cons (.tail (.tail .head)) (.cons (.tail (.tail .head)) (.cons (.tail (.tail .head)) (Sel.skip (Sel.skip Sel.self))))) ⟨Has.pure ⟨hse,hwk.2⟩,trivial⟩ (by rw [hse];rfl) rfl
theorem bKi: ∀{l:List Int} {n:Int},0≤n→n≤65536→(∀k∈l,0≤k∧k≤65536)→0≤(kW l n).1∧(kW l n).1≤65536
 | [],n,h0,h1,_=>⟨h0,h1⟩
 | k::l,n,h0,h1,h=>by
  have hk:=h k (List.mem_cons_self ..);have hm:0≤n*k∧n*k≤4294967296:=wK ⟨h0,h1⟩ hk;have hw:w64 (n*k)=n*k:=rn_w64 (by omega) (by omega);unfold kW;rw [hw];split
  ·exact⟨Int.le_refl _,by show(0:Int)≤65536;decide⟩
  ·exact bKi hm.1 (by omega) fun j hj=>h j (List.mem_cons_of_mem _ hj)
theorem tR(l:List Int):0≤(fP l).1∧(fP l).1≤65536:=by
 unfold fP;split
 ·exact⟨Int.le_refl _,by show(0:Int)≤65536;decide⟩
 ·rename_i h;split
  ·exact⟨Int.le_refl _,by show(0:Int)≤65536;decide⟩
  ·refine bKi (by decide) (by decide) fun k hk=>?_;have h1: ¬l.any pH=true:=fun e=>h (.inr e)
   have h2:pH k=false:=by
    cases hb:pH k with
    | false=>rfl
    | true=>exact absurd (List.any_eq_true.2 ⟨k,hk,hb⟩) h1
   unfold pH at h2;simp only [Bool.or_eq_false_iff,decide_eq_false_iff_not] at h2;omega
theorem most_ge: ∀{l:List iW} {n:Int},n≤rnMost l n
 | [],n=>Int.le_refl _
 | u::l,n=>by
  have:=most_ge (l:=l) (n:=max n (u.input+1));show n≤rnMost l (max n (u.input+1));omega
theorem most_gt{u:iW}: ∀{l:List iW} {n:Int},u∈l→u.input<rnMost l n
 | [],_,h=>by cases h
 | v::l,n,h=>by
  show u.input<rnMost l (max n (v.input+1))
  rcases List.mem_cons.1 h with rfl | h
  ·have:=most_ge (l:=l) (n:=max n (u.input+1));omega
  ·exact most_gt h
theorem most_at{l:List iW}{i:Nat}{u:iW}{n R:Int}(h:R=rnMost (l.drop i) n)(hu:l[i]?=some u):R=rnMost (l.drop (i+1)) (max n (u.input+1)):=by
 obtain⟨hlt,e⟩:=List.getElem?_eq_some_iff.1 hu;rw [h,←List.getElem_cons_drop hlt,e];rfl
theorem most_end{l:List iW}{i:Nat}{n R:Int}(h:R=rnMost (l.drop i) n)(hi:l.length≤i):R=n:=by
 rw [h,List.drop_of_length_le hi];rfl
def sZ (ds:List Int)(ins:List Arr)(bufs:List iW):Rn (List (List Int)):=if (ins.length:Int)≠rnMost bufs 0 then .error 120 else rnLoad ds ins bufs []
section
variable {ds : List Int} {ins : List Arr} {l : List iW} {i : Nat} {u : iW} {mem : List (List Int)} {R : Rn (List (List Int))} {a : Arr} {n : Nat}
theorem bBo(h:R=rnLoad ds ins (l.drop i) mem)(hu:l[i]?=some u):R=if u.input<0 then rnLoad ds ins (l.drop (i+1)) (mem++[List.replicate (fP (rnSides ds u)).1.toNat 0]) else if kU (ins.getD u.input.toNat tE)=true∧(ins.getD u.input.toNat tE).sides=rnSides ds u then rnLoad ds ins (l.drop (i+1)) (mem++[(ins.getD u.input.toNat tE).data]) else .error 120:=by
 obtain⟨hlt,e⟩:=List.getElem?_eq_some_iff.1 hu;rw [h,←List.getElem_cons_drop hlt,e];rfl
theorem bGz(h:R=rnLoad ds ins (l.drop i) mem)(hu:l[i]?=some u)(hi:u.input<0):R=rnLoad ds ins (l.drop (i+1)) (mem++[List.replicate (fP (rnSides ds u)).1.toNat 0]):=by rw [bBo h hu,if_pos hi]
theorem bHg(h:R=rnLoad ds ins (l.drop i) mem)(hu:l[i]?=some u)(hi: ¬u.input<0)(ha:ins[u.input.toNat]?=some a)(hr:kU a=true)(hs:a.sides=rnSides ds u):R=rnLoad ds ins (l.drop (i+1)) (mem++[a.data]):=by
 have hg:ins.getD u.input.toNat tE=a:=by rw [List.getD_eq_getElem?_getD,ha];rfl
 rw [bBo h hu,if_neg hi,hg,if_pos ⟨hr,hs⟩]
theorem load_bad(h:R=rnLoad ds ins (l.drop i) mem)(hu:l[i]?=some u)(hi: ¬u.input<0)(ha:ins[u.input.toNat]?=some a)(hb: ¬(kU a=true∧a.sides=rnSides ds u)):fR R=some (bDb 120):=by
 have hg:ins.getD u.input.toNat tE=a:=by rw [List.getD_eq_getElem?_getD,ha];rfl
 rw [bBo h hu,if_neg hi,hg,if_neg hb];rfl
theorem load_end(h:R=rnLoad ds ins (l.drop i) mem)(hi:l.length≤i):R= .ok mem:=by
 rw [h,List.drop_of_length_le hi];rfl
theorem in_eq(h:(ins.length:Int)=rnMost l 0):sZ ds ins l=rnLoad ds ins l []:=by
 unfold sZ;rw [if_neg (fun e=>e h)]
theorem in_no(h:(ins.length:Int)≠rnMost l 0):fR (sZ ds ins l)=some (bDb 120):=by
 unfold sZ;rw [if_pos h];rfl
end
theorem maxI{a b:Int}:(if b>a then b else a)=max a b:=by
 split<;>omega
theorem bCq{a:Arr}(h:kU a=true):a.data.length≤65536:=by
 unfold kU at h;rw [Bool.and_eq_true,beq_iff_eq,beq_iff_eq] at h;have:=tR a.sides;omega
def arrL (l:List ArrV):List Arr:=l.map ArrV.arr
theorem uT{l:List ArrV}{i:Nat}{x:ArrV}(h:l[i]?=some x):(arrL l)[i]?=some x.arr:=by
 unfold arrL;rw [List.getElem?_map,h];rfl
theorem rA(l:List ArrV):(arrL l).length=l.length:=List.length_map _
theorem memC_rep{b n:Nat}:cQ.held (.slice (some ⟨b,0,none⟩) n n) (List.replicate n 0)=memC ⟨some ⟨b,0,none⟩,n,List.replicate n 0⟩:=by
 unfold memC;simp only [List.length_replicate]
theorem sH{M:List (Sl Int)}{y:Sl Int}(h: ∀r∈M,r.list.length≤65536)(hy:y.list.length≤65536): ∀r∈M++[y],r.list.length≤65536:=fun r hr=>by
 rcases List.mem_append.1 hr with hr | hr
 ·exact h r hr
 ·have:r=y:=by simpa using hr
  rw [this];exact hy
theorem sM:(Tryz.prog.info? 77).bind (·.zero)=some (.agg #[.slice none 0 0,.slice none 0 0]):=by kernel_rfl
set_option maxHeartbeats 1000000 in
set_option maxRecDepth 100000 in
theorem loadR_spec(mb:Nat)(m:gF)(IA:Option Addr)(ic:Nat)(ins:List ArrV)(hnb:m.core.bufs.list.length≤1024)(hI: ∀u∈m.core.bufs.list,-1≤u.input∧u.input<64)(hS: ∀u∈m.core.bufs.list,(∀p∈polsL u.sides.list,(evalP p m.dims.list).2=0)∧(rnSides m.dims.list u.c).length≤4)(hdl:m.dims.list.length≤140737488355328):rC Tryz.prog 40 [.pointer (some ⟨mb,0,none⟩),.slice IA ins.length ic] (maH mb (m.mm (none,0) [])) [lY m.core,cQ.sl (.slice m.dims.addr m.dims.list.length m.dims.cap) m.dims.list,jQ.sl (.slice IA ins.length ic) ins,bU.each ins uI] (fun(_:(Option Addr×Nat)×List (Sl Int))=>fR (sZ m.dims.list (arrL ins) (bufsL m.core.bufs.list))) (fun(_:(Option Addr×Nat)×List (Sl Int))=> .tuple #[]) (fun(y:(Option Addr×Nat)×List (Sl Int))=>maH mb (m.mm y.1 y.2)) (fun(y:(Option Addr×Nat)×List (Sl Int))=>[bU.pure ((sZ m.dims.list (arrL ins) (bufsL m.core.bufs.list))= .ok (y.2.map (·.list))∧y.2.length=m.core.bufs.list.length∧ ∀r∈y.2,r.list.length≤65536)]):=by
 have hT:=cZ
 obtain⟨K,hK⟩: ∃K,rnMost (bufsL m.core.bufs.list) 0=K:=⟨_,rfl⟩
 refine mX Tryz.func40 rfl Tryz.ntmps40 rfl ?_;intro β hM;refine bE<|bB<|bK rfl rfl rfl (bG hT rfl) ?_;refine cA<|bC<|bE<|bE<|cL (uB.sl (.slice m.core.bufs.addr m.core.bufs.list.length m.core.bufs.cap) m.core.bufs.list) (nS (iY (Has.of (.head _)))) ?_;refine bB<|bK rfl rfl rfl (bG hT rfl) ?_;refine bK rfl rfl rfl (bG hT rfl) ?_;refine bK rfl rfl rfl (bG hT rfl) ?_;refine bK rfl rfl rfl (bG hT rfl) ?_;refine bK rfl rfl rfl (bR hT (fE .head) rfl rfl rfl rfl rfl) ?_;refine bK rfl rfl rfl (bG hT rfl) ?_;refine bZ (z':=((m.core.bufs.list.length:Nat):Int)) rfl ?_;refine bK rfl rfl rfl (bG hT rfl) ?_;refine cA<|bC<|bW<|cX (ι:=Nat×Int) [(0,_),(1,_),(17,_),(18,_)] ⟨rfl,rfl,rfl,rfl,trivial⟩ (fun⟨i,z⟩=>[(4,.int .i64 z),(19,.int .i64 (i:Nat))]) (fun _=>[]) (fun⟨i,z⟩=>[bU.pure (i≤m.core.bufs.list.length∧0≤z∧z≤64∧K=rnMost ((bufsL m.core.bufs.list).drop i) z)]) (fun⟨i,z⟩=>m.core.bufs.list.length-i) (0,0) ⟨rfl,rfl,trivial⟩ .nil ⟨Has.pure (⟨by omega,by omega,by omega,hK.symm⟩),trivial⟩ ?_;rintro⟨i,z⟩;dsimp only;refine cD (Has.of (.head _)) fun hinv2=>?_;refine bE<|bB<|bK rfl rfl rfl (bG hT rfl) ?_;refine cA<|bC<|bE<|bL rfl (fun hc20=>?_) (fun hc20=>?_)
 ·have hc20:=of_decide_eq_true hc20;refine bO<|bC<|bE<|bW<|bE<|bB ?_
  obtain⟨x1,hx2⟩: ∃x',m.core.bufs.list[i]?=some x':=⟨_,List.getElem?_eq_getElem (by omega)⟩
  refine bK rfl rfl rfl (bV hT (k:=i) (bP (Has.of (.tail _ (.head _)))) rfl rfl rfl rfl rfl rfl rfl (by omega)) ?_;refine bK rfl rfl rfl (dT hT (cM.knows (bP (Has.of (.tail _ (.head _)))) (k:=i) (x:=x1) hx2 0) rfl rfl rfl rfl rfl) ?_;refine gP rfl rfl rfl rfl tJ rfl fun b3=>?_;refine hZ hT rfl rfl rfl rfl rfl .head rfl rfl rfl rfl rfl ?_;refine cA<|bC ?_;have hib:=hI x1 (List.mem_of_getElem? hx2);refine bB<|bK rfl rfl rfl (bG hT rfl) ?_;refine bK rfl rfl rfl (bG hT rfl) ?_;refine bK rfl rfl rfl (bR hT (fE .head) rfl rfl rfl rfl rfl) ?_;refine bK rfl rfl rfl (bG hT rfl) ?_;refine bZ (gK (by omega) (by omega)) ?_;refine bK rfl rfl rfl (bG hT rfl) ?_;refine bZ (z':=max z (x1.input+1)) maxI ?_;refine bK rfl rfl rfl (bG hT rfl) ?_;refine cA<|bY<|bC<|bB<|bK rfl rfl rfl (bG hT rfl) ?_;refine bZ (z':=(((i+1):Nat):Int)) (cV (by omega) (by omega)) ?_;refine bK rfl rfl rfl (bG hT rfl) ?_;refine cA<|bC ?_;exact cJ (i+1,max z (x1.input+1)) (by dsimp only;omega) ⟨rfl,rfl,trivial⟩ ⟨rfl,rfl,rfl,rfl,trivial⟩ (.cons (.tail .head) (.cons (.tail .head) (.cons (.tail .head) (Sel.skip Sel.self)))) ⟨Has.pure (⟨by dsimp only;omega,by dsimp only;omega,by dsimp only;omega,most_at hinv2.2.2.2 (dE hx2)⟩),trivial⟩ (bQ.drop 1)
 ·have hc20:=Int.not_lt.1 (of_decide_eq_false hc20);refine cU<|cI<|cI<|cT<|bC<|bE<|bE ?_;have hke:=most_end hinv2.2.2.2 (by rw [dI];omega);refine bB<|bK rfl rfl rfl (bG hT rfl) ?_;refine bK rfl rfl rfl (bG hT rfl) ?_;refine bK rfl rfl rfl (bG hT rfl) ?_;refine bK rfl rfl rfl (bG hT rfl) ?_;refine cA<|bC<|bL rfl (fun hc32=>?_) (fun hc32=>?_)
  ·have hc32:=bne_iff_ne.1 hc32;refine bB<|bK rfl rfl rfl (kO rfl Tryz.underlying32 (fun _ e=>by cases e) rfl) ?_;refine kQ rfl rfl rfl ?_;refine dK ?_;exact gJ ((none,0),[]) (in_no (by rw [rA];exact fun e=>hc32 (by omega)))
  ·have hc32:=bne_eq_false_iff_eq.1 hc32;refine bO<|bC<|bE ?_;have hml:((arrL ins).length:Int)=rnMost (bufsL m.core.bufs.list) 0:=by rw [rA];omega
   have hRI:=in_eq (ds:=m.dims.list) hml
   obtain⟨R,hR⟩: ∃R,rnLoad m.dims.list (arrL ins) (bufsL m.core.bufs.list) []=R:=⟨_,rfl⟩
   have hRL:(sZ m.dims.list (arrL ins) (bufsL m.core.bufs.list))=R:=hRI.trans hR;refine bB<|bK rfl rfl rfl (bG hT rfl) ?_;refine bK rfl rfl rfl (bG hT rfl) ?_;refine bK rfl rfl rfl (bG hT rfl) ?_;refine bK rfl rfl rfl (bG hT rfl) ?_;refine bK rfl rfl rfl (bR hT (fE .head) rfl rfl rfl rfl rfl) ?_;refine bK rfl rfl rfl (bG hT rfl) ?_;refine bZ (z':=((m.core.bufs.list.length:Nat):Int)) rfl ?_;refine bK rfl rfl rfl (bG hT rfl) ?_;refine cA<|bC<|bW<|mJ (ι:=(Option Addr×Nat)×List (Sl Int)×Nat) [(0,_),(1,_),(38,_),(39,_)] ⟨rfl,rfl,rfl,rfl,trivial⟩ (fun⟨q,M,i⟩=>[(40,.int .i64 (i:Nat))]) (fun⟨q,M,i⟩=>maH mb (m.mm q M)) (fun⟨q,M,i⟩=>[bU.pure (i≤m.core.bufs.list.length∧M.length=i∧R=rnLoad m.dims.list (arrL ins) ((bufsL m.core.bufs.list).drop i) (M.map (·.list))∧(∀r∈M,r.list.length≤65536))]) (fun⟨q,M,i⟩=>m.core.bufs.list.length-i) ((none,0),[],0) ⟨rfl,trivial⟩ (List.Perm.refl _) ⟨Has.pure (⟨by omega,rfl,hR.symm,fun _ h=>(by cases h)⟩),trivial⟩ ?_;rintro⟨q,M,i⟩;dsimp only;refine cD (Has.of (.head _)) fun hinv9=>?_;refine bE<|bB<|bK rfl rfl rfl (bG hT rfl) ?_;refine cA<|bC<|bE<|bL rfl (fun hc41=>?_) (fun hc41=>?_)
   ·have hc41:=of_decide_eq_true hc41;refine bO<|bC<|bE<|bW<|bE ?_
    obtain⟨u,hu⟩: ∃u,m.core.bufs.list[i]?=some u:=⟨_,List.getElem?_eq_getElem (by omega)⟩
    have hub:=hS u (List.mem_of_getElem? hu);have hsz:=tR (rnSides m.dims.list u.c);refine bB<|bK rfl rfl rfl (bG hT rfl) ?_;refine bK rfl rfl rfl (bV hT (k:=i) (bP (Has.of (.tail _ (.tail _ (.head _))))) rfl rfl rfl rfl rfl rfl rfl (by omega)) ?_;refine bK rfl rfl rfl (dT hT (cM.knows (bP (Has.of (.tail _ (.tail _ (.head _))))) (k:=i) (x:=u) hu 0) rfl rfl rfl rfl rfl) ?_;refine gP rfl rfl rfl rfl tJ rfl fun b4=>?_;refine bK rfl rfl rfl (bG hT rfl) ?_;refine hZ hT rfl rfl rfl rfl rfl .head rfl rfl rfl rfl rfl ?_;refine cA<|bC<|bE<|bB<|bK rfl rfl rfl (bG hT rfl) ?_;refine bK rfl rfl rfl (bG hT rfl) ?_;refine cK Tryz.func42 (bAq mb (m.mm q M) (i:Nat) u (by omega) hu hub.1 hdl) rfl rfl (.cons (.tail .head) .nil) ⟨(Has.of (.tail _ (.tail _ (.tail _ (.head _))))),(Has.of (.tail _ (.tail _ (.tail _ (.tail _ (.head _)))))),trivial⟩ fun y5=>?_;refine bK rfl rfl rfl (bG hT rfl) ?_;refine cA<|bC<|bE<|bE<|bB<|bK rfl rfl rfl (bG hT rfl) ?_;refine bK rfl rfl rfl (bR hT (fE (.tail (.tail .head))) rfl rfl rfl rfl rfl) ?_;refine bK rfl rfl rfl (bG hT rfl) ?_;refine cA<|bC<|bL rfl (fun hc50=>?_) (fun hc50=>?_)
    ·have hc50:=of_decide_eq_true hc50;refine bE<|bB<|bK rfl rfl rfl (bG hT rfl) ?_;refine iH (cE Tryz.func83 rfl rfl) (bId y5.1 y5.2 (rnSides m.dims.list u.c) (by have:=hub.2;omega)) rfl rfl rfl rfl rfl .nil (.cons (.tail .head) .nil) (rV kZ) ⟨Has.of (.head _),trivial⟩ (fun _=>True) (fun _ _ _ _=>trivial) fun _ _=>?_;refine bK rfl rfl rfl (bG hT rfl) ?_;refine bK rfl rfl rfl (bG hT rfl) ?_;refine bZ (z':=(((fP (rnSides m.dims.list u.c)).1.toNat:Nat):Int)) (by omega) ?_;refine bK rfl rfl rfl (bG hT rfl) ?_;refine bK rfl rfl rfl (bG hT rfl) ?_;refine bK rfl rfl rfl (bG hT rfl) ?_;refine cA<|bC<|bE<|jG 11 _ _ [(true,0),(true,1),(true,2),(true,3),(true,4),(true,5),(false,6),(false,7),(false,8),(true,9),(true,10)] dS (by decide+kernel) (.cons .head (.cons .head (.cons .head (.cons .head (Sel.skip Sel.self))))) bQ.self ?_;refine puL hT ?_;refine puL hT ?_;refine puL hT ?_;refine puL hT ?_;refine stL rfl (bR hT (jD .head) rfl rfl rfl rfl rfl) ?_;refine puL hT ?_;refine hY (o:=_) rfl ?_;refine pD (m:=(fP (rnSides m.dims.list u.c)).1.toNat) rfl rfl rfl rfl rfl rfl (by omega) fun b6=>?_;refine at_val (v':= .slice (some ⟨b6,0,none⟩) (List.replicate (fP (rnSides m.dims.list u.c)).1.toNat (0:Int)).length (fP (rnSides m.dims.list u.c)).1.toNat) (by rw [List.length_replicate]) ?_;refine gZ (.cons (.tail .head) (.cons (.tail .head) (.cons (.tail .head) (.cons (.tail .head) (Sel.skip (Sel.skip Sel.self)))))) (bQ.drop 0) ?_;refine hY (o:=_) rfl ?_;refine pV (m:=(⟨some ⟨b6,0,none⟩,(fP (rnSides m.dims.list u.c)).1.toNat,List.replicate (fP (rnSides m.dims.list u.c)).1.toNat 0⟩:Sl Int)) rfl rfl rfl rfl rfl fun b7=>?_;refine gZ (.cons (.tail (.tail .head)) (.cons (.tail (.tail .head)) (.cons (.tail (.tail .head)) (.cons (.tail (.tail .head)) (Sel.skip (Sel.skip (Sel.skip Sel.self))))))) (bQ.drop 0) ?_;refine hY (o:=_) rfl ?_;refine qD (.tail (.tail (.tail (.tail (.tail (.tail .head)))))) (dP .head rfl) rfl rfl rfl rfl rfl rfl rfl (by show M.length+1≤_;omega) fun A8 c9=>?_;refine gZ (.cons (.tail (.tail (.tail .head))) (.cons (.tail (.tail (.tail .head))) (.cons (.tail (.tail (.tail .head))) (.cons (.tail (.tail (.tail .head))) (Sel.skip (Sel.skip (Sel.skip Sel.self))))))) (bQ.drop 0) ?_;refine puL hT ?_;refine puL hT ?_;refine hU (o:=_) rfl ?_;refine hZ hT rfl rfl rfl rfl rfl (.tail (.tail (.tail .head))) rfl rfl rfl rfl rfl ?_;refine iX<|bC<|cU<|cI<|cT<|bC<|bB<|bK rfl rfl rfl (bG hT rfl) ?_;refine bZ (z':=(((i+1):Nat):Int)) (cV (by omega) (by omega)) ?_;refine bK rfl rfl rfl (bG hT rfl) ?_;refine cA<|bC<|qG (E:=cQ) (.tail (.tail (.tail .head))) ?_;rw [memC_rep];refine gB (.cons .head (.cons .head (.cons (.tail (.tail (.tail (.tail .head)))) (.cons .head (Sel.skip (Sel.skip (Sel.skip Sel.self))))))) ?_;refine cR (wS M ⟨some ⟨b6,0,none⟩,(fP (rnSides m.dims.list u.c)).1.toNat,List.replicate (fP (rnSides m.dims.list u.c)).1.toNat 0⟩ [_,_,_]) ?_;exact gH ((A8,c9),M++[⟨some ⟨b6,0,none⟩,(fP (rnSides m.dims.list u.c)).1.toNat,List.replicate (fP (rnSides m.dims.list u.c)).1.toNat 0⟩],i+1) (by dsimp only;omega) ⟨rfl,trivial⟩ ⟨rfl,rfl,rfl,rfl,trivial⟩ (List.Perm.refl _) ⟨Has.pure (⟨by dsimp only;omega,by dsimp only;rw [List.length_append,List.length_singleton];omega,by dsimp only;rw [List.map_append];exact bGz hinv9.2.2.1 (dE hu) (by show u.input<0;omega),sH hinv9.2.2.2 (by show(List.replicate _ _).length≤_;rw [List.length_replicate];have:=tR (rnSides m.dims.list u.c);omega)⟩),trivial⟩ (bQ.drop 1)
    ·have hc50:=Int.not_lt.1 (of_decide_eq_false hc50);refine bO<|bC<|bE ?_;have hmg:=most_gt (n:=0) (List.mem_of_getElem? (dE hu))
     replace hmg:u.input<rnMost (bufsL m.core.bufs.list) 0:=hmg
     rw [←hml,rA] at hmg
     obtain⟨x,hx⟩: ∃x,ins[u.input.toNat]?=some x:=⟨_,List.getElem?_eq_getElem (by omega)⟩
     refine cL (uI x) (Has.each (Has.of (.tail _ (.tail _ (.tail _ (.tail _ (.tail _ (.tail _ (.head _)))))))) (List.mem_of_getElem? hx)) ?_;refine cD (arrF_sz (Has.of (.head _))) fun haz=>?_;refine cL (cQ.sl (.slice x.sides.addr x.sides.list.length x.sides.cap) x.sides.list) (arrF_s (Has.of (.head _))) ?_;refine cL (cQ.sl (.slice x.data.addr x.data.list.length x.data.cap) x.data.list) (arrF_d (Has.of (.tail _ (.head _)))) ?_;refine bB<|bK rfl rfl rfl (bG hT rfl) ?_;refine bK rfl rfl rfl (bG hT rfl) ?_;refine bK rfl rfl rfl (bR hT (fE (.tail (.tail .head))) rfl rfl rfl rfl rfl) ?_;refine bK rfl rfl rfl (bV hT (k:=u.input.toNat) (bP (Has.of (.tail _ (.tail _ (.tail _ (.tail _ (.tail _ (.tail _ (.tail _ (.tail _ (.head _))))))))))) rfl rfl rfl rfl rfl rfl (by omega) ((List.getElem?_eq_some_iff.1 hx).1)) ?_;refine bK rfl rfl rfl (dT hT (cM.knows (bP (Has.of (.tail _ (.tail _ (.tail _ (.tail _ (.tail _ (.tail _ (.tail _ (.tail _ (.head _))))))))))) (k:=u.input.toNat) (x:=x) hx 0) rfl rfl rfl rfl rfl) ?_;refine gP rfl rfl rfl rfl sM rfl fun b10=>?_;refine hZ hT rfl rfl rfl rfl rfl .head rfl rfl rfl rfl rfl ?_;refine cA<|bC<|bE<|bE<|bB<|bK rfl rfl rfl (dT hT (dO .head) rfl rfl rfl rfl rfl) ?_;refine cK Tryz.func84 (rightAr_spec x (by omega)) rfl rfl .nil ⟨(Has.of (.tail _ (.head _))),trivial⟩ fun _=>?_;refine bK rfl rfl rfl (bG hT rfl) ?_;refine bK rfl rfl rfl (bG hT rfl) ?_;refine cB (fun hg75=>?_) (fun hg75=>?_)
     ·have hg75:=gR hg75;have hrt:kU x.arr=false:=by simpa using hg75
      refine fM rfl rfl rfl ?_;refine fM rfl rfl rfl ?_;refine fM rfl rfl rfl ?_;refine fM rfl rfl rfl ?_;refine fM rfl rfl rfl ?_;refine bK rfl rfl rfl (bG hT rfl) ?_;refine cA<|bC<|cG rfl rfl ?_;refine bB<|bK rfl rfl rfl (kO rfl Tryz.underlying32 (fun _ e=>by cases e) rfl) ?_;refine kQ rfl rfl rfl ?_;refine dK ?_;refine gQ ?_;refine dK ?_;refine dK ?_;refine gQ ?_;exact gJ ((none,0),[]) (by rw [hRL];exact load_bad hinv9.2.2.1 (dE hu) (by show ¬u.input<0;omega) (uT hx) (by first | (rintro⟨e,_⟩;rw [e] at hrt;cases hrt;done) | (rintro⟨_,e⟩;exact hne e)))
     ·have hg75:=gS hg75;have hrt:kU x.arr=true:=by simpa using hg75
      refine bK rfl rfl rfl (bG hT rfl) ?_;refine bK rfl rfl rfl (bR hT (dO .head) rfl rfl rfl rfl rfl) ?_;refine bK rfl rfl rfl (bG hT rfl) ?_;refine iH (cE Tryz.func85 rfl rfl) (equal_spec x.sides.addr y5.1 x.sides.cap y5.2 x.sides.list (rnSides m.dims.list u.c) (by omega)) rfl rfl rfl rfl rfl .nil (.cons (.tail (.tail .head)) .nil) (rV kZ) ⟨Has.of (.tail _ (.tail _ (.head _))),Has.of (.head _),trivial⟩ (fun _=>True) (fun _ _ _ _=>trivial) fun _ _=>?_;refine bK rfl rfl rfl (bG hT rfl) ?_;refine bK rfl rfl rfl (bG hT rfl) ?_;refine cA<|bC<|bL rfl (fun hc81=>?_) (fun hc81=>?_)
      ·have hc81:=gR hc81;have hne:x.arr.sides≠(rnSides m.dims.list u.c):=by have h:=hc81;simp at h;exact h
       refine bB<|bK rfl rfl rfl (kO rfl Tryz.underlying32 (fun _ e=>by cases e) rfl) ?_;refine kQ rfl rfl rfl ?_;refine dK ?_;refine gQ ?_;refine dK ?_;refine dK ?_;refine gQ ?_;exact gJ ((none,0),[]) (by rw [hRL];exact load_bad hinv9.2.2.1 (dE hu) (by show ¬u.input<0;omega) (uT hx) (by first | (rintro⟨e,_⟩;rw [e] at hrt;cases hrt;done) | (rintro⟨_,e⟩;exact hne e)))
      ·have hc81:=gS hc81;have hse:x.arr.sides=(rnSides m.dims.list u.c):=by have h:=hc81;simp at h;exact h
       refine bO<|bC<|jG 12 _ _ [(true,0),(true,1),(true,2),(true,3),(true,4),(true,5),(true,6),(false,7),(false,8),(false,9),(true,10),(true,11)] dS (by decide+kernel) (.cons .head (.cons .head (.cons .head (.cons .head (.cons .head (Sel.skip Sel.self)))))) bQ.self ?_;refine puL hT ?_;refine puL hT ?_;refine puL hT ?_;refine puL hT ?_;refine stL rfl (bR hT (jD (.tail .head)) rfl rfl rfl rfl rfl) ?_;refine puL hT ?_;refine stL rfl (bR hT (fE .head) rfl rfl rfl rfl rfl) ?_;refine hY (o:=_) rfl ?_;refine cK Tryz.func43 (wB x.data.addr x.data.cap x.data.list (by omega)) rfl rfl .nil ⟨Has.of (.head _),trivial⟩ fun y11=>?_;refine gZ (.cons (.tail .head) (.cons (.tail .head) (.cons (.tail .head) (.cons (.tail .head) (.cons (.tail .head) (Sel.skip (Sel.skip Sel.self))))))) (bQ.drop 0) ?_;refine hY (o:=_) rfl ?_;refine pV (m:=(⟨y11.1,y11.2,x.data.list⟩:Sl Int)) rfl rfl rfl rfl rfl fun b12=>?_;refine gZ (.cons (.tail (.tail .head)) (.cons (.tail (.tail .head)) (.cons (.tail (.tail .head)) (.cons (.tail (.tail .head)) (.cons (.tail (.tail .head)) (Sel.skip (Sel.skip (Sel.skip Sel.self)))))))) (bQ.drop 0) ?_;refine hY (o:=_) rfl ?_;refine qD (.tail (.tail (.tail (.tail (.tail (.tail (.tail .head))))))) (dP .head rfl) rfl rfl rfl rfl rfl rfl rfl (by show M.length+1≤_;omega) fun A13 c14=>?_;refine gZ (.cons (.tail (.tail (.tail .head))) (.cons (.tail (.tail (.tail .head))) (.cons (.tail (.tail (.tail .head))) (.cons (.tail (.tail (.tail .head))) (.cons (.tail (.tail (.tail .head))) (Sel.skip (Sel.skip (Sel.skip Sel.self)))))))) (bQ.drop 0) ?_;refine puL hT ?_;refine puL hT ?_;refine hU (o:=_) rfl ?_;refine hZ hT rfl rfl rfl rfl rfl (.tail (.tail (.tail (.tail .head)))) rfl rfl rfl rfl rfl ?_;refine iX<|bY<|bC<|bB<|bK rfl rfl rfl (bG hT rfl) ?_;refine bZ (z':=(((i+1):Nat):Int)) (cV (by omega) (by omega)) ?_;refine bK rfl rfl rfl (bG hT rfl) ?_;refine cA<|bC<|qG (E:=cQ) (.tail (.tail (.tail .head))) ?_;refine gB (.cons .head (.cons .head (.cons (.tail (.tail (.tail (.tail (.tail .head))))) (.cons .head (Sel.skip (Sel.skip (Sel.skip (Sel.skip Sel.self)))))))) ?_;refine cR (wS M ⟨y11.1,y11.2,x.data.list⟩ [_,_,_]) ?_;exact gH ((A13,c14),M++[⟨y11.1,y11.2,x.data.list⟩],i+1) (by dsimp only;omega) ⟨rfl,trivial⟩ ⟨rfl,rfl,rfl,rfl,trivial⟩ (List.Perm.refl _) ⟨Has.pure (⟨by dsimp only;omega,by dsimp only;rw [List.length_append,List.length_singleton];omega,by dsimp only;rw [List.map_append];exact bHg hinv9.2.2.1 (dE hu) (by show ¬u.input<0;omega) (uT hx) hrt hse,sH hinv9.2.2.2 (by exact bCq hrt)⟩),trivial⟩ (bQ.drop 4)
   ·have hc41:=Int.not_lt.1 (of_decide_eq_false hc41);refine cU<|cI<|cI<|cT ?_;have hLe:=hRL.trans (load_end hinv9.2.2.1 (by rw [dI];omega));exact xL (q,M) rfl (.cons .head (.cons .head (.cons .head Sel.self))) ⟨Has.pure ⟨hLe,by show M.length=_;omega,hinv9.2.2.2⟩,trivial⟩ (by rw [hLe];rfl) rfl
end Go.Proofs.YtnmhcaahkaocgaaGreatDoor
