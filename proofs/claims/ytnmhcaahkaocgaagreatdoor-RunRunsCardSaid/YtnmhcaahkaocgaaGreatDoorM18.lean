/- Texts of one proof, one behind the other: QI, ArrM, RgA, QJ, QK, NewS, KeptA, QL, TysY. -/
import Derived.Test.YtnmhcaahkaocgaaGreatDoorM17
import Derived.Test.YtnmhcaahkaocgaaGreatDoorM14
import Derived.Test.YtnmhcaahkaocgaaGreatDoorM2
import Derived.Test.YtnmhcaahkaocgaaGreatDoorM12
import Derived.Test.YtnmhcaahkaocgaaGreatDoorM9
import Derived.Test.YtnmhcaahkaocgaaGreatDoorM4
import Derived.Test.YtnmhcaahkaocgaaGreatDoorM7
import Derived.Test.YtnmhcaahkaocgaaGreatDoorM13
namespace Go.Proofs.YtnmhcaahkaocgaaGreatDoor
open Go.RowKit
theorem cap_turnsQ{ks:List Int}{L:Int}(hk: ∀k∈ks,0≤k)(hL:1≤L):let r:=(if ks.contains 0=true then 0 else capN 2097153 ks 1)*L
  (gT ks*L≤2097152→r=gT ks*L)∧(2097152<gT ks*L→2097152<r):=by
 intro r
 by_cases hc:ks.contains 0=true
 ·have h0:=bFx hc;have hr:r=0*L:=by show(if _ then _ else _)*L=_;rw [if_pos hc]
  rw [hr,h0];exact⟨fun _=>rfl,fun h=>h⟩
 ·have hr:r=capN 2097153 ks 1*L:=by show(if _ then _ else _)*L=_;rw [if_neg hc]
  obtain⟨c0,_,c1,c2⟩:=capN_is (M:=2097152) (C:=2097153) (by decide) (by decide) hk (n:=1) (by decide) (by decide);rw [Int.one_mul] at c1 c2;rw [hr]
  by_cases hp:gT ks≤2097152
  ·rw [c1 hp];exact⟨fun _=>rfl,fun h=>h⟩
  ·have h2:=c2 (by omega);have h3:capN 2097153 ks 1*1≤capN 2097153 ks 1*L:=Int.mul_le_mul_of_nonneg_left hL c0;have h4:gT ks*1≤gT ks*L:=Int.mul_le_mul_of_nonneg_left hL (by omega);exact⟨fun h=>by omega,fun _=>by omega⟩
section
variable {ds : List Int} {x : fG} {t tn : Int} {l : List Int} {mem mem' : List (List Int)}
theorem bFu(hl: ∀z∈l,0≤z∧z≤65536)(hL:1≤x.ops.length)(ht:0≤t):(t+zN x l≤2097152↔t+fH x l≤2097152)∧(t+zN x l≤2097152→zN x l=fH x l):=by
 have h:=cap_turnsQ (ks:=ksR x l) (L:=x.ops.length) (fun k hk=>(ks_in (x:=x) hl k hk).1) (by omega);have e1:zN x l=(if (ksR x l).contains 0=true then 0 else capN 2097153 (ksR x l) 1)*x.ops.length:=rfl;have e2:fH x l=gT (ksR x l)*x.ops.length:=rfl;rw [e1,e2];generalize (if (ksR x l).contains 0=true then 0 else capN 2097153 (ksR x l) 1)*(x.ops.length:Int)=r at h⊢;generalize gT (ksR x l)*(x.ops.length:Int)=p at h⊢;obtain⟨h1,h2⟩:=h
 by_cases hp:p≤2097152
 ·have:=h1 hp;omega
 ·have:=h2 (by omega);omega
theorem turnsq_no(h:TurnsQ ds x t l false tn)(hL:1≤x.ops.length)(ht:0≤t):kY ds x ⟨mem,t⟩= .error 122:=by
 rw [uP];unfold gX
 rcases h with ⟨h1,_⟩ | ⟨h1,h2,h3,h4,_⟩
 ·rw [h1];rfl
 ·rw [h1];have h5:=of_decide_eq_false h3.symm;have h6:=(bFu h4 hL ht).1;show Except.bind (if 2097152<t+fH x l then Except.error 122 else Except.ok l) _=_;rw [if_pos (by omega)];rfl
theorem turnsq_yes(h:TurnsQ ds x t l true tn)(hL:1≤x.ops.length)(ht:0≤t):gX ds x t= .ok l∧tn=t+fH x l∧tn≤2097152∧l.length=x.loops.length:=by
 rcases h with ⟨_,h⟩ | ⟨h1,h2,h3,h4,h5⟩
 ·cases h
 ·have h6:=of_decide_eq_true h3.symm;have h7:=bFu h4 hL ht;have h8:=h7.2 (by omega);refine⟨?_,by omega,h6,h5⟩;unfold gX;rw [h1];show(if 2097152<t+fH x l then Except.error 122 else Except.ok l)=_;rw [if_neg (by omega)]
theorem yQ(hc:gX ds x t= .ok l)(hw:lJ ds x (l.getLastD 0) (if x.how=2 then l.dropLast else l) mem= .ok mem'):kY ds x ⟨mem,t⟩= .ok ⟨mem',t+fH x l⟩:=bBj (m:=⟨mem,t⟩) hc hw
theorem nE{e:Int}(hc:gX ds x t= .ok l)(hw:lJ ds x (l.getLastD 0) (if x.how=2 then l.dropLast else l) mem= .error e):kY ds x ⟨mem,t⟩= .error e:=by
 rw [uP];show(gX ds x t).bind _=_;rw [hc];show(lJ ds x (l.getLastD 0) (if x.how=2 then l.dropLast else l) mem).map _=_;rw [hw];rfl
end
section
variable {ds : List Int} {x : fG} {many last v v' e : Int} {at_ : List Int} {n : Nat} {mem mem' : List (List Int)}
theorem tq2_e(h:x.how=2)(hf:rnFold ds mem at_ x many.toNat 0 (unitW x.fn).1= .error e):dU ds x many at_ last n mem= .error e:=by
 unfold dU;rw [if_pos h,hf];rfl
theorem tq2_p(h:x.how=2)(hf:rnFold ds mem at_ x many.toNat 0 (unitW x.fn).1= .ok v)(hp:iM ds x n v mem= .error e):dU ds x many at_ last n mem= .error e:=by
 unfold dU;rw [if_pos h,hf];show(iM ds x n v mem).map _=_;rw [hp];rfl
theorem tq2_k(h:x.how=2)(hf:rnFold ds mem at_ x many.toNat 0 (unitW x.fn).1= .ok v)(hp:iM ds x n v mem= .ok mem'):dU ds x many at_ last n mem= .ok (last,mem'):=by
 unfold dU;rw [if_pos h,hf];show(iM ds x n v mem).map _=_;rw [hp];rfl
theorem tqn_e(h:x.how≠2)(hf:dR ds mem at_ x.ops= .error e):dU ds x many at_ last n mem= .error e:=by
 unfold dU;rw [if_neg h,hf];rfl
theorem tqn_d(h:x.how≠2)(hf:dR ds mem at_ x.ops= .ok v)(hq:(if x.how=3∧0<at_.getLastD 0 then rnMust (dyadW x.fn last v) else .ok v)= .error e):dU ds x many at_ last n mem= .error e:=by
 unfold dU;rw [if_neg h,hf];show(if _ then _ else _:Rn Int).bind _=_;rw [hq];rfl
theorem tqn_p(h:x.how≠2)(hf:dR ds mem at_ x.ops= .ok v)(hq:(if x.how=3∧0<at_.getLastD 0 then rnMust (dyadW x.fn last v) else .ok v)= .ok v')(hp:iM ds x n v' mem= .error e):dU ds x many at_ last n mem= .error e:=by
 unfold dU;rw [if_neg h,hf];show(if _ then _ else _:Rn Int).bind _=_;rw [hq];show(iM ds x n v' mem).map _=_;rw [hp];rfl
theorem tqn_k(h:x.how≠2)(hf:dR ds mem at_ x.ops= .ok v)(hq:(if x.how=3∧0<at_.getLastD 0 then rnMust (dyadW x.fn last v) else .ok v)= .ok v')(hp:iM ds x n v' mem= .ok mem'):dU ds x many at_ last n mem= .ok (v',mem'):=by
 unfold dU;rw [if_neg h,hf];show(if _ then _ else _:Rn Int).bind _=_;rw [hq];show(iM ds x n v' mem).map _=_;rw [hp];rfl
theorem hq_no(h: ¬(x.how=3∧0<at_.getLastD 0)):(if x.how=3∧0<at_.getLastD 0 then rnMust (dyadW x.fn last v) else .ok v:Rn Int)= .ok v:=if_neg h
theorem hq_ok(h:x.how=3∧0<at_.getLastD 0)(hd:(dyadW x.fn last v).2=0):(if x.how=3∧0<at_.getLastD 0 then rnMust (dyadW x.fn last v) else .ok v:Rn Int)= .ok (dyadW x.fn last v).1:=by
 rw [if_pos h];unfold rnMust;rw [if_pos hd]
theorem hq_er(h:x.how=3∧0<at_.getLastD 0)(hd:(dyadW x.fn last v).2≠0):(if x.how=3∧0<at_.getLastD 0 then rnMust (dyadW x.fn last v) else .ok v:Rn Int)= .error (dyadW x.fn last v).2:=by
 rw [if_pos h];unfold rnMust;rw [if_neg hd]
end
theorem nJ{ds:List Int}{x:fG}{many:Int}{lr r:List Int}{last e:Int}{n m:Nat}{mem:List (List Int)}{W:Rn (List (List Int))}(h:W=rnWalk ds x many lr (m+1) r last n mem)(hu:dU ds x many r.reverse last n mem= .error e):W= .error e:=by
 have e1:rnWalk ds x many lr (m+1) r last n mem=(dU ds x many r.reverse last n mem).bind fun y=>match kR r lr with
  | some r'=>rnWalk ds x many lr m r' y.1 (n+1) y.2
  | none=> .ok y.2:=rfl
 rw [h,e1,hu];rfl
theorem I_put{ds:List Int}{x:fG}{n:Nat}{v:Int}{mem mem':List (List Int)}(h:iM ds x n v mem= .ok mem')(hm: ∀r∈mem,∀z∈r,I64 z)(hv:I64 v): ∀r∈mem',∀z∈r,I64 z:=by
 unfold iM at h;obtain⟨a,_,h⟩:=bBv h;split at h
 ·cases h
 ·cases h;intro r hr z hz;obtain⟨k,hk⟩:=List.getElem?_of_mem hr;rw [List.getElem?_modify] at hk
  cases hg:mem[k]? with
  | none=>rw [hg] at hk;cases hk
  | some d=>
   rw [hg] at hk;have hd:=List.mem_of_getElem? hg;simp at hk;subst hk;split at hz
   ·rcases List.mem_or_eq_of_mem_set hz with h1 | h1
    ·exact hm d hd z h1
    ·exact h1▸hv
   ·exact hm d hd z hz
theorem inR_I{at_ l:List Int}(h:InR at_.reverse l.reverse)(hl: ∀k∈l,0≤k∧k≤65536)(hal:at_.length=l.length): ∀z∈at_,I64 z:=fun z hz=>by
 obtain⟨k,hk⟩:=List.getElem?_of_mem hz;have hlt:=(List.getElem?_eq_some_iff.1 hk).1;have hb:l[k]?=some (l[k]'(by omega)):=List.getElem?_eq_getElem (by omega);have h1:=inR_rev h hk hb;have h2:=hl _ (List.mem_of_getElem? hb);unfold I64;omega
theorem last_at{l:List Int}{z:Int}(h:l[l.length-1]?=some z):l.getLastD 0=z:=by
 rw [List.getLastD_eq_getLast?,List.getLast?_eq_getElem?,h];rfl
theorem isSome_none{α:Type}{o:Option α}(h:o.isSome=false):o=none:=by
 cases o with
 | none=>rfl
 | some a=>cases h
theorem sl_eqL{F:List bU}{A:Option Addr}{c n:Nat}{xs ys:List Int}(h:Has F (cQ.sl (.slice A n c) xs))(e:xs=ys)(e2:n=ys.length):Has F (cQ.sl (.slice A ys.length c) ys):=by
 subst e;rw [←e2];exact h
set_option maxHeartbeats 4000000 in
set_option maxRecDepth 100000 in
theorem stepQ_spec(mb:Nat)(m:gF)(x:fV)(r0:Sl Int)(hN: ∀p∈polsL x.loops.list,(evalP p m.dims.list).2=0→0≤(evalP p m.dims.list).1)(hlo:x.ops.list.length≤256)(hL1:1≤x.ops.list.length)(hll:x.loops.list.length≤4)(hne:x.how=2→x.loops.list≠[])(hne3:x.how=3→x.loops.list≠[])(ht0:0≤m.turns)(ht1:m.turns≤2097152)(hb0:0≤x.buf)(hr0:m.mem.list[x.buf.toNat]?=some r0)(hrl0:r0.list.length≤1000000)(hA:(evalP x.at_.list m.dims.list).2=0→0≤(evalP x.at_.list m.dims.list).1)(hO:vU (opsL x.ops.list) x.loops.list.length m.mem.list.length)(hD:Deep (opsL x.ops.list) 0)(hNn: ∀o∈opsL x.ops.list,I64 o.n)(hMm: ∀r∈memL m,∀z∈r,I64 z)(hdl:m.dims.list.length≤140737488355328):dM Tryz.prog 46 [.pointer (some ⟨mb,0,none⟩),.agg #[.int .i64 x.how,.int .i64 x.buf,.slice x.at_.addr x.at_.list.length x.at_.cap,.slice x.loops.addr x.loops.list.length x.loops.cap,.int .u8 x.fn,.slice x.ops.addr x.ops.list.length x.ops.cap]] (rfH mb m) [kB x,cQ.sl (.slice m.dims.addr m.dims.list.length m.dims.cap) m.dims.list] (fun(y:List (Sl Int)×Int×Int)=> .int .i64 y.2.2) (fun(y:List (Sl Int)×Int×Int)=>rfH mb ((m.tu y.2.1).me y.1)) (fun(y:List (Sl Int)×Int×Int)=>[bU.pure (rres y.2.2 (kY m.dims.list x.c ⟨memL m,m.turns⟩) ⟨y.1.map (·.list),y.2.1⟩∧(y.2.2=0→fQ y.1 m.mem.list∧(∀r∈y.1.map (·.list),∀z∈r,I64 z)∧0≤y.2.1∧y.2.1≤2097152))]):=by
 have hT:=cZ;refine cO Tryz.func46 rfl Tryz.ntmps46 rfl ?_;intro β hM;refine bE<|cL (bDg x.ops) (nV (Has.of mT0)) ?_;refine bB<|gG rfl rfl rfl rfl rfl rfl fun b1=>?_;refine sp hT ?_;refine nn<|sr<|sp hT ?_;refine ss (ldN hT (dO .head)) ?_;refine cR (List.perm_append_comm (l₁:=[_])) ?_;refine cK Tryz.func99 (turnsQ_spec mb m x hN hlo hll hne ht0 ht1 hdl) rfl rfl (fZ.front _ _) ⟨Has.of mT1,Has.of mT2,trivial⟩ fun⟨⟨LA,lc⟩,l,tok,tn⟩=>?_;refine cR List.perm_append_comm ?_;dsimp only;refine cD (Has.of mT0) fun htq=>?_;have htq:TurnsQ m.dims.list x.c m.turns l tok tn:=htq;have hL1':1≤x.c.ops.length:=by rw [show x.c.ops.length=_ from dV _];exact hL1
 refine sp4 hT ?_;refine sp hT ?_;refine nn<|bE<|sr<|sp2 hT ?_;refine nn<|bL rfl (fun hc21=>?_) (fun hc21=>?_)
 ·have hc21:=gR hc21;refine sr<|sp hT ?_;refine nn<|bI<|bH ?_;have htk:tok=false:=by first | assumption | simp_all
  subst htk;exact bN (m.mem.list,tn,122) rfl (bD rfl) (.cons kT2 (.cons kT2 (Sel.skip (Sel.skip Sel.self)))) ⟨Has.pure ⟨.inr ⟨show(122:Int)≠0 by decide,turnsq_no htq hL1' ht0⟩,fun h=>absurd h (show(122:Int)≠0 by decide)⟩,trivial⟩ rfl
 have hc21:=gS hc21;refine bO<|bC<|bE ?_;have htk:tok=true:=by first | assumption | simp_all
 subst htk;obtain⟨hct,htn,htn2,hlen⟩:=turnsq_yes htq hL1' ht0;have hcin:=bFm hct hN hL1' ht0;have hlen2:l.length=x.loops.list.length:=hlen.trans (dC _);have hl65:=hcin.1;have htn0:0≤tn:=by have:=hcin.2.2.1;omega
 refine at_cap kT1 fun hcap=>?_;have hcap:l.length≤lc:=hcap;refine lE (E:=cQ) kT1 ?_;refine bB<|sp2 hT ?_;refine nn<|bE<|sr<|sp hT ?_;refine ss (ldO hT (dO .head)) ?_;refine sp hT ?_;refine nn<|bL rfl (fun hc25=>?_) (fun hc25=>?_)
 ·have hc25:=eq_of_beq hc25;have hh2:x.c.how=2:=by assumption
  refine bB<|sp4 hT ?_;refine bZ (z':=((l.length-1:Nat):Int)) (by rw [show((l.length:Nat):Int)-1=((l.length-1:Nat):Int) by have:=mI (hne hh2);omega];exact cV rfl (by omega)) ?_;refine cL (cQ.sl (.slice LA (l.length-1) lc) (l.take (l.length-1))) (has_take (Has.of mT0) (by omega)) ?_;refine ss (bHk hT (k:=(l.length-1)) rfl rfl rfl rfl rfl rfl (by omega)) ?_;refine sp hT ?_
  obtain⟨ol,hol2⟩: ∃ol,l.take (l.length-1)=ol:=⟨_,rfl⟩
  have hoe:l.length-1=ol.length:=by rw [←hol2,List.length_take];omega
  refine at_val (v':= .slice LA ol.length lc) (by rw [hoe]) ?_;refine cL (cQ.sl (.slice LA ol.length lc) ol) (sl_eqL (Has.of mT0) hol2 hoe) ?_;have hwol:(if x.c.how=2 then l.dropLast else l)=ol:=by rw [if_pos hh2,List.dropLast_eq_take];exact hol2
  have hol65: ∀k∈ol,0≤k∧k≤65536:=fun k hk=>hl65 k (List.mem_of_mem_take (hol2▸hk));have holn:ol.length+1=x.loops.list.length:=by have:=mI (hne hh2);omega
  refine nn<|bE<|sr<|sp hT ?_;refine cK Tryz.func100 (bFd LA lc ol (by omega)) rfl rfl .nil ⟨(Has.of mT0),trivial⟩ fun _=>?_;refine nn<|bL rfl (fun hc32=>?_) (fun hc32=>?_)
  ·refine sr<|sp hT ?_;refine nn<|bI<|bH ?_;have hse:=yQ (mem':=memL m) hct (by unfold lJ;rw [hwol,if_pos ‹_›]);rw [←htn] at hse;exact bN (m.mem.list,tn,0) rfl (bD rfl) (.cons kT1 (.cons kT1 (Sel.skip Sel.self))) ⟨Has.pure ⟨.inl ⟨rfl,hse⟩,fun _=>⟨fQ.refl _,hMm,htn0,htn2⟩⟩,trivial⟩ rfl
  refine bO<|bC<|sr<|sp2 hT ?_;refine pD (m:=ol.length) rfl rfl rfl rfl rfl rfl (by omega) fun ab=>?_;refine sp hT ?_;refine nn<|sr<|sp hT ?_;refine nn<|sr<|sp hT ?_;refine nn<|bE<|bE ?_;have hc0:ol.contains 0=false:=by first | assumption | simp_all
  obtain⟨W,hW⟩: ∃W,rnWalk m.dims.list x.c (l.getLastD 0) ol.reverse (sizeR ol.reverse).toNat (List.replicate ol.length 0) 0 0 (memL m)=W:=⟨_,rfl⟩
  have hWK:lJ m.dims.list x.c (l.getLastD 0) (if x.c.how=2 then l.dropLast else l) (memL m)=W:=by unfold lJ;rw [hwol,if_neg (by rw [hc0];simp),hW]
  have hin0:=inR_rep (fun k hk=>(hol65 k hk).1) hc0;have hrk0:=sO hin0;rw [qZ] at hrk0;have hsz:sizeR ol.reverse≤4000000:=by have:=hcin.2.2.2.2;rw [hwol] at this;exact this
  refine gB (.cons kT1 (.cons .head (.cons .head (.cons .head Sel.self)))) ?_;refine bB<|sp hT ?_;refine nn<|bW<|mJ (ι:=List (Sl Int)×Int×Nat×List Int×Bool×Int) [(0,_),(3,_),(5,_),(7,_),(8,_)] ⟨rfl,rfl,rfl,rfl,rfl,trivial⟩ (fun⟨M,last,n,at_,more,g⟩=>[(9,.int .i64 last),(10,.bool more),(11,.int .i64 (n:Nat))]) (fun⟨M,last,n,at_,more,g⟩=> .obj b1 (.cells ([.int .i64 x.how,.int .i64 x.buf,.slice x.at_.addr x.at_.list.length x.at_.cap,.slice x.loops.addr x.loops.list.length x.loops.cap,.int .u8 x.fn,.slice x.ops.addr x.ops.list.length x.ops.cap]:List Value).toArray 61)::cQ.row (.slice (some ⟨ab,0,none⟩) ol.length ol.length) 2 at_::rfH mb ((m.tu tn).me M)) (fun⟨M,last,n,at_,more,g⟩=>[bU.pure (fQ M m.mem.list∧(∀r∈M.map (·.list),∀z∈r,I64 z)∧I64 last∧at_.length=ol.length∧(x.c.how≠2→g=last)∧(more=true→InR at_.reverse ol.reverse∧(n:Int)=oR at_.reverse ol.reverse∧W=rnWalk m.dims.list x.c (l.getLastD 0) ol.reverse ((sizeR ol.reverse).toNat-n) at_.reverse g n (M.map (·.list)))∧(more=false→W= .ok (M.map (·.list))))]) (fun⟨M,last,n,at_,more,g⟩=>(sizeR ol.reverse).toNat-n) (m.mem.list,0,0,List.replicate ol.length 0,true,0) ⟨rfl,rfl,rfl,trivial⟩ (List.Perm.refl _) ⟨Has.pure (⟨fQ.refl _,hMm,I_0,by simp,fun _=>rfl,fun _=>⟨hin0,qZ.symm,by rw [List.reverse_replicate,Nat.sub_zero];exact hW.symm⟩,fun h=>by cases h⟩),trivial⟩ ?_;rintro⟨M,last,n,at_,more,g⟩;dsimp only;refine cD (Has.of mT0) fun hinv13=>?_;obtain⟨hsm,hMI,hIl,hal,hgl,hmt,hmf⟩:=hinv13;refine bE<|sr<|sp hT ?_;refine nn<|bL rfl (fun hc36=>?_) (fun hc36=>?_)
  ·refine bO<|bC<|bE<|bW<|bE ?_;obtain⟨hin1,hnk,hW2⟩:=hmt ‹_›;have hrk:=sO hin1;obtain⟨r,hr,hrl⟩:=bDw hsm hr0
   obtain⟨lf,hlf⟩: ∃q,(sizeR ol.reverse).toNat-n=q+1:=⟨(sizeR ol.reverse).toNat-n-1,by omega⟩
   rw [hlf] at hW2;have hAI:=inR_I hin1 hol65 hal;have hMlen:M.length=m.mem.list.length:=fQ.len hsm;refine bB<|sp hT ?_;refine nn<|sr<|sp hT ?_;refine nn<|bE<|sr<|sp hT ?_;refine ss (ldO hT (dO .head)) ?_;refine sp hT ?_;refine bT (t':=true) (by rw [hc25];rfl) ?_;refine nn<|cG rfl rfl ?_
   obtain⟨zl,hzl⟩: ∃z,l[l.length-1]?=some z:=⟨_,List.getElem?_eq_getElem (by have:=mI (hne hh2);omega)⟩
   have hzg:zl=l.getLastD 0:=(last_at hzl).symm;refine fJ _ _ [(true,0),(true,1),(true,2),(true,3),(true,4),(true,5),(true,6),(true,7),(true,8),(false,9),(true,10),(true,11),(true,12),(true,13),(true,14)] dS (by decide+kernel) (.cons .head .nil) bQ.self ?_;refine puM hT ?_;refine stM rfl (ldN hT (dO .head)) ?_;refine puM hT ?_;refine puM hT ?_;refine puM hT ?_;refine puM hT ?_;refine puM hT ?_;refine bZ (z':=((l.length-1:Nat):Int)) (by rw [show((l.length:Nat):Int)-1=((l.length-1:Nat):Int) by have:=mI (hne hh2);omega];exact cV rfl (by omega)) ?_;refine stM rfl (bV hT (k:=(l.length-1)) (bP (Has.of mT3)) rfl rfl rfl rfl rfl rfl rfl (by have:=mI (hne hh2);omega)) ?_;refine stM rfl (bR hT (cM.knows (bP (Has.of mT3)) (k:=(l.length-1)) (x:=zl) hzl 0) rfl rfl rfl rfl rfl) ?_;refine fN (o:=_) rfl ?_;refine cR (List.perm_append_comm (l₁:=[_])) ?_;refine cK Tryz.func101 (foldQ_spec mb ((m.tu tn).me M) x (some ⟨ab,0,none⟩) ol.length ol.length at_ hal.symm zl (by omega) (hl65 zl (List.mem_of_getElem? hzl)).2 hlo (by rw [hal,show ol.length+1=_ from holn,show(((m.tu tn).me M)).mem.list.length=m.mem.list.length from hMlen];exact hO) hD hNn hAI hMI hdl) rfl rfl (fZ.front _ _) ⟨Has.of mT6,Has.of mT7,trivial⟩ fun fo=>?_;refine cR List.perm_append_comm ?_;refine cD (Has.of mT0) fun hfo=>?_;refine fO (.cons .head .nil) (bQ.drop 1) ?_
   rcases hfo with ⟨⟨hf0,hfo⟩ | ⟨hf0,hfo⟩,hfI⟩
   ·have hIv:=hfI hf0;refine puM hT ?_;refine puM hT ?_;refine puM hT ?_;refine puM hT ?_;refine puM hT ?_;refine cW<|bC<|bE<|sr<|sp2 hT ?_;refine bT (t':=true) (by show(fo.2==0)=true;rw [hf0];rfl) ?_;refine sp2 hT ?_;refine ss (ldO hT (dO .head)) ?_;refine sp hT ?_;refine bT (t':=false) (by rw [hc25];rfl) ?_;refine sp2 hT ?_;refine sk4 ?_;refine sk3 ?_;refine sp hT ?_;refine nn<|bS rfl rfl ?_;refine bO<|bC<|bE<|sr<|sp2 hT ?_;refine bT (t':=true) (by show(fo.2==0)=true;rw [hf0];rfl) ?_;refine nn<|cG rfl rfl ?_;refine bB<|sp hT ?_;refine ss (ldN hT (dO .head)) ?_;refine sp2 hT ?_;refine cR (List.perm_append_comm (l₁:=[_,_])) ?_;refine cK Tryz.func104 (uV mb ((m.tu tn).me M) x n fo.1 r hb0 hr hA (by omega) (by omega) hdl) rfl rfl (fZ.front _ _) ⟨Has.of mT7,Has.of mT8,trivial⟩ fun py=>?_;refine cR List.perm_append_comm ?_;refine cD (Has.of mT0) fun hpy=>?_
    rcases hpy with ⟨⟨hp0,hpk⟩ | ⟨hp0,hpk⟩,hpS⟩
    ·have hTk:dU m.dims.list x.c (l.getLastD 0) at_.reverse.reverse g n (M.map (·.list))= .ok (g,py.1.map (·.list)):=by rw [List.reverse_reverse];exact tq2_k hh2 (hzg▸hfo) hpk
     refine sp hT ?_;refine nn<|bE<|sr<|sp2 hT ?_;refine bT (t':=false) (by show(!(py.2==0))=false;rw [hp0];rfl) ?_;refine nn<|bS rfl rfl ?_;refine bO<|bC<|sr<|sp2 hT ?_;refine nn<|bB<|sp2 hT ?_;refine cK Tryz.func105 (rZ (some ⟨ab,0,none⟩) LA ol.length ol.length lc at_ ol hal.symm hal hin1 (fun k hk=>(hol65 k hk).2) (by omega)) rfl rfl (.cons kT1 .nil) ⟨(Has.of mT3),trivial⟩ fun ny=>?_;refine cD (Has.of mT0) fun hny=>?_;refine sp hT ?_;refine cA<|bY<|bC<|bB<|sp2 hT ?_;refine bZ (z':=(((n+1):Nat):Int)) (cV (by omega) (by omega)) ?_;refine sp hT ?_;refine nn<|gB (.cons kT1 (.cons .head (.cons .head (.cons .head Sel.self)))) ?_;exact gH (py.1,fo.1,n+1,ny,(kR at_.reverse ol.reverse).isSome,g) (by dsimp only;omega) ⟨rfl,rfl,rfl,trivial⟩ ⟨rfl,rfl,rfl,rfl,rfl,trivial⟩ (List.Perm.refl _) ⟨Has.pure (⟨hpS.trans hsm,I_put (x:=x.c) hpk hMI hIv,hIv,hny.1.trans hal,fun h=>absurd hh2 h,fun h=>⟨(jO hin1 (hny.2 h)).1,by dsimp only;rw [(jO hin1 (hny.2 h)).2];omega,by dsimp only;rw [show(sizeR ol.reverse).toNat-(n+1)=lf by omega];exact pG hW2 hTk (hny.2 h)⟩,fun h=>tM hW2 hTk (isSome_none h)⟩),trivial⟩ (bQ.drop 4)
    refine sp hT ?_;refine nn<|bE<|sr<|sp2 hT ?_;refine bT (t':=true) (by show(!(py.2==0))=true;simp [hp0]) ?_;refine nn<|cG rfl rfl ?_;refine sr<|sp2 hT ?_;refine nn<|bI<|bH<|bM<|bH<|bH<|bM<|bH ?_;exact bN (py.1,tn,py.2) rfl (bD rfl) (.cons kT2 (.cons kT2 (Sel.skip (Sel.skip Sel.self)))) ⟨Has.pure ⟨.inr ⟨hp0,nE hct (hWK.trans (nJ hW2 (by rw [List.reverse_reverse];exact tq2_p hh2 (hzg▸hfo) hpk)))⟩,fun h=>absurd h hp0⟩,trivial⟩ rfl
   refine puM hT ?_;refine puM hT ?_;refine puM hT ?_;refine puM hT ?_;refine puM hT ?_;refine cW<|bC<|bE<|sr<|sp2 hT ?_;refine bT (t':=false) (by show(fo.2==0)=false;simp [hf0]) ?_;refine sp hT ?_;refine sk3 ?_;refine sp2 hT ?_;refine sk4 ?_;refine sk3 ?_;refine sp hT ?_;refine nn<|bS rfl rfl ?_;refine bO<|bC<|bE<|sr<|sp2 hT ?_;refine bT (t':=false) (by show(fo.2==0)=false;simp [hf0]) ?_;refine nn<|bS rfl rfl ?_;refine bO<|bC<|bE<|sr<|sp2 hT ?_;refine bT (t':=true) (by show(!(fo.2==0))=true;simp [hf0]) ?_;refine nn<|cG rfl rfl ?_;refine sr<|sp2 hT ?_;refine nn<|bI<|bH<|bM<|bH<|bH<|bM<|bH ?_;exact bN (M,tn,fo.2) rfl (bD rfl) (.cons kT2 (.cons kT2 (Sel.skip (Sel.skip Sel.self)))) ⟨Has.pure ⟨.inr ⟨hf0,nE hct (hWK.trans (nJ hW2 (by rw [List.reverse_reverse];exact tq2_e hh2 (hzg▸hfo))))⟩,fun h=>absurd h hf0⟩,trivial⟩ rfl
  refine cU<|cI<|cI<|cT<|bC<|sr<|sp hT ?_;refine nn<|bI ?_;have hse:=yQ hct (hWK.trans (hmf ‹_›));rw [←htn] at hse;exact bN (M,tn,0) rfl (bD rfl) (.cons kT2 (.cons kT2 (Sel.skip (Sel.skip Sel.self)))) ⟨Has.pure ⟨.inl ⟨rfl,hse⟩,fun _=>⟨hsm,hMI,htn0,htn2⟩⟩,trivial⟩ rfl
 have hc25:=beq_eq_false_iff_ne.1 hc25;have hh2:x.c.how≠2:=by assumption
 have hwol:(if x.c.how=2 then l.dropLast else l)=l:=if_neg hh2;have hol65:=hl65;have holn:l.length=x.loops.list.length:=hlen2;refine bO<|bC<|bE<|sr<|sp hT ?_;refine cK Tryz.func100 (bFd LA lc l (by omega)) rfl rfl .nil ⟨(Has.of mT0),trivial⟩ fun _=>?_;refine nn<|bL rfl (fun hc32=>?_) (fun hc32=>?_)
 ·refine sr<|sp hT ?_;refine nn<|bI<|bH ?_;have hse:=yQ (mem':=memL m) hct (by unfold lJ;rw [hwol,if_pos ‹_›]);rw [←htn] at hse;exact bN (m.mem.list,tn,0) rfl (bD rfl) (.cons kT1 (.cons kT1 (Sel.skip Sel.self))) ⟨Has.pure ⟨.inl ⟨rfl,hse⟩,fun _=>⟨fQ.refl _,hMm,htn0,htn2⟩⟩,trivial⟩ rfl
 refine bO<|bC<|sr<|sp2 hT ?_;refine pD (m:=l.length) rfl rfl rfl rfl rfl rfl (by omega) fun ab=>?_;refine sp hT ?_;refine nn<|sr<|sp hT ?_;refine nn<|sr<|sp hT ?_;refine nn<|bE<|bE ?_;have hc0:l.contains 0=false:=by first | assumption | simp_all
 obtain⟨W,hW⟩: ∃W,rnWalk m.dims.list x.c (l.getLastD 0) l.reverse (sizeR l.reverse).toNat (List.replicate l.length 0) 0 0 (memL m)=W:=⟨_,rfl⟩
 have hWK:lJ m.dims.list x.c (l.getLastD 0) (if x.c.how=2 then l.dropLast else l) (memL m)=W:=by unfold lJ;rw [hwol,if_neg (by rw [hc0];simp),hW]
 have hin0:=inR_rep (fun k hk=>(hol65 k hk).1) hc0;have hrk0:=sO hin0;rw [qZ] at hrk0;have hsz:sizeR l.reverse≤4000000:=by have:=hcin.2.2.2.2;rw [hwol] at this;exact this
 refine gB (.cons kT1 (.cons .head (.cons .head (.cons .head Sel.self)))) ?_;refine bB<|sp hT ?_;refine nn<|bW<|mJ (ι:=List (Sl Int)×Int×Nat×List Int×Bool×Int) [(0,_),(3,_),(5,_),(7,_),(8,_)] ⟨rfl,rfl,rfl,rfl,rfl,trivial⟩ (fun⟨M,last,n,at_,more,g⟩=>[(9,.int .i64 last),(10,.bool more),(11,.int .i64 (n:Nat))]) (fun⟨M,last,n,at_,more,g⟩=> .obj b1 (.cells ([.int .i64 x.how,.int .i64 x.buf,.slice x.at_.addr x.at_.list.length x.at_.cap,.slice x.loops.addr x.loops.list.length x.loops.cap,.int .u8 x.fn,.slice x.ops.addr x.ops.list.length x.ops.cap]:List Value).toArray 61)::cQ.row (.slice (some ⟨ab,0,none⟩) l.length l.length) 2 at_::rfH mb ((m.tu tn).me M)) (fun⟨M,last,n,at_,more,g⟩=>[bU.pure (fQ M m.mem.list∧(∀r∈M.map (·.list),∀z∈r,I64 z)∧I64 last∧at_.length=l.length∧(x.c.how≠2→g=last)∧(more=true→InR at_.reverse l.reverse∧(n:Int)=oR at_.reverse l.reverse∧W=rnWalk m.dims.list x.c (l.getLastD 0) l.reverse ((sizeR l.reverse).toNat-n) at_.reverse g n (M.map (·.list)))∧(more=false→W= .ok (M.map (·.list))))]) (fun⟨M,last,n,at_,more,g⟩=>(sizeR l.reverse).toNat-n) (m.mem.list,0,0,List.replicate l.length 0,true,0) ⟨rfl,rfl,rfl,trivial⟩ (List.Perm.refl _) ⟨Has.pure (⟨fQ.refl _,hMm,I_0,by simp,fun _=>rfl,fun _=>⟨hin0,qZ.symm,by rw [List.reverse_replicate,Nat.sub_zero];exact hW.symm⟩,fun h=>by cases h⟩),trivial⟩ ?_;rintro⟨M,last,n,at_,more,g⟩;dsimp only;refine cD (Has.of mT0) fun hinv13=>?_;obtain⟨hsm,hMI,hIl,hal,hgl,hmt,hmf⟩:=hinv13;refine bE<|sr<|sp hT ?_;refine nn<|bL rfl (fun hc36=>?_) (fun hc36=>?_)
 ·refine bO<|bC<|bE<|bW<|bE ?_;obtain⟨hin1,hnk,hW2⟩:=hmt ‹_›;have hrk:=sO hin1;obtain⟨r,hr,hrl⟩:=bDw hsm hr0
  obtain⟨lf,hlf⟩: ∃q,(sizeR l.reverse).toNat-n=q+1:=⟨(sizeR l.reverse).toNat-n-1,by omega⟩
  rw [hlf] at hW2;have hAI:=inR_I hin1 hol65 hal;have hMlen:M.length=m.mem.list.length:=fQ.len hsm;refine bB<|sp hT ?_;refine nn<|sr<|sp hT ?_;refine nn<|bE<|sr<|sp hT ?_;refine ss (ldO hT (dO .head)) ?_;refine sp hT ?_;refine bT (t':=false) (beq_eq_false_iff_ne.2 hc25) ?_;refine nn<|bS rfl rfl ?_;refine bB<|sp2 hT ?_;refine ss (ldO hT (jD .head)) ?_;refine sp hT ?_;refine cR (List.perm_append_comm (l₁:=[_])) ?_;refine cK Tryz.func102 (vF mb ((m.tu tn).me M) x.ops (some ⟨ab,0,none⟩) l.length l.length at_ hal.symm (by omega) (by rw [hal,show l.length=_ from holn,show(((m.tu tn).me M)).mem.list.length=m.mem.list.length from hMlen];exact hO) hD hNn hAI hMI hdl) rfl rfl (fZ.front _ _) ⟨Has.of mT3,Has.of mT5,trivial⟩ fun fo=>?_;refine cR List.perm_append_comm ?_;refine cD (Has.of mT0) fun hfo=>?_
  rcases hfo with ⟨⟨hf0,hfo⟩ | ⟨hf0,hfo⟩,hfI⟩
  ·have hIv:=hfI hf0;refine sp4 hT ?_;refine sp hT ?_;refine nn<|bE<|sr<|sp2 hT ?_;refine bT (t':=true) (by show(fo.2==0)=true;rw [hf0];rfl) ?_;refine sp2 hT ?_;refine ss (ldO hT (dO .head)) ?_;refine sp3 hT ?_;refine cB (fun hg70=>?_) (fun hg70=>?_)
   ·have hg70:=eq_of_beq hg70;have hh3:x.c.how=3:=by assumption
    have hol1:0<l.length:=by have:=mI (hne3 hh3);omega
    obtain⟨zt,hzt⟩: ∃z,at_[l.length-1]?=some z:=⟨_,List.getElem?_eq_getElem (by omega)⟩
    have hztl:at_.getLastD 0=zt:=last_at (by rw [hal];exact hzt);refine sp4 hT ?_;refine bZ (z':=((l.length-1:Nat):Int)) (by rw [show((l.length:Nat):Int)-1=((l.length-1:Nat):Int) by have:=mI (hne3 hh3);omega];exact cV rfl (by omega)) ?_;refine ss (bV hT (k:=(l.length-1)) (cF kT1) rfl rfl rfl rfl rfl hal.symm rfl (by omega)) ?_;refine ss (bR hT (cM.knows (cF kT1) (k:=(l.length-1)) (x:=zt) hzt 0) rfl rfl rfl rfl rfl) ?_;refine sp2 hT ?_;refine nn<|bL rfl (fun hc78=>?_) (fun hc78=>?_)
    ·have hc78:=of_decide_eq_true hc78
     have hq3:x.c.how=3∧0<at_.getLastD 0:=⟨hh3,by rw [hztl];assumption⟩
     refine bB<|sp hT ?_;refine ss (ldO hT (mZ .head)) ?_;refine sp2 hT ?_;refine cK Tryz.func103 (nP x.fn last fo.1 hIl (hfI hf0)) rfl rfl .nil trivial fun _=>?_;refine sp4 hT ?_;refine sp hT ?_;refine nn<|bE<|sr<|sp2 hT ?_;refine nn<|bL rfl (fun hc88=>?_) (fun hc88=>?_)
     ·have hc88:=eq_of_beq hc88;have hd0:(dyadW x.fn last fo.1).2=0:=by assumption
      have hIv:=zQ (f:=x.fn) hIl (hfI hf0);have hq:(if x.c.how=3∧0<at_.getLastD 0 then rnMust (dyadW x.c.fn g fo.1) else .ok fo.1:Rn Int)= .ok (dyadW x.fn last fo.1).1:=by rw [hgl hh2];exact hq_ok (x:=x.c) hq3 hd0
      refine bB<|sp hT ?_;refine ss (ldN hT (dO .head)) ?_;refine sp2 hT ?_;refine cR (List.perm_append_comm (l₁:=[_,_])) ?_;refine cK Tryz.func104 (uV mb ((m.tu tn).me M) x n (dyadW x.fn last fo.1).1 r hb0 hr hA (by omega) (by omega) hdl) rfl rfl (fZ.front _ _) ⟨Has.of mT5,Has.of mT6,trivial⟩ fun py=>?_;refine cR List.perm_append_comm ?_;refine cD (Has.of mT0) fun hpy=>?_
      rcases hpy with ⟨⟨hp0,hpk⟩ | ⟨hp0,hpk⟩,hpS⟩
      ·have hTk:dU m.dims.list x.c (l.getLastD 0) at_.reverse.reverse g n (M.map (·.list))= .ok ((dyadW x.fn last fo.1).1,py.1.map (·.list)):=by rw [List.reverse_reverse];exact tqn_k hh2 hfo hq hpk
       refine sp hT ?_;refine nn<|bE<|sr<|sp2 hT ?_;refine bT (t':=false) (by show(!(py.2==0))=false;rw [hp0];rfl) ?_;refine nn<|bS rfl rfl ?_;refine bO<|bC<|sr<|sp2 hT ?_;refine nn<|bB<|sp2 hT ?_;refine cK Tryz.func105 (rZ (some ⟨ab,0,none⟩) LA l.length l.length lc at_ l hal.symm hal hin1 (fun k hk=>(hol65 k hk).2) (by omega)) rfl rfl (.cons kT1 .nil) ⟨(Has.of mT3),trivial⟩ fun ny=>?_;refine cD (Has.of mT0) fun hny=>?_;refine sp hT ?_;refine cA<|bY<|bC<|bB<|sp2 hT ?_;refine bZ (z':=(((n+1):Nat):Int)) (cV (by omega) (by omega)) ?_;refine sp hT ?_;refine nn<|gB (.cons kT1 (.cons .head (.cons .head (.cons .head Sel.self)))) ?_;exact gH (py.1,(dyadW x.fn last fo.1).1,n+1,ny,(kR at_.reverse l.reverse).isSome,(dyadW x.fn last fo.1).1) (by dsimp only;omega) ⟨rfl,rfl,rfl,trivial⟩ ⟨rfl,rfl,rfl,rfl,rfl,trivial⟩ (List.Perm.refl _) ⟨Has.pure (⟨hpS.trans hsm,I_put (x:=x.c) hpk hMI hIv,hIv,hny.1.trans hal,fun _=>rfl,fun h=>⟨(jO hin1 (hny.2 h)).1,by dsimp only;rw [(jO hin1 (hny.2 h)).2];omega,by dsimp only;rw [show(sizeR l.reverse).toNat-(n+1)=lf by omega];exact pG hW2 hTk (hny.2 h)⟩,fun h=>tM hW2 hTk (isSome_none h)⟩),trivial⟩ (bQ.drop 4)
      refine sp hT ?_;refine nn<|bE<|sr<|sp2 hT ?_;refine bT (t':=true) (by show(!(py.2==0))=true;simp [hp0]) ?_;refine nn<|cG rfl rfl ?_;refine sr<|sp2 hT ?_;refine nn<|bI<|bH<|bM<|bH<|bH<|bM<|bH ?_;exact bN (py.1,tn,py.2) rfl (bD rfl) (.cons kT2 (.cons kT2 (Sel.skip (Sel.skip Sel.self)))) ⟨Has.pure ⟨.inr ⟨hp0,nE hct (hWK.trans (nJ hW2 (by rw [List.reverse_reverse];exact tqn_p hh2 hfo hq hpk)))⟩,fun h=>absurd h hp0⟩,trivial⟩ rfl
     have hc88:=beq_eq_false_iff_ne.1 hc88;refine bO<|bC<|bE<|sr<|sp2 hT ?_;refine bT (t':=true) ((congrArg not (show((dyadW x.fn last fo.1).2==0)=false from (beq_eq_false_iff_ne.2 hc88)):(!_)=_)) ?_;refine nn<|cG rfl rfl ?_;refine sr<|sp2 hT ?_;refine nn<|bI<|bH<|bM<|bH<|bH<|bM<|bH ?_;have hdn:(dyadW x.fn last fo.1).2≠0:=by assumption
     exact bN (M,tn,(dyadW x.fn last fo.1).2) rfl (bD rfl) (.cons kT2 (.cons kT2 (Sel.skip (Sel.skip Sel.self)))) ⟨Has.pure ⟨.inr ⟨hdn,nE hct (hWK.trans (nJ hW2 (by rw [List.reverse_reverse];exact tqn_d hh2 hfo (by rw [hgl hh2];exact hq_er (x:=x.c) hq3 hdn))))⟩,fun h=>absurd h hdn⟩,trivial⟩ rfl
    have hc78:=Int.not_lt.1 (of_decide_eq_false hc78);refine bO<|bC<|bE<|sr<|sp2 hT ?_;refine bT (t':=true) (by show(fo.2==0)=true;rw [hf0];rfl) ?_;refine nn<|cG rfl rfl ?_;have hq:=hq_no (x:=x.c) (last:=g) (v:=fo.1) (at_:=at_) (by rintro⟨q1,q2⟩;first | exact absurd q1 ‹_› | (rw [hztl] at q2;omega));refine bB<|sp hT ?_;refine ss (ldN hT (dO .head)) ?_;refine sp2 hT ?_;refine cR (List.perm_append_comm (l₁:=[_,_])) ?_;refine cK Tryz.func104 (uV mb ((m.tu tn).me M) x n fo.1 r hb0 hr hA (by omega) (by omega) hdl) rfl rfl (fZ.front _ _) ⟨Has.of mT5,Has.of mT6,trivial⟩ fun py=>?_;refine cR List.perm_append_comm ?_;refine cD (Has.of mT0) fun hpy=>?_
    rcases hpy with ⟨⟨hp0,hpk⟩ | ⟨hp0,hpk⟩,hpS⟩
    ·have hTk:dU m.dims.list x.c (l.getLastD 0) at_.reverse.reverse g n (M.map (·.list))= .ok (fo.1,py.1.map (·.list)):=by rw [List.reverse_reverse];exact tqn_k hh2 hfo hq hpk
     refine sp hT ?_;refine nn<|bE<|sr<|sp2 hT ?_;refine bT (t':=false) (by show(!(py.2==0))=false;rw [hp0];rfl) ?_;refine nn<|bS rfl rfl ?_;refine bO<|bC<|sr<|sp2 hT ?_;refine nn<|bB<|sp2 hT ?_;refine cK Tryz.func105 (rZ (some ⟨ab,0,none⟩) LA l.length l.length lc at_ l hal.symm hal hin1 (fun k hk=>(hol65 k hk).2) (by omega)) rfl rfl (.cons kT1 .nil) ⟨(Has.of mT3),trivial⟩ fun ny=>?_;refine cD (Has.of mT0) fun hny=>?_;refine sp hT ?_;refine cA<|bY<|bC<|bB<|sp2 hT ?_;refine bZ (z':=(((n+1):Nat):Int)) (cV (by omega) (by omega)) ?_;refine sp hT ?_;refine nn<|gB (.cons kT1 (.cons .head (.cons .head (.cons .head Sel.self)))) ?_;exact gH (py.1,fo.1,n+1,ny,(kR at_.reverse l.reverse).isSome,fo.1) (by dsimp only;omega) ⟨rfl,rfl,rfl,trivial⟩ ⟨rfl,rfl,rfl,rfl,rfl,trivial⟩ (List.Perm.refl _) ⟨Has.pure (⟨hpS.trans hsm,I_put (x:=x.c) hpk hMI hIv,hIv,hny.1.trans hal,fun _=>rfl,fun h=>⟨(jO hin1 (hny.2 h)).1,by dsimp only;rw [(jO hin1 (hny.2 h)).2];omega,by dsimp only;rw [show(sizeR l.reverse).toNat-(n+1)=lf by omega];exact pG hW2 hTk (hny.2 h)⟩,fun h=>tM hW2 hTk (isSome_none h)⟩),trivial⟩ (bQ.drop 4)
    refine sp hT ?_;refine nn<|bE<|sr<|sp2 hT ?_;refine bT (t':=true) (by show(!(py.2==0))=true;simp [hp0]) ?_;refine nn<|cG rfl rfl ?_;refine sr<|sp2 hT ?_;refine nn<|bI<|bH<|bM<|bH<|bH<|bM<|bH ?_;exact bN (py.1,tn,py.2) rfl (bD rfl) (.cons kT2 (.cons kT2 (Sel.skip (Sel.skip Sel.self)))) ⟨Has.pure ⟨.inr ⟨hp0,nE hct (hWK.trans (nJ hW2 (by rw [List.reverse_reverse];exact tqn_p hh2 hfo hq hpk)))⟩,fun h=>absurd h hp0⟩,trivial⟩ rfl
   have hg70:=beq_eq_false_iff_ne.1 hg70;refine sk4 ?_;refine sk3 ?_;refine sp hT ?_;refine nn<|bS rfl rfl ?_;refine bO<|bC<|bE<|sr<|sp2 hT ?_;refine bT (t':=true) (by show(fo.2==0)=true;rw [hf0];rfl) ?_;refine nn<|cG rfl rfl ?_;have hq:=hq_no (x:=x.c) (last:=g) (v:=fo.1) (at_:=at_) (by rintro⟨q1,q2⟩;first | exact absurd q1 ‹_› | (rw [hztl] at q2;omega));refine bB<|sp hT ?_;refine ss (ldN hT (dO .head)) ?_;refine sp2 hT ?_;refine cR (List.perm_append_comm (l₁:=[_,_])) ?_;refine cK Tryz.func104 (uV mb ((m.tu tn).me M) x n fo.1 r hb0 hr hA (by omega) (by omega) hdl) rfl rfl (fZ.front _ _) ⟨Has.of mT5,Has.of mT6,trivial⟩ fun py=>?_;refine cR List.perm_append_comm ?_;refine cD (Has.of mT0) fun hpy=>?_
   rcases hpy with ⟨⟨hp0,hpk⟩ | ⟨hp0,hpk⟩,hpS⟩
   ·have hTk:dU m.dims.list x.c (l.getLastD 0) at_.reverse.reverse g n (M.map (·.list))= .ok (fo.1,py.1.map (·.list)):=by rw [List.reverse_reverse];exact tqn_k hh2 hfo hq hpk
    refine sp hT ?_;refine nn<|bE<|sr<|sp2 hT ?_;refine bT (t':=false) (by show(!(py.2==0))=false;rw [hp0];rfl) ?_;refine nn<|bS rfl rfl ?_;refine bO<|bC<|sr<|sp2 hT ?_;refine nn<|bB<|sp2 hT ?_;refine cK Tryz.func105 (rZ (some ⟨ab,0,none⟩) LA l.length l.length lc at_ l hal.symm hal hin1 (fun k hk=>(hol65 k hk).2) (by omega)) rfl rfl (.cons kT1 .nil) ⟨(Has.of mT3),trivial⟩ fun ny=>?_;refine cD (Has.of mT0) fun hny=>?_;refine sp hT ?_;refine cA<|bY<|bC<|bB<|sp2 hT ?_;refine bZ (z':=(((n+1):Nat):Int)) (cV (by omega) (by omega)) ?_;refine sp hT ?_;refine nn<|gB (.cons kT1 (.cons .head (.cons .head (.cons .head Sel.self)))) ?_;exact gH (py.1,fo.1,n+1,ny,(kR at_.reverse l.reverse).isSome,fo.1) (by dsimp only;omega) ⟨rfl,rfl,rfl,trivial⟩ ⟨rfl,rfl,rfl,rfl,rfl,trivial⟩ (List.Perm.refl _) ⟨Has.pure (⟨hpS.trans hsm,I_put (x:=x.c) hpk hMI hIv,hIv,hny.1.trans hal,fun _=>rfl,fun h=>⟨(jO hin1 (hny.2 h)).1,by dsimp only;rw [(jO hin1 (hny.2 h)).2];omega,by dsimp only;rw [show(sizeR l.reverse).toNat-(n+1)=lf by omega];exact pG hW2 hTk (hny.2 h)⟩,fun h=>tM hW2 hTk (isSome_none h)⟩),trivial⟩ (bQ.drop 4)
   refine sp hT ?_;refine nn<|bE<|sr<|sp2 hT ?_;refine bT (t':=true) (by show(!(py.2==0))=true;simp [hp0]) ?_;refine nn<|cG rfl rfl ?_;refine sr<|sp2 hT ?_;refine nn<|bI<|bH<|bM<|bH<|bH<|bM<|bH ?_;exact bN (py.1,tn,py.2) rfl (bD rfl) (.cons kT2 (.cons kT2 (Sel.skip (Sel.skip Sel.self)))) ⟨Has.pure ⟨.inr ⟨hp0,nE hct (hWK.trans (nJ hW2 (by rw [List.reverse_reverse];exact tqn_p hh2 hfo hq hpk)))⟩,fun h=>absurd h hp0⟩,trivial⟩ rfl
  refine sp4 hT ?_;refine sp hT ?_;refine nn<|bE<|sr<|sp2 hT ?_;refine bT (t':=false) (by show(fo.2==0)=false;simp [hf0]) ?_;refine sp hT ?_;refine sk3 ?_;refine sp2 hT ?_;refine sk4 ?_;refine sk3 ?_;refine sp hT ?_;refine nn<|bS rfl rfl ?_;refine bO<|bC<|bE<|sr<|sp2 hT ?_;refine bT (t':=false) (by show(fo.2==0)=false;simp [hf0]) ?_;refine nn<|bS rfl rfl ?_;refine bO<|bC<|bE<|sr<|sp2 hT ?_;refine bT (t':=true) (by show(!(fo.2==0))=true;simp [hf0]) ?_;refine nn<|cG rfl rfl ?_;refine sr<|sp2 hT ?_;refine nn<|bI<|bH<|bM<|bH<|bH<|bM<|bH ?_;exact bN (M,tn,fo.2) rfl (bD rfl) (.cons kT2 (.cons kT2 (Sel.skip (Sel.skip Sel.self)))) ⟨Has.pure ⟨.inr ⟨hf0,nE hct (hWK.trans (nJ hW2 (by rw [List.reverse_reverse];exact tqn_e hh2 hfo)))⟩,fun h=>absurd h hf0⟩,trivial⟩ rfl
 refine cU<|cI<|cI<|cT<|bC<|sr<|sp hT ?_;refine nn<|bI ?_;have hse:=yQ hct (hWK.trans (hmf ‹_›));rw [←htn] at hse;exact bN (M,tn,0) rfl (bD rfl) (.cons kT2 (.cons kT2 (Sel.skip (Sel.skip Sel.self)))) ⟨Has.pure ⟨.inl ⟨rfl,hse⟩,fun _=>⟨hsm,hMI,htn0,htn2⟩⟩,trivial⟩ rfl
def bBf (y:ArrV):bU:=((cQ.sl (.slice y.sides.addr y.sides.list.length y.sides.cap) y.sides.list).and (cQ.sl (.slice y.data.addr y.data.list.length y.data.cap) y.data.list)).and (bU.pure (y.sides.list.length≤9223372036854775807∧y.data.list.length≤9223372036854775807))
section
variable {F : List bU} {y : ArrV}
theorem arrM_s(h:Has F (bBf y)):Has F (cQ.sl (.slice y.sides.addr y.sides.list.length y.sides.cap) y.sides.list):=h.left.left
theorem arrM_d(h:Has F (bBf y)):Has F (cQ.sl (.slice y.data.addr y.data.list.length y.data.cap) y.data.list):=h.left.right
theorem arrM_k{l:List ArrV}(h:Has F (bU.each l bBf)):Has F (bU.pure (∀a∈l,a.sides.list.length≤9223372036854775807∧a.data.list.length≤9223372036854775807)):=fun S w k a ha=>(h S w k a ha).2
end
section
variable {α : Type} {E : Flat α} {P : Program} {β : fY} {n : Nat} {Γ : Env} {H : List bX} {F : List bU} {K : Act → World → Prop}
theorem vH{A:Option Addr}{t:TypeId}{m cap:Nat}{xs:List α}{H':List bX}(hH:fU H (E.row (.slice A m cap) t xs) H')(h:xs.length≤9223372036854775807→At β n Γ H F K):At β n Γ H F K:=fun a w S f s k=>by
 have hown:w.ownsRow 0 t E.size (.slice A m cap) xs.length (E.all xs):=s.ok _ hH.mem;refine h ?_ a w S f s k;have hm:maxLen=9223372036854775807:=by simp [maxLen]
 rcases hown.2 with ⟨_,e0⟩ | ⟨g,cap',cur,e1,h1,h2,h3,h4,_⟩
 ·omega
 ·injection e1 with e1 e2 e3
  omega
theorem pE: ∀(l:List ArrV) {H:List bX} {F:List bU},At β n Γ H (bU.each l bBf::F) K→At β n Γ (wL l++H) F K
 | [],H,F,h=>cL (bU.each [] bBf) Has.each_nil h
 | y::r,H,F,h=>by
  refine vH (E:=cQ) (A:=y.sides.addr) (cap:=y.sides.cap) (t:=2) (m:=y.sides.list.length) (xs:=y.sides.list) .head fun h1=>?_;refine lE (E:=cQ) .head ?_;refine vH (E:=cQ) (A:=y.data.addr) (cap:=y.data.cap) (t:=2) (m:=y.data.list.length) (xs:=y.data.list) .head fun h2=>?_;refine lE (E:=cQ) .head ?_;refine pE r ?_;refine cL (bU.each (y::r) bBf) (Has.each_cons (Has.and (Has.and (Has.of (.tail _ (.tail _ (.head _)))) (Has.of (.tail _ (.head _)))) (Has.pure ⟨h1,h2⟩)) (Has.of (.head _))) ?_;exact at_drop (G:=bU.each (y::r) bBf::F) ⟨Has.of (.head _),bQ.drop 4⟩ h
end
theorem bBx{α β:Type}{f:α→β}{l:List α}{i:Nat}{x:α}(h:l[i]?=some x):(l.map f)[i]?=some (f x):=by simp [h]
theorem arr_ext{x u:ArrV}:x.arr=u.arr↔x.sides.list=u.sides.list∧x.data.list=u.data.list:=by
 unfold ArrV.arr;simp
theorem same_a{x u:ArrV}(h:decide (x.sides.list=u.sides.list)=true):Value.bool (decide (x.data.list=u.data.list))= .bool (decide (x.arr=u.arr)):=by
 have h:=of_decide_eq_true h
 congr 1
 rw [Bool.eq_iff_iff];simp [arr_ext,h]
theorem same_b{x u:ArrV}(h:decide (x.sides.list=u.sides.list)=false):Value.bool false= .bool (decide (x.arr=u.arr)):=by
 have h:=of_decide_eq_false h
 congr 1
 rw [Bool.eq_iff_iff];simp [arr_ext,h]
theorem eqA_f{a b:List Arr}(h:a≠b):Value.bool false= .bool (decide (a=b)):=by simp [h]
theorem eqA_t{a b:List Arr}(h:a=b):Value.bool true= .bool (decide (a=b)):=by simp [h]
set_option maxRecDepth 100000 in
theorem zL(A B:Option Addr)(ca cb:Nat)(a b:List Int)(hl:a.length≤9223372036854775807):dM Tryz.prog 79 [.slice A a.length ca,.slice B b.length cb] [] [cQ.sl (.slice A a.length ca) a,cQ.sl (.slice B b.length cb) b] (fun(_:Unit)=> .bool (decide (a=b))) (fun _=>[]) (fun _=>[]):=by
 have hT:=cZ;refine cO Tryz.func79 rfl Tryz.ntmps79 rfl ?_;intro β hM;refine sr<|sp hT ?_;refine nn<|bE<|sr<|sp4 hT ?_;refine sp hT ?_;refine nn<|bL rfl (fun hc10=>?_) (fun hc10=>?_)
 ·have hc10:=bne_iff_ne.1 hc10;refine sr<|sp hT ?_;refine nn<|bI<|bH ?_;exact bN () rfl (bD rfl) .nil trivial (qC (fun e=>by have:=congrArg List.length e;omega))
 have hc10:=bne_eq_false_iff_eq.1 hc10;refine bO<|bC<|bE<|sr<|sp hT ?_;refine nn<|bW<|cX (ι:=Nat) [(0,_),(1,_)] ⟨rfl,rfl,trivial⟩ (fun i=>[(5,.int .i64 (i:Nat))]) (fun _=>[]) (fun i=>[bU.pure (i≤a.length∧a.take i=b.take i)]) (fun i=>a.length-i) 0 ⟨rfl,trivial⟩ .nil ⟨Has.pure (⟨by omega,rfl⟩),trivial⟩ ?_;rintro i;refine cD (Has.of mT0) fun hinv4=>?_;refine bE<|sr<|sp4 hT ?_;refine nn<|bL rfl (fun hc14=>?_) (fun hc14=>?_)
 ·have hc14:=of_decide_eq_true hc14;refine bO<|bC<|bE<|bW<|bE<|fJ _ _ [(true,0),(true,1),(true,2),(true,3),(true,4),(true,5),(true,6),(true,7),(true,8)] dS (by decide+kernel) .nil bQ.self ?_;refine puM hT ?_;refine puM hT ?_
  obtain⟨x1,hx2⟩: ∃x',a[i]?=some x':=⟨_,List.getElem?_eq_getElem (by omega)⟩
  refine stM rfl (bV hT (k:=i) (bP (Has.of mT1)) rfl rfl rfl rfl rfl rfl rfl (by omega)) ?_;refine stM rfl (bR hT (cM.knows (bP (Has.of mT1)) (k:=i) (x:=x1) hx2 0) rfl rfl rfl rfl rfl) ?_;refine puM hT ?_;refine puM hT ?_
  obtain⟨x3,hx4⟩: ∃x',b[i]?=some x':=⟨_,List.getElem?_eq_getElem (by omega)⟩
  refine stM rfl (bV hT (k:=i) (bP (Has.of mT2)) rfl rfl rfl rfl rfl rfl rfl (by omega)) ?_;refine stM rfl (bR hT (cM.knows (bP (Has.of mT2)) (k:=i) (x:=x3) hx4 0) rfl rfl rfl rfl rfl) ?_;refine puM hT ?_;refine cW<|bC<|bL rfl (fun hc25=>?_) (fun hc25=>?_)
  ·have hc25:=bne_iff_ne.1 hc25;refine sr<|sp hT ?_;refine nn<|bI<|bM<|bH<|bH<|bM<|bH ?_;exact bN () rfl (bD rfl) .nil trivial (qC (bGd hx2 hx4 ‹_›))
  have hc25:=bne_eq_false_iff_eq.1 hc25;refine bO<|bY<|bC<|bB<|sp2 hT ?_;refine bZ (z':=(((i+1):Nat):Int)) (cV (by omega) (by omega)) ?_;refine sp hT ?_;refine nn ?_;exact cJ (i+1) (by omega) ⟨rfl,trivial⟩ ⟨rfl,rfl,trivial⟩ .nil ⟨Has.pure (⟨by omega,zE hinv4.2 hx2 hx4 ‹_›⟩),trivial⟩ (bQ.drop 1)
 have hc14:=Int.not_lt.1 (of_decide_eq_false hc14);refine cU<|cI<|cI<|cT<|bC<|sr<|sp hT ?_;refine nn<|bI ?_;exact bN () rfl (bD rfl) .nil trivial (bDl (bEm hinv4.2 (by omega) (by omega)))
set_option maxRecDepth 100000 in
theorem same6_spec(x u:ArrV)(hs:x.sides.list.length≤9223372036854775807)(hd:x.data.list.length≤9223372036854775807):dM Tryz.prog 37 [.agg #[.slice x.sides.addr x.sides.list.length x.sides.cap,.slice x.data.addr x.data.list.length x.data.cap],.agg #[.slice u.sides.addr u.sides.list.length u.sides.cap,.slice u.data.addr u.data.list.length u.data.cap]] [] [cQ.sl (.slice x.sides.addr x.sides.list.length x.sides.cap) x.sides.list,cQ.sl (.slice x.data.addr x.data.list.length x.data.cap) x.data.list,cQ.sl (.slice u.sides.addr u.sides.list.length u.sides.cap) u.sides.list,cQ.sl (.slice u.data.addr u.data.list.length u.data.cap) u.data.list] (fun(_:Unit)=> .bool (decide (x.arr=u.arr))) (fun _=>[]) (fun _=>[]):=by
 have hT:=cZ;refine cO Tryz.func37 rfl Tryz.ntmps37 rfl ?_;intro β hM;refine sr<|gG rfl rfl rfl rfl rfl rfl fun b1=>?_;refine gG rfl rfl rfl rfl rfl rfl fun b2=>?_;refine sp hT ?_;refine nn<|sr<|sp hT ?_;refine ss (ldO hT (dO kT1)) ?_;refine sp hT ?_;refine ss (ldO hT (dO .head)) ?_;refine cK Tryz.func79 (zL _ _ _ _ _ _ (by omega)) rfl rfl .nil ⟨Has.of mT0,Has.of mT2,trivial⟩ fun _=>?_;refine sp hT ?_;refine cB (fun hg10=>?_) (fun hg10=>?_)
 ·refine sp hT ?_;refine ss (ldO hT (fE kT1)) ?_;refine sp hT ?_;refine ss (ldO hT (fE .head)) ?_;refine cK Tryz.func79 (zL _ _ _ _ _ _ (by omega)) rfl rfl .nil ⟨Has.of mT1,Has.of mT3,trivial⟩ fun _=>?_;refine sp2 hT ?_;refine nn<|bI ?_;exact bN () rfl (bD rfl) .nil trivial (by first | exact same_a ‹_› | exact same_b ‹_›)
 refine sk4 ?_;refine sk ?_;refine sp2 hT ?_;refine nn<|bI ?_;exact bN () rfl (bD rfl) .nil trivial (by first | exact same_a ‹_› | exact same_b ‹_›)
set_option maxRecDepth 100000 in
theorem same8_spec(A B:Option Addr)(ca cb:Nat)(xs ys:List ArrV)(hl:xs.length≤9223372036854775807)(hX: ∀a∈xs,a.sides.list.length≤9223372036854775807∧a.data.list.length≤9223372036854775807):dM Tryz.prog 19 [.slice A xs.length ca,.slice B ys.length cb] [] [jQ.sl (.slice A xs.length ca) xs,bU.each xs bBf,jQ.sl (.slice B ys.length cb) ys,bU.each ys bBf] (fun(_:Unit)=> .bool (decide (xs.map ArrV.arr=ys.map ArrV.arr))) (fun _=>[]) (fun _=>[]):=by
 have hT:=cZ;refine cO Tryz.func19 rfl Tryz.ntmps19 rfl ?_;intro β hM;refine sr<|sp hT ?_;refine nn<|bE<|sr<|sp4 hT ?_;refine sp hT ?_;refine nn<|bL rfl (fun hc10=>?_) (fun hc10=>?_)
 ·have hc10:=bne_iff_ne.1 hc10;refine sr<|sp hT ?_;refine nn<|bI<|bH ?_;exact bN () rfl (bD rfl) .nil trivial (eqA_f (fun e=>by have:=congrArg List.length e;simp at this;omega))
 have hc10:=bne_eq_false_iff_eq.1 hc10;refine bO<|bC<|bE<|sr<|sp hT ?_;refine nn<|bW<|cX (ι:=Nat) [(0,_),(1,_)] ⟨rfl,rfl,trivial⟩ (fun i=>[(5,.int .i64 (i:Nat))]) (fun _=>[]) (fun i=>[bU.pure (i≤xs.length∧(xs.map ArrV.arr).take i=(ys.map ArrV.arr).take i)]) (fun i=>xs.length-i) 0 ⟨rfl,trivial⟩ .nil ⟨Has.pure (⟨by omega,rfl⟩),trivial⟩ ?_;rintro i;refine cD (Has.of mT0) fun hinv4=>?_;refine bE<|sr<|sp4 hT ?_;refine nn<|bL rfl (fun hc14=>?_) (fun hc14=>?_)
 ·have hc14:=of_decide_eq_true hc14;refine bO<|bC<|bE<|bW<|bE ?_
  obtain⟨x,hx⟩: ∃q,xs[i]?=some q:=⟨_,List.getElem?_eq_getElem (by omega)⟩
  refine cL (bBf x) (Has.each (Has.of mT2) (List.mem_of_getElem? hx)) ?_
  obtain⟨u,hu⟩: ∃q,ys[i]?=some q:=⟨_,List.getElem?_eq_getElem (by omega)⟩
  refine cL (bBf u) (Has.each (Has.of mT5) (List.mem_of_getElem? hu)) ?_;have hxb:=hX x (List.mem_of_getElem? hx);refine fJ _ _ [(true,0),(true,1),(true,2),(true,3),(true,4),(true,5),(true,6),(true,7),(false,8),(true,9)] dS (by decide+kernel) .nil bQ.self ?_;refine puM hT ?_;refine puM hT ?_;refine stM rfl (bV hT (k:=i) (bP (Has.of mT3)) rfl rfl rfl rfl rfl rfl rfl (by omega)) ?_;refine stM rfl (dT hT (cM.knows (bP (Has.of mT3)) (k:=i) (x:=x) hx 0) rfl rfl rfl rfl rfl) ?_;refine puM hT ?_;refine puM hT ?_;refine stM rfl (bV hT (k:=i) (bP (Has.of mT5)) rfl rfl rfl rfl rfl rfl rfl (by omega)) ?_;refine stM rfl (dT hT (cM.knows (bP (Has.of mT5)) (k:=i) (x:=u) hu 0) rfl rfl rfl rfl rfl) ?_;refine fN (o:=_) rfl ?_;refine cK Tryz.func37 (same6_spec x u hxb.1 hxb.2) rfl rfl .nil ⟨arrM_s (Has.of mT1),arrM_d (Has.of mT1),arrM_s (Has.of mT0),arrM_d (Has.of mT0),trivial⟩ fun _=>?_;refine fO .nil (bQ.drop 0) ?_;refine puM hT ?_;refine cW<|bC<|bL rfl (fun hc26=>?_) (fun hc26=>?_)
  ·have hc26:=gR hc26;refine sr<|sp hT ?_;refine nn<|bI<|bM<|bH<|bH<|bM<|bH ?_;exact bN () rfl (bD rfl) .nil trivial (eqA_f (bGd (bBx hx) (bBx hu) (of_decide_eq_false ‹_›)))
  have hc26:=gS hc26;refine bO<|bY<|bC<|bB<|sp2 hT ?_;refine bZ (z':=(((i+1):Nat):Int)) (cV (by omega) (by omega)) ?_;refine sp hT ?_;refine nn ?_;exact cJ (i+1) (by omega) ⟨rfl,trivial⟩ ⟨rfl,rfl,trivial⟩ .nil ⟨Has.pure (⟨by omega,zE hinv4.2 (bBx hx) (bBx hu) (of_decide_eq_true ‹_›)⟩),trivial⟩ (bQ.drop 3)
 have hc14:=Int.not_lt.1 (of_decide_eq_false hc14);refine cU<|cI<|cI<|cT<|bC<|sr<|sp hT ?_;refine nn<|bI ?_;exact bN () rfl (bD rfl) .nil trivial (eqA_t (bEm hinv4.2 (by rw [List.length_map];omega) (by rw [List.length_map];omega)))
section
variable {ds : List Int} {ins : List Arr} {l : List iW} {i : Nat} {u : iW} {mem : List (List Int)} {R : Rn (List (List Int))} {a : Arr}
theorem bJm(h:R=rnLoad ds ins (l.drop i) mem)(hu:l[i]?=some u)(hi: ¬u.input<0)(ha:ins[u.input.toNat]?=some a)(hb: ¬(kU a=true∧a.sides=rnSides ds u)):R= .error 120:=by
 have hg:ins.getD u.input.toNat tE=a:=by rw [List.getD_eq_getElem?_getD,ha];rfl
 rw [bBo h hu,if_neg hi,hg,if_neg hb]
theorem in_noQ(h:(ins.length:Int)≠rnMost l 0):sZ ds ins l= .error 120:=by
 unfold sZ;rw [if_pos h]
end
set_option maxHeartbeats 2000000 in
set_option maxRecDepth 100000 in
theorem inputsQ_spec(mb:Nat)(m:gF)(IA:Option Addr)(ic:Nat)(ins:List ArrV)(hnb:m.core.bufs.list.length≤1024)(hI: ∀u∈m.core.bufs.list,-1≤u.input∧u.input<64)(hS: ∀u∈m.core.bufs.list,(sizeB (polsL u.sides.list) m.dims.list).isSome=true∧(sizeB (polsL u.sides.list) m.dims.list).getD 0=(fP (rnSides m.dims.list u.c)).1∧sidesGo m.dims.list (polsL u.sides.list) []=some (rnSides m.dims.list u.c)∧(rnSides m.dims.list u.c).length≤4)(hdl:m.dims.list.length≤140737488355328):dM Tryz.prog 45 [.pointer (some ⟨mb,0,none⟩),.slice IA ins.length ic] (rfH mb (m.mm (none,0) [])) [lY m.core,cQ.sl (.slice m.dims.addr m.dims.list.length m.dims.cap) m.dims.list,jQ.sl (.slice IA ins.length ic) ins,bU.each ins uI] (fun(y:(Option Addr×Nat)×List (Sl Int)×Bool)=> .bool y.2.2) (fun(y:(Option Addr×Nat)×List (Sl Int)×Bool)=>rfH mb (m.mm y.1 y.2.1)) (fun(y:(Option Addr×Nat)×List (Sl Int)×Bool)=>[bU.pure ((y.2.2=true∧(sZ m.dims.list (arrL ins) (bufsL m.core.bufs.list))= .ok (y.2.1.map (·.list))∧y.2.1.length=m.core.bufs.list.length∧ ∀r∈y.2.1,r.list.length≤65536)∨(y.2.2=false∧(sZ m.dims.list (arrL ins) (bufsL m.core.bufs.list))= .error 120))]):=by
 have hT:=cZ
 obtain⟨K,hK⟩: ∃K,rnMost (bufsL m.core.bufs.list) 0=K:=⟨_,rfl⟩
 refine cO Tryz.func45 rfl Tryz.ntmps45 rfl ?_;intro β hM;refine bE<|cL (uB.sl (.slice m.core.bufs.addr m.core.bufs.list.length m.core.bufs.cap) m.core.bufs.list) (nS (iY (Has.of mT0))) ?_;refine bB<|sp hT ?_;refine nn<|sr<|sp hT ?_;refine nn<|bE<|sr<|sp hT ?_;refine nn<|bW<|cX (ι:=Nat×Int) [(0,_),(1,_)] ⟨rfl,rfl,trivial⟩ (fun⟨i,z⟩=>[(5,.int .i64 z),(6,.int .i64 (i:Nat))]) (fun _=>[]) (fun⟨i,z⟩=>[bU.pure (i≤m.core.bufs.list.length∧0≤z∧z≤64∧K=rnMost ((bufsL m.core.bufs.list).drop i) z)]) (fun⟨i,z⟩=>m.core.bufs.list.length-i) (0,0) ⟨rfl,rfl,trivial⟩ .nil ⟨Has.pure (⟨by omega,by omega,by omega,hK.symm⟩),trivial⟩ ?_;rintro⟨i,z⟩;dsimp only;refine cD (Has.of mT0) fun hinv3=>?_;refine bE<|sr<|sp4 hT ?_;refine sp hT ?_;refine ss (ldO hT (fE .head)) ?_;refine sp hT ?_;refine bZ (z':=((m.core.bufs.list.length:Nat):Int)) rfl ?_;refine sp hT ?_;refine nn<|bL rfl (fun hc19=>?_) (fun hc19=>?_)
 ·have hc19:=of_decide_eq_true hc19;refine bO<|bC<|bE<|bW ?_
  obtain⟨w,hw⟩: ∃u,m.core.bufs.list[i]?=some u:=⟨_,List.getElem?_eq_getElem (by omega)⟩
  have hib:=hI w (List.mem_of_getElem? hw);refine bB<|sp4 hT ?_;refine sp hT ?_;refine ss (ldO hT (fE .head)) ?_;refine sp hT ?_;refine ss (bV hT (k:=i) (bP (Has.of mT1)) rfl rfl rfl rfl rfl rfl rfl (by omega)) ?_;refine sp hT ?_;refine ss (bR hT (cM.knows (bP (Has.of mT1)) (k:=i) (x:=w) hw 1) rfl rfl rfl rfl rfl) ?_;refine sp hT ?_;refine bZ (gK (by omega) (by omega)) ?_;refine sp hT ?_;refine bZ (z':=max z (w.input+1)) maxI ?_;refine sp hT ?_;refine cA<|bY<|bC<|bB<|sp2 hT ?_;refine bZ (z':=(((i+1):Nat):Int)) (cV (by omega) (by omega)) ?_;refine sp hT ?_;refine nn ?_;exact cJ (i+1,max z (w.input+1)) (by dsimp only;omega) ⟨rfl,rfl,trivial⟩ ⟨rfl,rfl,trivial⟩ (.cons .head (.cons .head Sel.self)) ⟨Has.pure (⟨by dsimp only;omega,by dsimp only;omega,by dsimp only;omega,most_at hinv3.2.2.2 (dE hw)⟩),trivial⟩ (bQ.drop 1)
 have hc19:=Int.not_lt.1 (of_decide_eq_false hc19);refine cU<|cI<|cI<|cT<|bC<|bE<|bE ?_;have hke:=most_end hinv3.2.2.2 (by rw [dI];omega);refine bB<|sp4 hT ?_;refine nn<|bL rfl (fun hc37=>?_) (fun hc37=>?_)
 ·have hc37:=bne_iff_ne.1 hc37;refine sr<|sp hT ?_;refine nn<|bI<|bH ?_;exact bN ((none,0),[],false) rfl (bD rfl) (.cons .head (.cons .head Sel.self)) ⟨Has.pure (.inr ⟨rfl,in_noQ (by rw [rA];exact fun e=>hc37 (by omega))⟩),trivial⟩ rfl
 have hc37:=bne_eq_false_iff_eq.1 hc37;refine bO<|bC<|bE<|bE ?_;have hml:((arrL ins).length:Int)=rnMost (bufsL m.core.bufs.list) 0:=by rw [rA];omega
 have hRI:=in_eq (ds:=m.dims.list) hml
 obtain⟨R,hR⟩: ∃R,rnLoad m.dims.list (arrL ins) (bufsL m.core.bufs.list) []=R:=⟨_,rfl⟩
 have hRL:(sZ m.dims.list (arrL ins) (bufsL m.core.bufs.list))=R:=hRI.trans hR;refine bB<|sp hT ?_;refine nn<|bW<|mJ (ι:=(Option Addr×Nat)×List (Sl Int)×Nat) [(0,_),(1,_)] ⟨rfl,rfl,trivial⟩ (fun⟨q,M,i⟩=>[(7,.int .i64 (i:Nat))]) (fun⟨q,M,i⟩=>rfH mb (m.mm q M)) (fun⟨q,M,i⟩=>[bU.pure (i≤m.core.bufs.list.length∧M.length=i∧R=rnLoad m.dims.list (arrL ins) ((bufsL m.core.bufs.list).drop i) (M.map (·.list))∧(∀r∈M,r.list.length≤65536))]) (fun⟨q,M,i⟩=>m.core.bufs.list.length-i) ((none,0),[],0) ⟨rfl,trivial⟩ (List.Perm.refl _) ⟨Has.pure (⟨by omega,rfl,hR.symm,fun _ h=>(by cases h)⟩),trivial⟩ ?_;rintro⟨q,M,i⟩;dsimp only;refine cD (Has.of mT0) fun hinv9=>?_;refine bE<|sr<|sp4 hT ?_;refine sp hT ?_;refine ss (ldO hT (fE .head)) ?_;refine sp hT ?_;refine bZ (z':=((m.core.bufs.list.length:Nat):Int)) rfl ?_;refine sp hT ?_;refine nn<|bL rfl (fun hc45=>?_) (fun hc45=>?_)
 ·have hc45:=of_decide_eq_true hc45;refine bO<|bC<|bE<|bW<|bE ?_
  obtain⟨u,hu⟩: ∃u,m.core.bufs.list[i]?=some u:=⟨_,List.getElem?_eq_getElem (by omega)⟩
  have hub:=hS u (List.mem_of_getElem? hu);have hsz:=tR (rnSides m.dims.list u.c);refine cL (mD u.sides) (Has.each (tA (iY (Has.of mT3))) (List.mem_of_getElem? hu)) ?_;have hibu:=hI u (List.mem_of_getElem? hu);refine bB<|sp4 hT ?_;refine ss (ldO hT (fE .head)) ?_;refine sp hT ?_;refine ss (bV hT (k:=i) (bP (Has.of mT3)) rfl rfl rfl rfl rfl rfl rfl (by omega)) ?_;refine ss (dT hT (cM.knows (bP (Has.of mT3)) (k:=i) (x:=u) hu 0) rfl rfl rfl rfl rfl) ?_;refine gP rfl rfl rfl rfl tJ rfl fun b1=>?_;refine sto hT .head ?_;refine nn<|bE<|fJ _ _ [(true,0),(true,1),(true,2),(true,3),(true,4),(true,5),(false,6),(true,7),(true,8),(true,9),(true,10),(true,11),(true,12),(true,13)] dS (by decide+kernel) (.cons .head (.cons .head (.cons .head Sel.self))) bQ.self ?_;refine puM hT ?_;refine stM rfl (ldO hT (dO .head)) ?_;refine puM hT ?_;refine puM hT ?_;refine puM hT ?_;refine stM rfl (ldO hT (mZ kT1)) ?_;refine fN (o:=_) rfl ?_;refine cK Tryz.func47 (sQ u.sides m.dims.addr m.dims.cap m.dims.list hdl) rfl rfl .nil ⟨(Has.of mT0),(Has.of mT5),trivial⟩ fun vy=>?_;refine cD (Has.of mT0) fun hvp=>?_;obtain⟨⟨VA,vc⟩,vl⟩:=vy;obtain rfl:vl=(rnSides m.dims.list u.c):=Option.some.inj ((hvp hub.1).symm.trans hub.2.2.1);refine lE (E:=cQ) .head ?_;refine fO (.cons .head (.cons .head (.cons .head Sel.self))) (bQ.drop 2) ?_;refine puM hT ?_;refine puM hT ?_;refine puM hT ?_;refine puM hT ?_;refine puM hT ?_;refine puM hT ?_;refine puM hT ?_;refine cW<|bC<|bE<|sr<|sp hT ?_;refine ss (ldO hT (fE .head)) ?_;refine sp hT ?_;refine nn<|bL rfl (fun hc69=>?_) (fun hc69=>?_)
  ·have hc69:=of_decide_eq_true hc69;refine bE<|jG 11 _ _ [(true,0),(true,1),(true,2),(true,3),(true,4),(true,5),(false,6),(false,7),(false,8),(true,9),(true,10)] dS (by decide+kernel) (.cons .head (.cons .head (Sel.skip Sel.self))) bQ.self ?_;refine puL hT ?_;refine puL hT ?_;refine puL hT ?_;refine puL hT ?_;refine stL rfl (ldO hT (jD kT1)) ?_;refine puL hT ?_;refine bZ (z':=(((fP (rnSides m.dims.list u.c)).1.toNat:Nat):Int)) (by rw [hub.2.1];omega) ?_;refine hY (o:=_) rfl ?_;refine pD (m:=(fP (rnSides m.dims.list u.c)).1.toNat) rfl rfl rfl rfl rfl rfl (by omega) fun b2=>?_;refine at_val (v':= .slice (some ⟨b2,0,none⟩) (List.replicate (fP (rnSides m.dims.list u.c)).1.toNat (0:Int)).length (fP (rnSides m.dims.list u.c)).1.toNat) (by rw [List.length_replicate]) ?_;refine gZ (.cons kT1 (.cons kT1 (Sel.skip (Sel.skip Sel.self)))) (bQ.drop 0) ?_;refine hY (o:=_) rfl ?_;refine pV (m:=(⟨some ⟨b2,0,none⟩,(fP (rnSides m.dims.list u.c)).1.toNat,List.replicate (fP (rnSides m.dims.list u.c)).1.toNat 0⟩:Sl Int)) rfl rfl rfl rfl rfl fun b3=>?_;refine gZ (.cons kT2 (.cons kT2 (Sel.skip (Sel.skip (Sel.skip Sel.self))))) (bQ.drop 0) ?_;refine hY (o:=_) rfl ?_;refine qD kT4 (dP .head rfl) rfl rfl rfl rfl rfl rfl rfl (by show M.length+1≤_;omega) fun A4 c5=>?_;refine gZ (.cons kT3 (.cons kT3 (Sel.skip (Sel.skip (Sel.skip Sel.self))))) (bQ.drop 0) ?_;refine puL hT ?_;refine puL hT ?_;refine hU (o:=_) rfl ?_;refine sto hT kT4 ?_;refine iX<|bC<|cU<|cI<|cT<|bC<|bB<|sp2 hT ?_;refine bZ (z':=(((i+1):Nat):Int)) (cV (by omega) (by omega)) ?_;refine sp hT ?_;refine nn<|qG (E:=cQ) kT3 ?_;rw [memC_rep];refine gB (.cons .head (.cons .head (.cons .head (Sel.skip (Sel.skip Sel.self))))) ?_;refine cR (wS M ⟨some ⟨b2,0,none⟩,(fP (rnSides m.dims.list u.c)).1.toNat,List.replicate (fP (rnSides m.dims.list u.c)).1.toNat 0⟩ [_,_]) ?_;exact gH ((A4,c5),M++[⟨some ⟨b2,0,none⟩,(fP (rnSides m.dims.list u.c)).1.toNat,List.replicate (fP (rnSides m.dims.list u.c)).1.toNat 0⟩],i+1) (by dsimp only;omega) ⟨rfl,trivial⟩ ⟨rfl,rfl,trivial⟩ (List.Perm.refl _) ⟨Has.pure (⟨by dsimp only;omega,by dsimp only;rw [List.length_append,List.length_singleton];omega,by dsimp only;rw [List.map_append];exact bGz hinv9.2.2.1 (dE hu) (by show u.input<0;omega),sH hinv9.2.2.2 (by show(List.replicate _ _).length≤_;rw [List.length_replicate];have:=tR (rnSides m.dims.list u.c);omega)⟩),trivial⟩ (bQ.drop 4)
  have hc69:=Int.not_lt.1 (of_decide_eq_false hc69);refine bO<|bC<|bE<|bE ?_;have hmg:=most_gt (n:=0) (List.mem_of_getElem? (dE hu))
  replace hmg:u.input<rnMost (bufsL m.core.bufs.list) 0:=hmg
  rw [←hml,rA] at hmg
  obtain⟨x,hx⟩: ∃x,ins[u.input.toNat]?=some x:=⟨_,List.getElem?_eq_getElem (by omega)⟩
  refine cL (uI x) (Has.each (Has.of mT9) (List.mem_of_getElem? hx)) ?_;refine cD (arrF_sz (Has.of mT0)) fun haz=>?_;refine cL (cQ.sl (.slice x.sides.addr x.sides.list.length x.sides.cap) x.sides.list) (arrF_s (Has.of mT0)) ?_;refine cL (cQ.sl (.slice x.data.addr x.data.list.length x.data.cap) x.data.list) (arrF_d (Has.of mT1)) ?_;refine bB<|sp2 hT ?_;refine ss (ldO hT (fE .head)) ?_;refine ss (bV hT (k:=u.input.toNat) (bP (Has.of mT11)) rfl rfl rfl rfl rfl rfl (by omega) ((List.getElem?_eq_some_iff.1 hx).1)) ?_;refine ss (dT hT (cM.knows (bP (Has.of mT11)) (k:=u.input.toNat) (x:=x) hx 0) rfl rfl rfl rfl rfl) ?_;refine cK Tryz.func98 (right6_spec x (by omega)) rfl rfl .nil ⟨(Has.of mT1),trivial⟩ fun _=>?_;refine sp2 hT ?_;refine cB (fun hg88=>?_) (fun hg88=>?_)
  ·have hg88:=gR hg88;have hrt:kU x.arr=false:=by simpa using hg88
   refine sk4 ?_;refine sk4 ?_;refine sk ?_;refine sp hT ?_;refine nn<|cG rfl rfl ?_;refine sr<|sp hT ?_;refine nn<|bI<|bH<|bM<|bH<|bH<|bM<|bH ?_;exact bN (q,M,false) rfl (bD rfl) (.cons kT1 (.cons kT1 (Sel.skip Sel.self))) ⟨Has.pure (.inr ⟨rfl,hRL.trans (bJm hinv9.2.2.1 (dE hu) (by show ¬u.input<0;omega) (uT hx) (by first | (rintro⟨e,_⟩;rw [e] at hrt;cases hrt;done) | (rintro⟨_,e⟩;exact hne e)))⟩),trivial⟩ rfl
  have hg88:=gS hg88;have hrt:kU x.arr=true:=by simpa using hg88
  refine sp2 hT ?_;refine ss (ldO hT (fE .head)) ?_;refine ss (bV hT (k:=u.input.toNat) (bP (Has.of mT11)) rfl rfl rfl rfl rfl rfl (by omega) ((List.getElem?_eq_some_iff.1 hx).1)) ?_;refine sp hT ?_;refine ss (bR hT (cM.knows (bP (Has.of mT11)) (k:=u.input.toNat) (x:=x) hx 0) rfl rfl rfl rfl rfl) ?_;refine sp hT ?_;refine cK Tryz.func79 (zL x.sides.addr VA x.sides.cap vc x.sides.list (rnSides m.dims.list u.c) (by omega)) rfl rfl .nil ⟨(Has.of mT1),(Has.of mT3),trivial⟩ fun _=>?_;refine sp2 hT ?_;refine nn<|bL rfl (fun hc98=>?_) (fun hc98=>?_)
  ·have hc98:=gR hc98;have hne:x.arr.sides≠(rnSides m.dims.list u.c):=by have h:=hc98;simp at h;exact h
   refine sr<|sp hT ?_;refine nn<|bI<|bH<|bM<|bH<|bH<|bM<|bH ?_;exact bN (q,M,false) rfl (bD rfl) (.cons kT1 (.cons kT1 (Sel.skip Sel.self))) ⟨Has.pure (.inr ⟨rfl,hRL.trans (bJm hinv9.2.2.1 (dE hu) (by show ¬u.input<0;omega) (uT hx) (by first | (rintro⟨e,_⟩;rw [e] at hrt;cases hrt;done) | (rintro⟨_,e⟩;exact hne e)))⟩),trivial⟩ rfl
  have hc98:=gS hc98;have hse:x.arr.sides=(rnSides m.dims.list u.c):=by have h:=hc98;simp at h;exact h
  refine bO<|bC<|jG 17 _ _ [(true,0),(true,1),(true,2),(true,3),(true,4),(true,6),(true,7),(true,8),(true,9),(true,10),(true,11),(false,5),(false,12),(false,13),(false,14),(true,15),(true,16)] dS (by decide+kernel) (.cons .head (.cons .head (Sel.skip Sel.self))) bQ.self ?_;refine puL hT ?_;refine puL hT ?_;refine puL hT ?_;refine puL hT ?_;refine stL rfl (ldO hT (jD kT1)) ?_;refine puL hT ?_;refine puL hT ?_;refine stL rfl (ldO hT (fE .head)) ?_;refine stL rfl (bV hT (k:=u.input.toNat) (bP (Has.of mT11)) rfl rfl rfl rfl rfl rfl (by omega) ((List.getElem?_eq_some_iff.1 hx).1)) ?_;refine puL hT ?_;refine stL rfl (bR hT (cM.knows (bP (Has.of mT11)) (k:=u.input.toNat) (x:=x) hx 1) rfl rfl rfl rfl rfl) ?_;refine hY (o:=_) rfl ?_;refine kF rfl rfl rfl rfl fun nb6=>?_;refine gZ (.cons kT1 (.cons kT1 (Sel.skip (Sel.skip Sel.self)))) (bQ.drop 0) ?_;refine hY (o:=_) rfl ?_;refine dH (xs:=([]:List Int)) (ys:=x.data.list) .head (bP (Has.of mT0)) rfl rfl rfl rfl rfl rfl rfl (by show 0+_≤_;omega) fun A7 c8=>?_;rw [List.nil_append];refine gZ (.cons kT1 (.cons kT1 (Sel.skip (Sel.skip Sel.self)))) (bQ.drop 0) ?_;refine hY (o:=_) rfl ?_;refine pV (m:=(⟨A7,c8,x.data.list⟩:Sl Int)) rfl rfl rfl rfl rfl fun b9=>?_;refine gZ (.cons kT2 (.cons kT2 (Sel.skip (Sel.skip (Sel.skip Sel.self))))) (bQ.drop 0) ?_;refine hY (o:=_) rfl ?_;refine qD kT4 (dP .head rfl) rfl rfl rfl rfl rfl rfl rfl (by show M.length+1≤_;omega) fun A10 c11=>?_;refine gZ (.cons kT3 (.cons kT3 (Sel.skip (Sel.skip (Sel.skip Sel.self))))) (bQ.drop 0) ?_;refine puL hT ?_;refine puL hT ?_;refine hU (o:=_) rfl ?_;refine sto hT kT4 ?_;refine iX<|bY<|bC<|bB<|sp2 hT ?_;refine bZ (z':=(((i+1):Nat):Int)) (cV (by omega) (by omega)) ?_;refine sp hT ?_;refine nn<|qG (E:=cQ) kT3 ?_;refine gB (.cons .head (.cons .head (.cons .head (Sel.skip (Sel.skip Sel.self))))) ?_;refine cR (wS M ⟨A7,c8,x.data.list⟩ [_,_]) ?_;exact gH ((A10,c11),M++[⟨A7,c8,x.data.list⟩],i+1) (by dsimp only;omega) ⟨rfl,trivial⟩ ⟨rfl,rfl,trivial⟩ (List.Perm.refl _) ⟨Has.pure (⟨by dsimp only;omega,by dsimp only;rw [List.length_append,List.length_singleton];omega,by dsimp only;rw [List.map_append];exact bHg hinv9.2.2.1 (dE hu) (by show ¬u.input<0;omega) (uT hx) hrt hse,sH hinv9.2.2.2 (by exact bCq hrt)⟩),trivial⟩ (bQ.drop 7)
 have hc45:=Int.not_lt.1 (of_decide_eq_false hc45);refine cU<|cI<|cI<|cT<|bC<|sr<|sp hT ?_;refine nn<|bI ?_;have hLe:=hRL.trans (load_end hinv9.2.2.1 (by rw [dI];omega));exact bN (q,M,true) rfl (bD rfl) (.cons .head (.cons .head Sel.self)) ⟨Has.pure (.inl ⟨rfl,hLe,by show M.length=_;omega,hinv9.2.2.2⟩),trivial⟩ rfl
theorem xR{ds:List Int}: ∀{l:List iW} {al:Int},(cellsGo ds l al).2=0→ ∀u∈l,(sizeB u.sides ds).isSome=true
 | [],_,_,u,hu=>by cases hu
 | b::r,al,h,u,hu=>by
  unfold cellsGo at h
  cases hz:sizeB b.sides ds with
  | none=>rw [hz] at h;exact absurd h (by show ¬(102:Int)=0;decide)
  | some n=>
   rw [hz] at h;dsimp only at h;split at h
   ·exact absurd h (by show ¬(102:Int)=0;decide)
   ·rcases List.mem_cons.1 hu with rfl | hu
    ·rw [hz];rfl
    ·exact xR h u hu
theorem bDn{ds:List Int}: ∀{l:List (List Mono)} {acc r:List Int},sidesGo ds l acc=some r→r=acc++l.map fun p=>(evalP p ds).1
 | [],acc,r,h=>by cases h;simp
 | p::l,acc,r,h=>by
  unfold sidesGo at h;split at h
  ·rw [bDn h,List.append_assoc];rfl
  ·cases h
theorem prodQ_go: ∀{l:List Int} {n k:Int},inSz l→0≤n→n≤65536→prodQ l n=some k→kW l n=(k,0)
 | [],n,k,_,_,_,h=>by cases h;rfl
 | x::l,n,k,hl,h0,h1,h=>by
  have hx:=hl x (List.mem_cons_self ..);have hm:=wK ⟨h0,h1⟩ hx;unfold prodQ at h;split at h
  ·cases h
  ·have hw:w64 (n*x)=n*x:=rn_w64 (by omega) (by omega);unfold kW;rw [hw,if_neg (by omega)];exact prodQ_go (fun y hy=>hl y (List.mem_cons_of_mem _ hy)) hm.1 (by omega) h
theorem sizeB_sizeA{ds:List Int}{sides:List (List Mono)}{l:List Int}{z:Option Int}(hz:sizeB sides ds=z)(hl:sidesGo ds sides []=some l)(h4:l.length≤4)(hs:z.isSome=true):z.getD 0=(fP l).1:=by
 have hin:=wA (fun _ h=>by cases h) hl
 have hb: ¬(4<l.length∨l.any pH=true):=by
  rintro(h | h)
  ·omega
  ·obtain⟨y,hy,hy2⟩:=List.any_eq_true.1 h;have:=hin y hy;simp [pH] at hy2;omega
 unfold sizeB at hz;rw [hl] at hz;dsimp only at hz;unfold fP;rw [if_neg hb]
 by_cases hc:l.contains 0=true
 ·rw [if_pos hc] at hz;rw [if_pos hc,←hz];rfl
 ·rw [if_neg hc] at hz;rw [if_neg hc]
  cases z with
  | none=>cases hs
  | some k=>rw [prodQ_go hin (by decide) (by decide) hz];rfl
theorem bDx{c:iN}{dims:List Int}(hcz:(fI c.c dims).2=0)(hrc:gO c.c=true){u:kX}(hu:u∈c.bufs.list):(sizeB (polsL u.sides.list) dims).isSome=true∧(sizeB (polsL u.sides.list) dims).getD 0=(fP (rnSides dims u.c)).1∧sidesGo dims (polsL u.sides.list) []=some (rnSides dims u.c)∧(rnSides dims u.c).length≤4:=by
 obtain⟨_,_,hcg⟩:=bEg hcz;have h1:(sizeB (polsL u.sides.list) dims).isSome=true:=xR (al:=0) (l:=c.c.bufs) (by rw [←hcg];exact hcz) u.c (List.mem_map.2 ⟨u,hu,rfl⟩)
 have h4:(rnSides dims u.c).length≤4:=by
  show((polsL u.sides.list).map _).length≤4;rw [List.length_map,dC];exact bAf hrc u hu
 have h3:sidesGo dims (polsL u.sides.list) []=some (rnSides dims u.c):=by
  cases hs:sidesGo dims (polsL u.sides.list) [] with
  | none=>unfold sizeB at h1;rw [hs] at h1;cases h1
  | some l=>rw [bDn hs];rfl
 exact⟨h1,sizeB_sizeA rfl h3 h4 h1,h3,h4⟩
theorem I_load{ds:List Int}{ins:List Arr}(hi: ∀a∈ins,∀z∈a.data,I64 z): ∀{l:List iW} {mem r:List (List Int)},rnLoad ds ins l mem= .ok r→(∀d∈mem,∀z∈d,I64 z)→ ∀d∈r,∀z∈d,I64 z
 | [],mem,r,h,hm=>by cases h;exact hm
 | u::l,mem,r,h,hm=>by
  unfold rnLoad at h;split at h
  ·refine I_load hi h fun d hd z hz=>?_
   rcases List.mem_append.1 hd with hd | hd
   ·exact hm d hd z hz
   ·rw [List.mem_singleton.1 hd] at hz;rw [(List.mem_replicate.1 hz).2];exact I_0
  ·split at h
   ·refine I_load hi h fun d hd z hz=>?_
    rcases List.mem_append.1 hd with hd | hd
    ·exact hm d hd z hz
    ·rw [List.mem_singleton.1 hd] at hz
     cases hg:ins[u.input.toNat]? with
     | none=>
      have e:ins.getD u.input.toNat tE=tE:=by rw [List.getD_eq_getElem?_getD,hg];rfl
      rw [e] at hz;cases hz
     | some a=>
      have e:ins.getD u.input.toNat tE=a:=by rw [List.getD_eq_getElem?_getD,hg];rfl
      rw [e] at hz;exact hi a (List.mem_of_getElem? hg) z hz
   ·cases h
theorem I_in{ds:List Int}{ins:List Arr}{bufs:List iW}{r:List (List Int)}(hi: ∀a∈ins,∀z∈a.data,I64 z)(h:sZ ds ins bufs= .ok r): ∀d∈r,∀z∈d,I64 z:=by
 unfold sZ at h;split at h
 ·cases h
 ·exact I_load hi h fun d hd=>by cases hd
theorem lN(v0_0 v0_1 v0_2 v0_3:Value)(a1:Option Addr)(l1 c1:Nat):Tryz.prog.built 132 [(0,.agg #[v0_0,v0_1,v0_2,v0_3]),(1,.slice a1 l1 c1)]=some #[v0_0,v0_1,v0_2,v0_3,.slice a1 l1 c1,.slice none 0 0,.int .i64 0]:=by kernel_rfl
set_option maxHeartbeats 2000000 in
set_option maxRecDepth 100000 in
theorem RunQ_spec(c:iN)(DA:Option Addr)(dcap:Nat)(dims:List Int)(IA:Option Addr)(ic:Nat)(ins:List ArrV)(hdl:dims.length≤140737488355328)(hNs: ∀s∈c.c.steps,∀o∈s.ops,I64 o.n)(hIn: ∀a∈arrL ins,∀z∈a.data,I64 z):dM Tryz.prog 18 [.agg #[.int .i64 c.vars,.slice c.bufs.addr c.bufs.list.length c.bufs.cap,.slice c.steps.addr c.steps.list.length c.steps.cap,.slice c.outs.addr c.outs.list.length c.outs.cap],.slice DA dims.length dcap,.slice IA ins.length ic] [] [lY c,cQ.sl (.slice DA dims.length dcap) dims,jQ.sl (.slice IA ins.length ic) ins,bU.each ins uI] (fun(x:(Option Addr×Nat)×List ArrV)=> .tuple #[.slice x.1.1 x.2.length x.1.2,.int .i64 ((rnRun c.c dims (arrL ins)).2.1:Nat),.int .i64 (rnRun c.c dims (arrL ins)).2.2]) (fun(x:(Option Addr×Nat)×List ArrV)=>jQ.row (.slice x.1.1 x.2.length x.1.2) 77 x.2::wL x.2) (fun(x:(Option Addr×Nat)×List ArrV)=>[bU.pure (arrL x.2=(rnRun c.c dims (arrL ins)).1)]):=by
 have hT:=cZ;refine cO Tryz.func18 rfl Tryz.ntmps18 rfl ?_;intro β hM;refine sr<|gG rfl rfl rfl rfl rfl rfl fun b1=>?_;refine sp3 hT ?_;refine nn<|sr<|ss (ldN hT (dO .head)) ?_;refine sp hT ?_;refine cK Tryz.func44 (CellsQ_spec c DA dcap dims hdl) rfl rfl .nil ⟨(Has.of mT0),(Has.of mT1),trivial⟩ fun _=>?_;refine sp4 hT ?_;refine sp hT ?_;refine nn<|bE<|sr<|sp2 hT ?_;refine nn<|bL rfl (fun hc26=>?_) (fun hc26=>?_)
 ·have hc26:=bne_iff_ne.1 hc26;refine sr<|sp4 hT ?_;refine nn<|bI<|bH ?_;have hR:=bJz (ins:=arrL ins) hc26;refine dN (t:=77) jQ ?_;exact kJ ((none,0),[]) rfl (bD rfl) (bD rfl) (bD rfl) (.cons .head .nil) ⟨Has.pure (by rw [hR];rfl),trivial⟩ (by rw [hR];rfl)
 have hc26:=bne_eq_false_iff_eq.1 hc26;refine bO<|bC<|bE ?_;have hcz:(fI c.c dims).2=0:=by assumption
 obtain⟨hrc,hdc,hcg⟩:=bEg hcz;obtain⟨hbz,_,hou⟩:=xO hrc;have hnb:c.c.bufs.length=c.bufs.list.length:=dI _;have hns:c.c.steps.length=c.steps.list.length:=kG _;have hnou:c.outs.list.length≤64:=hbz.2.2;have hbi: ∀u∈c.bufs.list,-1≤u.input∧u.input<64:=fun u hu=>bDz (oI hrc).2.1 u.c (List.mem_map.2 ⟨u,hu,rfl⟩);refine bB<|ss (ldN hT (dO .head)) ?_;refine sp hT ?_;refine ss (rP rfl rfl (lN _ _ _ _ _ _ _)) ?_;refine gG rfl rfl rfl rfl rfl rfl fun b2=>?_;refine sp hT ?_;refine nn<|bE<|sr<|sp2 hT ?_;refine dN (t:=63) tD ?_;refine gB (.cons kT2 (.cons kT1 (.cons .head .nil))) ?_;refine cR (List.perm_append_comm (l₁:=[_])) ?_;refine cK Tryz.func45 (inputsQ_spec b2 (⟨c,⟨DA,dcap,dims⟩,⟨none,0,[]⟩,0,⟨none,0,[]⟩⟩:gF) IA ic ins (by show c.bufs.list.length≤1024;omega) hbi (fun u hu=>bDx hcz hrc hu) hdl) rfl rfl (fZ.front (rfH b2 ((⟨c,⟨DA,dcap,dims⟩,⟨none,0,[]⟩,0,⟨none,0,[]⟩⟩:gF).mm (none,0) [])) _) ⟨Has.of mT0,Has.of mT1,Has.of mT2,Has.of mT3,trivial⟩ fun iy=>?_;refine cR List.perm_append_comm ?_;refine cD (Has.of mT0) fun hiy=>?_;obtain⟨q,M,ok⟩:=iy
 rcases hiy with ⟨hok,hld⟩ | ⟨hok,hno⟩
 ·have hok:ok=true:=hok;subst hok;refine bT (t':=true) rfl ?_;have hMI:=I_in (ds:=dims) hIn hld.1
  have hS0: ∃S,jY dims c.c.steps 0 ⟨M.map (·.list),0⟩=S:=⟨_,rfl⟩
  obtain⟨S,hS⟩:=hS0;refine sp hT ?_;refine nn<|bS rfl rfl ?_;refine bO<|bC<|bE<|sr<|sp hT ?_;refine nn<|bW<|mJ (ι:=List (Sl Int)×Nat×Int) [(1,_),(3,_),(11,_)] ⟨rfl,rfl,rfl,trivial⟩ (fun⟨N,i,tn⟩=>[(12,.int .i64 (i:Nat))]) (fun⟨N,i,tn⟩=> .obj b1 (.cells ([.int .i64 c.vars,.slice c.bufs.addr c.bufs.list.length c.bufs.cap,.slice c.steps.addr c.steps.list.length c.steps.cap,.slice c.outs.addr c.outs.list.length c.outs.cap]:List Value).toArray 31)::rfH b2 (((⟨c,⟨DA,dcap,dims⟩,⟨none,0,[]⟩,0,⟨none,0,[]⟩⟩:gF).mm q N).tu tn)) (fun⟨N,i,tn⟩=>[bU.pure (i≤c.steps.list.length∧0≤tn∧tn≤2097152∧S=jY dims (c.c.steps.drop i) i ⟨N.map (·.list),tn⟩∧fQ N M∧ ∀r∈N.map (·.list),∀z∈r,I64 z)]) (fun⟨N,i,tn⟩=>c.steps.list.length-i) (M,0,0) ⟨rfl,trivial⟩ (List.Perm.refl _) ⟨Has.pure (⟨by omega,by omega,by omega,hS.symm,fQ.refl _,hMI⟩),trivial⟩ ?_;rintro⟨N,i,tn⟩;dsimp only;refine cD (Has.of mT0) fun hinv8=>?_;refine bE<|sr<|sp2 hT ?_;refine ss (ldO hT (rN .head)) ?_;refine sp2 hT ?_;refine nn<|bL rfl (fun hc40=>?_) (fun hc40=>?_)
  ·have hc40:=of_decide_eq_true hc40;refine bO<|bC<|bE<|bW<|bE<|cL (tU.sl (.slice c.steps.addr c.steps.list.length c.steps.cap) c.steps.list) (yK (qI (Has.of mT2))) ?_
   obtain⟨x,hx⟩: ∃x',c.steps.list[i]?=some x':=⟨_,List.getElem?_eq_getElem (by omega)⟩
   have hx2:=step_h hrc dims (List.mem_of_getElem? hx);refine cL (kB x) (Has.each (wX (qI (Has.of mT3))) (List.mem_of_getElem? hx)) ?_
   obtain⟨r0,hr0⟩: ∃r,N[x.buf.toNat]?=some r:=⟨_,List.getElem?_eq_getElem (by rw [fQ.len hinv8.2.2.2.2.1,hld.2.1];exact hx2.hb1)⟩
   have hrl0:=sD hinv8.2.2.2.2.1 hld.2.2 r0 (List.mem_of_getElem? hr0);have hNx: ∀o∈opsL x.ops.list,I64 o.n:=hNs x.c (List.mem_of_getElem? (iQ hx));refine bB<|sp2 hT ?_;refine ss (ldO hT (rN .head)) ?_;refine sp hT ?_;refine ss (bV hT (k:=i) (bP (Has.of mT1)) rfl rfl rfl rfl rfl rfl rfl (by omega)) ?_;refine ss (dT hT (cM.knows (bP (Has.of mT1)) (k:=i) (x:=x) hx 0) rfl rfl rfl rfl rfl) ?_;refine cR (List.perm_append_comm (l₁:=[_])) ?_;refine cK Tryz.func46 (stepQ_spec b2 (((⟨c,⟨DA,dcap,dims⟩,⟨none,0,[]⟩,0,⟨none,0,[]⟩⟩:gF).mm q N).tu tn) x r0 hx2.hN hx2.hlo hx2.hL1 hx2.hll hx2.hne hx2.hne3 hinv8.2.1 hinv8.2.2.1 hx2.hb0 hr0 (by omega) hx2.hA (by show vU _ _ N.length;rw [fQ.len hinv8.2.2.2.2.1,hld.2.1];exact hx2.hO) hx2.hD hNx hinv8.2.2.2.2.2 hdl) rfl rfl (fZ.front _ _) ⟨Has.of mT0,Has.of mT5,trivial⟩ fun sy=>?_;refine cR List.perm_append_comm ?_;refine cD (Has.of mT0) fun hsy=>?_
   rcases hsy with ⟨⟨hs0,hse⟩ | ⟨hs0,hse⟩,hsI⟩
   ·have hsp:=hsI hs0;refine sp hT ?_;refine nn<|sr<|sp2 hT ?_;refine bT (t':=false) (by show(!(sy.2.2==0))=false;rw [hs0];rfl) ?_;refine nn<|bS rfl rfl ?_;refine bO<|bY<|bC<|bB<|sp2 hT ?_;refine bZ (z':=(((i+1):Nat):Int)) (cV (by omega) (by omega)) ?_;refine sp hT ?_;refine nn ?_;exact gH (sy.1,i+1,sy.2.1) (by dsimp only;omega) ⟨rfl,trivial⟩ ⟨rfl,rfl,rfl,trivial⟩ (List.Perm.refl _) ⟨Has.pure (⟨by dsimp only;omega,hsp.2.2.1,hsp.2.2.2,bHd hinv8.2.2.2.1 (iQ hx) hse,hsp.1.trans hinv8.2.2.2.2.1,hsp.2.1⟩),trivial⟩ (bQ.drop 4)
   refine sp hT ?_;refine nn<|sr<|sp2 hT ?_;refine bT (t':=true) (by show(!(sy.2.2==0))=true;simp [hs0]) ?_;refine nn<|cG rfl rfl ?_;refine sr<|sp4 hT ?_;refine sp hT ?_;refine nn<|bI<|bM<|bH<|bH<|bM<|bH ?_;have hR:=run_bad (ins:=arrL ins) hcz hld.1 (hS.trans (bEn hinv8.2.2.2.1 (iQ hx) hse));refine dN (t:=77) jQ ?_;exact kJ ((none,0),[]) rfl (bD rfl) (bD rfl) (bD rfl) (.cons .head .nil) ⟨Has.pure (by rw [hR];rfl),trivial⟩ (by rw [hR];rfl)
  have hc40:=Int.not_lt.1 (of_decide_eq_false hc40);refine cU<|cI<|cI<|cT<|bC<|bE<|qR (H:=[_,_,_]) ?_;have hse:=hS.trans (bDs hinv8.2.2.2.1 (by rw [hns];omega));have hNl:N.length=c.bufs.list.length:=(fQ.len hinv8.2.2.2.2.1).trans hld.2.1;have hNs2:=sD hinv8.2.2.2.2.1 hld.2.2;refine dN (t:=77) jQ ?_;refine gB (.cons .head (.cons .head (.cons .head (.cons .head .nil)))) ?_;refine cL (cQ.sl (.slice c.outs.addr c.outs.list.length c.outs.cap) c.outs.list) (rW (bBg (Has.of mT3))) ?_;refine cL (uB.sl (.slice c.bufs.addr c.bufs.list.length c.bufs.cap) c.bufs.list) (nS (iY (Has.of mT4))) ?_;refine bB<|sp hT ?_;refine nn<|bE<|sr<|sp hT ?_;refine nn<|bW<|mJ (ι:=(Option Addr×Nat)×List ArrV×Nat) [(1,_),(3,_),(11,_)] ⟨rfl,rfl,rfl,trivial⟩ (fun⟨o,outs,i⟩=>[(14,.slice o.1 outs.length o.2),(15,.int .i64 (i:Nat))]) (fun⟨o,outs,i⟩=>jQ.row (.slice o.1 outs.length o.2) 77 outs:: .obj b1 (.cells ([.int .i64 c.vars,.slice c.bufs.addr c.bufs.list.length c.bufs.cap,.slice c.steps.addr c.steps.list.length c.steps.cap,.slice c.outs.addr c.outs.list.length c.outs.cap]:List Value).toArray 31)::rfO b2 (((⟨c,⟨DA,dcap,dims⟩,⟨none,0,[]⟩,0,⟨none,0,[]⟩⟩:gF).mm q N).tu tn)::maR (((⟨c,⟨DA,dcap,dims⟩,⟨none,0,[]⟩,0,⟨none,0,[]⟩⟩:gF).mm q N).tu tn)::wL outs) (fun⟨o,outs,i⟩=>[bU.pure (i≤c.outs.list.length∧outs.length=i∧arrL outs=(qV dims c.c.bufs (N.map (·.list)) (c.outs.list.take i)))]) (fun⟨o,outs,i⟩=>c.outs.list.length-i) ((none,0),[],0) ⟨rfl,rfl,trivial⟩ (List.Perm.refl _) ⟨Has.pure (⟨by omega,rfl,rfl⟩),trivial⟩ ?_;rintro⟨o,outs,i⟩;dsimp only;refine cD (Has.of mT0) fun hinv15=>?_;refine bE<|sr<|sp2 hT ?_;refine ss (ldO hT (kA kT1)) ?_;refine sp2 hT ?_;refine nn<|bL rfl (fun hc58=>?_) (fun hc58=>?_)
  ·have hc58:=of_decide_eq_true hc58;refine bO<|bC<|bE<|bW<|bE ?_
   obtain⟨k,hko⟩: ∃k,c.outs.list[i]?=some k:=⟨_,List.getElem?_eq_getElem (by omega)⟩
   have hkb:=hou k (List.mem_of_getElem? hko);rw [hnb] at hkb
   obtain⟨u,hu⟩: ∃u,c.bufs.list[k.toNat]?=some u:=⟨_,List.getElem?_eq_getElem (by omega)⟩
   obtain⟨r,hr⟩: ∃r,N[k.toNat]?=some r:=⟨_,List.getElem?_eq_getElem (by omega)⟩
   have hrs:=hNs2 r (List.mem_of_getElem? hr);refine cL (cQ.sl (.slice r.addr r.list.length r.cap) r.list) (Has.each (Has.of mT3) (List.mem_of_getElem? hr)) ?_;refine cL (mD u.sides) (Has.each (tA (iY (Has.of mT7))) (List.mem_of_getElem? hu)) ?_;have hub:=bDx hcz hrc (List.mem_of_getElem? hu);refine fJ _ _ [(true,0),(true,1),(true,2),(true,3),(true,4),(true,5),(true,6),(true,7),(true,8),(true,9),(true,10),(false,11),(true,12),(true,13),(true,14),(true,15),(true,16),(true,17),(true,18)] dS (by decide+kernel) (.cons .head (.cons .head (.cons .head (.cons .head Sel.self)))) bQ.self ?_;refine puM hT ?_;refine stM rfl (ldO hT (fE kT1)) ?_;refine puM hT ?_;refine stM rfl (ldO hT (kA kT1)) ?_;refine puM hT ?_;refine stM rfl (bV hT (k:=i) (bP (Has.of mT4)) rfl rfl rfl rfl rfl rfl rfl (by omega)) ?_;refine stM rfl (bR hT (cM.knows (bP (Has.of mT4)) (k:=i) (x:=k) hko 0) rfl rfl rfl rfl rfl) ?_;refine stM rfl (bV hT (k:=k.toNat) (bP (Has.of mT3)) rfl rfl rfl rfl rfl rfl (by omega) ((List.getElem?_eq_some_iff.1 hu).1)) ?_;refine puM hT ?_;refine stM rfl (bR hT (cM.knows (bP (Has.of mT3)) (k:=k.toNat) (x:=u) hu 0) rfl rfl rfl rfl rfl) ?_;refine puM hT ?_;refine fN (o:=_) rfl ?_;refine cK Tryz.func47 (sQ u.sides DA dcap dims hdl) rfl rfl .nil ⟨(Has.of mT0),(Has.of mT9),trivial⟩ fun vy=>?_;refine cD (Has.of mT0) fun hvp=>?_;obtain⟨⟨VA,vc⟩,vl⟩:=vy;obtain rfl:vl=(rnSides dims u.c):=Option.some.inj ((hvp hub.1).symm.trans hub.2.2.1);refine fO (.cons kT1 (.cons kT1 (.cons kT1 (.cons kT1 (Sel.skip Sel.self))))) (bQ.drop 1) ?_;refine puM hT ?_;refine puM hT ?_;refine puM hT ?_;refine puM hT ?_;refine puM hT ?_;refine puM hT ?_;refine puM hT ?_;refine cW<|bC<|fJ _ _ [(true,0),(true,1),(true,3),(true,4),(true,5),(true,6),(true,7),(true,8),(true,9),(true,10),(true,11),(true,12),(true,13),(false,2),(false,14),(true,15),(false,16),(false,17),(true,18)] dS (by decide+kernel) (.cons .head (.cons kT1 (.cons kT1 (.cons kT1 (Sel.skip Sel.self))))) bQ.self ?_;refine puM hT ?_;refine puM hT ?_;refine puM hT ?_;refine puM hT ?_;refine puM hT ?_;refine stM rfl (ldO hT (jD kT2)) ?_;refine puM hT ?_;refine stM rfl (ldO hT (kA kT1)) ?_;refine puM hT ?_;refine stM rfl (bV hT (k:=i) (bP (Has.of mT5)) rfl rfl rfl rfl rfl rfl rfl (by omega)) ?_;refine stM rfl (bR hT (cM.knows (bP (Has.of mT5)) (k:=i) (x:=k) hko 0) rfl rfl rfl rfl rfl) ?_;refine stM rfl (bV hT (k:=k.toNat) (cF kT3) rfl rfl rfl rfl rfl rfl (by omega) ((List.getElem?_eq_some_iff.1 hr).1)) ?_;refine stM rfl (bR hT (cM.knows (cF kT3) (k:=k.toNat) (x:=r) hr 0) rfl rfl rfl rfl rfl) ?_;refine fN (o:=_) rfl ?_;refine kF rfl rfl rfl rfl fun nb3=>?_;refine fO (.cons kT1 (.cons kT2 (.cons kT2 (.cons kT2 (Sel.skip (Sel.skip Sel.self)))))) (bQ.drop 0) ?_;refine fN (o:=_) rfl ?_;refine dH (xs:=([]:List Int)) (ys:=r.list) .head (bP (Has.of mT2)) rfl rfl rfl rfl rfl rfl rfl (by show 0+_≤_;omega) fun A4 c5=>?_;rw [List.nil_append];refine fO (.cons kT1 (.cons kT2 (.cons kT2 (.cons kT2 (Sel.skip (Sel.skip Sel.self)))))) (bQ.drop 0) ?_;refine stM rfl (rP rfl rfl (qQ _ _ _ _ _ _)) ?_;refine fN (o:=_) rfl ?_;refine bDc (m:=(⟨⟨VA,vc,rnSides dims u.c⟩,⟨A4,c5,r.list⟩⟩:ArrV)) rfl rfl rfl rfl rfl fun b6=>?_;refine fO (.cons kT2 (.cons kT3 (.cons kT3 (.cons kT3 (Sel.skip (Sel.skip (Sel.skip Sel.self))))))) (bQ.drop 0) ?_;refine fN (o:=_) rfl ?_;refine bEq kT3 (dP .head rfl) rfl rfl rfl rfl rfl rfl rfl (by simp only [List.length_singleton];omega) fun A7 c8=>?_;refine fO (.cons kT3 (.cons kT3 (.cons kT3 (.cons kT3 (Sel.skip (Sel.skip (Sel.skip Sel.self))))))) (bQ.drop 0) ?_;refine puM hT ?_;refine cW<|bY<|bC<|bB<|sp2 hT ?_;refine bZ (z':=(((i+1):Nat):Int)) (cV (by omega) (by omega)) ?_;refine sp hT ?_;refine nn<|gB (.cons kT3 (.cons kT2 (.cons .head (.cons kT1 (.cons kT1 (.cons kT1 (Sel.skip Sel.self))))))) ?_;refine cR (famA_new outs (⟨⟨VA,vc,rnSides dims u.c⟩,⟨A4,c5,r.list⟩⟩:ArrV) [_,_,_,_]) ?_;exact gH ((A7,c8),outs++[(⟨⟨VA,vc,rnSides dims u.c⟩,⟨A4,c5,r.list⟩⟩:ArrV)],i+1) (by dsimp only;omega) ⟨rfl,rfl,trivial⟩ ⟨rfl,rfl,rfl,trivial⟩ (List.Perm.refl _) ⟨Has.pure (⟨by dsimp only;omega,by dsimp only;rw [List.length_append,List.length_singleton];omega,by dsimp only;unfold arrL;rw [List.map_append,bHw (bufs:=c.c.bufs) hko (dE hu) (by rw [List.getElem?_map,hr];rfl),←hinv15.2.2];rfl⟩),trivial⟩ (bQ.drop 4)
  have hc58:=Int.not_lt.1 (of_decide_eq_false hc58);refine cU<|cI<|cI<|cT<|bC<|sr<|sp4 hT ?_;refine nn<|bI ?_;have hR:=run_ok (ins:=arrL ins) hcz hld.1 hse;have ho2:arrL outs=qV dims c.c.bufs (N.map (·.list)) c.c.outs:=by rw [hinv15.2.2,List.take_of_length_le (by omega)];rfl
  exact kJ (o,outs) rfl (bD rfl) (bD rfl) (bD rfl) (.cons .head (Sel.skip (Sel.skip (Sel.skip Sel.self)))) ⟨Has.pure (by rw [hR];exact ho2),trivial⟩ (by rw [hR];rfl)
 have hok:ok=false:=hok;subst hok;refine bT (t':=false) rfl ?_;refine sp hT ?_;refine nn<|cG rfl rfl ?_;refine sr<|sp3 hT ?_;refine nn<|bI<|bH ?_;have hR:=rrun_in (ins:=arrL ins) hcz hno;refine dN (t:=77) jQ ?_;exact kJ ((none,0),[]) rfl (bD rfl) (bD rfl) (bD rfl) (.cons .head .nil) ⟨Has.pure (by rw [hR];rfl),trivial⟩ (by rw [hR];rfl)
section
variable {P : Program} {β : fY} {n : Nat} {Γ : Env} {H : List bX} {F : List bU} {Q : Exit → Act → World → Prop} {K : Act → World → Prop} {T : Tab} {α : Type} {E : Flat α} {m : Nat} {D : iK}
def bU.on (D:iK)(f:bU):bU where
 p S w:=f.p (fun b=>S b∧D b) w
 mono:=fun hs ha h=>f.mono (fun b hb=>⟨hs b hb.1,hb.2⟩) (fun b hb=>ha b hb.1) h
theorem Has.on{D:iK}{f:bU}(h:Has F (bU.on D f)):Has F f:=fun S w k=>f.mono (fun _ hb=>hb.1) (fun _ _=>rfl) (h S w k)
def sim (u u':Value):Prop:=u'=u∨ ∃a b,u= .int .i64 a∧u'= .int .i64 b
structure Near (D:iK) (w w':World):Prop where
 low: ∀b:Nat,D b→w'.heap[b]?=w.heap[b]?
 cells: ∀(b:Nat) (cs:Array Value) (t:TypeId) (z:Nat×Nat),w.heap[b]?=some (Obj.cells cs t z)→ ∃cs':Array Value,w'.heap[b]?=some (Obj.cells cs' t z)∧cs'.size=cs.size∧ ∀(i:Nat) (u:Value),cs[i]?=some u→ ∃u',cs'[i]?=some u'∧sim u u'
def lW (D:iK)(f:bU):Prop:= ∀S w w',Near D w w'→f.p S w→f.p S w'
theorem lW.on{f:bU}:lW D (bU.on D f):=fun _ _ _ hn h=>f.mono (fun _ hb=>hb) (fun b hb=>hn.low b hb.2) h
theorem lW.pure{c:Prop}:lW D (bU.pure c):=fun _ _ _ _ h=>h
theorem lW.and{f g:bU}(hf:lW D f)(hg:lW D g):lW D (f.and g):=fun S w w' hn h=>⟨hf S w w' hn h.1,hg S w w' hn h.2⟩
theorem lW.each{γ:Type}{g:γ→bU}{l:List γ}(hg: ∀x∈l,lW D (g x)):lW D (bU.each l g):=fun S w w' hn h x hx=>hg x hx S w w' hn (h x hx)
def Flat.Sim(E:Flat α)(R:α→α→Prop):Prop:= ∀x (cs:List Value),cs.length=E.size→(∀(i:Nat) u u',(E.cells x)[i]?=some u→cs[i]?=some u'→sim u u')→ ∃x',E.cells x'=cs∧R x x'
theorem Flat.Sim.all{R:α→α→Prop}(hS:E.Sim R): ∀(xs:List α) (cs:List Value),cs.length=(E.all xs).length→(∀(i:Nat) u u',(E.all xs)[i]?=some u→cs[i]?=some u'→sim u u')→
  ∃xs',E.all xs'=cs∧xs'.length=xs.length∧ ∀(i:Nat) x x',xs[i]?=some x→xs'[i]?=some x'→R x x'
 | [],cs,hl,_=>⟨[],by rw [List.eq_nil_of_length_eq_zero hl];rfl,rfl,fun i x x' h=>by simp at h⟩
 | x::xs,cs,hl,hs=>by
  have ha:E.all (x::xs)=E.cells x++E.all xs:=rfl;have hx:(E.cells x).length=E.size:=E.len x;rw [ha,List.length_append] at hl;rw [ha] at hs
  obtain⟨x',hx',hr⟩:=hS x (cs.take E.size) (by rw [List.length_take];omega) fun i u u' hu hu'=>by
   have hi:=(List.getElem?_eq_some_iff.1 hu).1;refine hs i u u' (by rw [List.getElem?_append_left hi];exact hu) ?_;rw [List.getElem?_take] at hu';split at hu'
   ·exact hu'
   ·cases hu'
  obtain⟨xs',h1,h2,h3⟩:=Flat.Sim.all hS xs (cs.drop E.size) (by rw [List.length_drop];omega) fun i u u' hu hu'=>by
   refine hs (E.size+i) u u' ?_ (by rw [List.getElem?_drop] at hu';exact hu');rw [List.getElem?_append_right (by omega),hx,Nat.add_sub_cancel_left];exact hu
  refine⟨x'::xs',?_,by simp [h2],fun i y y' hy hy'=>?_⟩
  ·show E.cells x'++E.all xs'=cs;rw [hx',h1,List.take_append_drop]
  ·cases i with
   | zero=>
    simp at hy hy';subst hy hy';exact hr
   | succ i=>
    simp at hy hy';exact h3 i y y' hy hy'
theorem lW.sl{v:Value}{xs:List α}(hE: ∀x,∀u∈E.cells x,∀a,u≠ .int .i64 a):lW D (E.sl v xs):=fun S w w' hn ⟨A,cap,e,h⟩=>⟨A,cap,e,fun k x hk=>by
 obtain⟨b,o,cs,e1,e2,e3,e4⟩:=h k x hk;have e4':cs=E.cells x:=e4;refine⟨b,o,cs,e1,e2,fun j u hj=>?_,e4⟩;have h1:=e3 j u hj;unfold World.cell? at h1⊢
 cases hb:w.heap[b]? with
 | none=>rw [hb] at h1;cases h1
 | some ob=>
  rw [hb] at h1
  cases ob with
  | cells c t fz=>
   obtain⟨c',k1,_,k3⟩:=hn.cells b c t fz hb;have h1:c[o+k*E.size+j]?=some u:=h1;obtain⟨u',q1,q2⟩:=k3 _ u h1;simp only [k1];show c'[o+k*E.size+j]?=some u;rw [q1]
   rcases q2 with rfl | ⟨a,_,rfl,_⟩
   ·rfl
   ·exact absurd rfl (hE x _ (by rw [←e4'];exact List.mem_of_getElem? hj) a)
  | _=>cases h1⟩
def bBm (D:iK):List bU→Prop
 | []=>True
 | f::F=>lW D f∧bBm D F
theorem bBm.all: ∀{F:List bU},bBm D F→ ∀f∈F,lW D f
 | [],_,f,hf=>by cases hf
 | g::F,h,f,hf=>by
  rcases List.mem_cons.1 hf with rfl | hf
  ·exact h.1
  ·exact bBm.all h.2 f hf
end
section
variable {P : Program} {β : fY} {n : Nat} {Γ : Env} {H : List bX} {F : List bU} {K : Act → World → Prop} {m : Nat}
theorem bDh{ι:Type}{f:FuncId}{args:List Value}{Hin:List bX}{Pre:List bU}{val:ι→Value}{Hout Hout':ι→List bX}{post post':ι→List bU}(h:dM P f args Hin Pre val Hout post)
  (hc: ∀(x:ι) (β:fY),At β 0 [] (Hout x) (post x) fun _ w=> ∃S',St β (Hout' x) S' w∧All (post' x) S' w):dM P f args Hin Pre val Hout' post':=fun S w s k=>(h S w s k).mono fun e w' ⟨x,S',he,hs,hp⟩=>by
 obtain⟨S2,h1,h2⟩:=hc x _ {tmps:= #[],defers:=[]} w' S' ⟨rfl,Nat.zero_le _,fun i v hv=>by cases hv⟩ hs hp;exact⟨x,S2,he,h1,h2⟩
theorem at_finA{H':List bX}{G:List bU}(hH:Sel H H')(hF:bQ F G):At β n Γ H F fun _ w=> ∃S',St β H' S' w∧All G S' w:=fun _ w S _ s k=>⟨S,s.sel hH,hF.all S w k⟩
end
section
variable (c : iN) (DA : Option Addr) (dcap : Nat) (dims : List Int) (IA : Option Addr) (ic : Nat) (ins : List ArrV) (hdl : dims.length ≤ 140737488355328)
abbrev runArgs:List Value:=[.agg #[.int .i64 c.vars,.slice c.bufs.addr c.bufs.list.length c.bufs.cap,.slice c.steps.addr c.steps.list.length c.steps.cap,.slice c.outs.addr c.outs.list.length c.outs.cap],.slice DA dims.length dcap,.slice IA ins.length ic]
abbrev yU (x:(Option Addr×Nat)×List ArrV):Value:= .tuple #[.slice x.1.1 x.2.length x.1.2,.int .i64 ((rnRun c.c dims (arrL ins)).2.1:Nat),.int .i64 (rnRun c.c dims (arrL ins)).2.2]
abbrev runPost(x:(Option Addr×Nat)×List ArrV):List bU:=[bU.each x.2 bBf,jQ.sl (.slice x.1.1 x.2.length x.1.2) x.2,bU.pure (x.2.length≤9223372036854775807∧arrL x.2=(rnRun c.c dims (arrL ins)).1)]
include hdl in
theorem RunF_spec:dM Tryz.prog 17 (runArgs c DA dcap dims IA ic ins) [] [lY c,cQ.sl (.slice DA dims.length dcap) dims,jQ.sl (.slice IA ins.length ic) ins,bU.each ins uI] (yU c dims ins) (fun _=>[]) (runPost c dims ins):=by
 refine bDh (bJw c DA dcap dims IA ic ins hdl) fun x β=>?_;refine cD (Has.of mT0) fun hx=>?_;refine vH (E:=jQ) .head fun hl=>?_;refine lE (E:=jQ) .head ?_;refine cR (H:=wL x.2) (H':=wL x.2++[]) (by rw [List.append_nil]) ?_;refine pE x.2 ?_;exact at_finA .nil ⟨Has.of mT0,Has.of mT1,Has.pure ⟨hl,hx⟩,trivial⟩
end
def NumsOk(x:CasV):Prop:=(∀s∈x.c.c.steps,∀o∈s.ops,I64 o.n)∧ ∀a∈arrL x.ins.list,∀z∈a.data,I64 z
theorem RunG_spec(c:iN)(DA:Option Addr)(dcap:Nat)(dims:List Int)(IA:Option Addr)(ic:Nat)(ins:List ArrV)(hdl:dims.length≤140737488355328)(hNs: ∀s∈c.c.steps,∀o∈s.ops,I64 o.n)(hIn: ∀a∈arrL ins,∀z∈a.data,I64 z):dM Tryz.prog 18 (runArgs c DA dcap dims IA ic ins) [] [lY c,cQ.sl (.slice DA dims.length dcap) dims,jQ.sl (.slice IA ins.length ic) ins,bU.each ins uI] (yU c dims ins) (fun _=>[]) (runPost c dims ins):=by
 refine bDh (RunQ_spec c DA dcap dims IA ic ins hdl hNs hIn) fun x β=>?_;refine cD (Has.of mT0) fun hx=>?_;refine vH (E:=jQ) .head fun hl=>?_;refine lE (E:=jQ) .head ?_;refine cR (H:=wL x.2) (H':=wL x.2++[]) (by rw [List.append_nil]) ?_;refine pE x.2 ?_;exact at_finA .nil ⟨Has.of mT0,Has.of mT1,Has.pure ⟨hl,hx⟩,trivial⟩
set_option maxHeartbeats 1000000 in
set_option maxRecDepth 100000 in
theorem lawR_spec(x:CasV):dM Tryz.prog 6 [.agg #[.int .i64 x.c.vars,.slice x.c.bufs.addr x.c.bufs.list.length x.c.bufs.cap,.slice x.c.steps.addr x.c.steps.list.length x.c.steps.cap,.slice x.c.outs.addr x.c.outs.list.length x.c.outs.cap,.slice x.dims.addr x.dims.list.length x.dims.cap,.slice x.ins.addr x.ins.list.length x.ins.cap]] [] [laidF,lY x.c,xK x.dims,arrsF x.ins,bU.pure (NumsOk x)] (fun(_:Unit)=> .bool true) (fun _=>[]) (fun _=>[]):=by
 have hT:=casT_ok;refine cO Tryz.func6 rfl Tryz.ntmps6 rfl ?_;intro β hM;refine bE<|cL (cQ.sl (.slice x.dims.addr x.dims.list.length x.dims.cap) x.dims.list) (rW (Has.of mT2)) ?_;refine cL (jQ.sl (.slice x.ins.addr x.ins.list.length x.ins.cap) x.ins.list) (arrsF_s (Has.of mT4)) ?_;refine cL (bU.each x.ins.list uI) (arrsF_e (Has.of mT5)) ?_;refine cD (show Has _ (wR 8 x.dims) from Has.right (Has.of mT5)) fun hdz=>?_;have hdl:x.dims.list.length≤140737488355328:=by have h2:x.dims.list.length*8≤140737488355328:=hdz.2;omega
 refine cD (Has.of mT7) fun hnum=>?_;refine bB<|gG rfl rfl rfl rfl rfl rfl fun b1=>?_;refine sp hT ?_;refine nn<|sr<|cK Tryz.func16 shown12_spec rfl rfl .nil ⟨(Has.of mT3),trivial⟩ fun _=>?_;refine sp hT ?_;refine nn<|sr<|sp hT ?_;refine ss (ldN hT (dO .head)) ?_;refine sp hT ?_;refine ss (ldO hT (mZ .head)) ?_;refine sp hT ?_;refine ss (ldO hT (jD .head)) ?_;refine cK Tryz.func17 (RunF_spec x.c x.dims.addr x.dims.cap x.dims.list x.ins.addr x.ins.cap x.ins.list hdl) rfl rfl .nil ⟨(Has.of mT4),(Has.of mT2),(Has.of mT1),(Has.of mT0),trivial⟩ fun⟨⟨yA,yc⟩,ys⟩=>?_;refine cD (Has.of mT2) fun hyp=>?_;obtain⟨hyl,hy⟩:=hyp;have hyl:ys.length≤9223372036854775807:=hyl
 obtain⟨R,hR⟩: ∃R,rnRun x.c.c x.dims.list (arrL x.ins.list)=R:=⟨_,rfl⟩
 have hy:arrL ys=R.1:=hR▸hy;rw [show yU x.c x.dims.list x.ins.list ((yA,yc),ys)= .tuple #[.slice yA ys.length yc,.int .i64 (R.2.1:Nat),.int .i64 R.2.2] by unfold yU;rw [hR]];refine sp4 hT ?_;refine sp3 hT ?_;refine nn<|sr<|sp hT ?_;refine ss (ldN hT (dO .head)) ?_;refine sp hT ?_;refine ss (ldO hT (mZ .head)) ?_;refine sp hT ?_;refine ss (ldO hT (jD .head)) ?_;refine cK Tryz.func18 (RunG_spec x.c x.dims.addr x.dims.cap x.dims.list x.ins.addr x.ins.cap x.ins.list hdl hnum.1 hnum.2) rfl rfl .nil ⟨(Has.of mT7),(Has.of mT5),(Has.of mT4),(Has.of mT3),trivial⟩ fun⟨⟨zA,zc⟩,zs⟩=>?_;refine cD (Has.of mT2) fun hzp=>?_;obtain⟨hzl,hz⟩:=hzp;have hzl:zs.length≤9223372036854775807:=hzl;have hz:arrL zs=R.1:=hR▸hz;rw [show yU x.c x.dims.list x.ins.list ((zA,zc),zs)= .tuple #[.slice zA zs.length zc,.int .i64 (R.2.1:Nat),.int .i64 R.2.2] by unfold yU;rw [hR]];refine sp4 hT ?_;refine sp3 hT ?_;refine nn<|sr<|sp4 hT ?_;refine sp hT ?_;refine bT (t':=true) (beq_self_eq_true _) ?_;refine sp4 hT ?_;refine sp hT ?_;refine bT (t':=true) (beq_self_eq_true _) ?_;refine sp4 hT ?_;refine cD (arrM_k (Has.of mT3)) fun hyk=>?_;refine cK Tryz.func19 (same8_spec yA zA yc zc ys zs hyl hyk) rfl rfl .nil ⟨(Has.of mT4),(Has.of mT3),(Has.of mT1),(Has.of mT0),trivial⟩ fun _=>?_;refine bT (t':=true) (decide_eq_true (hy.trans hz.symm)) ?_;refine sp2 hT ?_;refine nn<|bI ?_;exact bN () rfl (bD rfl) .nil trivial (rfl)
end Go.Proofs.YtnmhcaahkaocgaaGreatDoor
namespace Go.Proofs.YtnmhcaahkaocgaaGreatDoor
open Go.RowKit Go.ChangeShapes Go.WideShapes
section
variable {S : Nat → Prop} {w : World}
theorem I_wf{n:Int}(h:(Lit.int .i64 n).wf=true):I64 n:=by
 have h2:=bounds_i64 h;unfold I64;omega
theorem ints_nums{l:Sl Int}(h:((vP.slicec 8).deep l).p S w): ∀z∈l.list,I64 z:=by
 obtain⟨⟨⟨_,a2⟩,_⟩,_⟩:=h;exact fun z hz=>I_wf (a2 z hz)
theorem op_num{o:OpV}(h:(opTy.deep o).p S w):I64 o.n:=I_wf h.2.2.1
theorem ops_nums{l:Sl OpV}(h:((opTy.slicec 56).deep l).p S w): ∀o∈l.list,I64 o.n:=by
 obtain⟨⟨⟨_,a2⟩,_⟩,_⟩:=h;exact fun o ho=>op_num (a2 o ho)
theorem steps_nums{l:Sl fV}(h:((yX.slicec 96).deep l).p S w): ∀s∈l.list,∀o∈s.ops.list,I64 o.n:=by
 obtain⟨⟨⟨_,a2⟩,_⟩,_⟩:=h;exact fun s hs=>ops_nums (a2 s hs).2.2.2.2.2.1
theorem arrs_nums{l:Sl ArrV}(h:((bIz.slicec 48).deep l).p S w): ∀a∈l.list,∀z∈a.data.list,I64 z:=by
 obtain⟨⟨⟨_,a2⟩,_⟩,_⟩:=h;exact fun a ha=>ints_nums (a2 a ha).2.1
theorem nums_of{x:CasV}(h:(casTy.deep x).p S w):NumsOk x:=by
 refine⟨fun s hs o ho=>?_,fun a ha z hz=>?_⟩
 ·obtain⟨y,hy,rfl⟩:=List.mem_map.1 hs;obtain⟨q,hq,rfl⟩:=List.mem_map.1 ho;exact steps_nums h.1.2.2.1 y hy q hq
 ·obtain⟨y,hy,rfl⟩:=List.mem_map.1 ha;exact arrs_nums h.2.2.1 y hy z hz
end
end Go.Proofs.YtnmhcaahkaocgaaGreatDoor
