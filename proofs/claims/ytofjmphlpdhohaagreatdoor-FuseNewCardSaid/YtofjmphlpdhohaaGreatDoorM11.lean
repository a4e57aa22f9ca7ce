/- Texts of one proof, one behind the other: PlanB, RefC, LifeQ, PlanC, PlanD, RefD, RefE, EqK, DelS. -/
import Derived.Test.YtofjmphlpdhohaaGreatDoorM10
import Derived.Test.YtofjmphlpdhohaaGreatDoorShelfB
import Derived.Test.YtofjmphlpdhohaaGreatDoorM7
import Derived.Test.YtofjmphlpdhohaaGreatDoorM8
import Derived.ArgAppend
namespace Go.Proofs.YtofjmphlpdhohaaGreatDoor
open Go.RowKit
section
variable {β : gD} {n : Nat} {Γ : Env} {H : List bZ} {F : List bN} {Q : Exit → Act → World → Prop} {ops : Array Oper} {rest : List Oper} {o : Oper} {d : Nat}
theorem at_makeBools{m:Nat}{x y:Operand}(hw:want ops Γ o=some true)(ho:o.op= .makeSlice 51 x y)(hd:o.dst=some d)(hn:Nat.blt d n=true)
  (hx:Γ.ev x=some (.int .i64 (m:Nat))) (hy:Γ.ev y=some (.int .i64 (m:Nat))) (hm:m≤1000000)
  (k: ∀b,At β n ((d,.slice (some ⟨b,0,none⟩) m m)::Γ) (jX.row (.slice (some ⟨b,0,none⟩) m m) 4 (List.replicate m false)::H) F (wpList Tryz.prog ops Q rest)):At β n Γ H F (wpList Tryz.prog ops Q (o::rest)):=by
 obtain⟨i,hi,hz,hs,hb⟩:=bAl;refine at_make (E:=jX) hw ho hd hn hx hy Tryz.underlying51 hi hz hs (by rw [hb];omega) (by simp [maxLen];omega) ?_ (by simp) k
 have e: ∀m,jX.all (List.replicate m false)=List.replicate m (.bool false):=fun m=>by
  induction m with
  | zero=>rfl
  | succ m ih=>rw [List.replicate_succ,List.replicate_succ,←ih];rfl
 rw [e];unfold madeCells;apply List.ext_getElem
 ·simp [jX]
 ·intro i h1 h2;simp [Value.cells,Nat.mod_one]
end
theorem step10_specM{m:Nat}{made:List Bool}(hm:made.length=m)(c:CoreV)(x:cN)(MA:Option Addr)(mc:Nat)(hv:0≤c.vars)(hv6:c.vars≤6):dT Tryz.prog 73 [.agg #[.int .i64 c.vars,.slice c.bufs.addr c.bufs.list.length c.bufs.cap,.slice c.steps.addr c.steps.list.length c.steps.cap,.slice c.outs.addr c.outs.list.length c.outs.cap],.agg #[.int .i64 x.how,.int .i64 x.buf,.slice x.at_.addr x.at_.list.length x.at_.cap,.slice x.loops.addr x.loops.list.length x.loops.cap,.int .u8 x.fn,.slice x.ops.addr x.ops.list.length x.ops.cap],.slice MA m mc]
  [] [iE c,dQ x,jX.sl (.slice MA m mc) made] (fun _:Unit=> .bool (lV c.c made x.c)) (fun _=>[]) (fun _=>[]):=by
 subst hm;exact step10_spec c x MA mc made hv hv6
section
variable {c : fL} {i j : Nat} {made : List Bool} {r : Bool} {u : BufC} {x : StepC}
def xJ (c:fL)(i:Nat)(made:List Bool)(r:Bool):Prop:=made.length=c.bufs.length∧(∀j,j<i→made[j]?=(mW c.bufs)[j]?)∧ ∃seen:List Int,(∀z,z∈seen→0≤z∧ ∃j u,j<i∧c.bufs[j]?=some u∧u.input=z)∧(∀j u,j<i→c.bufs[j]?=some u→0≤u.input→u.input∈seen)∧r=(mO c.vars (c.bufs.drop i) seen&&bBu c)
def wW (c:fL)(u:BufC)(j:Nat):Prop:= ∀k v,k<j→c.bufs[k]?=some v→ ¬(0≤u.input∧v.input=u.input)
theorem bufs10_start(h:r=(mO c.vars c.bufs []&&bBu c)):xJ c 0 (List.replicate c.bufs.length false) r:=
 ⟨List.length_replicate,fun j hj=>absurd hj (Nat.not_lt_zero j),[],⟨fun _ hz=>absurd hz List.not_mem_nil,fun j _ hj=>absurd hj (Nat.not_lt_zero j),h⟩⟩
theorem rH(h:xJ c i made r)(hu:c.bufs[i]?=some u)(k:gI u.sides c.vars=false∨u.input< -1∨64≤u.input∨0≤u.input∧ ∃j v,j<i∧c.bufs[j]?=some v∧v.input=u.input):r=false:=by
 obtain⟨_,_,seen,h2,h3,h4⟩:=h;rw [kK hu,mO] at h4;rw [h4]
 rcases k with k | k | k | ⟨k,j,v,hj,hv,e⟩
 ·rw [k];rfl
 ·rw [decide_eq_false (show ¬(-1≤u.input∧u.input<64) from fun h=>by omega)];simp
 ·rw [decide_eq_false (show ¬(-1≤u.input∧u.input<64) from fun h=>by omega)];simp
 ·have hm:u.input∈seen:=by
   rw [←e];exact h3 j v hj hv (by omega)
  have e2:seen.contains u.input=true:=by rw [List.contains_eq_mem];exact decide_eq_true hm
  rw [e2];simp
theorem nodup_start:wW c u 0:=fun k v hk=>by omega
theorem bAc{v:BufC}(h:wW c u j)(hv:c.bufs[j]?=some v)(hn: ¬(0≤u.input∧v.input=u.input)):wW c u (j+1):=fun k w hk hw=>by
 by_cases e:k=j
 ·subst e;rw [hv] at hw;cases hw;exact hn
 ·exact h k w (by omega) hw
theorem bufs10_next(h:xJ c i made r)(hu:c.bufs[i]?=some u)(hg:gI u.sides c.vars=true)(h1: -1≤u.input)(h2:u.input<64)(hn:wW c u j)(hj:i≤j):xJ c (i+1) (made.set i (decide (0≤u.input))) r:=by
 obtain⟨k1,k2,seen,k3,k4,k5⟩:=h;have hi:=(List.getElem?_eq_some_iff.1 hu).1
 have hc:seen.contains u.input=false:=by
  rw [List.contains_eq_mem];refine decide_eq_false fun hm=>?_;obtain⟨h0,k,v,hk,hv,e⟩:=k3 _ hm;exact hn k v (by omega) hv ⟨h0,e⟩
 rw [kK hu,mO,hg,decide_eq_true (show-1≤u.input∧u.input<64 from ⟨h1,h2⟩),hc] at k5;refine⟨by rw [List.length_set];exact k1,fun k hk=>?_,if 0≤u.input then u.input::seen else seen,fun z hz=>?_,fun k v hk hv h0=>?_,by simpa using k5⟩
 ·by_cases e:i=k
  ·subst e;rw [List.getElem?_set_self (by omega)];unfold mW;rw [List.getElem?_map,hu];rfl
  ·rw [List.getElem?_set_ne e];exact k2 k (by omega)
 ·by_cases h0:0≤u.input
  ·rw [if_pos h0] at hz
   rcases List.mem_cons.1 hz with rfl | hz
   ·exact⟨h0,i,u,by omega,hu,rfl⟩
   ·obtain⟨q,k,v,hk,hv,e⟩:=k3 z hz;exact⟨q,k,v,by omega,hv,e⟩
  ·rw [if_neg h0] at hz;obtain⟨q,k,v,hk,hv,e⟩:=k3 z hz;exact⟨q,k,v,by omega,hv,e⟩
 ·by_cases e:k=i
  ·subst e;rw [hu] at hv;cases hv;rw [if_pos h0];exact List.mem_cons_self ..
  ·have:=k4 k v (by omega) hv h0;split
   ·exact List.mem_cons_of_mem _ this
   ·exact this
theorem bufs10_end(h:xJ c i made r)(hi:c.bufs.length≤i):mZ c 0 made r:=by
 obtain⟨k1,k2,seen,_,_,k5⟩:=h;rw [List.drop_of_length_le hi] at k5
 have hm:made=mW c.bufs:=by
  apply List.ext_getElem?;intro j
  by_cases hj:j<i
  ·exact k2 j hj
  ·rw [List.getElem?_eq_none (by omega),List.getElem?_eq_none (by rw [oO];omega)]
 exact yA hm (by rw [k5];rfl)
theorem yC{l:List StepC}:gR c.vars c.bufs (x::l) made=(lV c made x&&gR c.vars c.bufs l (made.set x.buf.toNat true)):=by
 rw [gR];exact(Bool.and_assoc _ _ _).symm
theorem steps10_bad(h:mZ c i made r)(hx:c.steps[i]?=some x)(k:lV c made x=false):r=false:=by
 obtain⟨_,h2⟩:=h;rw [kK hx,yC,k] at h2;rw [h2];rfl
theorem steps10_ok(h:mZ c i made r)(hx:c.steps[i]?=some x)(k:lV c made x=true):mZ c (i+1) (made.set x.buf.toNat true) r:=by
 obtain⟨h2,h3⟩:=h;refine⟨by simpa using h2,?_⟩;rw [kK hx,yC,k,Bool.true_and] at h3;exact h3
theorem stepOk_in(h:lV c made x=true):0≤x.buf∧x.buf<c.bufs.length:=by
 unfold lV at h;simp only [Bool.and_eq_true,decide_eq_true_eq] at h;obtain⟨⟨h1,h2⟩,_⟩:=h
 cases hb:c.bufs[x.buf.toNat]? with
 | none=>rw [hb] at h2;cases h2
 | some b=>
  have:=(List.getElem?_eq_some_iff.1 hb).1;exact⟨h1,by omega⟩
def outOk (n:Nat)(k:Int):Bool:=decide (0≤k∧k<n)
end
set_option maxRecDepth 100000 in
theorem wK(c:CoreV):dT Tryz.prog 33 [.agg #[.int .i64 c.vars,.slice c.bufs.addr c.bufs.list.length c.bufs.cap,.slice c.steps.addr c.steps.list.length c.steps.cap,.slice c.outs.addr c.outs.list.length c.outs.cap]] [] [iE c] (fun(_:Unit)=> .bool (dV c.c)) (fun _=>[]) (fun _=>[]):=by
 have hT:=fM;generalize hR:dV c.c=r;have hnb:c.c.bufs.length=c.bufs.list.length:=dB _;have hns:c.c.steps.length=c.steps.list.length:=cY _;have hno:c.c.outs.length=c.outs.list.length:=rfl;refine cQ Tryz.func33 rfl Tryz.ntmps33 rfl ?_;intro β hM;refine sr<|gL rfl rfl rfl rfl rfl rfl fun b1=>?_;refine sp hT ?_;refine nn<|bE<|sr<|sp hT ?_;refine ss (ldO hT (dK .head)) ?_;refine sp2 hT ?_;refine bV (fun hg12=>?_) (fun hg12=>?_)
 ·have hg12:=of_decide_eq_true hg12;refine sk3 ?_;refine sp2 hT ?_;refine sk4 ?_;refine sp2 hT ?_;refine sk4 ?_;refine sp2 hT ?_;refine sk4 ?_;refine sp hT ?_;refine nn<|cK rfl rfl ?_;refine sr<|sp hT ?_;refine nn<|bL<|bK ?_;have hr:=jF hR (by omega);subst hr;exact bJ () rfl (bI rfl) .nil trivial rfl
 have hg12:=Int.not_lt.1 (of_decide_eq_false hg12);refine sp hT ?_;refine ss (ldO hT (dK .head)) ?_;refine sp3 hT ?_;refine bV (fun hg17=>?_) (fun hg17=>?_)
 ·have hg17:=of_decide_eq_true hg17;refine sk4 ?_;refine sp2 hT ?_;refine sk4 ?_;refine sp2 hT ?_;refine sk4 ?_;refine sp hT ?_;refine nn<|cK rfl rfl ?_;refine sr<|sp hT ?_;refine nn<|bL<|bK ?_;have hr:=jF hR (by omega);subst hr;exact bJ () rfl (bI rfl) .nil trivial rfl
 have hg17:=Int.not_lt.1 (of_decide_eq_false hg17);refine sp hT ?_;refine ss (ldO hT (dO .head)) ?_;refine sp4 hT ?_;refine bV (fun hg23=>?_) (fun hg23=>?_)
 ·have hg23:=of_decide_eq_true hg23;refine sk4 ?_;refine sp2 hT ?_;refine sk4 ?_;refine sp hT ?_;refine nn<|cK rfl rfl ?_;refine sr<|sp hT ?_;refine nn<|bL<|bK ?_;have hr:=jF hR (by omega);subst hr;exact bJ () rfl (bI rfl) .nil trivial rfl
 have hg23:=Int.not_lt.1 (of_decide_eq_false hg23);refine sp hT ?_;refine ss (ldO hT (gA .head)) ?_;refine sp4 hT ?_;refine bV (fun hg29=>?_) (fun hg29=>?_)
 ·have hg29:=of_decide_eq_true hg29;refine sk4 ?_;refine sp hT ?_;refine nn<|cK rfl rfl ?_;refine sr<|sp hT ?_;refine nn<|bL<|bK ?_;have hr:=jF hR (by omega);subst hr;exact bJ () rfl (bI rfl) .nil trivial rfl
 have hg29:=Int.not_lt.1 (of_decide_eq_false hg29);refine sp hT ?_;refine ss (ldO hT (iC .head)) ?_;refine sp3 hT ?_;refine nn<|bP rfl (fun hc34=>?_) (fun hc34=>?_)
 ·have hc34:=of_decide_eq_true hc34;refine sr<|sp hT ?_;refine nn<|bL<|bK ?_;have hr:=jF hR (by omega);subst hr;exact bJ () rfl (bI rfl) .nil trivial rfl
 have hc34:=Int.not_lt.1 (of_decide_eq_false hc34);refine bQ<|bD<|bE ?_;have hr0:=yF hR (by omega) (by omega) (by omega) (by omega) (by omega);refine bC<|sp hT ?_;refine ss (ldO hT (dO .head)) ?_;refine sp hT ?_;refine at_makeBools (m:=c.bufs.list.length) rfl rfl rfl rfl rfl rfl (by omega) fun b2=>?_;refine sp hT ?_;refine nn<|bE<|sr<|sp hT ?_;refine nn<|bR<|cG (ι:=Nat×List Bool) [(1,_),(3,_)] ⟨rfl,rfl,trivial⟩ (fun⟨i,dn⟩=>[(4,.int .i64 (i:Nat))]) (fun⟨i,dn⟩=>[jX.row (.slice (some ⟨b2,0,none⟩) c.bufs.list.length c.bufs.list.length) 4 dn]) (fun⟨i,dn⟩=>[bN.pure (i≤c.bufs.list.length∧xJ c.c i dn r)]) (fun⟨i,dn⟩=>c.bufs.list.length-i) (0,List.replicate c.bufs.list.length false) ⟨rfl,trivial⟩ (.cons .head .nil) ⟨Has.pure (⟨by omega,by rw [←hnb];exact bufs10_start hr0⟩),trivial⟩ ?_;rintro⟨i,dn⟩;dsimp only;refine bT (Has.of mT0) fun hinv5=>?_;have hdl:dn.length=c.bufs.list.length:=by rw [hinv5.2.1];exact hnb
 refine bE<|sr<|sp2 hT ?_;refine ss (ldO hT (dO kT1)) ?_;refine sp2 hT ?_;refine nn<|bP rfl (fun hc43=>?_) (fun hc43=>?_)
 ·have hc43:=of_decide_eq_true hc43;refine bQ<|bD<|bE<|bR<|sr<|sp hT ?_;refine ss (ldO hT (dO kT1)) ?_;refine sp hT ?_;refine bH (kO.sl (.slice c.bufs.addr c.bufs.list.length c.bufs.cap) c.bufs.list) (nL (hZ (Has.of mT1))) ?_
  obtain⟨x3,hx4⟩: ∃x',c.bufs.list[i]?=some x':=⟨_,List.getElem?_eq_getElem (by omega)⟩
  refine ss (bM hT (k:=i) (bB (Has.of mT0)) rfl rfl rfl rfl rfl rfl rfl (by omega)) ?_;refine ss (cO hT (cB.knows (bB (Has.of mT0)) (k:=i) (x:=x3) hx4 0) rfl rfl rfl rfl rfl) ?_;refine cV rfl rfl rfl rfl sO rfl fun b5=>?_;refine sto hT .head ?_;refine nn<|bE<|bE<|bH (lJ x3) (Has.each (oJ (hZ (Has.of mT2))) (List.mem_of_getElem? hx4)) ?_;refine bC<|sp hT ?_;refine ss (ldO hT (dK .head)) ?_;refine sp hT ?_;refine ss (ldO hT (dK kT2)) ?_;refine cR Tryz.func72 (tJ x3.sides c.vars (by omega) (by omega)) rfl rfl .nil ⟨(Has.of mT0),trivial⟩ fun _=>?_;refine sp2 hT ?_;refine bV (fun hg57=>?_) (fun hg57=>?_)
  ·have hg57:=gV hg57;refine sk3 ?_;refine sp2 hT ?_;refine sk3 ?_;refine sp hT ?_;refine nn<|cK rfl rfl ?_;refine sr<|sp hT ?_;refine nn<|bL<|bK<|bS<|bK<|bK<|bS<|bK ?_;have hr:=rH hinv5.2 (fI hx4) (by first | exact .inl (show gI (dF (fS.sides _).list) c.vars=false by assumption) | exact .inr (.inl (by show x3.input< -1;omega)) | exact .inr (.inr (.inl (by show 64≤x3.input;omega))));subst hr;exact bJ () rfl (bI rfl) .nil trivial rfl
  have hg57:=gZ hg57;refine sp hT ?_;refine ss (ldO hT (dO .head)) ?_;refine sp3 hT ?_;refine bV (fun hg62=>?_) (fun hg62=>?_)
  ·have hg62:=of_decide_eq_true hg62;refine sk3 ?_;refine sp hT ?_;refine nn<|cK rfl rfl ?_;refine sr<|sp hT ?_;refine nn<|bL<|bK<|bS<|bK<|bK<|bS<|bK ?_;have hr:=rH hinv5.2 (fI hx4) (by first | exact .inl (show gI (dF (fS.sides _).list) c.vars=false by assumption) | exact .inr (.inl (by show x3.input< -1;omega)) | exact .inr (.inr (.inl (by show 64≤x3.input;omega))));subst hr;exact bJ () rfl (bI rfl) .nil trivial rfl
  have hg62:=Int.not_lt.1 (of_decide_eq_false hg62);refine sp hT ?_;refine ss (ldO hT (dO .head)) ?_;refine sp2 hT ?_;refine nn<|bP rfl (fun hc66=>?_) (fun hc66=>?_)
  ·have hc66:=of_decide_eq_true hc66;refine sr<|sp hT ?_;refine nn<|bL<|bK<|bS<|bK<|bK<|bS<|bK ?_;have hr:=rH hinv5.2 (fI hx4) (by first | exact .inl (show gI (dF (fS.sides _).list) c.vars=false by assumption) | exact .inr (.inl (by show x3.input< -1;omega)) | exact .inr (.inr (.inl (by show 64≤x3.input;omega))));subst hr;exact bJ () rfl (bI rfl) .nil trivial rfl
  have hc66:=Int.not_le.1 (of_decide_eq_false hc66);refine bQ<|bD<|bE<|sr<|sp hT ?_;refine nn<|bR<|cG (ι:=Nat) [(1,_),(3,_),(4,_),(5,_),(58,_),(59,_),(60,_),(63,_),(64,_),(65,_)] ⟨rfl,rfl,rfl,rfl,rfl,rfl,rfl,rfl,rfl,rfl,trivial⟩ (fun j=>[(6,.int .i64 (j:Nat))]) (fun _=>[]) (fun j=>[bN.pure (j≤i∧wW c.c x3.c j)]) (fun j=>i-j) 0 ⟨rfl,trivial⟩ .nil ⟨Has.pure (⟨by omega,nodup_start⟩),trivial⟩ ?_;rintro j;refine bT (Has.of mT0) fun hinv11=>?_;refine bE<|sr<|sp3 hT ?_;refine nn<|bP rfl (fun hc69=>?_) (fun hc69=>?_)
  ·have hc69:=of_decide_eq_true hc69;refine bQ<|bD<|bE<|bR<|bE ?_
   obtain⟨x6,hx7⟩: ∃x',c.bufs.list[j]?=some x':=⟨_,List.getElem?_eq_getElem (by omega)⟩
   refine gG _ _ [(true,0),(true,1),(true,2),(true,3),(true,4),(true,5),(true,6),(true,7),(true,8),(true,9),(true,10),(true,11),(true,12),(true,13)] fK (by decide+kernel) (.cons .head (.cons .head (.cons .head .nil))) bF.self ?_;refine puM hT ?_;refine stM rfl (ldO hT (dO .head)) ?_;refine puM hT ?_;refine puM hT ?_;refine bV (fun hg75=>?_) (fun hg75=>?_)
   ·have hg75:=of_decide_eq_true hg75;refine puM hT ?_;refine stM rfl (ldO hT (dO kT2)) ?_;refine puM hT ?_;refine stM rfl (bM hT (k:=j) (bB (Has.of mT2)) rfl rfl rfl rfl rfl rfl rfl (by omega)) ?_;refine puM hT ?_;refine stM rfl (bO hT (cB.knows (bB (Has.of mT2)) (k:=j) (x:=x6) hx7 1) rfl rfl rfl rfl rfl) ?_;refine puM hT ?_;refine stM rfl (ldO hT (dO .head)) ?_;refine puM hT ?_;refine puM hT ?_;refine dC<|bD<|bP rfl (fun hc85=>?_) (fun hc85=>?_)
    ·have hc85:=eq_of_beq hc85;refine sr<|sp hT ?_;refine nn<|bL<|bS<|bK<|bK<|bS<|bK<|bS<|bK<|bK<|bS<|bK ?_;have hr:=rH hinv5.2 (fI hx4) (.inr (.inr (.inr ⟨by show 0≤x3.input;omega,j,_,by omega,fI hx7,by show fS.input _=fS.input _;omega⟩)));subst hr;exact bJ () rfl (bI rfl) .nil trivial rfl
    have hc85:=beq_eq_false_iff_ne.1 hc85;refine bQ<|cA<|bD<|bC<|sp2 hT ?_;refine bW (z':=(((j+1):Nat):Int)) (cH (by omega) (by omega)) ?_;refine sp hT ?_;refine nn ?_;exact bU (j+1) (by omega) ⟨rfl,trivial⟩ ⟨rfl,rfl,rfl,rfl,rfl,rfl,rfl,rfl,rfl,rfl,trivial⟩ (.cons .head (.cons .head (.cons .head .nil))) ⟨Has.pure (⟨by omega,bAc hinv11.2 (fI hx7) (by show ¬(0≤x3.input∧x6.input=x3.input);omega)⟩),trivial⟩ (bF.drop 1)
   have hg75:=Int.not_le.1 (of_decide_eq_false hg75);refine bA rfl rfl rfl rfl ?_;refine bA rfl rfl rfl rfl ?_;refine bA rfl rfl rfl rfl ?_;refine bA rfl rfl rfl rfl ?_;refine bA rfl rfl rfl rfl ?_;refine bA rfl rfl rfl rfl ?_;refine bA rfl rfl rfl rfl ?_;refine bA rfl rfl rfl rfl ?_;refine bA rfl rfl rfl rfl ?_;refine puM hT ?_;refine dC<|bD<|gC rfl rfl ?_;refine bQ<|cA<|bD<|bC<|sp2 hT ?_;refine bW (z':=(((j+1):Nat):Int)) (cH (by omega) (by omega)) ?_;refine sp hT ?_;refine nn ?_;exact bU (j+1) (by omega) ⟨rfl,trivial⟩ ⟨rfl,rfl,rfl,rfl,rfl,rfl,rfl,rfl,rfl,rfl,trivial⟩ (.cons .head (.cons .head (.cons .head .nil))) ⟨Has.pure (⟨by omega,bAc hinv11.2 (fI hx7) (by show ¬(0≤x3.input∧x6.input=x3.input);omega)⟩),trivial⟩ (bF.drop 1)
  have hc69:=Int.not_lt.1 (of_decide_eq_false hc69);refine cE<|bX<|bX<|cF<|bD<|bC<|sp3 hT ?_;refine ss (ldO hT (dO .head)) ?_;refine sp hT ?_
  obtain⟨x8,hx9⟩: ∃x',dn[i]?=some x':=⟨_,List.getElem?_eq_getElem (by omega)⟩
  refine ss (bM hT (k:=i) (dM kT1) rfl rfl rfl rfl rfl hdl.symm rfl (by omega)) ?_;refine fR hT (k:=i) (fo:=0) (y':=(decide (0≤x3.input))) kT1 rfl rfl rfl rfl rfl rfl rfl rfl rfl hx9 rfl ?_;refine cS<|cA<|bD<|bC<|sp2 hT ?_;refine bW (z':=(((i+1):Nat):Int)) (cH (by omega) (by omega)) ?_;refine sp hT ?_;refine nn ?_;exact bU (i+1,(dn.set i (decide (0≤x3.input)))) (by dsimp only;omega) ⟨rfl,trivial⟩ ⟨rfl,rfl,trivial⟩ (.cons .head (.cons kT1 .nil)) ⟨Has.pure (⟨by dsimp only;omega,bufs10_next hinv5.2 (fI hx4) (show gI (dF x3.sides.list) c.vars=true by simp_all) (show-1≤x3.input by omega) (show x3.input<64 by omega) hinv11.2 (by omega)⟩),trivial⟩ (bF.drop 4)
 have hc43:=Int.not_lt.1 (of_decide_eq_false hc43);refine cE<|bX<|bX<|cF<|bD<|bE<|sr<|sp hT ?_;refine nn<|bR<|cG (ι:=Nat×List Bool) [(1,_),(3,_)] ⟨rfl,rfl,trivial⟩ (fun⟨k,dn⟩=>[(7,.int .i64 (k:Nat))]) (fun⟨k,dn⟩=>[jX.row (.slice (some ⟨b2,0,none⟩) c.bufs.list.length c.bufs.list.length) 4 dn]) (fun⟨k,dn⟩=>[bN.pure (k≤c.steps.list.length∧mZ c.c k dn r)]) (fun⟨k,dn⟩=>c.steps.list.length-k) (0,dn) ⟨rfl,trivial⟩ (.cons .head .nil) ⟨Has.pure (⟨by omega,bufs10_end hinv5.2 (by omega)⟩),trivial⟩ ?_;rintro⟨k,dn⟩;dsimp only;refine bT (Has.of mT0) fun hinv17=>?_;have hd2:dn.length=c.bufs.list.length:=by rw [hinv17.2.1];exact hnb
 refine bE<|sr<|sp2 hT ?_;refine ss (ldO hT (gA kT1)) ?_;refine sp2 hT ?_;refine nn<|bP rfl (fun hc96=>?_) (fun hc96=>?_)
 ·have hc96:=of_decide_eq_true hc96;refine bQ<|bD<|bE<|bR<|bE<|bE<|bH (fW.sl (.slice c.steps.addr c.steps.list.length c.steps.cap) c.steps.list) (jR (fB (Has.of mT2))) ?_
  obtain⟨x10,hx11⟩: ∃x',c.steps.list[k]?=some x':=⟨_,List.getElem?_eq_getElem (by omega)⟩
  refine bH (dQ x10) (Has.each (gW (fB (Has.of mT3))) (List.mem_of_getElem? hx11)) ?_;refine gG _ _ [(true,0),(true,1),(true,2),(true,3),(true,4),(true,5),(true,6),(false,7),(true,8)] fK (by decide+kernel) (.cons .head (.cons .head .nil)) bF.self ?_;refine stM rfl (ldN hT (dK kT1)) ?_;refine puM hT ?_;refine stM rfl (ldO hT (gA kT1)) ?_;refine puM hT ?_;refine stM rfl (bM hT (k:=k) (bB (Has.of mT1)) rfl rfl rfl rfl rfl rfl rfl (by omega)) ?_;refine stM rfl (cO hT (cB.knows (bB (Has.of mT1)) (k:=k) (x:=x10) hx11 0) rfl rfl rfl rfl rfl) ?_;refine puM hT ?_;refine fA (o:=_) rfl ?_;refine iO (cI Tryz.func73 rfl rfl) (step10_specM hd2 c x10 (some ⟨b2,0,none⟩) c.bufs.list.length (by omega) (by omega)) rfl rfl rfl rfl rfl .nil (.cons .head .nil) (oS kW) ⟨Has.of mT5,Has.of mT1,Has.of mT0,trivial⟩ (fun _=>True) (fun _ _ _ _=>trivial) fun _ _=>?_;refine dZ (.cons .head (.cons .head .nil)) (bF.drop 0) ?_;refine puM hT ?_;refine dC<|bD<|bP rfl (fun hc107=>?_) (fun hc107=>?_)
  ·have hc107:=gV hc107;refine sr<|sp hT ?_;refine nn<|bL<|bK<|bS<|bK<|bK<|bS<|bK ?_;have hr:=steps10_bad hinv17.2 (cM hx11) (show lV c.c dn (cN.c _)=false by simp_all);subst hr;exact bJ () rfl (bI rfl) .nil trivial rfl
  have hc107:=gZ hc107;refine bQ<|bD ?_;have hok:lV c.c dn x10.c=true:=by simp_all
  have hin:=stepOk_in hok;have hb0:0≤x10.buf:=hin.1;have hb1:x10.buf<(c.c.bufs.length:Nat):=hin.2;refine bC<|sp2 hT ?_;refine ss (ldO hT (gA kT1)) ?_;refine sp hT ?_;refine ss (bM hT (k:=k) (bB (Has.of mT1)) rfl rfl rfl rfl rfl rfl rfl (by omega)) ?_;refine sp hT ?_;refine ss (bO hT (cB.knows (bB (Has.of mT1)) (k:=k) (x:=x10) hx11 1) rfl rfl rfl rfl rfl) ?_
  obtain⟨x12,hx13⟩: ∃x',dn[x10.buf.toNat]?=some x':=⟨_,List.getElem?_eq_getElem (by omega)⟩
  refine ss (bM hT (k:=x10.buf.toNat) (dM .head) rfl rfl rfl rfl rfl hd2.symm (by omega) (by omega)) ?_;refine fR hT (k:=x10.buf.toNat) (fo:=0) (y':=(true)) .head rfl rfl rfl rfl rfl rfl rfl rfl rfl hx13 rfl ?_;refine cS<|cA<|bD<|bC<|sp2 hT ?_;refine bW (z':=(((k+1):Nat):Int)) (cH (by omega) (by omega)) ?_;refine sp hT ?_;refine nn ?_;exact bU (k+1,(dn.set x10.buf.toNat (true))) (by dsimp only;omega) ⟨rfl,trivial⟩ ⟨rfl,rfl,trivial⟩ (.cons .head (.cons .head .nil)) ⟨Has.pure (⟨by dsimp only;omega,steps10_ok hinv17.2 (cM hx11) hok⟩),trivial⟩ (bF.drop 3)
 have hc96:=Int.not_lt.1 (of_decide_eq_false hc96);refine cE<|bX<|bX<|cF<|bD<|bE<|sr<|sp hT ?_;refine nn<|bR<|cG (ι:=Nat) [(1,_)] ⟨rfl,trivial⟩ (fun j=>[(8,.int .i64 (j:Nat))]) (fun _=>[]) (fun j=>[bN.pure (j≤c.outs.list.length∧(c.outs.list.take j).all (outOk c.c.bufs.length)=true)]) (fun j=>c.outs.list.length-j) 0 ⟨rfl,trivial⟩ .nil ⟨Has.pure (⟨by omega,rfl⟩),trivial⟩ ?_;rintro j;refine bT (Has.of mT0) fun hinv23=>?_;refine bE<|sr<|sp2 hT ?_;refine ss (ldO hT (iC kT1)) ?_;refine sp2 hT ?_;refine nn<|bP rfl (fun hc120=>?_) (fun hc120=>?_)
 ·have hc120:=of_decide_eq_true hc120;refine bQ<|bD<|bE<|bR<|bE<|bH (iK.sl (.slice c.outs.addr c.outs.list.length c.outs.cap) c.outs.list) (oL (mY (Has.of mT3))) ?_
  obtain⟨x14,hx15⟩: ∃x',c.outs.list[j]?=some x':=⟨_,List.getElem?_eq_getElem (by omega)⟩
  refine gG _ _ [(true,0),(true,1),(true,2),(true,3),(true,4),(true,5),(true,6),(true,7),(true,8),(true,9),(true,10),(true,11),(true,12),(true,13),(true,14),(true,15),(true,16)] fK (by decide+kernel) (.cons .head (.cons .head .nil)) bF.self ?_;refine puM hT ?_;refine stM rfl (ldO hT (iC kT1)) ?_;refine puM hT ?_;refine stM rfl (bM hT (k:=j) (bB (Has.of mT0)) rfl rfl rfl rfl rfl rfl rfl (by omega)) ?_;refine stM rfl (bO hT (cB.knows (bB (Has.of mT0)) (k:=j) (x:=x14) hx15 0) rfl rfl rfl rfl rfl) ?_;refine puM hT ?_;refine puM hT ?_;refine bV (fun hg129=>?_) (fun hg129=>?_)
  ·have hg129:=of_decide_eq_true hg129;refine bA rfl rfl rfl rfl ?_;refine bA rfl rfl rfl rfl ?_;refine bA rfl rfl rfl rfl ?_;refine bA rfl rfl rfl rfl ?_;refine bA rfl rfl rfl rfl ?_;refine bA rfl rfl rfl rfl ?_;refine bA rfl rfl rfl rfl ?_;refine bA rfl rfl rfl rfl ?_;refine bA rfl rfl rfl rfl ?_;refine puM hT ?_;refine dC<|bD<|cK rfl rfl ?_;refine sr<|sp hT ?_;refine nn<|bL<|bS<|bK<|bK<|bS<|bK ?_;have hr:=(tZ hinv17.2 (by omega)).trans (oH hx15 (decide_eq_false (by omega)));subst hr;exact bJ () rfl (bI rfl) .nil trivial rfl
  have hg129:=Int.not_lt.1 (of_decide_eq_false hg129);refine puM hT ?_;refine stM rfl (ldO hT (iC kT1)) ?_;refine puM hT ?_;refine stM rfl (bM hT (k:=j) (bB (Has.of mT0)) rfl rfl rfl rfl rfl rfl rfl (by omega)) ?_;refine stM rfl (bO hT (cB.knows (bB (Has.of mT0)) (k:=j) (x:=x14) hx15 0) rfl rfl rfl rfl rfl) ?_;refine puM hT ?_;refine stM rfl (ldO hT (dO kT1)) ?_;refine puM hT ?_;refine puM hT ?_;refine puM hT ?_;refine dC<|bD<|bP rfl (fun hc139=>?_) (fun hc139=>?_)
  ·have hc139:=of_decide_eq_true hc139;refine sr<|sp hT ?_;refine nn<|bL<|bS<|bK<|bK<|bS<|bK ?_;have hr:=(tZ hinv17.2 (by omega)).trans (oH hx15 (decide_eq_false (by omega)));subst hr;exact bJ () rfl (bI rfl) .nil trivial rfl
  have hc139:=Int.not_le.1 (of_decide_eq_false hc139);refine bQ<|cA<|bD<|bC<|sp2 hT ?_;refine bW (z':=(((j+1):Nat):Int)) (cH (by omega) (by omega)) ?_;refine sp hT ?_;refine nn ?_;exact bU (j+1) (by omega) ⟨rfl,trivial⟩ ⟨rfl,trivial⟩ (.cons .head (.cons .head .nil)) ⟨Has.pure (⟨by omega,jT hinv23.2 hx15 (decide_eq_true (by omega))⟩),trivial⟩ (bF.drop 2)
 have hc120:=Int.not_lt.1 (of_decide_eq_false hc120);refine cE<|bX<|bX<|cF<|bD<|sr<|sp hT ?_;refine nn<|bL ?_;have hr:=(tZ hinv17.2 (by omega)).trans (nX hinv23.2 (by omega));subst hr;exact bJ () rfl (bI rfl) .nil trivial rfl
def yV.c (x:yV):yX:=⟨x.from_,x.to_⟩
def yX.v (x:yX):yV:=⟨x.from_,x.to_⟩
def lc (l:List yV):List yX:=l.map yV.c
section
variable {c : fL} {li lj : List yV} {dn : List Bool} {i j k : Nat} {y : yV} {u : BufC} {r G : List yX} {x : StepC} {us : List Int} {z : Int} {m : Int}
theorem bDd{vars:Int}{bufs:List BufC}: ∀{r:List StepC} {made:List Bool},made.length=bufs.length→gR vars bufs r made=true→ ∀x∈r,0≤x.buf∧x.buf<bufs.length∧ ∀o∈x.ops,o.how=4→0≤o.k∧o.k<bufs.length
 | [],_,_,_,x,hx=>by cases hx
 | y::r,made,hm,h,x,hx=>by
  rw [gR,Bool.and_eq_true,Bool.and_eq_true,Bool.and_eq_true] at h;obtain⟨⟨h1,h2⟩,h3,h4⟩:=h
  rcases List.mem_cons.1 hx with rfl | hx
  ·have h0:0≤x.buf:=of_decide_eq_true h1;refine⟨h0,?_,fun o ho e=>?_⟩
   ·cases hb:bufs[x.buf.toNat]? with
    | none=>rw [hb] at h2;cases h2
    | some b=>
     have:=(List.getElem?_eq_some_iff.1 hb).1;omega
   ·unfold lF at h3;simp only [Bool.and_eq_true] at h3;have h5:=List.all_eq_true.1 h3.2.2.2.2.2 o ho;unfold opB at h5;rw [if_neg (by omega),if_neg (by omega),if_neg (by omega),if_pos e] at h5;simp only [Bool.and_eq_true,decide_eq_true_eq] at h5;refine⟨h5.1.1,?_⟩;have h6:=h5.2.1;rw [List.getD_eq_getElem?_getD] at h6
    cases hk:made[o.k.toNat]? with
    | none=>rw [hk] at h6;cases h6
    | some b=>
     have:=(List.getElem?_eq_some_iff.1 hk).1;omega
  ·exact bDd (by rw [List.length_set];exact hm) h4 x hx
theorem lO(h:dV c=true):(c.bufs.length≤1024∧c.steps.length≤1024∧c.outs.length≤64)∧(∀x∈c.steps,0≤x.buf∧x.buf<c.bufs.length∧ ∀o∈x.ops,o.how=4→0≤o.k∧o.k<c.bufs.length)∧ ∀k∈c.outs,0≤k∧k<c.bufs.length:=by
 obtain⟨h1,h2,h3,h4⟩:=qC h;exact⟨h1.2.2,bDd (oO _) h3,h4⟩
end
section
variable {x : cN} {b : Int}
theorem any_bad{α:Type}{p:α→Bool}{l:List α}{i:Nat}{x:α}(hx:l[i]?=some x)(k:p x=true):l.any p=true:=List.any_eq_true.2 ⟨x,List.mem_of_getElem? hx,k⟩
theorem xQ{α:Type}{p:α→Bool}{l:List α}{i:Nat}{x:α}(h:(l.take i).any p=false)(hx:l[i]?=some x)(k:p x=false):(l.take (i+1)).any p=false:=by
 obtain⟨hi,e⟩:=List.getElem?_eq_some_iff.1 hx;rw [List.take_succ_eq_append_getElem hi,e,List.any_append,h];simp [k]
theorem any_full{α:Type}{p:α→Bool}{l:List α}{i:Nat}(h:(l.take i).any p=false)(hi:l.length≤i):l.any p=false:=by
 rwa [List.take_of_length_le hi] at h
end
section
variable {l : List Int} {i : Nat} {z b : Int}
theorem cont_snoc(h:(l.take i).contains b=false)(hz:l[i]?=some z)(e:z≠b):(l.take (i+1)).contains b=false:=by
 obtain⟨hi,e1⟩:=List.getElem?_eq_some_iff.1 hz;rw [List.contains_eq_mem] at*;rw [decide_eq_false_iff_not] at*;rw [List.take_succ_eq_append_getElem hi,e1,List.mem_append];rintro(k | k)
 ·exact h k
 ·exact e (List.mem_singleton.1 k).symm
end
section
variable {α : Type} {x y : α}
theorem oR{a b:List α}{k:Nat}(h:a.take k=b.take k)(hx:a[k]?=some x)(hy:b[k]?=some y)(e:x=y):a.take (k+1)=b.take (k+1):=by
 subst e;rw [List.take_add_one,List.take_add_one,h,hx,hy]
theorem qV{a b:List α}{k:Nat}(h:a.take k=b.take k)(ha:a.length≤k)(hb:b.length≤k):a=b:=by
 rw [List.take_of_length_le ha,List.take_of_length_le hb] at h;exact h
theorem lR{a b:List α}{k:Nat}(hx:a[k]?=some x)(hy:b[k]?=some y)(e:x≠y):a≠b:=by
 rintro rfl;rw [hx] at hy;exact e (Option.some.inj hy)
end
set_option maxRecDepth 100000 in
theorem tE(p q:PolV)(hl:p.list.length≤140737488355328):dT Tryz.prog 27 [.slice p.addr p.list.length p.cap,.slice q.addr q.list.length q.cap] [] [iB.sl (.slice p.addr p.list.length p.cap) p.list,iB.sl (.slice q.addr q.list.length q.cap) q.list] (fun(_:Unit)=> .bool (decide (p.list=q.list))) (fun _=>[]) (fun _=>[]):=by
 have hT:=fM;refine cQ Tryz.func27 rfl Tryz.ntmps27 rfl ?_;intro β hM;refine sr<|sp hT ?_;refine nn<|bE<|sr<|sp4 hT ?_;refine sp hT ?_;refine nn<|bP rfl (fun hc10=>?_) (fun hc10=>?_)
 ·have hc10:=bne_iff_ne.1 hc10;refine sr<|sp hT ?_;refine nn<|bL<|bK ?_;exact bJ () rfl (bI rfl) .nil trivial (lH (fun e=>by have:=congrArg List.length e;omega))
 have hc10:=bne_eq_false_iff_eq.1 hc10;refine bQ<|bD<|bE<|sr<|sp hT ?_;refine nn<|bR<|cG (ι:=Nat) [(0,_),(1,_)] ⟨rfl,rfl,trivial⟩ (fun i=>[(5,.int .i64 (i:Nat))]) (fun _=>[]) (fun i=>[bN.pure (i≤p.list.length∧p.list.take i=q.list.take i)]) (fun i=>p.list.length-i) 0 ⟨rfl,trivial⟩ .nil ⟨Has.pure (⟨by omega,rfl⟩),trivial⟩ ?_;rintro i;refine bT (Has.of mT0) fun hinv4=>?_;refine bE<|sr<|sp4 hT ?_;refine nn<|bP rfl (fun hc14=>?_) (fun hc14=>?_)
 ·have hc14:=of_decide_eq_true hc14;refine bQ<|bD<|bE<|bR<|bE<|gG _ _ [(true,0),(true,1),(true,2),(true,3),(true,4),(true,5),(true,6),(true,7),(true,8)] fK (by decide+kernel) .nil bF.self ?_;refine puM hT ?_;refine puM hT ?_
  obtain⟨x1,hx2⟩: ∃x',p.list[i]?=some x':=⟨_,List.getElem?_eq_getElem (by omega)⟩
  refine stM rfl (bM hT (k:=i) (bB (Has.of mT1)) rfl rfl rfl rfl rfl rfl rfl (by omega)) ?_;refine stM rfl (cO hT (cB.knows (bB (Has.of mT1)) (k:=i) (x:=x1) hx2 0) rfl rfl rfl rfl rfl) ?_;refine puM hT ?_;refine puM hT ?_
  obtain⟨x3,hx4⟩: ∃x',q.list[i]?=some x':=⟨_,List.getElem?_eq_getElem (by omega)⟩
  refine stM rfl (bM hT (k:=i) (bB (Has.of mT2)) rfl rfl rfl rfl rfl rfl rfl (by omega)) ?_;refine stM rfl (cO hT (cB.knows (bB (Has.of mT2)) (k:=i) (x:=x3) hx4 0) rfl rfl rfl rfl rfl) ?_;refine stM rfl (vS x1 x3 rfl rfl rfl) ?_;refine dC<|bD<|bP rfl (fun hc25=>?_) (fun hc25=>?_)
  ·refine sr<|sp hT ?_;refine nn<|bL<|bS<|bK<|bK<|bS<|bK ?_;exact bJ () rfl (bI rfl) .nil trivial (lH (lR hx2 hx4 (mono_t ‹_›)))
  refine bQ<|cA<|bD<|bC<|sp2 hT ?_;refine bW (z':=(((i+1):Nat):Int)) (cH (by omega) (by omega)) ?_;refine sp hT ?_;refine nn ?_;exact bU (i+1) (by omega) ⟨rfl,trivial⟩ ⟨rfl,rfl,trivial⟩ .nil ⟨Has.pure (⟨by omega,oR hinv4.2 hx2 hx4 (mono_f ‹_›)⟩),trivial⟩ (bF.drop 1)
 have hc14:=Int.not_lt.1 (of_decide_eq_false hc14);refine cE<|bX<|bX<|cF<|bD<|sr<|sp hT ?_;refine nn<|bL ?_;exact bJ () rfl (bI rfl) .nil trivial (xD (qV hinv4.2 (by omega) (by omega)))
set_option maxRecDepth 100000 in
theorem yY(p q:PolV)(hl:p.list.length≤140737488355328):dT Tryz.prog 100 [.slice p.addr p.list.length p.cap,.slice q.addr q.list.length q.cap] [] [iB.sl (.slice p.addr p.list.length p.cap) p.list,iB.sl (.slice q.addr q.list.length q.cap) q.list] (fun(_:Unit)=> .bool (decide (p.list=q.list))) (fun _=>[]) (fun _=>[]):=by
 have hT:=fM;refine cQ Tryz.func100 rfl Tryz.ntmps100 rfl ?_;intro β hM;refine sr<|sp hT ?_;refine nn<|bE<|sr<|sp4 hT ?_;refine sp hT ?_;refine nn<|bP rfl (fun hc10=>?_) (fun hc10=>?_)
 ·have hc10:=bne_iff_ne.1 hc10;refine sr<|sp hT ?_;refine nn<|bL<|bK ?_;exact bJ () rfl (bI rfl) .nil trivial (lH (fun e=>by have:=congrArg List.length e;omega))
 have hc10:=bne_eq_false_iff_eq.1 hc10;refine bQ<|bD<|bE<|sr<|sp3 hT ?_;refine nn<|bR<|cG (ι:=Nat) [(0,_),(1,_),(12,_)] ⟨rfl,rfl,rfl,trivial⟩ (fun i=>[(13,.int .i64 (i:Nat))]) (fun _=>[]) (fun i=>[bN.pure (i≤p.list.length∧p.list.take i=q.list.take i)]) (fun i=>p.list.length-i) 0 ⟨rfl,trivial⟩ .nil ⟨Has.pure (⟨by omega,rfl⟩),trivial⟩ ?_;rintro i;refine bT (Has.of mT0) fun hinv4=>?_;refine sr<|sp hT ?_;refine nn<|bE<|bP rfl (fun hc14=>?_) (fun hc14=>?_)
 ·have hc14:=of_decide_eq_true hc14;refine bQ<|bD<|bE<|bR<|sr<|sp2 hT ?_;refine nn<|bE<|gG _ _ [(true,0),(true,1),(true,2),(true,3),(true,4),(true,5),(true,6),(true,7),(true,8)] fK (by decide+kernel) .nil bF.self ?_;refine puM hT ?_;refine puM hT ?_
  obtain⟨x1,hx2⟩: ∃x',p.list[i]?=some x':=⟨_,List.getElem?_eq_getElem (by omega)⟩
  refine stM rfl (bM hT (k:=i) (bB (Has.of mT1)) rfl rfl rfl rfl rfl rfl rfl (by omega)) ?_;refine stM rfl (cO hT (cB.knows (bB (Has.of mT1)) (k:=i) (x:=x1) hx2 0) rfl rfl rfl rfl rfl) ?_;refine puM hT ?_;refine puM hT ?_
  obtain⟨x3,hx4⟩: ∃x',q.list[i]?=some x':=⟨_,List.getElem?_eq_getElem (by omega)⟩
  refine stM rfl (bM hT (k:=i) (bB (Has.of mT2)) rfl rfl rfl rfl rfl rfl rfl (by omega)) ?_;refine stM rfl (cO hT (cB.knows (bB (Has.of mT2)) (k:=i) (x:=x3) hx4 0) rfl rfl rfl rfl rfl) ?_;refine stM rfl (vS x1 x3 rfl rfl rfl) ?_;refine dC<|bD<|bP rfl (fun hc24=>?_) (fun hc24=>?_)
  ·refine sr<|sp hT ?_;refine nn<|bL<|bS<|bK<|bK<|bS<|bK ?_;exact bJ () rfl (bI rfl) .nil trivial (lH (lR hx2 hx4 (mono_t ‹_›)))
  refine bQ<|cA<|bD<|bC<|sp hT ?_;refine bW (z':=(((i+1):Nat):Int)) (cH (by omega) (by omega)) ?_;refine sp hT ?_;refine nn ?_;exact bU (i+1) (by omega) ⟨rfl,trivial⟩ ⟨rfl,rfl,rfl,trivial⟩ .nil ⟨Has.pure (⟨by omega,oR hinv4.2 hx2 hx4 (mono_f ‹_›)⟩),trivial⟩ (bF.drop 1)
 have hc14:=Int.not_lt.1 (of_decide_eq_false hc14);refine cE<|bX<|bX<|cF<|bD<|sr<|sp hT ?_;refine nn<|bL ?_;exact bJ () rfl (bI rfl) .nil trivial (xD (qV hinv4.2 (by omega) (by omega)))
section
variable {P : Program} {β : gD} {n : Nat} {Γ : Env} {H : List bZ} {F : List bN} {T : Tab} {α : Type} {E : Flat α}
theorem run_cutIn(hT:fO P T){t e sz:Nat}{ei:TI}(ht:T.get t=some ⟨.slice e,sz⟩)(he:T.get e=some ei){A:Option Addr}{l c j k:Nat}(hj:j≤k)(hk:k≤c)(kk kl:IntKind)(w:World):(Instr.sliceAt t (.slice A l c) (some (.int kk (j:Nat))) (some (.int kl (k:Nat))) none).run P w= .ok (.slice (kN A j ei.size c) (k-j) (c-j)) w:=by
 obtain⟨d,hu,hd⟩:=hT.any ht;cases d<;>simp [TD.of] at hd
 subst hd;have hel:=zM hu;rw [run_sliceAt_slice w t _ _ _ _ (by rw [hel];exact hu),run_slice_lh w t A l c (by rw [hel];exact hu) kk kl (j:Int) (k:Int) (by omega) (by omega) (by omega),hel,hT.size he];simp only [Result.andThen_ok,sliced,Int.toNat_natCast,kN]
theorem uF(hT:fO P T){o:Oper}{t e sz j k l cap:Nat}{ei:TI}{x i u:Operand}{kk kl:IntKind}{z y:Int}{A:Option Addr}(ho:o.op= .slice t x (some i) (some u) none)(hx:Γ.ev x=some (.slice A l cap))(hi:Γ.ev i=some (.int kk z))(hu:Γ.ev u=some (.int kl y))
  (ht:T.get t=some ⟨.slice e,sz⟩) (he:T.get e=some ei) (hz:z=(j:Nat)) (hy:y=(k:Nat)) (hj:j≤k) (hk:k≤cap):Sti P β n Γ H F o (.slice (kN A j ei.size cap) (k-j) (cap-j)):=fun a w S f s hF=>by
 subst hz;subst hy;unfold execOp;simp only [ho,f.ev hx,Option.map_some,Option.map_none,f.ev hi,f.ev hu];rw [Sem.run_bind,run_cutIn hT ht he hj hk];rfl
theorem run_cut3(hT:fO P T){t e sz:Nat}{ei:TI}(ht:T.get t=some ⟨.slice e,sz⟩)(he:T.get e=some ei){A:Option Addr}{l c j k m:Nat}(hj:j≤k)(hk:k≤m)(hm:m≤c)(kk kl km:IntKind)(w:World):(Instr.sliceAt t (.slice A l c) (some (.int kk (j:Nat))) (some (.int kl (k:Nat))) (some (.int km (m:Nat)))).run P w= .ok (.slice (kN A j ei.size m) (k-j) (m-j)) w:=by
 obtain⟨d,hu,hd⟩:=hT.any ht;cases d<;>simp [TD.of] at hd
 subst hd;have hel:=zM hu;rw [run_sliceAt_slice w t _ _ _ _ (by rw [hel];exact hu),run_slice_lhm w t A l c (by rw [hel];exact hu) kk kl km (j:Int) (k:Int) (m:Int) (by omega) (by omega) (by omega) (by omega),hel,hT.size he];simp only [Result.andThen_ok,sliced,Int.toNat_natCast,kN]
theorem sti_cut3(hT:fO P T){o:Oper}{t e sz j k m l cap:Nat}{ei:TI}{x i u q:Operand}{kk kl km:IntKind}{z y v:Int}{A:Option Addr}(ho:o.op= .slice t x (some i) (some u) (some q))(hx:Γ.ev x=some (.slice A l cap))(hi:Γ.ev i=some (.int kk z))(hu:Γ.ev u=some (.int kl y))(hq:Γ.ev q=some (.int km v))
  (ht:T.get t=some ⟨.slice e,sz⟩) (he:T.get e=some ei) (hz:z=(j:Nat)) (hy:y=(k:Nat)) (hv:v=(m:Nat)) (hj:j≤k) (hk:k≤m) (hm:m≤cap):Sti P β n Γ H F o (.slice (kN A j ei.size m) (k-j) (m-j)):=fun a w S f s hF=>by
 subst hz;subst hy;subst hv;unfold execOp;simp only [ho,f.ev hx,Option.map_some,f.ev hi,f.ev hu,f.ev hq];rw [Sem.run_bind,run_cut3 hT ht he hj hk hm];rfl
theorem xU{A:Option Addr}{l c j k:Nat}{xs:List α}(h:Has F (E.sl (.slice A l c) xs))(hc:l≤c)(hj:j≤k)(hk:k≤xs.length):Has F (E.sl (.slice (kN A j E.size c) (k-j) (c-j)) ((xs.drop j).take (k-j))):=
 mP (nS h hc (Nat.le_trans hj hk)) (by rw [List.length_drop];omega)
theorem cB.dropE{A:Option Addr}{xs:List α}(h:cB β H F E A xs)(j:Nat){c:Nat}(hc:xs.length≤c)(hj:j≤xs.length):cB β H F E (kN A j E.size c) (xs.drop j):=fun w S s hF k x hk=>by
 rw [List.getElem?_drop] at hk;have hlt:=(List.getElem?_eq_some_iff.1 hk).1;obtain⟨⟨b,o,rfl⟩,h2⟩:=h w S s hF (j+k) x hk;have ha:(⟨b,o,none⟩:Addr).add (j*E.size)=⟨b,o+j*E.size,none⟩:=Addr.add_mid _ _ _
 have hcut:kN (some ⟨b,o,none⟩) j E.size c=some ⟨b,o+j*E.size,none⟩:=by
  unfold kN;rw [if_neg (by omega),Option.map_some,ha]
 rw [hcut];refine⟨⟨b,_,rfl⟩,fun i u hi=>?_⟩;have:=h2 i u hi;rw [Nat.add_mul] at this;simp only [bCu,bCv] at this⊢;rw [←this]
 congr 2
 omega
theorem at_append_in{Q:Exit→Act→World→Prop}{ops:Array Oper}{rest:List Oper}{o:Oper}{d:Nat}{x y:Operand}{t e t':TypeId}{i:TypeInfo}{g c cap m q s:Nat}{A:Option Addr}{xs ys:List α}{H':List bZ}(hr:cB β H F E A ys)(hw:want ops Γ o=some true)
  (ho:o.op= .call {callee:= .builtin .append,args:= #[x,y],argTypes:= #[t,t]}) (hd:o.dst=some d) (hn:Nat.blt d n=true) (hu:P.underlying t=some (.slice e)) (hi:P.info? e=some i) (hs:i.size=E.size)
  (hx:Γ.ev x=some (.slice (some ⟨g,0,none⟩) q cap)) (hy:Γ.ev y=some (.slice A s c)) (hA:A.isSome=true) (hlen:s=ys.length) (hm:xs.length=m) (hq:q+ys.length≤m) (hcap:m≤cap) (hH:fT H (E.row (.slice (some ⟨g,0,none⟩) m cap) t' xs) H')
  (k:At β n ((d,.slice (some ⟨g,0,none⟩) (q+ys.length) cap)::Γ) (E.row (.slice (some ⟨g,0,none⟩) m cap) t' (xs.take q++ys++xs.drop (q+ys.length))::H') F (wpList P ops Q rest)):At β n Γ H F (wpList P ops Q (o::rest)):=
 iN hw fun a w S f st hk=>by
  subst hlen;obtain⟨ad,rfl⟩:=Option.isSome_iff_exists.1 hA;have hl:(E.all ys).length=ys.length*E.size:=E.all_length _;have hlx:(E.all xs).length=m*E.size:=by rw [E.all_length,hm]
  have hle:q*E.size+ys.length*E.size≤m*E.size:=by rw [←Nat.add_mul];exact Nat.mul_le_mul_right _ hq
  have s2:=st.perm hH.perm;have hown:w.ownsRow 0 t' E.size (.slice (some ⟨g,0,none⟩) m cap) xs.length (E.all xs):=st.ok _ hH.mem;rw [hm] at hown
  have hb: ∀j u,(E.all ys)[j]?=some u→w.cell? (ad.add j)=some u:=fun j u hj=>by
   have h0:0<ys.length:=by
    have hlt:=(List.getElem?_eq_some_iff.1 hj).1
    rcases Nat.eq_zero_or_pos ys.length with h | h
    ·rw [hl,h,Nat.zero_mul] at hlt;omega
    ·exact h
   obtain⟨b,off,e1,hb⟩:=hr.cellsE st hk h0;injection e1 with e1
   rw [e1];exact hb j u hj
  have hap:(Builtin.append_ #[t,t] o.type #[.slice (some ⟨g,0,none⟩) q cap,.slice (some ad) ys.length c]).run P w= .ok (.slice (some ⟨g,0,none⟩) (q+ys.length) cap) (w.setCells g (q*E.size) (E.all ys)):=by
   have:=run_append_room_cells (P:=P) w t o.type e i hu hi g 0 q cap ad ys.length c (E.all ys) (by rw [hl,hs]) hb E.all_one (by omega)
    (fun j hj=>by
     rw [hs,Nat.zero_add,World.ownsRow.cellAt hown _ (by omega),List.getElem?_eq_getElem (by rw [hlx];omega)]
     rfl) (fun j _=>World.ownsRow.frozenAt hown _)
   rwa [hs,Nat.zero_add] at this
  have hr':(execOp a.eval o).run P w= .ok (.value (.slice (some ⟨g,0,none⟩) (q+ys.length) cap)) (w.setCells g (q*E.size) (E.all ys)):=by
   unfold execOp;simp only [ho,resolve,invoke,builtin,Sem.run_bind,Sem.run_pure,Result.andThen_ok,List.map_toArray,List.map_cons,List.map_nil,f.ev hx,f.ev hy,hap]
  unfold Oper.wp;rw [hr',Oper.upon_value,hd];refine k _ _ S (f.put (by simpa [Nat.blt_eq] using hn) _) (s2.swap (gM g _ _ w) rfl rfl ?_) (All.mono (fun _ h=>h) (st.agree (gM g _ _ w) (fun c hc e=>by subst e;exact(s2.own _ (List.mem_cons_self ..) _ rfl).2.2 hc)) hk);have:=mX (E.all ys) (q*E.size) w (E.all xs) hown;rw [rN _ _ _ (by rw [hl,hlx];omega),hl,←Nat.add_mul,bBx xs q (by omega),all_drop xs _ (by omega),←E.all_append,←E.all_append] at this;show World.ownsRow _ 0 t' E.size _ _ _;have e:(xs.take q++ys++xs.drop (q+ys.length)).length=m:=by simp;omega
  rw [e];exact this
theorem at_shrink{K:Act→World→Prop}{A:Option Addr}{t:TypeId}{m cap k:Nat}{xs:List α}{H':List bZ}(hH:fT H (E.row (.slice A m cap) t xs) H')(hk:k≤xs.length)(h:At β n Γ (E.row (.slice A k cap) t (xs.take k)::H') F K):At β n Γ H F K:=fun a w S f s hF=>by
 have hown:w.ownsRow 0 t E.size (.slice A m cap) xs.length (E.all xs):=s.ok _ hH.mem;have hl:(xs.take k).length=k:=by simp;omega
 have hok:w.ownsRow 0 t E.size (.slice A k cap) (xs.take k).length (E.all (xs.take k)):=by
  rw [hl]
  rcases hown.2 with ⟨e1,e0⟩ | ⟨g,cap',cur,e1,h1,h2,h3,h4,h5,h6⟩
  ·injection e1 with e1 e2 e3
   subst e1 e3;have:xs=[]:=List.eq_nil_of_length_eq_zero e0;subst this;have hk0:k=0:=by simpa using hk
   subst hk0;exact⟨by simp [Flat.all],.inl ⟨rfl,rfl⟩⟩
  ·injection e1 with e1 e2 e3
   subst e1 e3;refine⟨by rw [E.all_length,hl],.inr ⟨g,cap,cur,rfl,h1,h2,by omega,h4,h5,?_⟩⟩;rw [←bBx xs k hk,←h6,List.take_take]
   congr 1
   exact(Nat.min_eq_left (Nat.mul_le_mul_right _ hk)).symm
 have s2:=s.perm hH.perm;exact h a w S f (s2.swap_row (v':= .slice A k cap) (w':=w) (mL.refl _ _) (.inl (by cases A<;>rfl)) hok) hF
end
end Go.Proofs.YtofjmphlpdhohaaGreatDoor
