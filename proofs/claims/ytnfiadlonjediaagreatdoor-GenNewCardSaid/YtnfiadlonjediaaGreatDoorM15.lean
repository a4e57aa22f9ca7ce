/- Texts of one proof, one behind the other: RefB, RefC, PlanC, PlanD, RefD, RefE, EqK, PlQ, PlR, MapD. -/
import Derived.Test.YtnfiadlonjediaaGreatDoorM7
import Derived.Test.YtnfiadlonjediaaGreatDoorM14
import Derived.Test.YtnfiadlonjediaaGreatDoorM10
import Derived.Test.YtnfiadlonjediaaGreatDoorM11
namespace Go.Proofs.YtnfiadlonjediaaGreatDoor
section
open Go.RowKit Go.Proofs.Tryz
set_option maxRecDepth 100000
theorem polsInfo: ∃i:TypeInfo,prog.info? 43=some i∧i.zero=some (.slice none 0 0)∧i.size=1∧i.bytes=24:=by
 have h:(prog.info? 43).map (fun i=>(i.zero,i.size,i.bytes))=some (some (.slice none 0 0),1,24):=k8
 cases hi:prog.info? 43 with
 | none=>simp [hi] at h
 | some i=>simp [hi] at h;exact⟨i,rfl,h.1,h.2.1,h.2.2⟩
theorem at_one_life{β:cX}{n:Nat}{Γ:Env}{H:List bC}{F:List bD}{Q:Exit→Act→World→Prop}{ops:Array Oper}{rest:List Oper}{o:Oper}{d:Nat}{x:Operand}{m:dE}(hw:want ops Γ o=some true)(ho:o.op= .buildSlice 97 1 #[(0,x)])(hd:o.dst=some d)(hn:Nat.blt d n=true)
  (hx:Γ.ev x=some (.agg #[.int .i64 m.from_,.int .i64 m.to_])) (k: ∀b,At β n ((d,.slice (some ⟨b,0,none⟩) 1 1)::Γ) (.obj b (.cells (kC.all [m]).toArray 114)::H) F (wpList prog ops Q rest)):At β n Γ H F (wpList prog ops Q (o::rest)):=by
 obtain⟨i,hi,hz,hs,_⟩:=lifeInfo;refine nS hw ho hd hn hx underlying97 hi hz k7 k7 ?_ k;rw [hs]
 kernel_rfl
theorem lives_spec(c:iD)(hr:dM c.c=true):cA prog 37 [.agg #[.int .i64 c.vars,.slice c.bufs.addr c.bufs.list.length c.bufs.cap,.slice c.steps.addr c.steps.list.length c.steps.cap,.slice c.outs.addr c.outs.list.length c.outs.cap]] [] [rA c,bD.cells 0 0 [.int .i64 0,.int .i64 (-1)]] (fun(x:Option Addr×Nat)=> .slice x.1 c.bufs.list.length x.2) (fun(x:Option Addr×Nat)=>[kC.row (.slice x.1 c.bufs.list.length x.2) 114 (lv (cR c.c))]) (fun _=>[]):=by
 have hT:=dS;generalize hR:cR c.c=r;obtain⟨hbz,hst,hou⟩:=zS hr;have hnb:c.c.bufs.length=c.bufs.list.length:=cQ _;have hns:c.c.steps.length=c.steps.list.length:=dX _;have hno:c.c.outs.length=c.outs.list.length:=rfl;refine j1 func37 ntmps37 ?_;intro β hM;refine g2 ?_;refine j2 fun b1=>?_;refine g5 ?_;refine ss (qD hT (bG (off:=0) d8) rfl rfl rfl rfl rfl) ?_;refine at_one_life (m:=⟨0,-1⟩) rfl rfl rfl rfl rfl fun b2=>?_;refine bEv (E:=kC) (xs:=[⟨0,-1⟩]) .head<|uZ .head ?_;refine g3 ?_;refine bH func87 (repeatL_spec (some ⟨b2,0,none⟩) 1 ⟨0,-1⟩ c.bufs.list.length k7) rfl rfl .nil ⟨d7,e8⟩ fun⟨LA,lcp⟩=>?_;refine g8 ?_;refine bAq (m:=c.bufs.list.length) rfl rfl rfl rfl rfl rfl k7 fun b3=>?_;refine g12 ?_;refine bX (ι:=Nat×List dE) [(1,_),(3,_),(4,_),(23,_)] ⟨rfl,rfl,rfl,rfl,e8⟩ (fun⟨i,li⟩=>[(24,.int .i64 (i:Nat))]) (fun⟨i,li⟩=>[kC.row (.slice LA c.bufs.list.length lcp) 114 li]) (fun⟨i,li⟩=>[bD.pure (i≤c.bufs.list.length∧bDp c.c i li)]) (fun⟨i,li⟩=>c.bufs.list.length-i) (0,List.replicate c.bufs.list.length ⟨0,-1⟩) ⟨rfl,e8⟩ (.c1 .nil) ⟨e9 (⟨k7,by rw [←hnb];exact live_start⟩),e8⟩ ?_;rintro⟨i,li⟩;dsimp only;refine bL d7 fun hinv4=>?_;have hll:li.length=c.bufs.list.length:=by rw [hinv4.2.1];exact hnb
 refine g6 ?_;refine fJ (fun hc25=>?_) fun hc25=>?_
 ·refine g15 ?_;refine bR (yS.sl (.slice c.bufs.addr c.bufs.list.length c.bufs.cap) c.bufs.list) (rS (lB d9)) ?_;obtain⟨x4,hx5⟩:=gx c.bufs.list i;refine ss (ixs i) ?_;refine one ?_;refine ss (iX hx5 1) ?_;refine g2 ?_;refine k_le (fun hg34=>?_) fun hg34=>?_
  ·refine g11 ?_;obtain⟨x6,hx7⟩:=gx li i;refine ss (bI hT (k:=i) (cC .head) rfl rfl rfl rfl rfl hll.symm rfl k7) ?_;refine one ?_;refine cD hT (k:=i) (fo:=0) (y':=(⟨-1,x6.to_⟩:dE)) .head rfl rfl rfl rfl rfl rfl rfl rfl rfl hx7 rfl ?_;refine g5 ?_;refine inc (i+1) ?_;refine g3 ?_;exact bk2 (i+1,(li.set i (⟨-1,x6.to_⟩:dE))) ⟨e9 (⟨by dsimp only;omega,live_yes hinv4.2 (dJ hx5) hx7 r7⟩),e8⟩
  refine g3 ?_;refine bR (cT.sl (.slice c.outs.addr c.outs.list.length c.outs.cap) c.outs.list) (outsF_s (coreF_o e6)) ?_;refine bH func88 (bLi c.outs.addr c.outs.cap c.outs.list k7 (i:Nat)) rfl rfl .nil ⟨d7,e8⟩ fun _=>?_;refine g3 ?_;refine xJ (fun hc39=>?_) fun hc39=>?_
  ·refine g3 ?_;obtain⟨x8,hx9⟩:=gx li i;refine ss (bI hT (k:=i) (cC .head) rfl rfl rfl rfl rfl hll.symm rfl k7) ?_;refine one ?_;refine cD hT (k:=i) (fo:=0) (y':=(⟨-1,x8.to_⟩:dE)) .head rfl rfl rfl rfl rfl rfl rfl rfl rfl hx9 rfl ?_;refine g5 ?_;refine inc (i+1) ?_;refine g3 ?_;exact bk2 (i+1,(li.set i (⟨-1,x8.to_⟩:dE))) ⟨e9 (⟨by dsimp only;omega,live_yes hinv4.2 (dJ hx5) hx9 r7⟩),e8⟩
  refine g5 ?_;refine inc (i+1) ?_;refine g3 ?_;exact bk2 (i+1,li) ⟨e9 (⟨by dsimp only;omega,live_no hinv4.2 (dJ hx5) (by show kG.input _<0;omega) ‹_›⟩),e8⟩
 refine g15 ?_;refine bX (ι:=Nat×List dE×List Bool) [(1,_),(3,_),(4,_),(46,_),(47,_)] ⟨rfl,rfl,rfl,rfl,rfl,e8⟩ (fun⟨k,li,dn⟩=>[(48,.int .i64 (k:Nat))]) (fun⟨k,li,dn⟩=>[kC.row (.slice LA c.bufs.list.length lcp) 114 li,jR.row (.slice (some ⟨b3,0,none⟩) c.bufs.list.length c.bufs.list.length) 4 dn]) (fun⟨k,li,dn⟩=>[bD.pure (k≤c.steps.list.length∧StepI c.c k li dn r)]) (fun⟨k,li,dn⟩=>c.steps.list.length-k) (0,li,List.replicate c.bufs.list.length false) ⟨rfl,e8⟩ (.c0 (.c0 .nil)) ⟨e9 (⟨k7,by rw [←hR,←hnb];exact step_start hinv4.2 k7⟩),e8⟩ ?_;rintro⟨k,li,dn⟩;dsimp only;refine bL d7 fun hinv10=>?_;have hl2:li.length=c.bufs.list.length:=by rw [hinv10.2.1];exact hnb
 have hd2:dn.length=c.bufs.list.length:=by rw [hinv10.2.2.1];exact hnb
 refine g6 ?_;refine fJ (fun hc49=>?_) fun hc49=>?_
 ·refine g7 ?_;refine bR (sX.sl (.slice c.steps.addr c.steps.list.length c.steps.cap) c.steps.list) (sW (lH e6)) ?_;obtain⟨x10,hx11⟩:=gx c.steps.list k;refine ss (ixs k) ?_;refine ss (lL hx11 0) ?_;refine i7 uP fun b12=>?_;refine g6 ?_;obtain⟨hb0,hb1,hop⟩:=hst x10.c (f4 (dK hx11))
  replace hb0:0≤x10.buf:=hb0
  replace hb1:x10.buf<(c.c.bufs.length:Nat):=hb1
  have hul:=usesV_len x10.ops.list;refine g3 ?_;refine bR (nN x10) (Has.each (tD (lH e7)) (f4 hx11))<|bR (opE.sl (.slice x10.ops.addr x10.ops.list.length x10.ops.cap) x10.ops.list) (opsF_s (oN d7))<|bL (opsF_c (oN d8)) fun hz13=>?_;have hz132:=hz13.2;refine bH func89 (uses_spec x10.ops.addr x10.ops.cap x10.ops.list k7) rfl rfl .nil ⟨d7,e8⟩ fun⟨UA,uc⟩=>?_;refine g5 ?_;refine bX (ι:=Nat×List dE) [(1,_),(3,_),(4,_),(6,_),(7,_),(46,_),(47,_),(48,_),(55,_),(56,_)] ⟨rfl,rfl,rfl,rfl,rfl,rfl,rfl,rfl,rfl,rfl,e8⟩ (fun⟨j,lj⟩=>[(57,.int .i64 (j:Nat))]) (fun⟨j,lj⟩=>[kC.row (.slice LA c.bufs.list.length lcp) 114 lj]) (fun⟨j,lj⟩=>[bD.pure (j≤(mH x10.ops.list).length∧lj.length=c.bufs.list.length∧UseI (k:Nat) (mH x10.ops.list) j (((mH x10.ops.list).map Int.toNat).foldl (gI (k:Nat)) (lc li)) lj)]) (fun⟨j,lj⟩=>(mH x10.ops.list).length-j) (0,li) ⟨rfl,e8⟩ (.c1 .nil) ⟨e9 (⟨k7,hl2,rfl⟩),e8⟩ ?_;rintro⟨j,lj⟩;dsimp only;refine bL d7 fun hinv13=>?_;have hl3:=hinv13.2.1;refine g6 ?_;refine fJ (fun hc58=>?_) fun hc58=>?_
  ·refine g6 ?_;obtain⟨x14,hx15⟩:=gx (mH x10.ops.list) j;refine ss (ixs j) ?_;refine ss (iX hx15 0) ?_;refine g3 ?_;have hzz:=uses_in hop (f4 hx15);refine g4 ?_;obtain⟨x16,hx17⟩:=gx lj x14.toNat k9;refine ss (bI hT (k:=x14.toNat) (cC .head) rfl rfl rfl rfl rfl hl3.symm k7 k9) ?_;refine one ?_;refine cD hT (k:=x14.toNat) (fo:=1) (y':=(⟨x16.from_,(k:Nat)⟩:dE)) .head rfl rfl rfl rfl rfl rfl rfl rfl rfl hx17 rfl ?_;refine g5 ?_;refine inc (j+1) ?_;refine g3 ?_;exact bk2 (j+1,(lj.set x14.toNat (⟨x16.from_,(k:Nat)⟩:dE))) ⟨e9 (⟨by dsimp only;omega,by rw [List.length_set];exact hl3,use_step hinv13.2.2 hx15 hx17⟩),e8⟩
  refine g11 ?_;obtain⟨x18,hx19⟩:=gx dn x10.buf.toNat k9;refine ss (bI hT (k:=x10.buf.toNat) (cC kT2) rfl rfl rfl rfl rfl hd2.symm k7 k9) ?_;refine ss (iX hx19 0) ?_;refine g3 ?_;refine bKt (fun hc72=>?_) fun hc72=>?_
  ·refine g5 ?_;refine ss (bI hT (k:=x10.buf.toNat) (cC kT2) rfl rfl rfl rfl rfl hd2.symm k7 k9) ?_;refine cD hT (k:=x10.buf.toNat) (fo:=0) (y':=(true)) kT2 rfl rfl rfl rfl rfl rfl rfl rfl rfl hx19 rfl ?_;refine g7 ?_;obtain⟨x20,hx21⟩:=gx lj x10.buf.toNat k9;refine ss (bI hT (k:=x10.buf.toNat) (cC kT1) rfl rfl rfl rfl rfl hl3.symm k7 k9) ?_;refine one ?_;refine cD hT (k:=x10.buf.toNat) (fo:=0) (y':=(⟨(k:Nat),x20.to_⟩:dE)) kT1 rfl rfl rfl rfl rfl rfl rfl rfl rfl hx21 rfl ?_;refine g7 ?_;refine ss (bI hT (k:=x10.buf.toNat) (cC .head) rfl rfl rfl rfl rfl m9 k7 k9) ?_;refine one ?_;refine cD hT (k:=x10.buf.toNat) (fo:=1) (y':=(⟨(⟨(k:Nat),x20.to_⟩:dE).from_,(k:Nat)⟩:dE)) .head rfl rfl rfl rfl rfl rfl rfl rfl rfl (List.getElem?_set_self k9) rfl ?_;refine g5 ?_;refine inc (k+1) ?_;refine g3 ?_;exact bk2 (k+1,((lj.set x10.buf.toNat (⟨(k:Nat),x20.to_⟩:dE)).set x10.buf.toNat (⟨(⟨(k:Nat),x20.to_⟩:dE).from_,(k:Nat)⟩:dE)),(dn.set x10.buf.toNat (true))) ⟨e9 (⟨by dsimp only;omega,bMy hinv10.2 (dK hx11) (made_new hinv13.2.2 k7 rfl (show dn[_]?=some false by rw [hx19];simp_all) hx21) rfl⟩),e8⟩
  refine g7 ?_;obtain⟨x22,hx23⟩:=gx lj x10.buf.toNat k9;refine ss (bI hT (k:=x10.buf.toNat) (cC .head) rfl rfl rfl rfl rfl hl3.symm k7 k9) ?_;refine one ?_;refine cD hT (k:=x10.buf.toNat) (fo:=1) (y':=(⟨x22.from_,(k:Nat)⟩:dE)) .head rfl rfl rfl rfl rfl rfl rfl rfl rfl hx23 rfl ?_;refine g5 ?_;refine inc (k+1) ?_;refine g3 ?_;exact bk2 (k+1,(lj.set x10.buf.toNat (⟨x22.from_,(k:Nat)⟩:dE)),dn) ⟨e9 (⟨by dsimp only;omega,bMy hinv10.2 (dK hx11) (made_old hinv13.2.2 k7 rfl (show dn[_]?=some true by rw [hx19];simp_all) hx23).1 (made_old (y:=_) hinv13.2.2 k7 rfl (show dn[_]?=some true by rw [hx19];simp_all) hx23).2⟩),e8⟩
 refine g15 ?_;refine bX (ι:=Nat×List dE) [(1,_),(3,_),(91,_),(92,_)] ⟨rfl,rfl,rfl,rfl,e8⟩ (fun⟨j,lo⟩=>[(93,.int .i64 (j:Nat))]) (fun⟨j,lo⟩=>[kC.row (.slice LA c.bufs.list.length lcp) 114 lo]) (fun⟨j,lo⟩=>[bD.pure (j≤c.outs.list.length∧OutI c.c j lo r)]) (fun⟨j,lo⟩=>c.outs.list.length-j) (0,li) ⟨rfl,e8⟩ (.c0 .nil) ⟨e9 (⟨k7,hinv10.2.1,stepI_end hinv10.2 k7⟩),e8⟩ ?_;rintro⟨j,lo⟩;dsimp only;refine bL d7 fun hinv23=>?_;have hl4:lo.length=c.bufs.list.length:=by rw [hinv23.2.1];exact hnb
 refine g6 ?_;refine fJ (fun hc94=>?_) fun hc94=>?_
 ·refine g6 ?_;refine bR (cT.sl (.slice c.outs.addr c.outs.list.length c.outs.cap) c.outs.list) (outsF_s (coreF_o e7)) ?_;obtain⟨x24,hx25⟩:=gx c.outs.list j;refine ss (ixs j) ?_;refine ss (iX hx25 0) ?_;refine g3 ?_;have hzz:=hou x24 (f4 hx25);refine g6 ?_;obtain⟨x26,hx27⟩:=gx lo x24.toNat k9;refine ss (bI hT (k:=x24.toNat) (cC .head) rfl rfl rfl rfl rfl hl4.symm k7 k9) ?_;refine one ?_;refine cD hT (k:=x24.toNat) (fo:=1) (y':=(⟨x26.from_,(c.steps.list.length:Nat)⟩:dE)) .head rfl rfl rfl rfl rfl rfl rfl rfl rfl hx27 rfl ?_;refine g5 ?_;refine inc (j+1) ?_;refine g3 ?_;exact bk2 (j+1,(lo.set x24.toNat (⟨x26.from_,(c.steps.list.length:Nat)⟩:dE))) ⟨e9 (⟨by dsimp only;omega,out_stepN hns hinv23.2 hx25 hx27⟩),e8⟩
 refine g12 ?_;have hlv:=out_end hinv23.2 k7;subst hlv;exact rs1 (LA,lcp) trivial
end
section
open Go.Proofs.Tryz
end
section
open Go.RowKit Go.Proofs.Tryz
section
variable {α : Type} {x y : α}
theorem bMf{a b:List α}{k:Nat}(h:a.take k=b.take k)(hx:a[k]?=some x)(hy:b[k]?=some y)(e:x=y):a.take (k+1)=b.take (k+1):=by
 subst e;rw [List.take_add_one,List.take_add_one,h,hx,hy]
theorem take_all{a b:List α}{k:Nat}(h:a.take k=b.take k)(ha:a.length≤k)(hb:b.length≤k):a=b:=by
 rw [List.take_of_length_le ha,List.take_of_length_le hb] at h;exact h
theorem not_take{a b:List α}{k:Nat}(hx:a[k]?=some x)(hy:b[k]?=some y)(e:x≠y):a≠b:=by
 rintro rfl;rw [hx] at hy;exact e (Option.some.inj hy)
end
theorem bDw(p q:PolV)(hl:p.list.length≤140737488355328):cA prog 92 [.slice p.addr p.list.length p.cap,.slice q.addr q.list.length q.cap] [] [mK.sl (.slice p.addr p.list.length p.cap) p.list,mK.sl (.slice q.addr q.list.length q.cap) q.list] (fun(_:Unit)=> .bool (decide (p.list=q.list))) (fun _=>[]) (fun _=>[]):=by
 have hT:=dS;refine j1 func92 ntmps92 ?_;intro β hM;refine sr<|sp hT ?_;refine nn<|fI<|sr<|sp4 hT ?_;refine sp hT ?_;refine nn<|cL rfl (fun hc10=>?_) (fun hc10=>?_)
 ·have hc10:=bne_iff_ne.1 hc10;refine sr<|sp hT ?_;refine nn<|uL<|tZ ?_;exact nC () rfl (rv_tmp rfl) .nil e8 (eqF_of (fun e=>by have:=congrArg List.length e;omega))
 have hc10:=bne_eq_false_iff_eq.1 hc10;refine rV<|kS<|fI<|sr<|sp3 hT ?_;refine nn<|vK<|bX (ι:=Nat) [(0,_),(1,_),(12,_)] ⟨rfl,rfl,rfl,e8⟩ (fun i=>[(13,.int .i64 (i:Nat))]) (fun _=>[]) (fun i=>[bD.pure (i≤p.list.length∧p.list.take i=q.list.take i)]) (fun i=>p.list.length-i) 0 ⟨rfl,e8⟩ .nil ⟨e9 (⟨k7,rfl⟩),e8⟩ ?_;rintro i;refine bL d7 fun hinv4=>?_;refine sr<|sp hT ?_;refine nn<|fI<|cL rfl (fun hc14=>?_) (fun hc14=>?_)
 ·have hc14:=of_decide_eq_true hc14;refine rV<|kS<|fI<|vK<|sr<|sp2 hT ?_;refine nn<|fI<|fB _ _ [(true,0),(true,1),(true,2),(true,3),(true,4),(true,5),(true,6),(true,7),(true,8)] dR l9 .nil bA.self ?_;refine puM hT ?_;refine puM hT ?_
  obtain⟨x1,hx2⟩: ∃x',p.list[i]?=some x':=⟨_,List.getElem?_eq_getElem k7⟩
  refine stM rfl (bI hT (k:=i) (bV d8) rfl rfl rfl rfl rfl rfl rfl k7) ?_;refine stM rfl (qD hT (dF.knows (bV d8) (k:=i) (x:=x1) hx2 0) rfl rfl rfl rfl rfl) ?_;refine puM hT ?_;refine puM hT ?_
  obtain⟨x3,hx4⟩: ∃x',q.list[i]?=some x':=⟨_,List.getElem?_eq_getElem k7⟩
  refine stM rfl (bI hT (k:=i) (bV d9) rfl rfl rfl rfl rfl rfl rfl k7) ?_;refine stM rfl (qD hT (dF.knows (bV d9) (k:=i) (x:=x3) hx4 0) rfl rfl rfl rfl rfl) ?_;refine stM rfl (sti_neq_mono x1 x3 rfl rfl rfl) ?_;refine atm_nil<|kS<|cL rfl (fun hc24=>?_) (fun hc24=>?_)
  ·refine sr<|sp hT ?_;refine nn<|uL<|bAh<|tZ<|tZ<|bAh<|tZ ?_;exact nC () rfl (rv_tmp rfl) .nil e8 (eqF_of (not_take hx2 hx4 (mono_t ‹_›)))
  refine rV<|n_block<|kS<|lD<|sp hT ?_;refine bM (z':=(((i+1):Nat):Int)) (yB k7 k7) ?_;refine sp hT ?_;refine nn ?_;exact pF (i+1) k7 ⟨rfl,e8⟩ ⟨rfl,rfl,rfl,e8⟩ .nil ⟨e9 (⟨k7,bMf hinv4.2 hx2 hx4 (mono_f ‹_›)⟩),e8⟩ (bA.drop 1)
 have hc14:=Int.not_lt.1 (of_decide_eq_false hc14);refine at_exit<|bHl<|bHl<|x_block<|kS<|sr<|sp hT ?_;refine nn<|uL ?_;exact nC () rfl (rv_tmp rfl) .nil e8 (eqT_of (take_all hinv4.2 k7 k7))
theorem full1_spec(p q:PolV)(hl:p.list.length≤140737488355328):cA prog 91 [.slice p.addr p.list.length p.cap,.slice q.addr q.list.length q.cap] [] [mK.sl (.slice p.addr p.list.length p.cap) p.list,mK.sl (.slice q.addr q.list.length q.cap) q.list] (fun(_:Unit)=> .bool (decide (p.list=q.list))) (fun _=>[]) (fun _=>[]):=by
 have hT:=dS;refine j1 func91 ntmps91 ?_;intro β hM;refine sr<|sp hT ?_;refine nn<|sr<|sp2 hT ?_;refine f9 func92 (bDw p q hl) .nil ⟨d7,d8,e8⟩ fun _=>?_;refine sp hT ?_;refine nn<|uL ?_;exact nC () rfl (rv_tmp rfl) .nil e8 (rfl)
theorem bEs(A B:Option Addr)(ca cb:Nat)(a b:List PolV)(hl:a.length≤140737488355328):cA prog 90 [.slice A a.length ca,.slice B b.length cb,.func (.func 91) #[] #[]] [] [iP.sl (.slice A a.length ca) a,zK a,iP.sl (.slice B b.length cb) b,zK b] (fun(_:Unit)=> .bool (decide (polsL a=polsL b))) (fun _=>[]) (fun _=>[]):=by
 have hT:=dS;refine j1 func90 ntmps90 ?_;intro β hM;refine sr<|sp hT ?_;refine nn<|fI<|sr<|sp4 hT ?_;refine sp hT ?_;refine nn<|cL rfl (fun hc14=>?_) (fun hc14=>?_)
 ·have hc14:=bne_iff_ne.1 hc14;refine sr<|sp hT ?_;refine nn<|uL<|tZ ?_;exact nC () rfl (rv_tmp rfl) .nil e8 (eqF_of (fun e=>by have:=congrArg List.length e;rw [bW,bW] at this;omega))
 have hc14:=bne_eq_false_iff_eq.1 hc14;refine rV<|kS<|fI<|sr<|sp3 hT ?_;refine nn<|vK<|bX (ι:=Nat) [(1,_),(2,_),(15,_),(16,_)] ⟨rfl,rfl,rfl,rfl,e8⟩ (fun i=>[(17,.int .i64 (i:Nat))]) (fun _=>[]) (fun i=>[bD.pure (i≤a.length∧(polsL a).take i=(polsL b).take i)]) (fun i=>a.length-i) 0 ⟨rfl,e8⟩ .nil ⟨e9 (⟨k7,rfl⟩),e8⟩ ?_;rintro i;refine bL d7 fun hinv4=>?_;refine sr<|sp hT ?_;refine nn<|fI<|cL rfl (fun hc18=>?_) (fun hc18=>?_)
 ·have hc18:=of_decide_eq_true hc18;refine rV<|kS<|fI<|vK<|sr<|sp hT ?_
  obtain⟨x1,hx2⟩: ∃x',a[i]?=some x':=⟨_,List.getElem?_eq_getElem k7⟩
  refine ss (bI hT (k:=i) (bV d8) rfl rfl rfl rfl rfl rfl rfl k7) ?_;refine ss (i6 hT (dF.knows (bV d8) (k:=i) (x:=x1) hx2 0)) ?_;refine sp2 hT ?_;refine nn<|sr<|sp2 hT ?_
  obtain⟨x3,hx4⟩: ∃x',b[i]?=some x':=⟨_,List.getElem?_eq_getElem k7⟩
  refine ss (bI hT (k:=i) (bV e6) rfl rfl rfl rfl rfl rfl rfl k7) ?_;refine ss (i6 hT (dF.knows (bV e6) (k:=i) (x:=x3) hx4 0)) ?_;refine sp hT ?_;refine nn<|sr<|sp3 hT ?_;refine bL (gE (Has.each d9 (f4 hx2))) fun hxl=>?_;refine kU (j4 func91) (full1_spec x1 x3 hxl) rfl rfl rfl rfl rfl rfl rfl .nil ⟨rC (Has.each d9 (f4 hx2)),rC (Has.each e7 (f4 hx4)),e8⟩ fun _=>?_;refine sp hT ?_;refine nn<|cL rfl (fun hc30=>?_) (fun hc30=>?_)
  ·have hc30:=bDs hc30;refine sr<|sp hT ?_;refine nn<|uL<|bAh<|tZ<|tZ<|bAh<|tZ ?_;exact nC () rfl (rv_tmp rfl) .nil e8 (eqF_of (not_take (dC hx2) (dC hx4) (of_decide_eq_false (by simpa using (by assumption:(!decide _)=true)))))
  have hc30:=bEq hc30;refine rV<|n_block<|kS<|lD<|sp hT ?_;refine bM (z':=(((i+1):Nat):Int)) (yB k7 k7) ?_;refine sp hT ?_;refine nn ?_;exact pF (i+1) k7 ⟨rfl,e8⟩ ⟨rfl,rfl,rfl,rfl,e8⟩ .nil ⟨e9 (⟨k7,bMf hinv4.2 (dC hx2) (dC hx4) (of_decide_eq_true (by simpa using (by assumption:(!decide _)=false)))⟩),e8⟩ (bA.drop 1)
 have hc18:=Int.not_lt.1 (of_decide_eq_false hc18);refine at_exit<|bHl<|bHl<|x_block<|kS<|sr<|sp hT ?_;refine nn<|uL ?_;exact nC () rfl (rv_tmp rfl) .nil e8 (eqT_of (take_all hinv4.2 o8 o8))
def pB:Flat RowV where
 size:=1
 cells:=fun r=>[.pointer (some ⟨r.b,0,none⟩)]
 len:=fun _=>rfl
 one:=fun x u hu=>by simp at hu;subst hu;rfl
 pos:=m7
def kL (x:SpotV):bD:=(dO x.at_).and (dO x.size)
abbrev plBox(p m:Nat)(st:PSt):bC:= .obj p (.cells ([.slice st.end_.addr st.end_.list.length st.end_.cap,.slice st.fA st.rows.length st.fc,.int .i64 st.since,.map (some m)]:List Value).toArray 105)
abbrev plRow(st:PSt):bC:=pB.row (.slice st.fA st.rows.length st.fc) 284 st.rows
abbrev plMap(m:Nat)(st:PSt):bC:=bIc m .i64 (kvV st.kv)
abbrev plH(p m:Nat)(st:PSt):List bC:=plBox p m st::plRow st::plMap m st::famR st.rows
def vD (n:List Mono)(r:RowV):Bool:=match r.l[0]? with
 | some x=>decide (sz x=n)
 | none=>false
theorem bMm{n:List Mono}{r:RowV}{x:SpotV}(h:r.l[0]?=some x):vD n r=decide (sz x=n):=by unfold vD;rw [h]
theorem pick_none{n:List Mono}{r:RowV}(h:r.l.length=0):vD n r=false:=by unfold vD;rw [List.getElem?_eq_none k7]
theorem bKj{α:Type}(p:α→Bool): ∀(l:List α) (i:Nat),(nY p l (i:Int)<0→ ∀x∈l,p x=false)∧(0≤nY p l (i:Int)→ ∃(k:Nat) (x:α),nY p l (i:Int)=((i+k:Nat):Int)∧l[k]?=some x∧p x=true)
 | [],i=>⟨fun _ x hx=>(by cases hx),fun h=>absurd h (by show ¬(0:Int)≤ -1;decide)⟩
 | s::r,i=>by
  have ih:=bKj p r (i+1);have ei:((i+1:Nat):Int)=(i:Int)+1:=k7
  rw [ei] at ih;unfold nY
  by_cases hs:p s=true
  ·rw [if_pos hs];exact⟨fun h=>by omega,fun _=>⟨0,s,m8,rfl,hs⟩⟩
  ·rw [if_neg hs];refine⟨fun h x hx=>?_,fun h=>?_⟩
   ·rcases List.mem_cons.1 hx with rfl | hx
    ·simpa using hs
    ·exact ih.1 h x hx
   ·obtain⟨k,x,h1,h2,h3⟩:=ih.2 h;exact⟨k+1,x,by rw [h1];omega,h2,h3⟩
theorem idxG_at{α:Type}(p:α→Bool)(l:List α):(nY p l 0<0→ ∀x∈l,p x=false)∧(0≤nY p l 0→ ∃(k:Nat) (x:α),nY p l 0=(k:Nat)∧l[k]?=some x∧p x=true):=by
 have:=bKj p l 0
 simpa using this
theorem pick_no{n:List Mono}{l:List RowV}(h: ∀r∈l,vD n r=false): ∀(j:Nat) (r:RowV) (x:SpotV),l[j]?=some r→r.l[0]?=some x→sz x≠n:=fun j r x hj hx=>by
 have:=h r (f4 hj);rw [bMm hx] at this
 simpa using this
theorem pick_yes{n:List Mono}{r:RowV}(h:vD n r=true): ∃x,r.l[0]?=some x∧sz x=n:=by
 unfold vD at h
 cases hx:r.l[0]? with
 | none=>rw [hx] at h;cases h
 | some x=>rw [hx] at h;exact⟨x,rfl,by simpa using h⟩
theorem pl_front(a p fr mp:bC)(fam:List bC):(a::p::fr::mp::fam).Perm ((a::fr::fam)++[p,mp]):=by
 refine List.Perm.cons a ?_;have h1:(p::fr::mp::fam).Perm (fr::p::mp::fam):=List.Perm.swap _ _ _;have h2:([p,mp]++fam).Perm (fam++[p,mp]):=List.perm_append_comm;exact h1.trans (h2.cons fr)
def spotO:Option SpotV→Array Value
 | some x=>(dD.cells x).toArray
 | none=> #[.slice none 0 0,.slice none 0 0,.int .i64 0]
def TakeO (st:PSt)(pool:List SpotV)(s:PlC)(fs:List SpotV)(M:Nat)(n:List Mono):Option SpotV→Prop
 | none=>fS st pool s fs M∧s.free.findIdx? (fun y=>decide (y.size=n))=none
 | some q=>q∈pool∧ ∃i,s.free[i]?=some q.c∧s.free.findIdx? (fun y=>decide (y.size=n))=some i∧fS st pool {s with free:=s.free.eraseIdx i} fs M
theorem Sel.skip{H R:List bC}{c:bC}(h:Sel H R):Sel (c::H) R:=by
 induction h generalizing c with
 | nil=>exact .nil
 | cons h _ ih=>exact .cons (.tail h) ih
theorem Split.all: ∀{L:List bC},Split L L []
 | []=> .nil
 | _::_=> .cons .head Split.all
theorem cA.pre{ι:Type}{P:Program}{f:FuncId}{args:List Value}{Hin:List bC}{Pre Pre':List bD}{val:ι→Value}{Hout:ι→List bC}{post:ι→List bD}(h:cA P f args Hin Pre val Hout post)(hp:bA Pre' Pre):cA P f args Hin Pre' val Hout post:=fun S w s k=>h S w s (bA.all hp S w k)
section
variable {β : cX} {n : Nat} {Γ : Env} {H H' : List bC} {F : List bD} {K : Act → World → Prop} {Q : Exit → Act → World → Prop}
theorem dI(p:H.Perm H')(h:At β n Γ H' F K):At β n Γ H F K:=fun a w S f s k=>h a w S f (s.perm p) k
theorem ptrInfo: ∃i:TypeInfo,prog.info? 284=some i∧i.zero=some (.pointer none)∧i.size=1∧i.bytes=8:=by
 have h:(prog.info? 284).map (fun i=>(i.zero,i.size,i.bytes))=some (some (.pointer none),1,8):=k8
 cases hi:prog.info? 284 with
 | none=>simp [hi] at h
 | some i=>simp [hi] at h;exact⟨i,rfl,h.1,h.2.1,h.2.2⟩
theorem at_one_ptr{ops:Array Oper}{rest:List Oper}{o:Oper}{d:Nat}{x:Operand}{m:RowV}(hw:want ops Γ o=some true)(ho:o.op= .buildSlice 103 1 #[(0,x)])(hd:o.dst=some d)(hn:Nat.blt d n=true)
  (hx:Γ.ev x=some (.pointer (some ⟨m.b,0,none⟩))) (k: ∀b,At β n ((d,.slice (some ⟨b,0,none⟩) 1 1)::Γ) (.obj b (.cells (pB.all [m]).toArray 284)::H) F (wpList prog ops Q rest)):At β n Γ H F (wpList prog ops Q (o::rest)):=by
 obtain⟨i,hi,hz,hs,_⟩:=ptrInfo;refine nS hw ho hd hn hx underlying103 hi hz k7 k7 ?_ k;rw [hs]
 kernel_rfl
theorem at_app_ptr{ops:Array Oper}{rest:List Oper}{o:Oper}{d:Nat}{x y:Operand}{c q:Nat}{v:Value}{A:Option Addr}{xs ys:List RowV}{H':List bC}(hH:bT H (pB.row v 284 xs) H')(hr:dF β H F pB A ys)(hg:o.guard=none)
  (ho:o.op= .call {callee:= .builtin .append,args:= #[x,y],argTypes:= #[103,103]}) (hd:o.dst=some d) (hn:Nat.blt d n=true)
  (hx:Γ.ev x=some v) (hy:Γ.ev y=some (.slice A q c)) (hq:q=ys.length) (hl:xs.length+ys.length≤17592186044416)
  (k: ∀A' cap',At β n ((d,.slice A' (xs++ys).length cap')::Γ) (pB.row (.slice A' (xs++ys).length cap') 284 (xs++ys)::H') F (wpList prog ops Q rest)):At β n Γ H F (wpList prog ops Q (o::rest)):=by
 obtain⟨i,hi,hz,hs,hb⟩:=ptrInfo;exact iZ hH hr hg ho hd hn underlying103 hi hz hs hb rfl hx hy hq k7 m7 k
theorem row_setP{rows:List RowV}{k:Nat}{r q:RowV}(v:Value)(h:rows[k]?=some r)(hb:q.b=r.b):pB.row v 284 (rows.set k q)=pB.row v 284 rows:=by
 have e:pB.all (rows.set k q)=pB.all rows:=by
  have e:pB.cells q=pB.cells r:=by
   show [Value.pointer (some ⟨q.b,0,none⟩)]=[Value.pointer (some ⟨r.b,0,none⟩)];rw [hb]
  unfold Flat.all;rw [List.flatMap_def,List.flatMap_def,List.map_set,e]
  congr 1
  have hx:(rows.map pB.cells)[k]?=some (pB.cells r):=by rw [List.getElem?_map,h];rfl
  obtain⟨hlt,e2⟩:=List.getElem?_eq_some_iff.1 hx;rw [←e2];exact List.set_getElem_self hlt
 unfold Flat.row;rw [e,List.length_set]
theorem bEt{p m k:Nat}{st:PSt}{r:RowV}{H:List bC}(q:RowV)(hk:st.rows[k]?=some r)(hb:q.b=r.b)(h:At β n Γ (H++plH p m {st with rows:=st.rows.set k q}) F K):At β n Γ (rowBox q::rowArr q::((H++[plBox p m st,plRow st,plMap m st])++famR (st.rows.take k++st.rows.drop (k+1)))) F K:=by
 refine dI (fam_back hk q _) ?_
 have e:H++plH p m {st with rows:=st.rows.set k q}=(H++[plBox p m st,plRow st,plMap m st])++famR (st.rows.set k q):=by
  show H++(plBox p m {st with rows:=st.rows.set k q}::plRow {st with rows:=st.rows.set k q}::plMap m {st with rows:=st.rows.set k q}::famR (st.rows.set k q))=_
  have e1:plRow {st with rows:=st.rows.set k q}=plRow st:=by
   show pB.row (.slice st.fA (st.rows.set k q).length st.fc) _ (st.rows.set k q)=pB.row (.slice st.fA st.rows.length st.fc) _ st.rows;rw [row_setP _ hk hb,List.length_set]
  have e2:plBox p m {st with rows:=st.rows.set k q}=plBox p m st:=by
   show bC.obj _ _=bC.obj _ _;simp only [List.length_set]
  rw [e1,e2];simp
 rw [←e];exact h
theorem bIi{p m k:Nat}{st:PSt}{r:RowV}{H:List bC}(hk:st.rows[k]?=some r)(h:At β n Γ (rowBox r::rowArr r::((H++[plBox p m st,plRow st,plMap m st])++famR (st.rows.take k++st.rows.drop (k+1)))) F K):At β n Γ (H++plH p m st) F K:=by
 refine dI ?_ h;have e:H++plH p m st=(H++[plBox p m st,plRow st,plMap m st])++famR st.rows:=by simp
 rw [e];exact fam_out hk _
end
theorem at_in_row{β:cX}{n:Nat}{Γ:Env}{F:List bD}{K:Act→World→Prop}{p m k:Nat}{st:PSt}{r:RowV}{H:List bC}(hk:st.rows[k]?=some r)(h:At β n Γ (H++plH p m st) F K):At β n Γ (rowBox r::rowArr r::((H++[plBox p m st,plRow st,plMap m st])++famR (st.rows.take k++st.rows.drop (k+1)))) F K:=by
 refine dI ?_ h;have e:H++plH p m st=(H++[plBox p m st,plRow st,plMap m st])++famR st.rows:=by simp
 rw [e];exact(fam_out hk _).symm
theorem popR(r:RowV)(x:SpotV)(hok:RowOk r)(hx:r.l[0]?=some x)(hb:r.l.length≤100000000):cA prog 166 [.iface 284 (.pointer (some ⟨r.b,0,none⟩))] [rowBox r,dD.held (.slice r.A r.l.length r.c) r.l] [] (fun(_:List SpotV)=> .iface 214 (.agg (dD.cells x).toArray)) (fun m=>[rowBox ⟨r.b,r.A,m.length,true,m⟩,rowArr ⟨r.b,r.A,m.length,true,m⟩]) (fun m=>[bD.pure (r.l.Perm (x::m)∧pQ SpotV.since m)]):=by
 obtain⟨N,hN⟩: ∃N,r.l.length=N+1:=⟨r.l.length-1,by have:=(List.getElem?_eq_some_iff.1 hx).1;omega⟩
 obtain⟨z,hz⟩: ∃z,r.l[N]?=some z:=⟨_,List.getElem?_eq_getElem k7⟩
 have h:=HPop_spec r.A r.b r.c N r.l x z hN (by have:=hok.2.1;omega) hx hz hok.2.2.1 k7;rw [←hN] at h;intro S w s k;refine(h S w s k).mono ?_;rintro e w' ⟨m,S',he,s',k'⟩;have hm:=k' _ (List.mem_cons_self ..)
 have hl:m.length=N:=by
  have:=hm.1.length_eq;simp at this;omega
 refine⟨m,S',he,?_,k'⟩;subst hl;exact s'
theorem pushR(r:RowV)(x:SpotV)(hok:RowOk r)(ha: ∀q∈r.l,q.since≤x.since)(hb:r.l.length≤100000000):cA prog 168 [.iface 284 (.pointer (some ⟨r.b,0,none⟩)),.iface 214 (.agg (dD.cells x).toArray)] [rowBox r,rowArr r] [] (fun(_:Option Addr×Nat)=> .tuple #[])
  (fun y=>[rowBox ⟨r.b,y.1,y.2,false,r.l++[x]⟩,rowArr ⟨r.b,y.1,y.2,false,r.l++[x]⟩]) (fun y=>[bD.pure ((r.l++[x]).length≤y.2)]):=by
 cases hf:r.full with
 | false=>
  rw [rowArr_room hf];exact HPush_spec r.A r.b r.c r.l x ha hb
 | true=>
  rw [rowArr_full hf];have hc:=hok.1 hf;have h:=HPushF_spec r.A r.b r.l x ha hb;unfold rowBox;rw [hc];exact h
theorem spotsF_at{F:List bD}{pool:List SpotV}{x:SpotV}(h:Has F (bD.each pool kL))(hx:x∈pool):Has F (dO x.at_):=fun S w k=>(h S w k x hx).1
theorem spotsF_size{F:List bD}{pool:List SpotV}{x:SpotV}(h:Has F (bD.each pool kL))(hx:x∈pool):Has F (dO x.size):=fun S w k=>(h S w k x hx).2
theorem indexR_spec(A:Option Addr)(c:Nat)(l:List RowV)(hl:l.length≤140737488355328)(f:FuncId)(cap:List Value)(G:List bD)(p:RowV→Bool)(hcf: ∀(args:Array Value) (w:World),(callFunc f args).run prog w= .ok (.enter f args) w)(hf: ∀r∈l,cA prog f (.pointer (some ⟨r.b,0,none⟩)::cap) [] G (fun _:Unit=> .bool (p r)) (fun _=>[]) (fun _=>[])):cA prog 219 [.slice A l.length c,.func (.func f) #[] cap.toArray] [] (pB.sl (.slice A l.length c) l::G) (fun(_:Unit)=> .int .i64 (nY p l 0)) (fun _=>[]) (fun _=>[]):=by
 have hT:=dV;generalize hR:nY p l 0=r;refine j1 func219 ntmps219 ?_;intro β hM;refine g14 ?_;refine bX (ι:=Nat) [(0,_),(1,_),(7,_)] ⟨rfl,rfl,rfl,e8⟩ (fun i=>[(8,.int .i64 (i:Nat))]) (fun _=>[]) (fun i=>[bD.pure (i≤l.length∧r=nY p (l.drop i) i)]) (fun i=>l.length-i) 0 ⟨rfl,e8⟩ .nil ⟨e9 (⟨k7,hR.symm⟩),e8⟩ ?_;rintro i;refine bL d7 fun hinv2=>?_;refine g6 ?_;refine fJ (fun hc9=>?_) fun hc9=>?_
 ·refine g15 ?_;obtain⟨x1,hx2⟩:=gx l i;refine ss (ixs i) ?_;refine ss (iX hx2 0) ?_;refine kU hcf (hf x1 (f4 hx2)) rfl rfl rfl rfl rfl rfl rfl .nil (bA.drop 2) fun _=>?_;refine g2 ?_;refine xJ (fun hc16=>?_) fun hc16=>?_
  ·refine g12 ?_;obtain rfl:=(mP hinv2.2 hx2).1 ‹_›;exact rs1 () trivial
  refine g5 ?_;refine inc (i+1) ?_;refine g3 ?_;exact bk2 (i+1) ⟨e9 (⟨k7,(mP hinv2.2 hx2).2 ‹_›⟩),e8⟩
 refine g11 ?_;have hr:=bAn hinv2.2 k7;subst hr;exact rs1 () trivial
theorem rowOf1_spec(r:RowV)(sb:Nat)(size:PolV)(pool:List SpotV)(hin: ∀x∈r.l,x∈pool):cA prog 220 [.pointer (some ⟨r.b,0,none⟩),.pointer (some ⟨sb,0,none⟩)] [] [bD.cells r.b 0 [.slice r.A r.l.length r.c],dD.sl (.slice r.A r.l.length r.c) r.l,bD.cells sb 0 [.slice size.addr size.list.length size.cap],dO size,bD.each pool kL] (fun(_:Unit)=> .bool (vD size.list r)) (fun _=>[]) (fun _=>[]):=by
 have hT:=dV;refine j1 func220 ntmps220 ?_;intro β hM;refine g6 ?_;refine fB _ _ [(true,0),(true,1),(true,2),(true,3),(true,4),(true,5),(true,6),(true,7),(true,8),(true,9),(true,10),(true,11),(true,12),(false,13),(true,14),(true,15)] dR l9 .nil bA.self ?_;refine g2 ?_;refine stM rfl (i6 hT (bG (off:=0) d7)) ?_;refine g3 ?_;refine xK (fun hg9=>?_) fun hg9=>?_
 ·refine g2 ?_;refine stM rfl (i6 hT (bG (off:=0) d7)) ?_;obtain⟨x1,hx2⟩:=gx r.l 0;refine stM rfl (ixs 0) ?_;refine one ?_;refine stM rfl (iX hx2 1) ?_;refine stM rfl (i6 hT (bG (off:=0) d9)) ?_;refine one ?_;refine bR (dO x1.size) (spotsF_size e7 (hin x1 (f4 hx2)))<|bL (gE d7) fun hxl=>?_;refine f9 func92 (bDw x1.size size hxl) .nil ⟨rC d7,rC e7,e8⟩ fun _=>?_;refine g6 ?_;exact rs1 () e8 (he:=by rw [bMm hx2];rfl)
 refine g15 ?_;exact rs1 () e8 (he:=by rw [pick_none k7])
theorem bKn(pb mb:Nat)(st:PSt)(pool fs:List SpotV)(s:PlC)(M:Nat)(h:fS st pool s fs M)(hM:M≤90000000)(size:PolV):cA prog 164 [.pointer (some ⟨pb,0,none⟩),.slice size.addr size.list.length size.cap] (plH pb mb st) [dO size,bD.each pool kL] (fun(x:PSt×Nat×RowV)=> .pointer (some ⟨x.2.2.b,0,none⟩)) (fun(x:PSt×Nat×RowV)=>plH pb mb x.1) (fun(x:PSt×Nat×RowV)=>[bD.pure (fS x.1 pool s fs (M+1)∧Picked size.list x.1 x.2.1 x.2.2∧x.1.end_=st.end_∧x.1.since=st.since)]):=by
 have hT:=dV;refine j1 func164 ntmps164 ?_;intro β hM;refine g2 ?_;refine j2 fun b1=>?_;refine g10 ?_;refine dI (pl_front _ _ _ _ _) ?_;refine iQ (j4 func219) (indexR_spec st.fA st.fc st.rows (by have:=h.many;omega) 220 [.pointer (some ⟨b1,0,none⟩)] [bD.each st.rows rowG,bD.cells b1 0 [.slice size.addr size.list.length size.cap],dO size,bD.each pool kL] (vD size.list) (j4 func220) (fun r hr=>(rowOf1_spec r b1 size pool (fun x hx=>by obtain⟨k,hk⟩:=List.getElem?_of_mem hr;exact h.inPool hk hx)).pre ⟨(Has.each d7 hr).left,(Has.each d7 hr).right,d8,d9,e6,e8⟩)) rfl rfl rfl rfl rfl .nil (Split.front _ _) (lA (oD (bMx _))) ⟨d8,d9,d7,e6,e7,e8⟩ (fun _=>True) (fun _ _ _ _=>trivial) fun _ _=>?_;refine dI (pl_front _ _ _ _ _).symm ?_;have hidx:=idxG_at (vD size.list) st.rows;generalize nY (vD size.list) st.rows 0=z at hidx⊢;refine g10 ?_;refine fJ (fun hc13=>?_) fun hc13=>?_
 ·refine g7 ?_;refine at_none_row rfl rfl rfl rfl fun nb2=>?_;refine j2 fun b3=>?_;refine at_one_ptr (m:=(⟨b3,some ⟨nb2,0,none⟩,0,false,[]⟩:RowV)) rfl rfl rfl rfl rfl fun b4=>?_;refine at_app_ptr kT5 (fM .head rfl) rfl rfl rfl rfl rfl rfl rfl (by have:=h.many;simp only [List.length_singleton];omega) fun A5 c6=>?_;refine g12 ?_;refine bM (z':=((st.rows.length:Nat):Int)) (by rw [List.length_append,List.length_singleton,show((st.rows.length+1:Nat):Int)-1=(st.rows.length:Nat) by omega];exact yB rfl (by have:=h.many;omega)) ?_;refine g10 ?_;refine ss (bI hT (k:=st.rows.length) (cC kT1) rfl rfl rfl rfl rfl rfl rfl m8) ?_;refine ss (bK hT (dF.knows (cC kT1) (k:=st.rows.length) (x:=(⟨b3,some ⟨nb2,0,none⟩,0,false,[]⟩:RowV)) m8 0) rfl rfl rfl rfl rfl) ?_;refine g4 ?_;have hnew:=picked_new (q:=(⟨b3,some ⟨nb2,0,none⟩,0,false,[]⟩:RowV)) h rfl (pick_no (hidx.1 hc13)) A5 c6 rfl;refine oF (.c0 (.c0 (.c4 (.c1 (.c1 (Sel.skip (Sel.skip Sel.self))))))) ?_;refine dI ((((fam_new (⟨b3,some ⟨nb2,0,none⟩,0,false,[]⟩:RowV) []).cons _).cons _).cons _) ?_;exact nC (_,st.rows.length,(⟨b3,some ⟨nb2,0,none⟩,0,false,[]⟩:RowV)) rfl (rv_tmp rfl) Sel.self ⟨e9 ⟨hnew.1,hnew.2,rfl,rfl⟩,e8⟩ rfl
 obtain⟨k,r,hzk,hk,hpk⟩:=hidx.2 k7;refine g9 ?_;refine ss (bI hT (k:=k) (cC kT2) rfl rfl rfl rfl rfl rfl hzk ((List.getElem?_eq_some_iff.1 hk).1)) ?_;refine ss (iX hk 0) ?_;refine g4 ?_;obtain⟨x0,hx0,hsz⟩:=pick_yes hpk;exact nC (st,k,r) rfl (rv_tmp rfl) (.c1 (.c1 (.c1 (Sel.skip Sel.self)))) ⟨e9 ⟨h.more k7,picked_old h hk hx0 hsz,rfl,rfl⟩,e8⟩ rfl
theorem tC:prog.built 214 []=some #[.slice none 0 0,.slice none 0 0,.int .i64 0]:=k8
theorem take_spec(pb mb:Nat)(st:PSt)(pool fs:List SpotV)(s:PlC)(M:Nat)(h:fS st pool s fs M)(hM:M≤80000000)(size:PolV):cA prog 95 [.pointer (some ⟨pb,0,none⟩),.slice size.addr size.list.length size.cap] (plH pb mb st) [dO size,bD.each pool kL] (fun(x:PSt×List SpotV×Option SpotV)=> .tuple #[.agg (spotO x.2.2),.bool x.2.2.isSome]) (fun(x:PSt×List SpotV×Option SpotV)=>plH pb mb x.1) (fun(x:PSt×List SpotV×Option SpotV)=>[bD.pure (TakeO x.1 pool s x.2.1 (M+1) size.list x.2.2∧x.1.end_=st.end_∧x.1.since=st.since)]):=by
 have hT:=dV;refine j1 func95 ntmps95 ?_;intro β hM;refine g2 ?_;refine i7 tY fun b1=>?_;refine g7 ?_;refine dI (List.perm_append_comm (l₁:=[_])) ?_;refine bH func164 (bKn pb mb st pool fs s M h k7 size) rfl rfl (Split.front _ _) ⟨d7,d8,e8⟩ fun y2=>?_;refine dI List.perm_append_comm ?_;refine bL d7 fun hro=>?_;refine bIi (H:=[_]) hro.2.1.at_ ?_;refine g9 ?_;refine f9 func165 (zM y2.2.2.A y2.2.2.l.length y2.2.2.c) .nil e8 fun _=>?_;refine g3 ?_;refine jX (fun hc14=>?_) fun hc14=>?_
 ·refine g2 ?_;refine ss (bZ rfl rfl (tC)) ?_;refine g6 ?_;have hre:y2.2.2.l=[]:=List.eq_nil_of_length_eq_zero k7;refine oF (.c1 (.c1 (.c0 (.c0 (.c0 (.cons .head Sel.self)))))) ?_;refine at_in_row (H:=[_]) hro.2.1.at_ ?_;exact pV (y2.1,fs,none) rfl (rv_cell hT (bAg .head) rfl rfl rfl rfl) (rv_tmp rfl) (.c1 (.c1 (.c1 (Sel.skip Sel.self)))) ⟨e9 ⟨⟨hro.1,picked_none hro.1 hro.2.1 hre⟩,hro.2.2⟩,e8⟩ rfl
 refine g5 ?_;refine ss (vW rfl underlying284 (fun _ e=>by cases e) rfl) ?_;have hok:=hro.1.ok _ _ hro.2.1.at_;obtain⟨x,hx⟩:=gx y2.2.2.l 0;refine at_arr_held kT1 ?_;refine bH func166 (popR y2.2.2 x hok hx (by have:=hro.1.rlen hro.2.1.at_;omega)) rfl rfl (.c1 (.c0 .nil)) e8 fun m3=>?_;refine bL d7 fun hpop=>?_;refine ss (yW rfl underlying214 (fun _ e=>by cases e) rfl) ?_;refine g5 ?_;obtain⟨i,hi1,hi2,hrel⟩:=rel_take (q:=⟨y2.2.2.b,y2.2.2.A,m3.length,true,m3⟩) hro.1 hro.2.1 hx hpop.1 hpop.2 rfl;refine oF (.c1 (.c1 (.c0 (.c0 (.c0 (.cons .head Sel.self)))))) ?_;refine bEt (H:=[_]) ⟨y2.2.2.b,y2.2.2.A,m3.length,true,m3⟩ hro.2.1.at_ rfl ?_;exact pV (_,fs.eraseIdx i,some x) rfl (rv_cell hT (bAg .head) rfl rfl rfl rfl) (rv_tmp rfl) (.c1 (.c1 (.c1 (Sel.skip Sel.self)))) ⟨e9 ⟨⟨hro.1.inPool hro.2.1.at_ (f4 hx),i,hi1,hi2,hrel⟩,hro.2.2⟩,e8⟩ rfl
theorem give_spec(pb mb:Nat)(st:PSt)(pool fs:List SpotV)(s:PlC)(M:Nat)(h:fS st pool s fs M)(hM:M≤80000000)(x:SpotV)(hx:x∈pool)(hne:sz x≠[]):cA prog 97 [.pointer (some ⟨pb,0,none⟩),.agg #[.slice x.at_.addr x.at_.list.length x.at_.cap,.slice x.size.addr x.size.list.length x.size.cap,.int .i64 x.since]] (plH pb mb st) [bD.each pool kL] (fun(_:PSt)=> .tuple #[]) (fun(y:PSt)=>plH pb mb y) (fun(y:PSt)=>[bD.each ((⟨x.at_,x.size,st.since+1⟩:SpotV)::pool) kL,bD.pure (fS y ((⟨x.at_,x.size,st.since+1⟩:SpotV)::pool) {s with free:=s.free++[x.c]} (fs++[(⟨x.at_,x.size,st.since+1⟩:SpotV)]) (M+3)∧y.end_=st.end_)]):=by
 have hT:=dV;have hlow:=h.low;have hhigh:=h.high;refine j1 func97 ntmps97 ?_;intro β hM;refine fI ?_;have hst: ∀f∈fs,f.since<st.since+1:=fun f hf=>by have:=h.top f hf;omega
 refine one ?_;refine j2 fun b1=>?_;refine g9 ?_;refine bM (nQ k7 k7) ?_;refine g15 ?_;refine fB _ _ [(true,0),(true,1),(true,2),(true,5),(true,6),(false,3),(true,4),(false,7)] dR l9 (.c0 .nil) bA.self ?_;refine g4 ?_;refine stM rfl (vW rfl underlying214 (fun _ e=>by cases e) rfl) ?_;refine one ?_;refine dI (List.perm_append_comm (l₁:=[_])) ?_;refine bH func164 (bKn pb mb ({st with since:=st.since+1}:PSt) pool fs s (M+1) h.later k7 x.size) rfl rfl (Split.front _ _) ⟨spotsF_size d7 hx,d7,e8⟩ fun y2=>?_;refine dI List.perm_append_comm ?_;refine bL d7 fun hro=>?_;refine bIi (H:=[_]) hro.2.1.at_ ?_;refine one ?_;refine stM rfl (vW rfl underlying284 (fun _ e=>by cases e) rfl) ?_;refine one ?_;have hok:=hro.1.ok _ _ hro.2.1.at_;refine bH func168 (pushR y2.2.2 (⟨x.at_,x.size,st.since+1⟩:SpotV) hok (fun q hq=>Int.le_of_lt (hst q (hro.1.mem hro.2.1.at_ hq))) (by have:=hro.1.rlen hro.2.1.at_;omega)) rfl rfl (.c0 (.c0 .nil)) e8 fun y3=>?_;refine bL d7 fun hpu=>?_;refine g2 ?_;refine bEt (H:=[_]) ⟨y2.2.2.b,y3.1,y3.2,false,y2.2.2.l++[(⟨x.at_,x.size,st.since+1⟩:SpotV)]⟩ hro.2.1.at_ rfl ?_;have hrel:=rel_give (q:=⟨y2.2.2.b,y3.1,y3.2,false,y2.2.2.l++[(⟨x.at_,x.size,st.since+1⟩:SpotV)]⟩) (x:=(⟨x.at_,x.size,st.since+1⟩:SpotV)) (hro.1.wide (⟨x.at_,x.size,st.since+1⟩:SpotV)) ⟨hro.2.1.at_,hro.2.1.all,hro.2.1.rest⟩ hne rfl rfl hpu hro.2.2.2.symm hst (List.mem_cons_self ..);refine bR (bD.each ((⟨x.at_,x.size,st.since+1⟩:SpotV)::pool) kL) (Has.each_cons (Has.and (spotsF_at (x:=x) d9 hx) (spotsF_size (x:=x) d9 hx)) d9) ?_;exact cG _ rfl (.c1 (.c1 (.c1 (Sel.skip Sel.self)))) ⟨d7,e9 ⟨hrel.more k7,hro.2.2.1⟩,e8⟩ (rfl)
open Go.ChangeMaps (setBlock)
def bFh (k:Int):KV→KV
 | []=>[]
 | p::r=>if k==p.1 then r else p::bFh k r
theorem md_mape{α β:Type}(f:α→β): ∀(l:List α) (i:Nat),(l.eraseIdx i).map f=(l.map f).eraseIdx i
 | [],_=>rfl
 | _::_,0=>rfl
 | x::l,i+1=>by simp [md_mape f l i]
theorem bIy{k:Int}: ∀{kv:KV} {i:Nat},oX k kv i=none→bFh k kv=kv
 | [],_,_=>rfl
 | p::r,i,h=>by
  unfold oX at h;unfold bFh;split at h
  ·cases h
  ·rename_i hk;rw [if_neg hk,bIy h]
theorem bHy{k:Int}{j:Nat}{u:Value}: ∀{kv:KV} {i:Nat},oX k kv i=some (j,u)→ ∃d,j=i+d∧bFh k kv=kv.eraseIdx d
 | [],_,h=>by cases h
 | p::r,i,h=>by
  unfold oX at h;split at h
  ·rename_i hk;simp only [Option.some.injEq,Prod.mk.injEq] at h;exact⟨0,k7,by simp [bFh,hk]⟩
  ·rename_i hk;obtain⟨d,h1,h2⟩:=bHy h;exact⟨d+1,k7,by rw [bFh,if_neg hk,h2];rfl⟩
section
variable {P : Program} {kk : IntKind} {k : Int} {w : World} {t kt et : TypeId}
theorem bKx(ht:P.underlying t=some (.map kt et))(hk:P.underlying kt=some (.int kk)){z:Value}(hz:(zeroValue et).run P w= .ok z w){r:Nat}{kv:KV}(h:MapO kk kv (w.heap[r]?)):
  (Instr.lookup t (.map (some r)) (.int kk k) true).run P w= .ok (.tuple #[(bKg k kv).getD z,.bool (bKg k kv).isSome]) w:=by
 obtain⟨es,clock,hb,hkv⟩:=h;unfold Instr.lookup;simp only [Sem.run_bind,run_underlying ht,Result.andThen_ok,MapKept.run_getObj_map hb,Sem.run_pure,lR hk,nH hk hkv];rw [←find_get k kv 0]
 cases oX k kv 0 with
 | none=>simp [hz]
 | some p=>simp
theorem run_deleteI(ht:P.underlying t=some (.map kt et))(hk:P.underlying kt=some (.int kk)){r:Nat}{kv:KV}{kt2 ty:TypeId}(h:MapO kk kv (w.heap[r]?)):
  ∃o,(Builtin.delete_ #[t,kt2] ty #[.map (some r),.int kk k]).run P w= .ok (.tuple #[]) (setBlock w r o)∧MapO kk (bFh k kv) ((setBlock w r o).heap[r]?):=by
 obtain⟨es,clock,hb,hkv⟩:=h
 cases hf:oX k kv 0 with
 | none=>
  refine⟨.map es clock,?_,⟨_,_,ChangeMaps.heap_setBlock_same hb _,?_⟩⟩
  ·unfold Builtin.delete_;simp only [List.getElem?_toArray,List.getElem?_cons_zero,List.getElem?_cons_succ,Sem.run_bind,run_underlying ht,Result.andThen_ok,MapKept.run_getObj_map hb,lR hk,nH hk hkv,hf];rw [MapKept.run_setObj_map _ hb];simp [setBlock]
  ·rw [bIy hf];exact hkv
 | some p=>
  obtain⟨j,u⟩:=p;obtain⟨d,h1,h2⟩:=bHy hf;obtain rfl:j=d:=k7
  refine⟨.map (es.eraseIdxIfInBounds j) clock,?_,⟨_,_,ChangeMaps.heap_setBlock_same hb _,?_⟩⟩
  ·unfold Builtin.delete_;simp only [List.getElem?_toArray,List.getElem?_cons_zero,List.getElem?_cons_succ,Sem.run_bind,run_underlying ht,Result.andThen_ok,MapKept.run_getObj_map hb,lR hk,nH hk hkv,hf];rw [MapKept.run_setObj_map _ hb];simp [setBlock]
  ·rw [h2];have e:(es.eraseIdxIfInBounds j).toList=es.toList.eraseIdx j:=by simp
   rw [e,md_mape,hkv];unfold kvI;rw [md_mape]
end
section
variable {P : Program} {β : cX} {n : Nat} {Γ : Env} {H : List bC} {F : List bD} {Q : Exit → Act → World → Prop} {K : Act → World → Prop} {ops : Array Oper} {rest : List Oper} {o : Oper}
theorem jW{r:Nat}{kk:IntKind}{kv:KV}{t kt et:TypeId}{m x:Operand}{k:Int}{z v:Value}(hkm:KnowsMap β H F r kk kv)(ho:o.op= .lookup t m x true)(ht:P.underlying t=some (.map kt et))(hk:P.underlying kt=some (.int kk))(hz: ∀w,(zeroValue et).run P w= .ok z w)
  (hm:Γ.ev m=some (.map (some r))) (hx:Γ.ev x=some (.int kk k)) (hv:(.tuple #[(bKg k kv).getD z,.bool (bKg k kv).isSome]:Value)=v):Sti P β n Γ H F o v:=fun a w S f s hF=>by
 have:=bKx (k:=k) ht hk (hz w) (hkm w S s hF);unfold execOp;simp only [ho,f.ev hm,f.ev hx];rw [Sem.run_bind,this,hv];rfl
theorem bOn{r:Nat}{kk:IntKind}{kv:KV}{H':List bC}(hH:bT H (bIc r kk kv) H'){t kt et kt2:TypeId}{m x:Operand}{k:Int}(hw:want ops Γ o=some true)(ho:o.op= .call {callee:= .builtin .delete,args:= #[m,x],argTypes:= #[t,kt2]})(hd:o.dst=none)(ht:P.underlying t=some (.map kt et))(hk:P.underlying kt=some (.int kk))
  (hm:Γ.ev m=some (.map (some r))) (hx:Γ.ev x=some (.int kk k)) (K':At β n Γ (bIc r kk (bFh k kv)::H') F (wpList P ops Q rest)):At β n Γ H F (wpList P ops Q (o::rest)):=
 fH hw fun a w S f s hF=>by
  have hok:MapO kk kv (w.heap[r]?):=s.ok _ hH.mem;obtain⟨ob,hr0,hm0⟩:=run_deleteI (k:=k) (kt2:=kt2) (ty:=o.type) ht hk hok
  have hr:(execOp a.eval o).run P w= .ok (.value (.tuple #[])) (setBlock w r ob):=by
   unfold execOp;simp only [ho,resolve,invoke,builtin,Sem.run_bind,Sem.run_pure,Result.andThen_ok,List.map_toArray,List.map_cons,List.map_nil,f.ev hm,f.ev hx,hr0]
  unfold Oper.wp;rw [hr,Oper.upon_value,hd];have s2:=s.perm hH.perm;exact K' _ _ S (f.put_none _) (s2.swap gU rfl rfl hm0) (All.mono (fun _ h=>h) (s.agree gU (fun c hc e=>by subst e;exact(s2.own _ (List.mem_cons_self ..) _ rfl).2.2 hc)) hF)
end
end
end Go.Proofs.YtnfiadlonjediaaGreatDoor
