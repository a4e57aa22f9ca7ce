/- Texts of one proof, one behind the other: RefB, RefC, PlanC, PlanD, RefD, RefE, EqK, PlQ, PlR, MapD. -/
import Derived.Test.YtnfiadlonjediaaGreatDoorM7
import Derived.Test.YtnfiadlonjediaaGreatDoorM14
import Derived.Test.YtnfiadlonjediaaGreatDoorM10
import Derived.Test.YtnfiadlonjediaaGreatDoorM11
set_option maxRecDepth 100000
namespace Go.Proofs.YtnfiadlonjediaaGreatDoor
open _root_.List renaming replicate->T9,length_set->P6,take_add_one->W7,take_of_length_le->V2,getElem?_eq_getElem->D7,perm_append_comm->aV,flatMap_def->eD,getElem?_eq_some_iff->D9,mem_cons_self->D5,length_singleton->eE,getElem?_toArray->eF,getElem?_cons_zero->eG,getElem?_cons_succ->U7
open Sem renaming run_bind->E6
open Result renaming andThen_ok->E8
open MapKept renaming run_getObj_map->O4,run_setObj_map->O5
open Builtin renaming delete_->N3
section
open Go.RowKit Go.Proofs.Tryz
theorem polsInfo: ∃i:TypeInfo,prog.info? 43=some i/\i.zero=some (.slice none 0 0)/\i.size=1/\i.bytes=24:=by
 have h:(prog.info? 43).map (λi=>(i.zero,i.size,i.bytes))=some (some (.slice none 0 0),1,24):=l4
 cases a:prog.info? 43 with
 |none=>simp[a]at h
 |some i=>simp[a]at h;exact⟨i,rfl,h.1,h.2.1,h.2.2⟩
theorem at_one_life{β:dE}{n:Nat}{Γ:Env}{H:List bC}{F:List bE}{Q:Exit->Act->World->Prop}{ops:Array Oper}{rest:List Oper}{o:Oper}{d:Nat}{x:Operand}{m:dQ}(hw:want ops Γ o=some true)(ho:o.op= .buildSlice 97 1 #[(0,x)])(hd:o.dst=some d)(hn:Nat.blt d n=true)
  (hx:Γ.ev x=some (.agg #[j5 m.from_,j5 m.to_])) (k: ∀b,At β n ((d,.slice (some ⟨b,0,none⟩) 1 1)::Γ) (.obj b (.cells (lR.all [m]).toArray 114)::H) F (wpList prog ops Q rest)):At β n Γ H F (wpList prog ops Q (o::rest)):=by
 obtain⟨i,c,hz,a,_⟩:=lifeInfo;refine pR hw ho hd hn hx underlying97 c hz k9 k9 ?_ k;rw[a]
 kernel_rfl
theorem lives_spec(c:gD)(hr:cY c.c=true):bZ prog 37 [.agg #[j5 c.vars,j0 c.bufs,j0 c.steps,j0 c.outs]] [] [oJ c,bE.cells 0 0 [j5 0,j5 (-1)]] (λ(x:Option Addr×Nat)=> .slice x.1 c.bufs.list.length x.2) (λ(x:Option Addr×Nat)=>[lR.row (.slice x.1 c.bufs.list.length x.2) 114 (lv (cX c.c))]) (λ_=>[]):=by
 have hT:=fK;generalize hR:cX c.c=r;obtain⟨hbz,Z,hou⟩:=bFj hr;have l:c.c.bufs.length=c.bufs.list.length:=cD _;have hns:c.c.steps.length=c.steps.list.length:=fC _;have hno:c.c.outs.length=c.outs.list.length:=rfl;refine i7 func37 ntmps37 ?_;intro β hM;refine g2 ?_;refine i6 λb1=>?_;refine g5 ?_;refine ss (sH hT (bI (off:=0) d8) rfl rfl rfl rfl rfl) ?_;refine at_one_life (m:=⟨0,-1⟩) rfl rfl rfl rfl rfl λb2=>?_;refine bKl (E:=lR) (xs:=[⟨0,-1⟩]) .head<|xP .head ?_;refine g3 ?_;refine bG func87 (repeatL_spec (some ⟨b2,0,none⟩) 1 ⟨0,-1⟩ c.bufs.list.length k9) rfl rfl .nil ⟨d7,e8⟩ λ⟨LA,lcp⟩=>?_;refine g8 ?_;refine bDr (m:=c.bufs.list.length) rfl rfl rfl rfl rfl rfl k9 λb3=>?_;refine g12 ?_;refine bY (ι:=Nat×List dQ) [(1,_),(3,_),(4,_),(23,_)] ⟨rfl,rfl,rfl,rfl,e8⟩ (λ⟨i,li⟩=>[(24,.int .i64 (i:Nat))]) (λ⟨i,li⟩=>[lR.row (.slice LA c.bufs.list.length lcp) 114 li]) (λ⟨i,li⟩=>[bE.pure (i<=c.bufs.list.length/\bKg c.c i li)]) (λ⟨i,li⟩=>c.bufs.list.length-i) (0,T9 c.bufs.list.length ⟨0,-1⟩) ⟨rfl,e8⟩ (.c1 .nil) ⟨e9 (⟨k9,by rw[<-l];exact live_start⟩),e8⟩ ?_;rintro⟨i,li⟩;dsimp only;refine bM d7 λe=>?_;have K:li.length=c.bufs.list.length:=by rw[e.2.1];exact l
 refine g6 ?_;refine fD (λU=>?_) λU=>?_
 .refine g15 ?_;refine bP (bBb.sl (.slice c.bufs.addr c.bufs.list.length c.bufs.cap) c.bufs.list) (rR (lQ d9)) ?_;obtain⟨x4,u⟩:=gx c.bufs.list i;refine ss (ixs i) ?_;refine one ?_;refine ss (jB u 1) ?_;refine g2 ?_;refine k_le (λL=>?_) λL=>?_
  .refine g11 ?_;obtain⟨x6,J⟩:=gx li i;refine ss (bJ hT (k:=i) (cH .head) rfl rfl rfl rfl rfl K.symm rfl k9) ?_;refine one ?_;refine cQ hT (k:=i) (fo:=0) (y':=(⟨-1,x6.to_⟩:dQ)) .head rfl rfl rfl rfl rfl rfl rfl rfl rfl J rfl ?_;refine g5 ?_;refine inc (i+1) ?_;refine g3 ?_;exact bk2 (i+1,(li.set i (⟨-1,x6.to_⟩:dQ))) ⟨e9 (⟨by dsimp only;omega,live_yes e.2 (cN u) J v8⟩),e8⟩
  refine g3 ?_;refine bP (cK.sl (.slice c.outs.addr c.outs.list.length c.outs.cap) c.outs.list) (bFx (coreF_o e6)) ?_;refine bG func88 (bRr c.outs.addr c.outs.cap c.outs.list k9 (i:Nat)) rfl rfl .nil ⟨d7,e8⟩ λ_=>?_;refine g3 ?_;refine uY (λR=>?_) λR=>?_
  .refine g3 ?_;obtain⟨x8,I⟩:=gx li i;refine ss (bJ hT (k:=i) (cH .head) rfl rfl rfl rfl rfl K.symm rfl k9) ?_;refine one ?_;refine cQ hT (k:=i) (fo:=0) (y':=(⟨-1,x8.to_⟩:dQ)) .head rfl rfl rfl rfl rfl rfl rfl rfl rfl I rfl ?_;refine g5 ?_;refine inc (i+1) ?_;refine g3 ?_;exact bk2 (i+1,(li.set i (⟨-1,x8.to_⟩:dQ))) ⟨e9 (⟨by dsimp only;omega,live_yes e.2 (cN u) I v8⟩),e8⟩
  refine g5 ?_;refine inc (i+1) ?_;refine g3 ?_;exact bk2 (i+1,li) ⟨e9 (⟨by dsimp only;omega,live_no e.2 (cN u) (by show lW.input _<0;omega) ‹_›⟩),e8⟩
 refine g15 ?_;refine bY (ι:=Nat×List dQ×List Bool) [(1,_),(3,_),(4,_),(46,_),(47,_)] ⟨rfl,rfl,rfl,rfl,rfl,e8⟩ (λ⟨k,li,dn⟩=>[(48,.int .i64 (k:Nat))]) (λ⟨k,li,dn⟩=>[lR.row (.slice LA c.bufs.list.length lcp) 114 li,lJ.row (.slice (some ⟨b3,0,none⟩) c.bufs.list.length c.bufs.list.length) 4 dn]) (λ⟨k,li,dn⟩=>[bE.pure (k<=c.steps.list.length/\StepI c.c k li dn r)]) (λ⟨k,li,dn⟩=>c.steps.list.length-k) (0,li,T9 c.bufs.list.length false) ⟨rfl,e8⟩ (.c0 (.c0 .nil)) ⟨e9 (⟨k9,by rw[<-hR,<-l];exact step_start e.2 k9⟩),e8⟩ ?_;rintro⟨k,li,dn⟩;dsimp only;refine bM d7 λb=>?_;have hl2:li.length=c.bufs.list.length:=by rw[b.2.1];exact l
 have M:dn.length=c.bufs.list.length:=by rw[b.2.2.1];exact l
 refine g6 ?_;refine fD (λQ=>?_) λQ=>?_
 .refine g7 ?_;refine bP (sO.sl (.slice c.steps.addr c.steps.list.length c.steps.cap) c.steps.list) (qS (iG e6)) ?_;obtain⟨a,h⟩:=gx c.steps.list k;refine ss (ixs k) ?_;refine ss (kV h 0) ?_;refine f9 wT λb12=>?_;refine g6 ?_;obtain⟨W,V,hop⟩:=Z a.c (f4 (dI h))
  replace W:0<=a.buf:=W
  replace V:a.buf<(c.c.bufs.length:Nat):=V
  have hul:=usesV_len a.ops.list;refine g3 ?_;refine bP (oL a) (Has.each (qU (iG e7)) (f4 h))<|bP (opE.sl (.slice a.ops.addr a.ops.list.length a.ops.cap) a.ops.list) (opsF_s (qK d7))<|bM (opsF_c (qK d8)) λG=>?_;have Y:=G.2;refine bG func89 (uses_spec a.ops.addr a.ops.cap a.ops.list k9) rfl rfl .nil ⟨d7,e8⟩ λ⟨UA,uc⟩=>?_;refine g5 ?_;refine bY (ι:=Nat×List dQ) [(1,_),(3,_),(4,_),(6,_),(7,_),(46,_),(47,_),(48,_),(55,_),(56,_)] ⟨rfl,rfl,rfl,rfl,rfl,rfl,rfl,rfl,rfl,rfl,e8⟩ (λ⟨j,lj⟩=>[(57,.int .i64 (j:Nat))]) (λ⟨j,lj⟩=>[lR.row (.slice LA c.bufs.list.length lcp) 114 lj]) (λ⟨j,lj⟩=>[bE.pure (j<=(oH a.ops.list).length/\lj.length=c.bufs.list.length/\UseI (k:Nat) (oH a.ops.list) j (((oH a.ops.list).map Int.toNat).foldl (iA (k:Nat)) (lc li)) lj)]) (λ⟨j,lj⟩=>(oH a.ops.list).length-j) (0,li) ⟨rfl,e8⟩ (.c1 .nil) ⟨e9 (⟨k9,hl2,rfl⟩),e8⟩ ?_;rintro⟨j,lj⟩;dsimp only;refine bM d7 λd=>?_;have v:=d.2.1;refine g6 ?_;refine fD (λP=>?_) λP=>?_
  .refine g6 ?_;obtain⟨t,q⟩:=gx (oH a.ops.list) j;refine ss (ixs j) ?_;refine ss (jB q 0) ?_;refine g3 ?_;have X:=uses_in hop (f4 q);refine g4 ?_;obtain⟨D,A⟩:=gx lj t.toNat l7;refine ss (bJ hT (k:=t.toNat) (cH .head) rfl rfl rfl rfl rfl v.symm k9 l7) ?_;refine one ?_;refine cQ hT (k:=t.toNat) (fo:=1) (y':=(⟨D.from_,(k:Nat)⟩:dQ)) .head rfl rfl rfl rfl rfl rfl rfl rfl rfl A rfl ?_;refine g5 ?_;refine inc (j+1) ?_;refine g3 ?_;exact bk2 (j+1,(lj.set t.toNat (⟨D.from_,(k:Nat)⟩:dQ))) ⟨e9 (⟨by dsimp only;omega,by rw[P6];exact v,use_step d.2.2 q A⟩),e8⟩
  refine g11 ?_;obtain⟨x18,g⟩:=gx dn a.buf.toNat l7;refine ss (bJ hT (k:=a.buf.toNat) (cH kT2) rfl rfl rfl rfl rfl M.symm k9 l7) ?_;refine ss (jB g 0) ?_;refine g3 ?_;refine bBd (λO=>?_) λO=>?_
  .refine g5 ?_;refine ss (bJ hT (k:=a.buf.toNat) (cH kT2) rfl rfl rfl rfl rfl M.symm k9 l7) ?_;refine cQ hT (k:=a.buf.toNat) (fo:=0) (y':=(true)) kT2 rfl rfl rfl rfl rfl rfl rfl rfl rfl g rfl ?_;refine g7 ?_;obtain⟨s,z⟩:=gx lj a.buf.toNat l7;refine ss (bJ hT (k:=a.buf.toNat) (cH kT1) rfl rfl rfl rfl rfl v.symm k9 l7) ?_;refine one ?_;refine cQ hT (k:=a.buf.toNat) (fo:=0) (y':=(⟨(k:Nat),s.to_⟩:dQ)) kT1 rfl rfl rfl rfl rfl rfl rfl rfl rfl z rfl ?_;refine g7 ?_;refine ss (bJ hT (k:=a.buf.toNat) (cH .head) rfl rfl rfl rfl rfl n7 k9 l7) ?_;refine one ?_;refine cQ hT (k:=a.buf.toNat) (fo:=1) (y':=(⟨(⟨(k:Nat),s.to_⟩:dQ).from_,(k:Nat)⟩:dQ)) .head rfl rfl rfl rfl rfl rfl rfl rfl rfl (List.getElem?_set_self l7) rfl ?_;refine g5 ?_;refine inc (k+1) ?_;refine g3 ?_;exact bk2 (k+1,((lj.set a.buf.toNat (⟨(k:Nat),s.to_⟩:dQ)).set a.buf.toNat (⟨(⟨(k:Nat),s.to_⟩:dQ).from_,(k:Nat)⟩:dQ)),(dn.set a.buf.toNat (true))) ⟨e9 (⟨by dsimp only;omega,bSk b.2 (dI h) (made_new d.2.2 k9 rfl (show dn[_]?=some false by rw[g];simp_all) z) rfl⟩),e8⟩
  refine g7 ?_;obtain⟨C,p⟩:=gx lj a.buf.toNat l7;refine ss (bJ hT (k:=a.buf.toNat) (cH .head) rfl rfl rfl rfl rfl v.symm k9 l7) ?_;refine one ?_;refine cQ hT (k:=a.buf.toNat) (fo:=1) (y':=(⟨C.from_,(k:Nat)⟩:dQ)) .head rfl rfl rfl rfl rfl rfl rfl rfl rfl p rfl ?_;refine g5 ?_;refine inc (k+1) ?_;refine g3 ?_;exact bk2 (k+1,(lj.set a.buf.toNat (⟨C.from_,(k:Nat)⟩:dQ)),dn) ⟨e9 (⟨by dsimp only;omega,bSk b.2 (dI h) (made_old d.2.2 k9 rfl (show dn[_]?=some true by rw[g];simp_all) p).1 (made_old (y:=_) d.2.2 k9 rfl (show dn[_]?=some true by rw[g];simp_all) p).2⟩),e8⟩
 refine g15 ?_;refine bY (ι:=Nat×List dQ) [(1,_),(3,_),(91,_),(92,_)] ⟨rfl,rfl,rfl,rfl,e8⟩ (λ⟨j,lo⟩=>[(93,.int .i64 (j:Nat))]) (λ⟨j,lo⟩=>[lR.row (.slice LA c.bufs.list.length lcp) 114 lo]) (λ⟨j,lo⟩=>[bE.pure (j<=c.outs.list.length/\OutI c.c j lo r)]) (λ⟨j,lo⟩=>c.outs.list.length-j) (0,li) ⟨rfl,e8⟩ (.c0 .nil) ⟨e9 (⟨k9,b.2.1,stepI_end b.2 k9⟩),e8⟩ ?_;rintro⟨j,lo⟩;dsimp only;refine bM d7 λf=>?_;have hl4:lo.length=c.bufs.list.length:=by rw[f.2.1];exact l
 refine g6 ?_;refine fD (λN=>?_) λN=>?_
 .refine g6 ?_;refine bP (cK.sl (.slice c.outs.addr c.outs.list.length c.outs.cap) c.outs.list) (bFx (coreF_o e7)) ?_;obtain⟨n,o⟩:=gx c.outs.list j;refine ss (ixs j) ?_;refine ss (jB o 0) ?_;refine g3 ?_;have X:=hou n (f4 o);refine g6 ?_;obtain⟨B,w⟩:=gx lo n.toNat l7;refine ss (bJ hT (k:=n.toNat) (cH .head) rfl rfl rfl rfl rfl hl4.symm k9 l7) ?_;refine one ?_;refine cQ hT (k:=n.toNat) (fo:=1) (y':=(⟨B.from_,(c.steps.list.length:Nat)⟩:dQ)) .head rfl rfl rfl rfl rfl rfl rfl rfl rfl w rfl ?_;refine g5 ?_;refine inc (j+1) ?_;refine g3 ?_;exact bk2 (j+1,(lo.set n.toNat (⟨B.from_,(c.steps.list.length:Nat)⟩:dQ))) ⟨e9 (⟨by dsimp only;omega,out_stepN hns f.2 o w⟩),e8⟩
 refine g12 ?_;have hlv:=out_end f.2 k9;subst hlv;exact rs1 (LA,lcp) trivial
end
section
open Go.Proofs.Tryz
end
section
open Go.RowKit Go.Proofs.Tryz
section
variable {α : Type} {x y : α}
theorem bUl{a b:List α}{k:Nat}(h:a.take k=b.take k)(hx:a[k]?=some x)(hy:b[k]?=some y)(e:x=y):a.take (k+1)=b.take (k+1):=by
 subst e;rw[W7,W7,h,hx,hy]
theorem take_all{a b:List α}{k:Nat}(h:a.take k=b.take k)(ha:a.length<=k)(hb:b.length<=k):a=b:=by
 rw[V2 ha,V2 hb]at h;exact h
theorem not_take{a b:List α}{k:Nat}(hx:a[k]?=some x)(hy:b[k]?=some y)(e:x≠y):a≠b:=by
 rintro rfl;rw[hx]at hy;exact e (Option.some.inj hy)
end
theorem bJx(p q:PolV)(hl:p.list.length<=140737488355328):bZ prog 92 [j0 p,j0 q] [] [oI.sl (j0 p) p.list,oI.sl (j0 q) q.list] (λ(_:Unit)=> .bool (decide (p.list=q.list))) (λ_=>[]) (λ_=>[]):=by
 have hT:=fK;refine i7 func92 ntmps92 ?_;intro β hM;refine sr<|sp hT ?_;refine nn<|fS<|sr<|sp4 hT ?_;refine sp hT ?_;refine nn<|cR rfl (λb=>?_) (λb=>?_)
 .have b:=bne_iff_ne.1 b;refine sr<|sp hT ?_;refine nn<|wR<|wS ?_;exact oS () rfl (rv_tmp rfl) .nil e8 (eqF_of (λe=>by have:=congrArg List.length e;omega))
 have b:=bne_eq_false_iff_eq.1 b;refine uE<|mG<|fS<|sr<|sp3 hT ?_;refine nn<|yA<|bY (ι:=Nat) [(0,_),(1,_),(12,_)] ⟨rfl,rfl,rfl,e8⟩ (λi=>[(13,.int .i64 (i:Nat))]) (λ_=>[]) (λi=>[bE.pure (i<=p.list.length/\p.list.take i=q.list.take i)]) (λi=>p.list.length-i) 0 ⟨rfl,e8⟩ .nil ⟨e9 (⟨k9,rfl⟩),e8⟩ ?_;rintro i;refine bM d7 λc=>?_;refine sr<|sp hT ?_;refine nn<|fS<|cR rfl (λa=>?_) (λa=>?_)
 .have a:=of_decide_eq_true a;refine uE<|mG<|fS<|yA<|sr<|sp2 hT ?_;refine nn<|fS<|dC _ _ [(true,0),(true,1),(true,2),(true,3),(true,4),(true,5),(true,6),(true,7),(true,8)] dJ l8 .nil bA.self ?_;refine puM hT ?_;refine puM hT ?_
  obtain⟨j,f⟩: ∃x',p.list[i]?=some x':=⟨_,D7 k9⟩
  refine stM rfl (bJ hT (k:=i) (bV d8) rfl rfl rfl rfl rfl rfl rfl k9) ?_;refine stM rfl (sH hT (dO.knows (bV d8) (k:=i) (x:=j) f 0) rfl rfl rfl rfl rfl) ?_;refine puM hT ?_;refine puM hT ?_
  obtain⟨h,d⟩: ∃x',q.list[i]?=some x':=⟨_,D7 k9⟩
  refine stM rfl (bJ hT (k:=i) (bV d9) rfl rfl rfl rfl rfl rfl rfl k9) ?_;refine stM rfl (sH hT (dO.knows (bV d9) (k:=i) (x:=h) d 0) rfl rfl rfl rfl rfl) ?_;refine stM rfl (sti_neq_mono j h rfl rfl rfl) ?_;refine atm_nil<|mG<|cR rfl (λg=>?_) (λg=>?_)
  .refine sr<|sp hT ?_;refine nn<|wR<|bEk<|wS<|wS<|bEk<|wS ?_;exact oS () rfl (rv_tmp rfl) .nil e8 (eqF_of (not_take f d (mono_t ‹_›)))
  refine uE<|n_block<|mG<|mO<|sp hT ?_;refine bF (z':=(((i+1):Nat):Int)) (bBq k9 k9) ?_;refine sp hT ?_;refine nn ?_;exact iC (i+1) k9 ⟨rfl,e8⟩ ⟨rfl,rfl,rfl,e8⟩ .nil ⟨e9 (⟨k9,bUl c.2 f d (mono_f ‹_›)⟩),e8⟩ (bA.drop 1)
 have a:=Int.not_lt.1 (of_decide_eq_false a);refine at_exit<|bPz<|bPz<|x_block<|mG<|sr<|sp hT ?_;refine nn<|wR ?_;exact oS () rfl (rv_tmp rfl) .nil e8 (eqT_of (take_all c.2 k9 k9))
theorem full1_spec(p q:PolV)(hl:p.list.length<=140737488355328):bZ prog 91 [j0 p,j0 q] [] [oI.sl (j0 p) p.list,oI.sl (j0 q) q.list] (λ(_:Unit)=> .bool (decide (p.list=q.list))) (λ_=>[]) (λ_=>[]):=by
 have hT:=fK;refine i7 func91 ntmps91 ?_;intro β hM;refine sr<|sp hT ?_;refine nn<|sr<|sp2 hT ?_;refine f7 func92 (bJx p q hl) .nil ⟨d7,d8,e8⟩ λ_=>?_;refine sp hT ?_;refine nn<|wR ?_;exact oS () rfl (rv_tmp rfl) .nil e8 (rfl)
theorem bKf(A B:Option Addr)(ca cb:Nat)(a b:List PolV)(hl:a.length<=140737488355328):bZ prog 90 [.slice A a.length ca,.slice B b.length cb,.func (.func 91) #[] #[]] [] [iY.sl (.slice A a.length ca) a,bFm a,iY.sl (.slice B b.length cb) b,bFm b] (λ(_:Unit)=> .bool (decide (polsL a=polsL b))) (λ_=>[]) (λ_=>[]):=by
 have hT:=fK;refine i7 func90 ntmps90 ?_;intro β hM;refine sr<|sp hT ?_;refine nn<|fS<|sr<|sp4 hT ?_;refine sp hT ?_;refine nn<|cR rfl (λf=>?_) (λf=>?_)
 .have f:=bne_iff_ne.1 f;refine sr<|sp hT ?_;refine nn<|wR<|wS ?_;exact oS () rfl (rv_tmp rfl) .nil e8 (eqF_of (λe=>by have:=congrArg List.length e;rw[bW,bW]at this;omega))
 have f:=bne_eq_false_iff_eq.1 f;refine uE<|mG<|fS<|sr<|sp3 hT ?_;refine nn<|yA<|bY (ι:=Nat) [(1,_),(2,_),(15,_),(16,_)] ⟨rfl,rfl,rfl,rfl,e8⟩ (λi=>[(17,.int .i64 (i:Nat))]) (λ_=>[]) (λi=>[bE.pure (i<=a.length/\(polsL a).take i=(polsL b).take i)]) (λi=>a.length-i) 0 ⟨rfl,e8⟩ .nil ⟨e9 (⟨k9,rfl⟩),e8⟩ ?_;rintro i;refine bM d7 λh=>?_;refine sr<|sp hT ?_;refine nn<|fS<|cR rfl (λd=>?_) (λd=>?_)
 .have d:=of_decide_eq_true d;refine uE<|mG<|fS<|yA<|sr<|sp hT ?_
  obtain⟨n,g⟩: ∃x',a[i]?=some x':=⟨_,D7 k9⟩
  refine ss (bJ hT (k:=i) (bV d8) rfl rfl rfl rfl rfl rfl rfl k9) ?_;refine ss (f8 hT (dO.knows (bV d8) (k:=i) (x:=n) g 0)) ?_;refine sp2 hT ?_;refine nn<|sr<|sp2 hT ?_
  obtain⟨m,j⟩: ∃x',b[i]?=some x':=⟨_,D7 k9⟩
  refine ss (bJ hT (k:=i) (bV e6) rfl rfl rfl rfl rfl rfl rfl k9) ?_;refine ss (f8 hT (dO.knows (bV e6) (k:=i) (x:=m) j 0)) ?_;refine sp hT ?_;refine nn<|sr<|sp3 hT ?_;refine bM (gI (Has.each d9 (f4 g))) λl=>?_;refine lA (j4 func91) (full1_spec n m l) rfl rfl rfl rfl rfl rfl rfl .nil ⟨sS (Has.each d9 (f4 g)),sS (Has.each e7 (f4 j)),e8⟩ λ_=>?_;refine sp hT ?_;refine nn<|cR rfl (λc=>?_) (λc=>?_)
  .have c:=bKs c;refine sr<|sp hT ?_;refine nn<|wR<|bEk<|wS<|wS<|bEk<|wS ?_;exact oS () rfl (rv_tmp rfl) .nil e8 (eqF_of (not_take (cW g) (cW j) (of_decide_eq_false (by simpa using (by assumption:(!decide _)=true)))))
  have c:=bJh c;refine uE<|n_block<|mG<|mO<|sp hT ?_;refine bF (z':=(((i+1):Nat):Int)) (bBq k9 k9) ?_;refine sp hT ?_;refine nn ?_;exact iC (i+1) k9 ⟨rfl,e8⟩ ⟨rfl,rfl,rfl,rfl,e8⟩ .nil ⟨e9 (⟨k9,bUl h.2 (cW g) (cW j) (of_decide_eq_true (by simpa using (by assumption:(!decide _)=false)))⟩),e8⟩ (bA.drop 1)
 have d:=Int.not_lt.1 (of_decide_eq_false d);refine at_exit<|bPz<|bPz<|x_block<|mG<|sr<|sp hT ?_;refine nn<|wR ?_;exact oS () rfl (rv_tmp rfl) .nil e8 (eqT_of (take_all h.2 o8 o8))
def qO:Flat RowV where
 size:=1
 cells:=λr=>[.pointer (some ⟨r.b,0,none⟩)]
 len:=λ_=>rfl
 one:=λx u hu=>by simp at hu;subst hu;rfl
 pos:=l5
def mB (x:SpotV):bE:=(fB x.at_).and (fB x.size)
abbrev plBox(p m:Nat)(st:PSt):bC:= .obj p (.cells ([.slice st.end_.addr st.end_.list.length st.end_.cap,.slice st.fA st.rows.length st.fc,.int .i64 st.since,.map (some m)]:List Value).toArray 105)
abbrev plRow(st:PSt):bC:=qO.row (.slice st.fA st.rows.length st.fc) 284 st.rows
abbrev plMap(m:Nat)(st:PSt):bC:=bOx m .i64 (kvV st.kv)
abbrev plH(p m:Nat)(st:PSt):List bC:=plBox p m st::plRow st::plMap m st::famR st.rows
def xO (n:List Mono)(r:RowV):Bool:=match r.l[0]? with
 |some x=>decide (sz x=n)
 |none=>false
theorem bTb{n:List Mono}{r:RowV}{x:SpotV}(h:r.l[0]?=some x):xO n r=decide (sz x=n):=by unfold xO;rw[h]
theorem pick_none{n:List Mono}{r:RowV}(h:r.l.length=0):xO n r=false:=by unfold xO;rw[List.getElem?_eq_none k9]
theorem bMx{α:Type}(p:α->Bool): ∀(l:List α) (i:Nat),(oN p l (i:Int)<0-> ∀x∈l,p x=false)/\(0<=oN p l (i:Int)-> ∃(k:Nat) (x:α),oN p l (i:Int)=((i+k:Nat):Int)/\l[k]?=some x/\p x=true)
 |[],i=>⟨λ_ x hx=>(by cases hx),λh=>absurd h (by show ¬(0:Int)<= -1;decide)⟩
 |s::r,i=>by
  have b:=bMx p r (i+1);have e:((i+1:Nat):Int)=(i:Int)+1:=k9
  rw[e]at b;unfold oN
  by_cases a:p s=true
  .rw[if_pos a];exact⟨λh=>by omega,λ_=>⟨0,s,n4,rfl,a⟩⟩
  .rw[if_neg a];refine⟨λh x hx=>?_,λh=>?_⟩
   .rcases List.mem_cons.1 hx with rfl|hx
    .simpa using a
    .exact b.1 h x hx
   .obtain⟨k,x,h1,d,c⟩:=b.2 h;exact⟨k+1,x,by rw[h1];omega,d,c⟩
theorem idxG_at{α:Type}(p:α->Bool)(l:List α):(oN p l 0<0-> ∀x∈l,p x=false)/\(0<=oN p l 0-> ∃(k:Nat) (x:α),oN p l 0=(k:Nat)/\l[k]?=some x/\p x=true):=by
 have:=bMx p l 0
 simpa using this
theorem pick_no{n:List Mono}{l:List RowV}(h: ∀r∈l,xO n r=false): ∀(j:Nat) (r:RowV) (x:SpotV),l[j]?=some r->r.l[0]?=some x->sz x≠n:=λj r x a hx=>by
 have:=h r (f4 a);rw[bTb hx]at this
 simpa using this
theorem pick_yes{n:List Mono}{r:RowV}(h:xO n r=true): ∃x,r.l[0]?=some x/\sz x=n:=by
 unfold xO at h
 cases hx:r.l[0]? with
 |none=>rw[hx]at h;cases h
 |some x=>rw[hx]at h;exact⟨x,rfl,by simpa using h⟩
theorem pl_front(a p fr mp:bC)(fam:List bC):(a::p::fr::mp::fam).Perm ((a::fr::fam)++[p,mp]):=by
 refine List.Perm.cons a ?_;have h1:(p::fr::mp::fam).Perm (fr::p::mp::fam):=List.Perm.swap _ _ _;have b:([p,mp]++fam).Perm (fam++[p,mp]):=aV;exact h1.trans (b.cons fr)
def spotO:Option SpotV->Array Value
 |some x=>(dS.cells x).toArray
 |none=> #[.slice none 0 0,.slice none 0 0,.int .i64 0]
def TakeO (st:PSt)(pool:List SpotV)(s:PlC)(fs:List SpotV)(M:Nat)(n:List Mono):Option SpotV->Prop
 |none=>gJ st pool s fs M/\s.free.findIdx? (λy=>decide (y.size=n))=none
 |some q=>q∈pool/\ ∃i,s.free[i]?=some q.c/\s.free.findIdx? (λy=>decide (y.size=n))=some i/\gJ st pool {s with free:=s.free.eraseIdx i} fs M
theorem Sel.skip{H R:List bC}{c:bC}(h:Sel H R):Sel (c::H) R:=by
 induction h generalizing c with
 |nil=>exact .nil
 |cons h _ ih=>exact .cons (.tail h) ih
theorem Split.all: ∀{L:List bC},Split L L []
 |[]=> .nil
 |_::_=> .cons .head Split.all
theorem bZ.pre{ι:Type}{P:Program}{f:FuncId}{args:List Value}{Hin:List bC}{Pre Pre':List bE}{val:ι->Value}{Hout:ι->List bC}{post:ι->List bE}(h:bZ P f args Hin Pre val Hout post)(hp:bA Pre' Pre):bZ P f args Hin Pre' val Hout post:=λS w s k=>h S w s (bA.all hp S w k)
section
variable {β : dE} {n : Nat} {Γ : Env} {H H' : List bC} {F : List bE} {K : Act -> World -> Prop} {Q : Exit -> Act -> World -> Prop}
theorem dW(p:H.Perm H')(h:At β n Γ H' F K):At β n Γ H F K:=λa w S f s k=>h a w S f (s.perm p) k
theorem ptrInfo: ∃i:TypeInfo,prog.info? 284=some i/\i.zero=some (.pointer none)/\i.size=1/\i.bytes=8:=by
 have h:(prog.info? 284).map (λi=>(i.zero,i.size,i.bytes))=some (some (.pointer none),1,8):=l4
 cases a:prog.info? 284 with
 |none=>simp[a]at h
 |some i=>simp[a]at h;exact⟨i,rfl,h.1,h.2.1,h.2.2⟩
theorem at_one_ptr{ops:Array Oper}{rest:List Oper}{o:Oper}{d:Nat}{x:Operand}{m:RowV}(hw:want ops Γ o=some true)(ho:o.op= .buildSlice 103 1 #[(0,x)])(hd:o.dst=some d)(hn:Nat.blt d n=true)
  (hx:Γ.ev x=some (.pointer (some ⟨m.b,0,none⟩))) (k: ∀b,At β n ((d,.slice (some ⟨b,0,none⟩) 1 1)::Γ) (.obj b (.cells (qO.all [m]).toArray 284)::H) F (wpList prog ops Q rest)):At β n Γ H F (wpList prog ops Q (o::rest)):=by
 obtain⟨i,c,hz,a,_⟩:=ptrInfo;refine pR hw ho hd hn hx underlying103 c hz k9 k9 ?_ k;rw[a]
 kernel_rfl
theorem at_app_ptr{ops:Array Oper}{rest:List Oper}{o:Oper}{d:Nat}{x y:Operand}{c q:Nat}{v:Value}{A:Option Addr}{xs ys:List RowV}{H':List bC}(hH:bU H (qO.row v 284 xs) H')(hr:dO β H F qO A ys)(hg:o.guard=none)
  (ho:o.op= .call {callee:= .builtin .append,args:= #[x,y],argTypes:= #[103,103]}) (hd:o.dst=some d) (hn:Nat.blt d n=true)
  (hx:Γ.ev x=some v) (hy:Γ.ev y=some (.slice A q c)) (hq:q=ys.length) (hl:xs.length+ys.length<=17592186044416)
  (k: ∀A' cap',At β n ((d,.slice A' (xs++ys).length cap')::Γ) (qO.row (.slice A' (xs++ys).length cap') 284 (xs++ys)::H') F (wpList prog ops Q rest)):At β n Γ H F (wpList prog ops Q (o::rest)):=by
 obtain⟨i,b,hz,a,hb⟩:=ptrInfo;exact jW hH hr hg ho hd hn underlying103 b hz a hb rfl hx hy hq k9 l5 k
theorem row_setP{rows:List RowV}{k:Nat}{r q:RowV}(v:Value)(h:rows[k]?=some r)(hb:q.b=r.b):qO.row v 284 (rows.set k q)=qO.row v 284 rows:=by
 have e:qO.all (rows.set k q)=qO.all rows:=by
  have e:qO.cells q=qO.cells r:=by
   show [Value.pointer (some ⟨q.b,0,none⟩)]=[Value.pointer (some ⟨r.b,0,none⟩)];rw[hb]
  unfold Flat.all;rw[eD,eD,List.map_set,e]
  congr 1
  have hx:(rows.map qO.cells)[k]?=some (qO.cells r):=by rw[List.getElem?_map,h];rfl
  obtain⟨hlt,a⟩:=D9.1 hx;rw[<-a];exact List.set_getElem_self hlt
 unfold Flat.row;rw[e,P6]
theorem bKc{p m k:Nat}{st:PSt}{r:RowV}{H:List bC}(q:RowV)(hk:st.rows[k]?=some r)(hb:q.b=r.b)(h:At β n Γ (H++plH p m {st with rows:=st.rows.set k q}) F K):At β n Γ (rowBox q::rowArr q::((H++[plBox p m st,plRow st,plMap m st])++famR (st.rows.take k++st.rows.drop (k+1)))) F K:=by
 refine dW (fam_back hk q _) ?_
 have e:H++plH p m {st with rows:=st.rows.set k q}=(H++[plBox p m st,plRow st,plMap m st])++famR (st.rows.set k q):=by
  show H++(plBox p m {st with rows:=st.rows.set k q}::plRow {st with rows:=st.rows.set k q}::plMap m {st with rows:=st.rows.set k q}::famR (st.rows.set k q))=_
  have c:plRow {st with rows:=st.rows.set k q}=plRow st:=by
   show qO.row (.slice st.fA (st.rows.set k q).length st.fc) _ (st.rows.set k q)=qO.row (.slice st.fA st.rows.length st.fc) _ st.rows;rw[row_setP _ hk hb,P6]
  have a:plBox p m {st with rows:=st.rows.set k q}=plBox p m st:=by
   show bC.obj _ _=bC.obj _ _;simp only[P6]
  rw[c,a];simp
 rw[<-e];exact h
theorem bQt{p m k:Nat}{st:PSt}{r:RowV}{H:List bC}(hk:st.rows[k]?=some r)(h:At β n Γ (rowBox r::rowArr r::((H++[plBox p m st,plRow st,plMap m st])++famR (st.rows.take k++st.rows.drop (k+1)))) F K):At β n Γ (H++plH p m st) F K:=by
 refine dW ?_ h;have e:H++plH p m st=(H++[plBox p m st,plRow st,plMap m st])++famR st.rows:=by simp
 rw[e];exact fam_out hk _
end
theorem at_in_row{β:dE}{n:Nat}{Γ:Env}{F:List bE}{K:Act->World->Prop}{p m k:Nat}{st:PSt}{r:RowV}{H:List bC}(hk:st.rows[k]?=some r)(h:At β n Γ (H++plH p m st) F K):At β n Γ (rowBox r::rowArr r::((H++[plBox p m st,plRow st,plMap m st])++famR (st.rows.take k++st.rows.drop (k+1)))) F K:=by
 refine dW ?_ h;have e:H++plH p m st=(H++[plBox p m st,plRow st,plMap m st])++famR st.rows:=by simp
 rw[e];exact(fam_out hk _).symm
theorem popR(r:RowV)(x:SpotV)(hok:RowOk r)(hx:r.l[0]?=some x)(hb:r.l.length<=100000000):bZ prog 166 [.iface 284 (.pointer (some ⟨r.b,0,none⟩))] [rowBox r,dS.held (.slice r.A r.l.length r.c) r.l] [] (λ(_:List SpotV)=> .iface 214 (.agg (dS.cells x).toArray)) (λm=>[rowBox ⟨r.b,r.A,m.length,true,m⟩,rowArr ⟨r.b,r.A,m.length,true,m⟩]) (λm=>[bE.pure (r.l.Perm (x::m)/\rM SpotV.since m)]):=by
 obtain⟨N,d⟩: ∃N,r.l.length=N+1:=⟨r.l.length-1,by have:=(D9.1 hx).1;omega⟩
 obtain⟨z,hz⟩: ∃z,r.l[N]?=some z:=⟨_,D7 k9⟩
 have h:=HPop_spec r.A r.b r.c N r.l x z d (by have:=hok.2.1;omega) hx hz hok.2.2.1 k9;rw[<-d]at h;intro S w s k;refine(h S w s k).mono ?_;rintro e n ⟨m,j,i,f,a⟩;have g:=a _ (D5 ..)
 have hl:m.length=N:=by
  have:=g.1.length_eq;simp at this;omega
 refine⟨m,j,i,?_,a⟩;subst hl;exact f
theorem pushR(r:RowV)(x:SpotV)(hok:RowOk r)(ha: ∀q∈r.l,q.since<=x.since)(hb:r.l.length<=100000000):bZ prog 168 [.iface 284 (.pointer (some ⟨r.b,0,none⟩)),.iface 214 (.agg (dS.cells x).toArray)] [rowBox r,rowArr r] [] (λ(_:Option Addr×Nat)=> .tuple #[])
  (λy=>[rowBox ⟨r.b,y.1,y.2,false,r.l++[x]⟩,rowArr ⟨r.b,y.1,y.2,false,r.l++[x]⟩]) (λy=>[bE.pure ((r.l++[x]).length<=y.2)]):=by
 cases a:r.full with
 |false=>
  rw[rowArr_room a];exact HPush_spec r.A r.b r.c r.l x ha hb
 |true=>
  rw[rowArr_full a];have d:=hok.1 a;have h:=HPushF_spec r.A r.b r.l x ha hb;unfold rowBox;rw[d];exact h
theorem spotsF_at{F:List bE}{pool:List SpotV}{x:SpotV}(h:Has F (bE.each pool mB))(hx:x∈pool):Has F (fB x.at_):=λS w k=>(h S w k x hx).1
theorem spotsF_size{F:List bE}{pool:List SpotV}{x:SpotV}(h:Has F (bE.each pool mB))(hx:x∈pool):Has F (fB x.size):=λS w k=>(h S w k x hx).2
theorem indexR_spec(A:Option Addr)(c:Nat)(l:List RowV)(hl:l.length<=140737488355328)(f:FuncId)(cap:List Value)(G:List bE)(p:RowV->Bool)(hcf: ∀(args:Array Value) (w:World),(callFunc f args).run prog w= .ok (.enter f args) w)(hf: ∀r∈l,bZ prog f (.pointer (some ⟨r.b,0,none⟩)::cap) [] G (λ_:Unit=> .bool (p r)) (λ_=>[]) (λ_=>[])):bZ prog 219 [.slice A l.length c,.func (.func f) #[] cap.toArray] [] (qO.sl (.slice A l.length c) l::G) (λ(_:Unit)=> j5 (oN p l 0)) (λ_=>[]) (λ_=>[]):=by
 have hT:=fI;generalize j:oN p l 0=r;refine i7 func219 ntmps219 ?_;intro β hM;refine g14 ?_;refine bY (ι:=Nat) [(0,_),(1,_),(7,_)] ⟨rfl,rfl,rfl,e8⟩ (λi=>[(8,.int .i64 (i:Nat))]) (λ_=>[]) (λi=>[bE.pure (i<=l.length/\r=oN p (l.drop i) i)]) (λi=>l.length-i) 0 ⟨rfl,e8⟩ .nil ⟨e9 (⟨k9,j.symm⟩),e8⟩ ?_;rintro i;refine bM d7 λa=>?_;refine g6 ?_;refine fD (λg=>?_) λg=>?_
 .refine g15 ?_;obtain⟨h,d⟩:=gx l i;refine ss (ixs i) ?_;refine ss (jB d 0) ?_;refine lA hcf (hf h (f4 d)) rfl rfl rfl rfl rfl rfl rfl .nil (bA.drop 2) λ_=>?_;refine g2 ?_;refine uY (λe=>?_) λe=>?_
  .refine g12 ?_;obtain rfl:=(lK a.2 d).1 ‹_›;exact rs1 () trivial
  refine g5 ?_;refine inc (i+1) ?_;refine g3 ?_;exact bk2 (i+1) ⟨e9 (⟨k9,(lK a.2 d).2 ‹_›⟩),e8⟩
 refine g11 ?_;have hr:=zR a.2 k9;subst hr;exact rs1 () trivial
theorem rowOf1_spec(r:RowV)(sb:Nat)(size:PolV)(pool:List SpotV)(hin: ∀x∈r.l,x∈pool):bZ prog 220 [.pointer (some ⟨r.b,0,none⟩),.pointer (some ⟨sb,0,none⟩)] [] [bE.cells r.b 0 [.slice r.A r.l.length r.c],dS.sl (.slice r.A r.l.length r.c) r.l,bE.cells sb 0 [j0 size],fB size,bE.each pool mB] (λ(_:Unit)=> .bool (xO size.list r)) (λ_=>[]) (λ_=>[]):=by
 have hT:=fI;refine i7 func220 ntmps220 ?_;intro β hM;refine g6 ?_;refine dC _ _ [(true,0),(true,1),(true,2),(true,3),(true,4),(true,5),(true,6),(true,7),(true,8),(true,9),(true,10),(true,11),(true,12),(false,13),(true,14),(true,15)] dJ l8 .nil bA.self ?_;refine g2 ?_;refine stM rfl (f8 hT (bI (off:=0) d7)) ?_;refine g3 ?_;refine vP (λf=>?_) λf=>?_
 .refine g2 ?_;refine stM rfl (f8 hT (bI (off:=0) d7)) ?_;obtain⟨d,a⟩:=gx r.l 0;refine stM rfl (ixs 0) ?_;refine one ?_;refine stM rfl (jB a 1) ?_;refine stM rfl (f8 hT (bI (off:=0) d9)) ?_;refine one ?_;refine bP (fB d.size) (spotsF_size e7 (hin d (f4 a)))<|bM (gI d7) λe=>?_;refine f7 func92 (bJx d.size size e) .nil ⟨sS d7,sS e7,e8⟩ λ_=>?_;refine g6 ?_;exact rs1 () e8 (he:=by rw[bTb a];rfl)
 refine g15 ?_;exact rs1 () e8 (he:=by rw[pick_none k9])
theorem bQh(pb mb:Nat)(st:PSt)(pool fs:List SpotV)(s:PlC)(M:Nat)(h:gJ st pool s fs M)(hM:M<=90000000)(size:PolV):bZ prog 164 [.pointer (some ⟨pb,0,none⟩),j0 size] (plH pb mb st) [fB size,bE.each pool mB] (λ(x:PSt×Nat×RowV)=> .pointer (some ⟨x.2.2.b,0,none⟩)) (λ(x:PSt×Nat×RowV)=>plH pb mb x.1) (λ(x:PSt×Nat×RowV)=>[bE.pure (gJ x.1 pool s fs (M+1)/\Picked size.list x.1 x.2.1 x.2.2/\x.1.end_=st.end_/\x.1.since=st.since)]):=by
 have hT:=fI;refine i7 func164 ntmps164 ?_;intro β hM;refine g2 ?_;refine i6 λo=>?_;refine g10 ?_;refine dW (pl_front _ _ _ _ _) ?_;refine mY (j4 func219) (indexR_spec st.fA st.fc st.rows (by have:=h.many;omega) 220 [.pointer (some ⟨o,0,none⟩)] [bE.each st.rows rowG,bE.cells o 0 [.slice size.addr size.list.length size.cap],fB size,bE.each pool mB] (xO size.list) (j4 func220) (λr hr=>(rowOf1_spec r o size pool (λx hx=>by obtain⟨k,f⟩:=List.getElem?_of_mem hr;exact h.inPool f hx)).pre ⟨(Has.each d7 hr).left,(Has.each d7 hr).right,d8,d9,e6,e8⟩)) rfl rfl rfl rfl rfl .nil (Split.front _ _) (mU (uU (bTp _))) ⟨d8,d9,d7,e6,e7,e8⟩ (λ_=>True) (λ_ _ _ _=>trivial) λ_ _=>?_;refine dW (pl_front _ _ _ _ _).symm ?_;have c:=idxG_at (xO size.list) st.rows;generalize oN (xO size.list) st.rows 0=z at c⊢;refine g10 ?_;refine fD (λe=>?_) λe=>?_
 .refine g7 ?_;refine at_none_row rfl rfl rfl rfl λa=>?_;refine i6 λg=>?_;refine at_one_ptr (m:=(⟨g,some ⟨a,0,none⟩,0,false,[]⟩:RowV)) rfl rfl rfl rfl rfl λu=>?_;refine at_app_ptr kT5 (fZ .head rfl) rfl rfl rfl rfl rfl rfl rfl (by have:=h.many;simp only[eE];omega) λp c6=>?_;refine g12 ?_;refine bF (z':=((st.rows.length:Nat):Int)) (by rw[List.length_append,eE,show((st.rows.length+1:Nat):Int)-1=(st.rows.length:Nat) by omega];exact bBq rfl (by have:=h.many;omega)) ?_;refine g10 ?_;refine ss (bJ hT (k:=st.rows.length) (cH kT1) rfl rfl rfl rfl rfl rfl rfl n4) ?_;refine ss (bK hT (dO.knows (cH kT1) (k:=st.rows.length) (x:=(⟨g,some ⟨a,0,none⟩,0,false,[]⟩:RowV)) n4 0) rfl rfl rfl rfl rfl) ?_;refine g4 ?_;have d:=picked_new (q:=(⟨g,some ⟨a,0,none⟩,0,false,[]⟩:RowV)) h rfl (pick_no (c.1 e)) p c6 rfl;refine pV (.c0 (.c0 (.c4 (.c1 (.c1 (Sel.skip (Sel.skip Sel.self))))))) ?_;refine dW ((((fam_new (⟨g,some ⟨a,0,none⟩,0,false,[]⟩:RowV) []).cons _).cons _).cons _) ?_;exact oS (_,st.rows.length,(⟨g,some ⟨a,0,none⟩,0,false,[]⟩:RowV)) rfl (rv_tmp rfl) Sel.self ⟨e9 ⟨d.1,d.2,rfl,rfl⟩,e8⟩ rfl
 obtain⟨k,r,i,f,n⟩:=c.2 k9;refine g9 ?_;refine ss (bJ hT (k:=k) (cH kT2) rfl rfl rfl rfl rfl rfl i ((D9.1 f).1)) ?_;refine ss (jB f 0) ?_;refine g4 ?_;obtain⟨t,j,l⟩:=pick_yes n;exact oS (st,k,r) rfl (rv_tmp rfl) (.c1 (.c1 (.c1 (Sel.skip Sel.self)))) ⟨e9 ⟨h.more k9,picked_old h f j l,rfl,rfl⟩,e8⟩ rfl
theorem vA:prog.built 214 []=some #[.slice none 0 0,.slice none 0 0,j5 0]:=l4
theorem take_spec(pb mb:Nat)(st:PSt)(pool fs:List SpotV)(s:PlC)(M:Nat)(h:gJ st pool s fs M)(hM:M<=80000000)(size:PolV):bZ prog 95 [.pointer (some ⟨pb,0,none⟩),j0 size] (plH pb mb st) [fB size,bE.each pool mB] (λ(x:PSt×List SpotV×Option SpotV)=> .tuple #[.agg (spotO x.2.2),.bool x.2.2.isSome]) (λ(x:PSt×List SpotV×Option SpotV)=>plH pb mb x.1) (λ(x:PSt×List SpotV×Option SpotV)=>[bE.pure (TakeO x.1 pool s x.2.1 (M+1) size.list x.2.2/\x.1.end_=st.end_/\x.1.since=st.since)]):=by
 have hT:=fI;refine i7 func95 ntmps95 ?_;intro β hM;refine g2 ?_;refine f9 wH λr=>?_;refine g7 ?_;refine dW (aV (l₁:=[_])) ?_;refine bG func164 (bQh pb mb st pool fs s M h k9 size) rfl rfl (Split.front _ _) ⟨d7,d8,e8⟩ λd=>?_;refine dW aV ?_;refine bM d7 λa=>?_;refine bQt (H:=[_]) a.2.1.at_ ?_;refine g9 ?_;refine f7 func165 (bEo d.2.2.A d.2.2.l.length d.2.2.c) .nil e8 λ_=>?_;refine g3 ?_;refine fG (λj=>?_) λj=>?_
 .refine g2 ?_;refine ss (cC rfl rfl (vA)) ?_;refine g6 ?_;have m:d.2.2.l=[]:=List.eq_nil_of_length_eq_zero k9;refine pV (.c1 (.c1 (.c0 (.c0 (.c0 (.cons .head Sel.self)))))) ?_;refine at_in_row (H:=[_]) a.2.1.at_ ?_;exact sC (d.1,fs,none) rfl (rv_cell hT (bFp .head) rfl rfl rfl rfl) (rv_tmp rfl) (.c1 (.c1 (.c1 (Sel.skip Sel.self)))) ⟨e9 ⟨⟨a.1,picked_none a.1 a.2.1 m⟩,a.2.2⟩,e8⟩ rfl
 refine g5 ?_;refine ss (zL rfl underlying284 (λ_ e=>by cases e) rfl) ?_;have n:=a.1.ok _ _ a.2.1.at_;obtain⟨x,hx⟩:=gx d.2.2.l 0;refine at_arr_held kT1 ?_;refine bG func166 (popR d.2.2 x n hx (by have:=a.1.rlen a.2.1.at_;omega)) rfl rfl (.c1 (.c0 .nil)) e8 λk=>?_;refine bM d7 λf=>?_;refine ss (bDg rfl underlying214 (λ_ e=>by cases e) rfl) ?_;refine g5 ?_;obtain⟨i,p,o,g⟩:=rel_take (q:=⟨d.2.2.b,d.2.2.A,k.length,true,k⟩) a.1 a.2.1 hx f.1 f.2 rfl;refine pV (.c1 (.c1 (.c0 (.c0 (.c0 (.cons .head Sel.self)))))) ?_;refine bKc (H:=[_]) ⟨d.2.2.b,d.2.2.A,k.length,true,k⟩ a.2.1.at_ rfl ?_;exact sC (_,fs.eraseIdx i,some x) rfl (rv_cell hT (bFp .head) rfl rfl rfl rfl) (rv_tmp rfl) (.c1 (.c1 (.c1 (Sel.skip Sel.self)))) ⟨e9 ⟨⟨a.1.inPool a.2.1.at_ (f4 hx),i,p,o,g⟩,a.2.2⟩,e8⟩ rfl
theorem give_spec(pb mb:Nat)(st:PSt)(pool fs:List SpotV)(s:PlC)(M:Nat)(h:gJ st pool s fs M)(hM:M<=80000000)(x:SpotV)(hx:x∈pool)(hne:sz x≠[]):bZ prog 97 [.pointer (some ⟨pb,0,none⟩),.agg #[j0 x.at_,j0 x.size,j5 x.since]] (plH pb mb st) [bE.each pool mB] (λ(_:PSt)=> .tuple #[]) (λ(y:PSt)=>plH pb mb y) (λ(y:PSt)=>[bE.each ((⟨x.at_,x.size,st.since+1⟩:SpotV)::pool) mB,bE.pure (gJ y ((⟨x.at_,x.size,st.since+1⟩:SpotV)::pool) {s with free:=s.free++[x.c]} (fs++[(⟨x.at_,x.size,st.since+1⟩:SpotV)]) (M+3)/\y.end_=st.end_)]):=by
 have hT:=fI;have o:=h.low;have n:=h.high;refine i7 func97 ntmps97 ?_;intro β hM;refine fS ?_;have g: ∀f∈fs,f.since<st.since+1:=λf p=>by have:=h.top f p;omega
 refine one ?_;refine i6 λr=>?_;refine g9 ?_;refine bF (nN k9 k9) ?_;refine g15 ?_;refine dC _ _ [(true,0),(true,1),(true,2),(true,5),(true,6),(false,3),(true,4),(false,7)] dJ l8 (.c0 .nil) bA.self ?_;refine g4 ?_;refine stM rfl (zL rfl underlying214 (λ_ e=>by cases e) rfl) ?_;refine one ?_;refine dW (aV (l₁:=[_])) ?_;refine bG func164 (bQh pb mb ({st with since:=st.since+1}:PSt) pool fs s (M+1) h.later k9 x.size) rfl rfl (Split.front _ _) ⟨spotsF_size d7 hx,d7,e8⟩ λd=>?_;refine dW aV ?_;refine bM d7 λa=>?_;refine bQt (H:=[_]) a.2.1.at_ ?_;refine one ?_;refine stM rfl (zL rfl underlying284 (λ_ e=>by cases e) rfl) ?_;refine one ?_;have m:=a.1.ok _ _ a.2.1.at_;refine bG func168 (pushR d.2.2 (⟨x.at_,x.size,st.since+1⟩:SpotV) m (λq hq=>Int.le_of_lt (g q (a.1.mem a.2.1.at_ hq))) (by have:=a.1.rlen a.2.1.at_;omega)) rfl rfl (.c0 (.c0 .nil)) e8 λj=>?_;refine bM d7 λk=>?_;refine g2 ?_;refine bKc (H:=[_]) ⟨d.2.2.b,j.1,j.2,false,d.2.2.l++[(⟨x.at_,x.size,st.since+1⟩:SpotV)]⟩ a.2.1.at_ rfl ?_;have i:=rel_give (q:=⟨d.2.2.b,j.1,j.2,false,d.2.2.l++[(⟨x.at_,x.size,st.since+1⟩:SpotV)]⟩) (x:=(⟨x.at_,x.size,st.since+1⟩:SpotV)) (a.1.wide (⟨x.at_,x.size,st.since+1⟩:SpotV)) ⟨a.2.1.at_,a.2.1.all,a.2.1.rest⟩ hne rfl rfl k a.2.2.2.symm g (D5 ..);refine bP (bE.each ((⟨x.at_,x.size,st.since+1⟩:SpotV)::pool) mB) (Has.each_cons (Has.and (spotsF_at (x:=x) d9 hx) (spotsF_size (x:=x) d9 hx)) d9) ?_;exact cT _ rfl (.c1 (.c1 (.c1 (Sel.skip Sel.self)))) ⟨d7,e9 ⟨i.more k9,a.2.2.1⟩,e8⟩ (rfl)
open Go.ChangeMaps (setBlock)
def bKy (k:Int):KV->KV
 |[]=>[]
 |p::r=>if k==p.1 then r else p::bKy k r
theorem md_mape{α β:Type}(f:α->β): ∀(l:List α) (i:Nat),(l.eraseIdx i).map f=(l.map f).eraseIdx i
 |[],_=>rfl
 |_::_,0=>rfl
 |x::l,i+1=>by simp[md_mape f l i]
theorem bOc{k:Int}: ∀{kv:KV} {i:Nat},qR k kv i=none->bKy k kv=kv
 |[],_,_=>rfl
 |p::r,i,h=>by
  unfold qR at h;unfold bKy;split at h
  .cases h
  .rename_i a;rw[if_neg a,bOc h]
theorem bNf{k:Int}{j:Nat}{u:Value}: ∀{kv:KV} {i:Nat},qR k kv i=some (j,u)-> ∃d,j=i+d/\bKy k kv=kv.eraseIdx d
 |[],_,h=>by cases h
 |p::r,i,h=>by
  unfold qR at h;split at h
  .rename_i a;simp only[Option.some.injEq,Prod.mk.injEq]at h;exact⟨0,k9,by simp[bKy,a]⟩
  .rename_i a;obtain⟨d,h1,b⟩:=bNf h;exact⟨d+1,k9,by rw[bKy,if_neg a,b];rfl⟩
section
variable {P : Program} {kk : IntKind} {k : Int} {w : World} {t kt et : TypeId}
theorem bQz(ht:P.underlying t=some (.map kt et))(hk:P.underlying kt=some (.int kk)){z:Value}(hz:(zeroValue et).run P w= .ok z w){r:Nat}{kv:KV}(h:MapO kk kv (w.heap[r]?)):
  (Instr.lookup t (.map (some r)) (.int kk k) true).run P w= .ok (.tuple #[(bOl k kv).getD z,.bool (bOl k kv).isSome]) w:=by
 obtain⟨c,b,hb,a⟩:=h;unfold Instr.lookup;simp only[E6,run_underlying ht,E8,O4 hb,Sem.run_pure,nM hk,pD hk a];rw[<-find_get k kv 0]
 cases qR k kv 0 with
 |none=>simp[hz]
 |some p=>simp
theorem run_deleteI(ht:P.underlying t=some (.map kt et))(hk:P.underlying kt=some (.int kk)){r:Nat}{kv:KV}{kt2 ty:TypeId}(h:MapO kk kv (w.heap[r]?)):
  ∃o,(N3 #[t,kt2] ty #[.map (some r),.int kk k]).run P w= .ok (.tuple #[]) (setBlock w r o)/\MapO kk (bKy k kv) ((setBlock w r o).heap[r]?):=by
 obtain⟨f,a,hb,b⟩:=h
 cases c:qR k kv 0 with
 |none=>
  refine⟨.map f a,?_,⟨_,_,ChangeMaps.heap_setBlock_same hb _,?_⟩⟩
  .unfold N3;simp only[eF,eG,U7,E6,run_underlying ht,E8,O4 hb,nM hk,pD hk b,c];rw[O5 _ hb];simp[setBlock]
  .rw[bOc c];exact b
 |some p=>
  obtain⟨j,u⟩:=p;obtain⟨d,h1,g⟩:=bNf c;obtain rfl:j=d:=k9
  refine⟨.map (f.eraseIdxIfInBounds j) a,?_,⟨_,_,ChangeMaps.heap_setBlock_same hb _,?_⟩⟩
  .unfold N3;simp only[eF,eG,U7,E6,run_underlying ht,E8,O4 hb,nM hk,pD hk b,c];rw[O5 _ hb];simp[setBlock]
  .rw[g];have e:(f.eraseIdxIfInBounds j).toList=f.toList.eraseIdx j:=by simp
   rw[e,md_mape,b];unfold kvI;rw[md_mape]
end
section
variable {P : Program} {β : dE} {n : Nat} {Γ : Env} {H : List bC} {F : List bE} {Q : Exit -> Act -> World -> Prop} {K : Act -> World -> Prop} {ops : Array Oper} {rest : List Oper} {o : Oper}
theorem lL{r:Nat}{kk:IntKind}{kv:KV}{t kt et:TypeId}{m x:Operand}{k:Int}{z v:Value}(hkm:KnowsMap β H F r kk kv)(ho:o.op= .lookup t m x true)(ht:P.underlying t=some (.map kt et))(hk:P.underlying kt=some (.int kk))(hz: ∀w,(zeroValue et).run P w= .ok z w)
  (hm:Γ.ev m=some (.map (some r))) (hx:Γ.ev x=some (.int kk k)) (hv:(.tuple #[(bOl k kv).getD z,.bool (bOl k kv).isSome]:Value)=v):Sti P β n Γ H F o v:=λa w S f s b=>by
 have:=bQz (k:=k) ht hk (hz w) (hkm w S s b);unfold execOp;simp only[ho,f.ev hm,f.ev hx];rw[E6,this,hv];rfl
theorem bUi{r:Nat}{kk:IntKind}{kv:KV}{H':List bC}(hH:bU H (bOx r kk kv) H'){t kt et kt2:TypeId}{m x:Operand}{k:Int}(hw:want ops Γ o=some true)(ho:o.op= .call {callee:= .builtin .delete,args:= #[m,x],argTypes:= #[t,kt2]})(hd:o.dst=none)(ht:P.underlying t=some (.map kt et))(hk:P.underlying kt=some (.int kk))
  (hm:Γ.ev m=some (.map (some r))) (hx:Γ.ev x=some (.int kk k)) (K':At β n Γ (bOx r kk (bKy k kv)::H') F (wpList P ops Q rest)):At β n Γ H F (wpList P ops Q (o::rest)):=
 fV hw λa w S f s l=>by
  have d:MapO kk kv (w.heap[r]?):=s.ok _ hH.mem;obtain⟨ob,b,g⟩:=run_deleteI (k:=k) (kt2:=kt2) (ty:=o.type) ht hk d
  have hr:(execOp a.eval o).run P w= .ok (.value (.tuple #[])) (setBlock w r ob):=by
   unfold execOp;simp only[ho,resolve,invoke,builtin,E6,Sem.run_pure,E8,List.map_toArray,List.map_cons,List.map_nil,f.ev hm,f.ev hx,b]
  unfold Oper.wp;rw[hr,Oper.upon_value,hd];have i:=s.perm hH.perm;exact K' _ _ S (f.put_none _) (i.swap iN rfl rfl g) (All.mono (λ_ h=>h) (s.agree iN (λc j e=>by subst e;exact(i.own _ (D5 ..) _ rfl).2.2 j)) l)
end
end
end Go.Proofs.YtnfiadlonjediaaGreatDoor
