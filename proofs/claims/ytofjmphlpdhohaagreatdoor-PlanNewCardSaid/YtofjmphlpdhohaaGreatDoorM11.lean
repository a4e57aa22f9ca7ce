/- Texts of one proof, one behind the other: RefA, RefB, ShelfK, SortK, PlanA. -/
import Derived.Test.YtofjmphlpdhohaaGreatDoorM10
import Derived.Shelf.LaysM
import Derived.Shelf.LaysC
import Derived.Ground.Names2Prog
import Derived.Ground.SlgnProg
import Derived.Test.YtofjmphlpdhohaaGreatDoorProg
import Derived.Shelf.Slices.CompactI
import Derived.Shelf.Slices.In.SortNone
import Derived.Shelf.Sort.Plain
import Derived.Test.YtofjmphlpdhohaaGreatDoorM8
namespace Go.Proofs.YtofjmphlpdhohaaGreatDoor
open Go.RowKit
section
variable {f : Int} {two : Bool}
theorem vB(h:two=true)(h1:1≤f)(h2:f≤17):Value.bool (f !=16)= .bool (gG f two):=by
 unfold gG;rw [if_neg (by omega),h]
 by_cases e:f=16
 ·subst e;rfl
 ·rw [if_neg e];simp [e]
theorem vJ(h:two=false)(h1:1≤f)(h2:f≤7):Value.bool true= .bool (gG f two):=by
 unfold gG;rw [if_neg (by omega),if_neg (by omega),h];simp [h2]
theorem vY(h:two=false)(h1: ¬f≤7):Value.bool (f==16)= .bool (gG f two):=by
 unfold gG
 by_cases e:f=16
 ·subst e;rw [h];rfl
 ·rw [if_neg e,h]
  by_cases h2:f<1∨17<f
  ·rw [if_pos h2];simp [e]
  ·rw [if_neg h2];simp [e,h1]
theorem vC(h1:f<1):Value.bool (f==16)= .bool (gG f two):=by
 unfold gG;rw [if_pos (by omega)];have:f≠16:=by omega
 simp [this]
end
theorem exp_at{m:Mono}{k:Nat}{z:Int}(h:(EI m)[k]?=some z):((m.cells.drop 1).drop (k*1))[0]?=some (.int .u8 z):=by
 rw [List.getElem?_drop,List.getElem?_drop];have e:m.cells= .int .i64 m.n::(EI m).map (fun z=>Value.int .u8 z):=rfl;rw [e,show 1+(k*1+0)=k+1 by omega,List.getElem?_cons_succ,List.getElem?_map,h];rfl
theorem own_no{l:List Mono}{vars:Int}(h:cU l=false):Value.bool false= .bool (ofB l vars):=by simp [ofB,h]
theorem own_end{l:List Mono}{vars:Int}(h:cU l=true)(h2:l.all (okM (clampK vars))=true):Value.bool true= .bool (ofB l vars):=by
 rw [←h];exact of_end h2
theorem grow_long{l:List (List Mono)}{vars:Int}(h:4<l.length):Value.bool false= .bool (hI l vars):=by
 unfold hI;have: ¬l.length≤4:=by omega
 simp [this]
theorem grow_all{l:List (List Mono)}{vars:Int}(h:l.all (fun p=>ofB p vars&&kI p)=true)(h4:l.length≤4):Value.bool true= .bool (hI l vars):=by
 unfold hI;rw [h];simp [h4]
set_option maxRecDepth 100000 in
theorem takes10_spec(o:OpV):dG Tryz.prog 188 [.agg #[.int .i64 o.how,.int .i64 o.k,.int .i64 o.n,.slice o.p.addr o.p.list.length o.p.cap,.int .u8 o.fn]] [] [] (fun(_:Unit)=> .int .i64 (dU o.how)) (fun _=>[]) (fun _=>[]):=by
 have hT:=dA;refine cJ Tryz.func188 rfl Tryz.ntmps188 rfl ?_;intro β hM;refine sr<|gC rfl rfl rfl rfl rfl rfl fun b1=>?_;refine sp hT ?_;refine nn<|bF<|sr<|sp hT ?_;refine ss (ldO hT (cS .head)) ?_;refine nn<|bO<|bF<|sr<|sp2 hT ?_;refine nn<|bN rfl (fun hc5=>?_) (fun hc5=>?_)
 ·have hc5_r:=hc5;have hc5:=eq_of_beq hc5;refine bJ<|bD<|cK rfl hc5_r ?_;refine sr<|sp hT ?_;refine nn<|bL<|bR<|bK ?_;exact bI () rfl (rv_tmp rfl) .nil trivial (by simp [dU, *])
 have hc5_r:=hc5;have hc5:=beq_eq_false_iff_ne.1 hc5;refine sr<|sp2 hT ?_;refine nn<|bN rfl (fun hc5_2=>?_) (fun hc5_2=>?_)
 ·have hc5_2_r:=hc5_2;have hc5_2:=eq_of_beq hc5_2;refine bJ<|bD<|cK rfl hc5_2_r ?_;refine sr<|sp hT ?_;refine nn<|bL<|bR<|bK ?_;exact bI () rfl (rv_tmp rfl) .nil trivial (by simp [dU, *])
 have hc5_2_r:=hc5_2;have hc5_2:=beq_eq_false_iff_ne.1 hc5_2;refine bB<|sp2 hT ?_;refine nn<|bN rfl (fun hc5_3=>?_) (fun hc5_3=>?_)
 ·have hc5_3_r:=hc5_3;have hc5_3:=eq_of_beq hc5_3;refine sr<|sp hT ?_;refine nn<|bL<|bR<|bK ?_;exact bI () rfl (rv_tmp rfl) .nil trivial (by simp [dU, *])
 have hc5_3_r:=hc5_3;have hc5_3:=beq_eq_false_iff_ne.1 hc5_3;refine bF<|sr<|sp2 hT ?_;refine nn<|bN rfl (fun hc9=>?_) (fun hc9=>?_)
 ·have hc9_r:=hc9;have hc9:=eq_of_beq hc9;refine bJ<|bD<|cK rfl hc9_r ?_;refine sr<|sp hT ?_;refine nn<|bL<|bR<|bK ?_;exact bI () rfl (rv_tmp rfl) .nil trivial (by simp [dU, *])
 have hc9_r:=hc9;have hc9:=beq_eq_false_iff_ne.1 hc9;refine bB<|sp2 hT ?_;refine nn<|bN rfl (fun hc9_4=>?_) (fun hc9_4=>?_)
 ·have hc9_4_r:=hc9_4;have hc9_4:=eq_of_beq hc9_4;refine sr<|sp hT ?_;refine nn<|bL<|bR<|bK ?_;exact bI () rfl (rv_tmp rfl) .nil trivial (by simp [dU, *])
 have hc9_4_r:=hc9_4;have hc9_4:=beq_eq_false_iff_ne.1 hc9_4;refine sr<|sp2 hT ?_;refine nn<|bN rfl (fun hc12=>?_) (fun hc12=>?_)
 ·have hc12_r:=hc12;have hc12:=eq_of_beq hc12;refine sr<|sp hT ?_;refine nn<|bL<|bR<|bK ?_;exact bI () rfl (rv_tmp rfl) .nil trivial (by simp [dU, *])
 have hc12_r:=hc12;have hc12:=beq_eq_false_iff_ne.1 hc12;refine bJ<|bT<|bD<|sr<|sp hT ?_;refine nn<|bL ?_;exact bI () rfl (rv_tmp rfl) .nil trivial (by simp [dU, *])
set_option maxRecDepth 100000 in
theorem rB(f:Int)(two:Bool):dG Tryz.prog 133 [.int .u8 f,.bool two] [] [] (fun(_:Unit)=> .bool (gG f two)) (fun _=>[]) (fun _=>[]):=by
 have hT:=dA;refine cJ Tryz.func133 rfl Tryz.ntmps133 rfl ?_;intro β hM;refine sr<|sp hT ?_;refine nn<|bF<|sr<|sp hT ?_;refine nn<|bN rfl (fun hc5=>?_) (fun hc5=>?_)
 ·have hc5_r:=hc5;refine sr<|sp3 hT ?_;refine bY (fun hg8=>?_) (fun hg8=>?_)
  ·have hg8:=of_decide_eq_true hg8;refine sp4 hT ?_;refine bY (fun hg12=>?_) (fun hg12=>?_)
   ·have hg12:=of_decide_eq_true hg12;refine sp4 hT ?_;refine nn<|bL<|bK ?_;exact bI () rfl (rv_tmp rfl) .nil trivial (by first | exact oY (by omega) | exact vB ‹_› (by omega) (by omega) | exact vJ ‹_› (by omega) (by omega) | exact vY ‹_› (by omega) | exact vC (by omega))
   have hg12:=Int.not_le.1 (of_decide_eq_false hg12);refine sk2 ?_;refine sp2 hT ?_;refine nn<|bL<|bK ?_;exact bI () rfl (rv_tmp rfl) .nil trivial (by first | exact oY (by omega) | exact vB ‹_› (by omega) (by omega) | exact vJ ‹_› (by omega) (by omega) | exact vY ‹_› (by omega) | exact vC (by omega))
  have hg8:=Int.not_le.1 (of_decide_eq_false hg8);refine sk2 ?_;refine sp2 hT ?_;refine sk2 ?_;refine sp2 hT ?_;refine nn<|bL<|bK ?_;exact bI () rfl (rv_tmp rfl) .nil trivial (by first | exact oY (by omega) | exact vB ‹_› (by omega) (by omega) | exact vJ ‹_› (by omega) (by omega) | exact vY ‹_› (by omega) | exact vC (by omega))
 have hc5_r:=hc5;refine bJ<|bD<|sr<|sp3 hT ?_;refine bY (fun hg18=>?_) (fun hg18=>?_)
 ·have hg18:=of_decide_eq_true hg18;refine sp4 hT ?_;refine bY (fun hg22=>?_) (fun hg22=>?_)
  ·have hg22:=of_decide_eq_true hg22;refine sk2 ?_;refine sp2 hT ?_;refine nn<|bL ?_;exact bI () rfl (rv_tmp rfl) .nil trivial (by first | exact oY (by omega) | exact vB ‹_› (by omega) (by omega) | exact vJ ‹_› (by omega) (by omega) | exact vY ‹_› (by omega) | exact vC (by omega))
  have hg22:=Int.not_le.1 (of_decide_eq_false hg22);refine sp4 hT ?_;refine nn<|bL ?_;exact bI () rfl (rv_tmp rfl) .nil trivial (by first | exact oY (by omega) | exact vB ‹_› (by omega) (by omega) | exact vJ ‹_› (by omega) (by omega) | exact vY ‹_› (by omega) | exact vC (by omega))
 have hg18:=Int.not_le.1 (of_decide_eq_false hg18);refine sk2 ?_;refine sp4 hT ?_;refine sp2 hT ?_;refine nn<|bL ?_;exact bI () rfl (rv_tmp rfl) .nil trivial (by first | exact oY (by omega) | exact vB ‹_› (by omega) (by omega) | exact vJ ‹_› (by omega) (by omega) | exact vY ‹_› (by omega) | exact vC (by omega))
set_option maxRecDepth 100000 in
theorem yC(A:Option Addr)(c:Nat)(l:List OpV)(hl:l.length≤140737488355328):dG Tryz.prog 134 [.slice A l.length c] [] [opE.sl (.slice A l.length c) l,bP.each l opF] (fun(_:Unit)=> .int .i64 (oP (qG l))) (fun _=>[]) (fun _=>[]):=by
 have hT:=dA;generalize hR:oP (qG l)=r;refine cJ Tryz.func134 rfl Tryz.ntmps134 rfl ?_;intro β hM;refine sr<|sp hT ?_;refine nn<|sr<|sp hT ?_;refine nn<|sr<|sp hT ?_;refine nn<|bF<|sr<|sp hT ?_;refine nn<|bO<|cM (ι:=Nat×Int×Int) [(0,_)] ⟨rfl,trivial⟩ (fun⟨i,m,n⟩=>[(3,.int .i64 n),(4,.int .i64 m),(5,.int .i64 (i:Nat))]) (fun _=>[]) (fun⟨i,m,n⟩=>[bP.pure (i≤l.length∧bDf l i m n r∧0≤n∧n≤i)]) (fun⟨i,m,n⟩=>l.length-i) (0,0,0) ⟨rfl,rfl,rfl,trivial⟩ .nil ⟨Has.pure (⟨by omega,hR,by omega,by omega⟩),trivial⟩ ?_;rintro⟨i,m,n⟩;dsimp only;refine bV (Has.of mT0) fun hinv4=>?_;refine bF<|sr<|sp4 hT ?_;refine nn<|bN rfl (fun hc10=>?_) (fun hc10=>?_)
 ·have hc10:=of_decide_eq_true hc10;refine bJ<|bD<|bF<|bO<|sr<|sp2 hT ?_
  obtain⟨x1,hx2⟩: ∃x',l[i]?=some x':=⟨_,List.getElem?_eq_getElem (by omega)⟩
  refine ss (bG hT (k:=i) (bA (Has.of mT1)) rfl rfl rfl rfl rfl rfl rfl (by omega)) ?_;refine ss (cN hT (bX.knows (bA (Has.of mT1)) (k:=i) (x:=x1) hx2 0) rfl rfl rfl rfl rfl) ?_;refine cP Tryz.func188 (takes10_spec x1) rfl rfl .nil trivial fun _=>?_;refine sp hT ?_;refine nn<|bF<|bF ?_;have htk:=takes_le x1.how
  have hd0:=(dep_step hinv4.2.1 hx2)
  refine bB<|sp3 hT ?_;refine bY (fun hg20=>?_) (fun hg20=>?_)
  ·have hg20:=of_decide_eq_true hg20;refine sk3 ?_;refine sp hT ?_;refine nn<|cK rfl rfl ?_;refine sr<|sp hT ?_;refine nn<|bL<|bK<|bR<|bK<|bK<|bR<|bK ?_;have hr:=hd0.1 (by omega);subst hr;exact bI () rfl (rv_tmp rfl) .nil trivial rfl
  have hg20:=Int.not_lt.1 (of_decide_eq_false hg20);refine sp4 hT ?_;refine nn<|bN rfl (fun hc24=>?_) (fun hc24=>?_)
  ·have hc24:=of_decide_eq_true hc24;refine sr<|sp hT ?_;refine nn<|bL<|bK<|bR<|bK<|bK<|bR<|bK ?_;have hr:=hd0.1 (by omega);subst hr;exact bI () rfl (rv_tmp rfl) .nil trivial rfl
  have hc24:=Int.not_lt.1 (of_decide_eq_false hc24);refine bJ<|bD<|sr<|sp3 hT ?_;refine bS (oW (by omega) (by omega)) ?_;refine sp hT ?_;refine bS (oW (by omega) (by omega)) ?_;refine bS (z':=n+(1-dU x1.how)) (by omega) ?_;refine sp hT ?_;refine nn<|bB<|sp4 hT ?_;refine fW<|bT<|bD<|bB<|sp2 hT ?_;refine bS (z':=(((i+1):Nat):Int)) (cG (by omega) (by omega)) ?_;refine sp hT ?_;refine nn ?_;exact bZ (i+1,_,_) (by dsimp only;omega) ⟨rfl,rfl,rfl,trivial⟩ ⟨rfl,trivial⟩ .nil ⟨Has.pure (⟨by dsimp only;omega,hd0.2 (by omega) (by omega),by dsimp only;omega,by dsimp only;omega⟩),trivial⟩ (bH.drop 1)
 have hc10:=Int.not_lt.1 (of_decide_eq_false hc10);refine cE<|bW<|bW<|cD<|bD<|bF<|sr<|sp2 hT ?_;refine nn<|bN rfl (fun hc33=>?_) (fun hc33=>?_)
 ·have hc33:=bne_iff_ne.1 hc33;refine sr<|sp hT ?_;refine nn<|bL<|bK ?_;have hr:=(bCn hinv4.2.1 (by omega)).1 ‹_›;subst hr;exact bI () rfl (rv_tmp rfl) .nil trivial rfl
 have hc33:=bne_eq_false_iff_eq.1 hc33;refine bJ<|bD<|sr<|sp2 hT ?_;refine nn<|bL ?_;have hr:=(bCn hinv4.2.1 (by omega)).2 ‹_›;subst hr;exact bI () rfl (rv_tmp rfl) .nil trivial rfl
set_option maxRecDepth 100000 in
theorem bFm(p:PolV)(vars:Int)(hv:0≤vars)(hv6:vars≤6):dG Tryz.prog 131 [.slice p.addr p.list.length p.cap,.int .i64 vars] [] [cY p] (fun(_:Unit)=> .bool (ofB p.list vars)) (fun _=>[]) (fun _=>[]):=by
 have hT:=dA;have hcl:((clampK vars:Nat):Int)=vars:=by unfold clampK;omega
 refine cJ Tryz.func131 rfl Tryz.ntmps131 rfl ?_;intro β hM;refine bF<|bV (dJ (Has.of mT0)) fun hp=>?_;refine cB (cZ.sl (.slice p.addr p.list.length p.cap) p.list) (dI (Has.of mT0)) ?_;refine bB<|sp hT ?_;refine nn<|bF<|sr<|sp hT ?_;refine cP Tryz.func123 (refR_spec p hp) rfl rfl .nil ⟨(Has.of mT1),trivial⟩ fun _=>?_;refine sp hT ?_;refine nn<|bN rfl (fun hc9=>?_) (fun hc9=>?_)
 ·have hc9:=gR hc9;refine sr<|sp hT ?_;refine nn<|bL<|bK ?_;exact bI () rfl (rv_tmp rfl) .nil trivial (own_no (by simp_all))
 have hc9:=gS hc9;refine bJ<|bD<|bF<|sr<|sp hT ?_;refine nn<|bO<|cM (ι:=Nat) [(0,_),(1,_)] ⟨rfl,rfl,trivial⟩ (fun i=>[(5,.int .i64 (i:Nat))]) (fun _=>[]) (fun i=>[bP.pure (i≤p.list.length∧(p.list.take i).all (okM (clampK vars))=true)]) (fun i=>p.list.length-i) 0 ⟨rfl,trivial⟩ .nil ⟨Has.pure (⟨by omega,rfl⟩),trivial⟩ ?_;rintro i;refine bV (Has.of mT0) fun hinv4=>?_;refine bF<|sr<|sp4 hT ?_;refine nn<|bN rfl (fun hc13=>?_) (fun hc13=>?_)
 ·have hc13:=of_decide_eq_true hc13;refine bJ<|bD<|bF<|bO<|bF ?_
  obtain⟨x1,hx2⟩: ∃x',p.list[i]?=some x':=⟨_,List.getElem?_eq_getElem (by omega)⟩
  refine bB<|sp2 hT ?_;refine bS (z':=((clampK vars+0:Nat):Int)) (by omega) ?_;refine nn<|bO<|cM (ι:=Nat) [(0,_),(1,_),(5,_)] ⟨rfl,rfl,rfl,trivial⟩ (fun j=>[(6,.int .i64 ((clampK vars+j:Nat):Int))]) (fun _=>[]) (fun j=>[bP.pure (clampK vars+j≤6∧(((EI x1).drop (clampK vars)).take j).all (fun e=>e==0)=true)]) (fun j=>6-clampK vars-j) 0 ⟨rfl,trivial⟩ .nil ⟨Has.pure (⟨by omega,rfl⟩),trivial⟩ ?_;rintro j;refine bV (Has.of mT0) fun hinv7=>?_;refine bF<|sr<|sp2 hT ?_;refine nn<|bN rfl (fun hc18=>?_) (fun hc18=>?_)
  ·have hc18:=of_decide_eq_true hc18;refine bJ<|bD<|bF<|bO<|sr<|sp3 hT ?_;refine ss (bG hT (k:=i) (bA (Has.of mT2)) rfl rfl rfl rfl rfl rfl rfl (by omega)) ?_;refine sp hT ?_;refine ss (cW hT (k:=(clampK vars+j)) rfl rfl rfl rfl rfl rfl (by omega)) ?_
   obtain⟨z3,hz4⟩: ∃z',(EI x1)[clampK vars+j]?=some z':=⟨_,List.getElem?_eq_getElem (by show _<6;omega)⟩
   have hjz3:((EI x1).drop (clampK vars))[j]?=some z3:=by rw [List.getElem?_drop];exact hz4
   have hge:=ei_ge hjz3;refine ss (bM hT (kQ.drop (bX.knows (bA (Has.of mT2)) (k:=i) (x:=x1) hx2 1) ((clampK vars+j)*1)) rfl rfl rfl rfl (exp_at hz4)) ?_;refine sp hT ?_;refine nn<|bN rfl (fun hc28=>?_) (fun hc28=>?_)
   ·have hc28:=of_decide_eq_true hc28;refine sr<|sp hT ?_;refine nn<|bL<|bR<|bK<|bK<|bR<|bR<|bK<|bK<|bR<|bK ?_;exact bI () rfl (rv_tmp rfl) .nil trivial (of_bad hx2 (okM_bad hjz3 (by omega)))
   have hc28:=Int.not_lt.1 (of_decide_eq_false hc28);refine bJ<|bT<|bD<|bB<|sp2 hT ?_;refine bS (z':=((((clampK vars+j)+1):Nat):Int)) (cG (by omega) (by omega)) ?_;refine sp hT ?_;refine nn ?_;exact bZ (j+1) (by omega) ⟨rfl,trivial⟩ ⟨rfl,rfl,rfl,trivial⟩ .nil ⟨Has.pure (⟨by omega,jN hinv7.2 hjz3 (beq_iff_eq.2 (by omega))⟩),trivial⟩ (bH.drop 1)
  have hc18:=Int.not_lt.1 (of_decide_eq_false hc18);refine cE<|bW<|bW<|cD<|bT<|bD<|bB<|sp2 hT ?_;refine bS (z':=(((i+1):Nat):Int)) (cG (by omega) (by omega)) ?_;refine sp hT ?_;refine nn ?_;exact bZ (i+1) (by omega) ⟨rfl,trivial⟩ ⟨rfl,rfl,trivial⟩ .nil ⟨Has.pure (⟨by omega,jN hinv4.2 hx2 (okM_end hinv7.2 (by rw [bGo];omega))⟩),trivial⟩ (bH.drop 2)
 have hc13:=Int.not_lt.1 (of_decide_eq_false hc13);refine cE<|bW<|bW<|cD<|bD<|sr<|sp hT ?_;refine nn<|bL ?_;exact bI () rfl (rv_tmp rfl) .nil trivial (own_end (by simp_all) (oK hinv4.2 (by omega)))
set_option maxRecDepth 100000 in
theorem uR(l:Sl PolV)(vars:Int)(hv:0≤vars)(hv6:vars≤6):dG Tryz.prog 72 [.slice l.addr l.list.length l.cap,.int .i64 vars] [] [nG l] (fun(_:Unit)=> .bool (hI (polsL l.list) vars)) (fun _=>[]) (fun _=>[]):=by
 have hT:=dA;refine cJ Tryz.func72 rfl Tryz.ntmps72 rfl ?_;intro β hM;refine bF<|bV (qY (Has.of mT0)) fun hlz=>?_;have hlz2:=hlz.2;refine cB (fF.sl (.slice l.addr l.list.length l.cap) l.list) (qM (Has.of mT0)) ?_;refine bB<|sp hT ?_;refine nn<|bF<|sr<|sp3 hT ?_;refine nn<|bN rfl (fun hc8=>?_) (fun hc8=>?_)
 ·have hc8:=of_decide_eq_true hc8;refine sr<|sp hT ?_;refine nn<|bL<|bK ?_;exact bI () rfl (rv_tmp rfl) .nil trivial (grow_long (by rw [cI];omega))
 have hc8:=Int.not_lt.1 (of_decide_eq_false hc8);refine bJ<|bD<|bF<|sr<|sp hT ?_;refine nn<|bO<|cM (ι:=Nat) [(0,_),(1,_)] ⟨rfl,rfl,trivial⟩ (fun i=>[(5,.int .i64 (i:Nat))]) (fun _=>[]) (fun i=>[bP.pure (i≤l.list.length∧((polsL l.list).take i).all (fun p=>ofB p vars&&kI p)=true)]) (fun i=>l.list.length-i) 0 ⟨rfl,trivial⟩ .nil ⟨Has.pure (⟨by omega,rfl⟩),trivial⟩ ?_;rintro i;refine bV (Has.of mT0) fun hinv4=>?_;refine bF<|sr<|sp4 hT ?_;refine nn<|bN rfl (fun hc12=>?_) (fun hc12=>?_)
 ·have hc12:=of_decide_eq_true hc12;refine bJ<|bD<|bF<|bO<|bF ?_
  obtain⟨x1,hx2⟩: ∃x',l.list[i]?=some x':=⟨_,List.getElem?_eq_getElem (by omega)⟩
  refine cB (cY x1) (Has.each (qW (Has.of mT2)) (List.mem_of_getElem? hx2)) ?_;refine bV (dJ (Has.of mT0)) fun hpx1=>?_;refine bB<|sp2 hT ?_;refine ss (bG hT (k:=i) (bA (Has.of mT2)) rfl rfl rfl rfl rfl rfl rfl (by omega)) ?_;refine ss (bM hT (bX.knows (bA (Has.of mT2)) (k:=i) (x:=x1) hx2 0) rfl rfl rfl rfl rfl) ?_;refine sp hT ?_;refine cP Tryz.func131 (bFm x1 vars hv hv6) rfl rfl .nil ⟨(Has.of mT0),trivial⟩ fun _=>?_;refine sp2 hT ?_;refine bY (fun hg22=>?_) (fun hg22=>?_)
  ·have hg22:=gR hg22;refine sk4 ?_;refine sk2 ?_;refine sp hT ?_;refine nn<|cK rfl rfl ?_;refine sr<|sp hT ?_;refine nn<|bL<|bR<|bK<|bK<|bR<|bK ?_;exact bI () rfl (rv_tmp rfl) .nil trivial (xT (fP hx2) (by simp_all))
  have hg22:=gS hg22;refine sp2 hT ?_;refine ss (bG hT (k:=i) (bA (Has.of mT2)) rfl rfl rfl rfl rfl rfl rfl (by omega)) ?_;refine ss (bM hT (bX.knows (bA (Has.of mT2)) (k:=i) (x:=x1) hx2 0) rfl rfl rfl rfl rfl) ?_;refine cP Tryz.func132 (refG_spec x1 hpx1) rfl rfl .nil ⟨(Has.of mT0),trivial⟩ fun _=>?_;refine sp2 hT ?_;refine nn<|bN rfl (fun hc29=>?_) (fun hc29=>?_)
  ·have hc29:=gR hc29;refine sr<|sp hT ?_;refine nn<|bL<|bR<|bK<|bK<|bR<|bK ?_;exact bI () rfl (rv_tmp rfl) .nil trivial (xT (fP hx2) (by simp_all))
  have hc29:=gS hc29;refine bJ<|bT<|bD<|bB<|sp2 hT ?_;refine bS (z':=(((i+1):Nat):Int)) (cG (by omega) (by omega)) ?_;refine sp hT ?_;refine nn ?_;exact bZ (i+1) (by omega) ⟨rfl,trivial⟩ ⟨rfl,rfl,trivial⟩ .nil ⟨Has.pure (⟨by omega,jN hinv4.2 (fP hx2) (by simp_all)⟩),trivial⟩ (bH.drop 2)
 have hc12:=Int.not_lt.1 (of_decide_eq_false hc12);refine cE<|bW<|bW<|cD<|bD<|sr<|sp hT ?_;refine nn<|bL ?_;exact bI () rfl (rv_tmp rfl) .nil trivial (grow_all (oK hinv4.2 (by rw [cI];omega)) (by rw [cI];omega))
theorem polsInfo: ∃i:TypeInfo,Tryz.prog.info? 35=some i∧i.zero=some (.slice none 0 0)∧i.size=1∧i.bytes=24:=by
 have h:(Tryz.prog.info? 35).map (fun i=>(i.zero,i.size,i.bytes))=some (some (.slice none 0 0),1,24):=by kernel_rfl
 cases hi:Tryz.prog.info? 35 with
 | none=>simp [hi] at h
 | some i=>simp [hi] at h;exact⟨i,rfl,h.1,h.2.1,h.2.2⟩
theorem at_one_pols{β:fR}{n:Nat}{Γ:Env}{H:List bQ}{F:List bP}{Q:Exit→Act→World→Prop}{ops:Array Oper}{rest:List Oper}{o:Oper}{d:Nat}{x:Operand}{m:PolV}(hw:want ops Γ o=some true)(ho:o.op= .buildSlice 36 1 #[(0,x)])(hd:o.dst=some d)(hn:Nat.blt d n=true)
  (hx:Γ.ev x=some (.slice m.addr m.list.length m.cap)) (k: ∀b,At β n ((d,.slice (some ⟨b,0,none⟩) 1 1)::Γ) (.obj b (.cells (fF.all [m]).toArray 35)::H) F (wpList Tryz.prog ops Q rest)):At β n Γ H F (wpList Tryz.prog ops Q (o::rest)):=by
 obtain⟨i,hi,hz,hs,_⟩:=polsInfo;refine nI hw ho hd hn hx Tryz.underlying36 hi hz (by omega) (by omega) ?_ k;rw [hs]
 kernel_rfl
theorem listF_one{F:List bP}{A:Option Addr}{p:PolV}(h1:Has F (fF.sl (.slice A 1 1) [p]))(h2:Has F (cY p)):Has F (nG ⟨A,1,[p]⟩):=
 Has.and (Has.and h1 (fun S w k q hq=>by simp at hq;subst hq;exact h2 S w k)) (Has.pure ⟨Nat.le_refl 1,(by decide:1*24≤140737488355328)⟩)
def lZ (c:gF)(made:List Bool)(x:fN):Bool:=(decide (0≤x.buf)&&(match c.bufs[x.buf.toNat]? with
   | some b=>decide (b.input<0)
   | none=>false))&&mG c.vars made x
def wB (vars:Int)(x:fY)(made:List Bool)(o:OpV):Bool:=opB vars x.loops.list.length (-1) made o.c&& !(o.how==4&&o.k==x.buf)
structure bGp (c:gM) (made:List Bool) (x:fY):Prop where
 how1:1≤x.how
 how3:x.how≤3
 buf0:0≤x.buf
 bufn:x.buf<(c.bufs.list.length:Nat)
 inp: ∀b,c.bufs.list[x.buf.toNat]?=some b→b.input<0
 at_:hI (polsL [x.at_]) c.vars=true
 loops:hI (polsL x.loops.list) c.vars=true
 ne:x.how≠1→x.loops.list.length≠0
 fn1:x.how=1→x.fn=0
 fn3:x.how≠1→gG x.fn true=true
 ops0:x.ops.list.length≠0
 ops1:(x.ops.list.length:Int)≤256
 dep:0≤oP (qG x.ops.list)
 ops:x.ops.list.all (wB c.vars x made)=true
theorem op_buf{vars loops buf:Int}{made:List Bool}{o:OpV}:opB vars loops buf made o.c=(opB vars loops (-1) made o.c&& !(o.how==4&&o.k==buf)):=by
 unfold opB;show(if o.how=1 then _ else if o.how=2 then _ else if o.how=3 then _ else if o.how=4 then _ else if o.how=5∨o.how=6 then _ else _)=((if o.how=1 then _ else if o.how=2 then _ else if o.how=3 then _ else if o.how=4 then _ else if o.how=5∨o.how=6 then _ else _)&&_)
 by_cases h4:o.how=4
 ·rw [if_neg (by omega),if_neg (by omega),if_neg (by omega),if_pos h4,if_neg (by omega),if_neg (by omega),if_neg (by omega),if_pos h4];show(decide (0≤o.k∧o.k≠buf)&&_)=(decide (0≤o.k∧o.k≠ -1)&&_&&_)
  by_cases h0:0≤o.k
  ·by_cases hk:o.k=buf
   ·simp [h4,hk]
   ·have h1:o.k≠ -1:=by omega
    simp [h4,hk,h0,h1]
  ·have h1:decide (0≤o.k∧o.k≠buf)=false:=decide_eq_false (by omega);have h2:decide (0≤o.k∧o.k≠ -1)=false:=decide_eq_false (by omega);rw [h1,h2];rfl
 ·have e:(o.how==4)=false:=by simp [h4]
  rw [e,if_neg h4,if_neg h4];simp
theorem step_iff{c:gM}{made:List Bool}{x:fY}:lZ c.c made x.c=true↔bGp c made x:=by
 have hops:x.c.ops.all (opB c.vars x.loops.list.length x.buf made)=x.ops.list.all (wB c.vars x made):=by
  show(x.ops.list.map OpV.c).all _=_;rw [List.all_map]
  congr 1
  funext o
  exact op_buf
 have hl:x.c.loops.length=x.loops.list.length:=cI _;have ho:x.c.ops.length=x.ops.list.length:=tW _
 have he:x.c.loops.isEmpty=decide (x.loops.list.length=0):=by
  rw [←hl];cases x.c.loops<;>rfl
 have ha:hI (polsL [x.at_]) c.vars=(ofB x.at_.list c.vars&&kI x.at_.list):=by
  show(([x.at_.list]).all _&&decide (1≤4))=_;simp
 have hd:oP []= -1:=by decide
 constructor
 ·intro h;unfold lZ mG at h;simp only [Bool.and_eq_true,decide_eq_true_eq] at h;obtain⟨⟨h1,h2⟩,⟨h3,h4⟩,h5,h6,h7,h8,h9⟩:=h;have h1:0≤x.buf:=h1;have h2:(match (c.bufs.list.map iY.c)[x.buf.toNat]? with | some b=>decide (b.input<0) | none=>false)=true:=h2;rw [List.getElem?_map] at h2;have h9':x.c.ops.all (opB c.vars x.loops.list.length x.buf made)=true:=by rw [←hl];exact h9
  rw [hops] at h9';have h8:(if x.how=1 then x.fn==0 else if x.how=2∨x.how=3 then !x.c.loops.isEmpty&&gG x.fn true else false)=true:=h8;rw [he] at h8;have h6:x.c.ops.length≤256:=h6
  have hh:(1≤x.how∧x.how≤3)∧(x.how=1→x.fn=0)∧(x.how≠1→x.loops.list.length≠0∧gG x.fn true=true):=by
   by_cases e1:x.how=1
   ·rw [if_pos e1] at h8;exact⟨by omega,fun _=>by simpa using h8,fun h=>absurd e1 h⟩
   ·rw [if_neg e1] at h8
    by_cases e2:x.how=2∨x.how=3
    ·rw [if_pos e2] at h8;refine⟨by omega,fun h=>absurd h e1,fun _=>by simpa using h8⟩
    ·rw [if_neg e2] at h8;cases h8
  cases hb:c.bufs.list[x.buf.toNat]? with
  | none=>rw [hb] at h2;cases h2
  | some b=>
   rw [hb] at h2;have hlt:=(List.getElem?_eq_some_iff.1 hb).1
   exact⟨hh.1.1,hh.1.2,h1,by omega,fun b' hb'=>by rw [hb] at hb';cases hb';exact of_decide_eq_true h2,by rw [ha];exact(Bool.and_eq_true _ _).symm▸⟨h3,h4⟩,h5,fun h=>(hh.2.2 h).1,hh.2.1,fun h=>(hh.2.2 h).2,
    fun e=>by
     have:x.ops.list=[]:=List.eq_nil_of_length_eq_zero e;have h7:0≤oP (qG x.ops.list):=h7;rw [this,show qG []=[] from rfl,hd] at h7
     omega,by omega,h7,h9'⟩
 ·intro p;unfold lZ mG;have h9:x.c.ops.all (opB c.vars x.loops.list.length x.buf made)=true:=by rw [hops];exact p.ops
  have h3:=p.at_;rw [ha,Bool.and_eq_true] at h3
  have h8:(if x.how=1 then x.fn==0 else if x.how=2∨x.how=3 then !x.c.loops.isEmpty&&gG x.fn true else false)=true:=by
   have q1:=p.how1;have q3:=p.how3;rw [he]
   by_cases e1:x.how=1
   ·rw [if_pos e1,p.fn1 e1];rfl
   ·rw [if_neg e1,if_pos (by omega),p.fn3 e1];have:=p.ne e1;simp [this]
  have h1:(decide (0≤x.c.buf)&&(match c.c.bufs[x.c.buf.toNat]? with | some b=>decide (b.input<0) | none=>false))=true:=by
   show(decide (0≤x.buf)&&(match (c.bufs.list.map iY.c)[x.buf.toNat]? with | some b=>decide (b.input<0) | none=>false))=true;have q0:=p.buf0;have q1:=p.bufn;rw [List.getElem?_map,List.getElem?_eq_getElem (by omega),decide_eq_true q0];exact decide_eq_true (p.inp _ (List.getElem?_eq_getElem (by omega)))
  rw [h1];have q6:=p.ops1;have h6:x.c.ops.length≤256:=by omega
  show(true&&((ofB x.at_.list c.vars&&kI x.at_.list)&&(hI (polsL x.loops.list) c.vars&&(decide (x.c.ops.length≤256)&&(decide (0≤oP (qG x.ops.list))&&((if x.how=1 then x.fn==0 else if x.how=2∨x.how=3 then !x.c.loops.isEmpty&&gG x.fn true else false)&&x.c.ops.all (opB c.vars x.c.loops.length x.buf made)))))))=true;rw [h3.1,h3.2,p.loops,decide_eq_true h6,decide_eq_true p.dep,h8,hl,h9];rfl
theorem hZ{c:gM}{made:List Bool}{x:fY}(h: ¬bGp c made x):Value.bool false= .bool (lZ c.c made x.c):=by
 cases e:lZ c.c made x.c with
 | false=>rfl
 | true=>exact absurd (step_iff.1 e) h
theorem step_yes{c:gM}{made:List Bool}{x:fY}(h:bGp c made x):Value.bool true= .bool (lZ c.c made x.c):=by rw [step_iff.2 h]
set_option maxRecDepth 100000 in
theorem bJo(o:OpV)(vars loops:Int)(MA:Option Addr)(mc:Nat)(made:List Bool)(hv:0≤vars)(hv6:vars≤6):dG Tryz.prog 135 [.agg #[.int .i64 o.how,.int .i64 o.k,.int .i64 o.n,.slice o.p.addr o.p.list.length o.p.cap,.int .u8 o.fn],.int .i64 vars,.int .i64 loops,.slice MA made.length mc] [] [opF o,gA.sl (.slice MA made.length mc) made] (fun(_:Unit)=> .bool (opB vars loops (-1) made o.c)) (fun _=>[]) (fun _=>[]):=by
 have hT:=dA;refine cJ Tryz.func135 rfl Tryz.ntmps135 rfl ?_;intro β hM;refine sr<|gC rfl rfl rfl rfl rfl rfl fun b1=>?_;refine sp hT ?_;refine nn<|bF<|sr<|sp hT ?_;refine ss (ldO hT (cS .head)) ?_;refine nn<|bO<|sr<|sp2 hT ?_;refine nn<|bN rfl (fun hc11=>?_) (fun hc11=>?_)
 ·have hc11_r:=hc11;have hc11:=eq_of_beq hc11;refine sr<|sp hT ?_;refine ss (ldO hT (dE .head)) ?_;refine sp2 hT ?_;refine bY (fun hg16=>?_) (fun hg16=>?_)
  ·have hg16:=eq_of_beq hg16;refine sp hT ?_;refine ss (ldO hT (jJ .head)) ?_;refine sp4 hT ?_;refine bY (fun hg22=>?_) (fun hg22=>?_)
   ·have hg22:=eq_of_beq hg22;refine sp hT ?_;refine ss (ldO hT (yK .head)) ?_;refine sp3 hT ?_;refine nn<|bL<|bR<|bK ?_;exact bI () rfl (rv_tmp rfl) .nil trivial (by first | (rw [fB ‹_›];simp [*];done) | (rw [fG ‹_›];simp [*];done) | (rw [fD ‹_›];simp [*];done) | (rw [fH ‹_› ‹_›];have hkn:(o.k != -1)=true:=(bne_iff_ne).2 (by omega);simp [*];done) | (rw [dC ‹_› (by omega)];done) | (rw [fI ‹_›];simp [*];done) | (rw [fC ‹_›];simp [*];done) | rw [fE ‹_› ‹_› ‹_› ‹_› ‹_› ‹_›])
   have hg22:=beq_eq_false_iff_ne.1 hg22;refine sk3 ?_;refine sp2 hT ?_;refine nn<|bL<|bR<|bK ?_;exact bI () rfl (rv_tmp rfl) .nil trivial (by first | (rw [fB ‹_›];simp [*];done) | (rw [fG ‹_›];simp [*];done) | (rw [fD ‹_›];simp [*];done) | (rw [fH ‹_› ‹_›];have hkn:(o.k != -1)=true:=(bne_iff_ne).2 (by omega);simp [*];done) | (rw [dC ‹_› (by omega)];done) | (rw [fI ‹_›];simp [*];done) | (rw [fC ‹_›];simp [*];done) | rw [fE ‹_› ‹_› ‹_› ‹_› ‹_› ‹_›])
  have hg16:=beq_eq_false_iff_ne.1 hg16;refine sk4 ?_;refine sp2 hT ?_;refine sk3 ?_;refine sp2 hT ?_;refine nn<|bL<|bR<|bK ?_;exact bI () rfl (rv_tmp rfl) .nil trivial (by first | (rw [fB ‹_›];simp [*];done) | (rw [fG ‹_›];simp [*];done) | (rw [fD ‹_›];simp [*];done) | (rw [fH ‹_› ‹_›];have hkn:(o.k != -1)=true:=(bne_iff_ne).2 (by omega);simp [*];done) | (rw [dC ‹_› (by omega)];done) | (rw [fI ‹_›];simp [*];done) | (rw [fC ‹_›];simp [*];done) | rw [fE ‹_› ‹_› ‹_› ‹_› ‹_› ‹_›])
 have hc11_r:=hc11;have hc11:=beq_eq_false_iff_ne.1 hc11;refine sr<|sp2 hT ?_;refine nn<|bN rfl (fun hc27=>?_) (fun hc27=>?_)
 ·have hc27_r:=hc27;have hc27:=eq_of_beq hc27;refine sr<|sp hT ?_;refine ss (ldO hT (dE .head)) ?_;refine sp2 hT ?_;refine bY (fun hg32=>?_) (fun hg32=>?_)
  ·have hg32:=eq_of_beq hg32;refine sp hT ?_;refine ss (ldO hT (kC .head)) ?_;refine sp3 hT ?_;refine bY (fun hg37=>?_) (fun hg37=>?_)
   ·have hg37:=eq_of_beq hg37;refine sp hT ?_;refine ss (ldO hT (yK .head)) ?_;refine sp3 hT ?_;refine bY (fun hg42=>?_) (fun hg42=>?_)
    ·have hg42:=eq_of_beq hg42;refine sp hT ?_;refine ss (ldO hT (jJ .head)) ?_;refine sp hT ?_;refine cP Tryz.func131 (bFm o.p vars hv hv6) rfl rfl .nil ⟨(Has.of mT0),trivial⟩ fun _=>?_;refine sp2 hT ?_;refine nn<|bL<|bR<|bK ?_;exact bI () rfl (rv_tmp rfl) .nil trivial (by first | (rw [fB ‹_›];simp [*];done) | (rw [fG ‹_›];simp [*];done) | (rw [fD ‹_›];simp [*];done) | (rw [fH ‹_› ‹_›];have hkn:(o.k != -1)=true:=(bne_iff_ne).2 (by omega);simp [*];done) | (rw [dC ‹_› (by omega)];done) | (rw [fI ‹_›];simp [*];done) | (rw [fC ‹_›];simp [*];done) | rw [fE ‹_› ‹_› ‹_› ‹_› ‹_› ‹_›])
    have hg42:=beq_eq_false_iff_ne.1 hg42;refine sk4 ?_;refine sp2 hT ?_;refine nn<|bL<|bR<|bK ?_;exact bI () rfl (rv_tmp rfl) .nil trivial (by first | (rw [fB ‹_›];simp [*];done) | (rw [fG ‹_›];simp [*];done) | (rw [fD ‹_›];simp [*];done) | (rw [fH ‹_› ‹_›];have hkn:(o.k != -1)=true:=(bne_iff_ne).2 (by omega);simp [*];done) | (rw [dC ‹_› (by omega)];done) | (rw [fI ‹_›];simp [*];done) | (rw [fC ‹_›];simp [*];done) | rw [fE ‹_› ‹_› ‹_› ‹_› ‹_› ‹_›])
   have hg37:=beq_eq_false_iff_ne.1 hg37;refine sk3 ?_;refine sp2 hT ?_;refine sk4 ?_;refine sp2 hT ?_;refine nn<|bL<|bR<|bK ?_;exact bI () rfl (rv_tmp rfl) .nil trivial (by first | (rw [fB ‹_›];simp [*];done) | (rw [fG ‹_›];simp [*];done) | (rw [fD ‹_›];simp [*];done) | (rw [fH ‹_› ‹_›];have hkn:(o.k != -1)=true:=(bne_iff_ne).2 (by omega);simp [*];done) | (rw [dC ‹_› (by omega)];done) | (rw [fI ‹_›];simp [*];done) | (rw [fC ‹_›];simp [*];done) | rw [fE ‹_› ‹_› ‹_› ‹_› ‹_› ‹_›])
  have hg32:=beq_eq_false_iff_ne.1 hg32;refine sk3 ?_;refine sp2 hT ?_;refine sk3 ?_;refine sp2 hT ?_;refine sk4 ?_;refine sp2 hT ?_;refine nn<|bL<|bR<|bK ?_;exact bI () rfl (rv_tmp rfl) .nil trivial (by first | (rw [fB ‹_›];simp [*];done) | (rw [fG ‹_›];simp [*];done) | (rw [fD ‹_›];simp [*];done) | (rw [fH ‹_› ‹_›];have hkn:(o.k != -1)=true:=(bne_iff_ne).2 (by omega);simp [*];done) | (rw [dC ‹_› (by omega)];done) | (rw [fI ‹_›];simp [*];done) | (rw [fC ‹_›];simp [*];done) | rw [fE ‹_› ‹_› ‹_› ‹_› ‹_› ‹_›])
 have hc27_r:=hc27;have hc27:=beq_eq_false_iff_ne.1 hc27;refine sr<|sp2 hT ?_;refine nn<|bN rfl (fun hc48=>?_) (fun hc48=>?_)
 ·have hc48_r:=hc48;have hc48:=eq_of_beq hc48;refine sr<|sp hT ?_;refine ss (ldO hT (dE .head)) ?_;refine sp2 hT ?_;refine bY (fun hg53=>?_) (fun hg53=>?_)
  ·have hg53:=of_decide_eq_true hg53;refine sp hT ?_;refine ss (ldO hT (dE .head)) ?_;refine sp4 hT ?_;refine bY (fun hg59=>?_) (fun hg59=>?_)
   ·have hg59:=of_decide_eq_true hg59;refine sp hT ?_;refine ss (ldO hT (kC .head)) ?_;refine sp3 hT ?_;refine bY (fun hg64=>?_) (fun hg64=>?_)
    ·have hg64:=eq_of_beq hg64;refine sp hT ?_;refine ss (ldO hT (jJ .head)) ?_;refine sp4 hT ?_;refine bY (fun hg70=>?_) (fun hg70=>?_)
     ·have hg70:=eq_of_beq hg70;refine sp hT ?_;refine ss (ldO hT (yK .head)) ?_;refine sp3 hT ?_;refine nn<|bL<|bR<|bK ?_;exact bI () rfl (rv_tmp rfl) .nil trivial (by first | (rw [fB ‹_›];simp [*];done) | (rw [fG ‹_›];simp [*];done) | (rw [fD ‹_›];simp [*];done) | (rw [fH ‹_› ‹_›];have hkn:(o.k != -1)=true:=(bne_iff_ne).2 (by omega);simp [*];done) | (rw [dC ‹_› (by omega)];done) | (rw [fI ‹_›];simp [*];done) | (rw [fC ‹_›];simp [*];done) | rw [fE ‹_› ‹_› ‹_› ‹_› ‹_› ‹_›])
     have hg70:=beq_eq_false_iff_ne.1 hg70;refine sk3 ?_;refine sp2 hT ?_;refine nn<|bL<|bR<|bK ?_;exact bI () rfl (rv_tmp rfl) .nil trivial (by first | (rw [fB ‹_›];simp [*];done) | (rw [fG ‹_›];simp [*];done) | (rw [fD ‹_›];simp [*];done) | (rw [fH ‹_› ‹_›];have hkn:(o.k != -1)=true:=(bne_iff_ne).2 (by omega);simp [*];done) | (rw [dC ‹_› (by omega)];done) | (rw [fI ‹_›];simp [*];done) | (rw [fC ‹_›];simp [*];done) | rw [fE ‹_› ‹_› ‹_› ‹_› ‹_› ‹_›])
    have hg64:=beq_eq_false_iff_ne.1 hg64;refine sk4 ?_;refine sp2 hT ?_;refine sk3 ?_;refine sp2 hT ?_;refine nn<|bL<|bR<|bK ?_;exact bI () rfl (rv_tmp rfl) .nil trivial (by first | (rw [fB ‹_›];simp [*];done) | (rw [fG ‹_›];simp [*];done) | (rw [fD ‹_›];simp [*];done) | (rw [fH ‹_› ‹_›];have hkn:(o.k != -1)=true:=(bne_iff_ne).2 (by omega);simp [*];done) | (rw [dC ‹_› (by omega)];done) | (rw [fI ‹_›];simp [*];done) | (rw [fC ‹_›];simp [*];done) | rw [fE ‹_› ‹_› ‹_› ‹_› ‹_› ‹_›])
   have hg59:=Int.not_lt.1 (of_decide_eq_false hg59);refine sk3 ?_;refine sp2 hT ?_;refine sk4 ?_;refine sp2 hT ?_;refine sk3 ?_;refine sp2 hT ?_;refine nn<|bL<|bR<|bK ?_;exact bI () rfl (rv_tmp rfl) .nil trivial (by first | (rw [fB ‹_›];simp [*];done) | (rw [fG ‹_›];simp [*];done) | (rw [fD ‹_›];simp [*];done) | (rw [fH ‹_› ‹_›];have hkn:(o.k != -1)=true:=(bne_iff_ne).2 (by omega);simp [*];done) | (rw [dC ‹_› (by omega)];done) | (rw [fI ‹_›];simp [*];done) | (rw [fC ‹_›];simp [*];done) | rw [fE ‹_› ‹_› ‹_› ‹_› ‹_› ‹_›])
  have hg53:=Int.not_le.1 (of_decide_eq_false hg53);refine sk4 ?_;refine sp2 hT ?_;refine sk3 ?_;refine sp2 hT ?_;refine sk4 ?_;refine sp2 hT ?_;refine sk3 ?_;refine sp2 hT ?_;refine nn<|bL<|bR<|bK ?_;exact bI () rfl (rv_tmp rfl) .nil trivial (by first | (rw [fB ‹_›];simp [*];done) | (rw [fG ‹_›];simp [*];done) | (rw [fD ‹_›];simp [*];done) | (rw [fH ‹_› ‹_›];have hkn:(o.k != -1)=true:=(bne_iff_ne).2 (by omega);simp [*];done) | (rw [dC ‹_› (by omega)];done) | (rw [fI ‹_›];simp [*];done) | (rw [fC ‹_›];simp [*];done) | rw [fE ‹_› ‹_› ‹_› ‹_› ‹_› ‹_›])
 have hc48_r:=hc48;have hc48:=beq_eq_false_iff_ne.1 hc48;refine sr<|sp2 hT ?_;refine nn<|bN rfl (fun hc75=>?_) (fun hc75=>?_)
 ·have hc75_r:=hc75;have hc75:=eq_of_beq hc75;refine sr<|sp hT ?_;refine ss (ldO hT (dE .head)) ?_;refine sp2 hT ?_;refine bY (fun hg80=>?_) (fun hg80=>?_)
  ·have hg80:=of_decide_eq_true hg80;refine sp hT ?_;refine ss (ldO hT (dE .head)) ?_;refine sp4 hT ?_;refine sp hT ?_;refine bY (fun hg87=>?_) (fun hg87=>?_)
   ·have hg87:=of_decide_eq_true hg87;refine sp2 hT ?_;refine ss (ldO hT (dE .head)) ?_
    obtain⟨x2,hx3⟩: ∃x',made[o.k.toNat]?=some x':=⟨_,List.getElem?_eq_getElem (by omega)⟩
    refine ss (bG hT (k:=o.k.toNat) (bA (Has.of mT1)) rfl rfl rfl rfl rfl rfl (by omega) (by omega)) ?_;refine ss (bM hT (bX.knows (bA (Has.of mT1)) (k:=o.k.toNat) (x:=x2) hx3 0) rfl rfl rfl rfl rfl) ?_;refine sp2 hT ?_;refine bY (fun hg94=>?_) (fun hg94=>?_)
    ·refine sp hT ?_;refine ss (ldO hT (kC .head)) ?_;refine sp3 hT ?_;refine bY (fun hg99=>?_) (fun hg99=>?_)
     ·have hg99:=eq_of_beq hg99;refine sp hT ?_;refine ss (ldO hT (jJ .head)) ?_;refine sp4 hT ?_;refine bY (fun hg105=>?_) (fun hg105=>?_)
      ·have hg105:=eq_of_beq hg105;refine sp hT ?_;refine ss (ldO hT (yK .head)) ?_;refine sp3 hT ?_;refine nn<|bL<|bR<|bK ?_;exact bI () rfl (rv_tmp rfl) .nil trivial (by first | (rw [fB ‹_›];simp [*];done) | (rw [fG ‹_›];simp [*];done) | (rw [fD ‹_›];simp [*];done) | (rw [fH ‹_› ‹_›];have hkn:(o.k != -1)=true:=(bne_iff_ne).2 (by omega);simp [*];done) | (rw [dC ‹_› (by omega)];done) | (rw [fI ‹_›];simp [*];done) | (rw [fC ‹_›];simp [*];done) | rw [fE ‹_› ‹_› ‹_› ‹_› ‹_› ‹_›])
      have hg105:=beq_eq_false_iff_ne.1 hg105;refine sk3 ?_;refine sp2 hT ?_;refine nn<|bL<|bR<|bK ?_;exact bI () rfl (rv_tmp rfl) .nil trivial (by first | (rw [fB ‹_›];simp [*];done) | (rw [fG ‹_›];simp [*];done) | (rw [fD ‹_›];simp [*];done) | (rw [fH ‹_› ‹_›];have hkn:(o.k != -1)=true:=(bne_iff_ne).2 (by omega);simp [*];done) | (rw [dC ‹_› (by omega)];done) | (rw [fI ‹_›];simp [*];done) | (rw [fC ‹_›];simp [*];done) | rw [fE ‹_› ‹_› ‹_› ‹_› ‹_› ‹_›])
     have hg99:=beq_eq_false_iff_ne.1 hg99;refine sk4 ?_;refine sp2 hT ?_;refine sk3 ?_;refine sp2 hT ?_;refine nn<|bL<|bR<|bK ?_;exact bI () rfl (rv_tmp rfl) .nil trivial (by first | (rw [fB ‹_›];simp [*];done) | (rw [fG ‹_›];simp [*];done) | (rw [fD ‹_›];simp [*];done) | (rw [fH ‹_› ‹_›];have hkn:(o.k != -1)=true:=(bne_iff_ne).2 (by omega);simp [*];done) | (rw [dC ‹_› (by omega)];done) | (rw [fI ‹_›];simp [*];done) | (rw [fC ‹_›];simp [*];done) | rw [fE ‹_› ‹_› ‹_› ‹_› ‹_› ‹_›])
    refine sk3 ?_;refine sp2 hT ?_;refine sk4 ?_;refine sp2 hT ?_;refine sk3 ?_;refine sp2 hT ?_;refine nn<|bL<|bR<|bK ?_;exact bI () rfl (rv_tmp rfl) .nil trivial (by first | (rw [fB ‹_›];simp [*];done) | (rw [fG ‹_›];simp [*];done) | (rw [fD ‹_›];simp [*];done) | (rw [fH ‹_› ‹_›];have hkn:(o.k != -1)=true:=(bne_iff_ne).2 (by omega);simp [*];done) | (rw [dC ‹_› (by omega)];done) | (rw [fI ‹_›];simp [*];done) | (rw [fC ‹_›];simp [*];done) | rw [fE ‹_› ‹_› ‹_› ‹_› ‹_› ‹_›])
   have hg87:=Int.not_lt.1 (of_decide_eq_false hg87);refine sk4 ?_;refine sk ?_;refine sp2 hT ?_;refine sk3 ?_;refine sp2 hT ?_;refine sk4 ?_;refine sp2 hT ?_;refine sk3 ?_;refine sp2 hT ?_;refine nn<|bL<|bR<|bK ?_;exact bI () rfl (rv_tmp rfl) .nil trivial (by first | (rw [fB ‹_›];simp [*];done) | (rw [fG ‹_›];simp [*];done) | (rw [fD ‹_›];simp [*];done) | (rw [fH ‹_› ‹_›];have hkn:(o.k != -1)=true:=(bne_iff_ne).2 (by omega);simp [*];done) | (rw [dC ‹_› (by omega)];done) | (rw [fI ‹_›];simp [*];done) | (rw [fC ‹_›];simp [*];done) | rw [fE ‹_› ‹_› ‹_› ‹_› ‹_› ‹_›])
  have hg80:=Int.not_le.1 (of_decide_eq_false hg80);refine sk4 ?_;refine sk ?_;refine sp2 hT ?_;refine sk4 ?_;refine sk ?_;refine sp2 hT ?_;refine sk3 ?_;refine sp2 hT ?_;refine sk4 ?_;refine sp2 hT ?_;refine sk3 ?_;refine sp2 hT ?_;refine nn<|bL<|bR<|bK ?_;exact bI () rfl (rv_tmp rfl) .nil trivial (by first | (rw [fB ‹_›];simp [*];done) | (rw [fG ‹_›];simp [*];done) | (rw [fD ‹_›];simp [*];done) | (rw [fH ‹_› ‹_›];have hkn:(o.k != -1)=true:=(bne_iff_ne).2 (by omega);simp [*];done) | (rw [dC ‹_› (by omega)];done) | (rw [fI ‹_›];simp [*];done) | (rw [fC ‹_›];simp [*];done) | rw [fE ‹_› ‹_› ‹_› ‹_› ‹_› ‹_›])
 have hc75_r:=hc75;have hc75:=beq_eq_false_iff_ne.1 hc75;refine sr<|sp2 hT ?_;refine nn<|bN rfl (fun hc110=>?_) (fun hc110=>?_)
 ·have hc110_r:=hc110;have hc110:=eq_of_beq hc110;refine sr<|sp hT ?_;refine ss (ldO hT (dE .head)) ?_;refine sp2 hT ?_;refine bY (fun hg115=>?_) (fun hg115=>?_)
  ·have hg115:=eq_of_beq hg115;refine sp hT ?_;refine ss (ldO hT (kC .head)) ?_;refine sp3 hT ?_;refine bY (fun hg120=>?_) (fun hg120=>?_)
   ·have hg120:=eq_of_beq hg120;refine sp hT ?_;refine ss (ldO hT (jJ .head)) ?_;refine sp4 hT ?_;refine bY (fun hg126=>?_) (fun hg126=>?_)
    ·have hg126:=eq_of_beq hg126;refine sp hT ?_;refine ss (ldO hT (yK .head)) ?_;refine cP Tryz.func133 (rB _ _) rfl rfl .nil trivial fun _=>?_;refine sp2 hT ?_;refine nn<|bL<|bR<|bK ?_;exact bI () rfl (rv_tmp rfl) .nil trivial (by first | (rw [fB ‹_›];simp [*];done) | (rw [fG ‹_›];simp [*];done) | (rw [fD ‹_›];simp [*];done) | (rw [fH ‹_› ‹_›];have hkn:(o.k != -1)=true:=(bne_iff_ne).2 (by omega);simp [*];done) | (rw [dC ‹_› (by omega)];done) | (rw [fI ‹_›];simp [*];done) | (rw [fC ‹_›];simp [*];done) | rw [fE ‹_› ‹_› ‹_› ‹_› ‹_› ‹_›])
    have hg126:=beq_eq_false_iff_ne.1 hg126;refine sk3 ?_;refine sp2 hT ?_;refine nn<|bL<|bR<|bK ?_;exact bI () rfl (rv_tmp rfl) .nil trivial (by first | (rw [fB ‹_›];simp [*];done) | (rw [fG ‹_›];simp [*];done) | (rw [fD ‹_›];simp [*];done) | (rw [fH ‹_› ‹_›];have hkn:(o.k != -1)=true:=(bne_iff_ne).2 (by omega);simp [*];done) | (rw [dC ‹_› (by omega)];done) | (rw [fI ‹_›];simp [*];done) | (rw [fC ‹_›];simp [*];done) | rw [fE ‹_› ‹_› ‹_› ‹_› ‹_› ‹_›])
   have hg120:=beq_eq_false_iff_ne.1 hg120;refine sk4 ?_;refine sp2 hT ?_;refine sk3 ?_;refine sp2 hT ?_;refine nn<|bL<|bR<|bK ?_;exact bI () rfl (rv_tmp rfl) .nil trivial (by first | (rw [fB ‹_›];simp [*];done) | (rw [fG ‹_›];simp [*];done) | (rw [fD ‹_›];simp [*];done) | (rw [fH ‹_› ‹_›];have hkn:(o.k != -1)=true:=(bne_iff_ne).2 (by omega);simp [*];done) | (rw [dC ‹_› (by omega)];done) | (rw [fI ‹_›];simp [*];done) | (rw [fC ‹_›];simp [*];done) | rw [fE ‹_› ‹_› ‹_› ‹_› ‹_› ‹_›])
  have hg115:=beq_eq_false_iff_ne.1 hg115;refine sk3 ?_;refine sp2 hT ?_;refine sk4 ?_;refine sp2 hT ?_;refine sk3 ?_;refine sp2 hT ?_;refine nn<|bL<|bR<|bK ?_;exact bI () rfl (rv_tmp rfl) .nil trivial (by first | (rw [fB ‹_›];simp [*];done) | (rw [fG ‹_›];simp [*];done) | (rw [fD ‹_›];simp [*];done) | (rw [fH ‹_› ‹_›];have hkn:(o.k != -1)=true:=(bne_iff_ne).2 (by omega);simp [*];done) | (rw [dC ‹_› (by omega)];done) | (rw [fI ‹_›];simp [*];done) | (rw [fC ‹_›];simp [*];done) | rw [fE ‹_› ‹_› ‹_› ‹_› ‹_› ‹_›])
 have hc110_r:=hc110;have hc110:=beq_eq_false_iff_ne.1 hc110;refine sr<|sp2 hT ?_;refine nn<|bN rfl (fun hc131=>?_) (fun hc131=>?_)
 ·have hc131_r:=hc131;have hc131:=eq_of_beq hc131;refine sr<|sp hT ?_;refine ss (ldO hT (dE .head)) ?_;refine sp2 hT ?_;refine bY (fun hg136=>?_) (fun hg136=>?_)
  ·have hg136:=eq_of_beq hg136;refine sp hT ?_;refine ss (ldO hT (kC .head)) ?_;refine sp3 hT ?_;refine bY (fun hg141=>?_) (fun hg141=>?_)
   ·have hg141:=eq_of_beq hg141;refine sp hT ?_;refine ss (ldO hT (jJ .head)) ?_;refine sp4 hT ?_;refine bY (fun hg147=>?_) (fun hg147=>?_)
    ·have hg147:=eq_of_beq hg147;refine sp hT ?_;refine ss (ldO hT (yK .head)) ?_;refine cP Tryz.func133 (rB _ _) rfl rfl .nil trivial fun _=>?_;refine sp2 hT ?_;refine nn<|bL<|bR<|bK ?_;exact bI () rfl (rv_tmp rfl) .nil trivial (by first | (rw [fB ‹_›];simp [*];done) | (rw [fG ‹_›];simp [*];done) | (rw [fD ‹_›];simp [*];done) | (rw [fH ‹_› ‹_›];have hkn:(o.k != -1)=true:=(bne_iff_ne).2 (by omega);simp [*];done) | (rw [dC ‹_› (by omega)];done) | (rw [fI ‹_›];simp [*];done) | (rw [fC ‹_›];simp [*];done) | rw [fE ‹_› ‹_› ‹_› ‹_› ‹_› ‹_›])
    have hg147:=beq_eq_false_iff_ne.1 hg147;refine sk3 ?_;refine sp2 hT ?_;refine nn<|bL<|bR<|bK ?_;exact bI () rfl (rv_tmp rfl) .nil trivial (by first | (rw [fB ‹_›];simp [*];done) | (rw [fG ‹_›];simp [*];done) | (rw [fD ‹_›];simp [*];done) | (rw [fH ‹_› ‹_›];have hkn:(o.k != -1)=true:=(bne_iff_ne).2 (by omega);simp [*];done) | (rw [dC ‹_› (by omega)];done) | (rw [fI ‹_›];simp [*];done) | (rw [fC ‹_›];simp [*];done) | rw [fE ‹_› ‹_› ‹_› ‹_› ‹_› ‹_›])
   have hg141:=beq_eq_false_iff_ne.1 hg141;refine sk4 ?_;refine sp2 hT ?_;refine sk3 ?_;refine sp2 hT ?_;refine nn<|bL<|bR<|bK ?_;exact bI () rfl (rv_tmp rfl) .nil trivial (by first | (rw [fB ‹_›];simp [*];done) | (rw [fG ‹_›];simp [*];done) | (rw [fD ‹_›];simp [*];done) | (rw [fH ‹_› ‹_›];have hkn:(o.k != -1)=true:=(bne_iff_ne).2 (by omega);simp [*];done) | (rw [dC ‹_› (by omega)];done) | (rw [fI ‹_›];simp [*];done) | (rw [fC ‹_›];simp [*];done) | rw [fE ‹_› ‹_› ‹_› ‹_› ‹_› ‹_›])
  have hg136:=beq_eq_false_iff_ne.1 hg136;refine sk3 ?_;refine sp2 hT ?_;refine sk4 ?_;refine sp2 hT ?_;refine sk3 ?_;refine sp2 hT ?_;refine nn<|bL<|bR<|bK ?_;exact bI () rfl (rv_tmp rfl) .nil trivial (by first | (rw [fB ‹_›];simp [*];done) | (rw [fG ‹_›];simp [*];done) | (rw [fD ‹_›];simp [*];done) | (rw [fH ‹_› ‹_›];have hkn:(o.k != -1)=true:=(bne_iff_ne).2 (by omega);simp [*];done) | (rw [dC ‹_› (by omega)];done) | (rw [fI ‹_›];simp [*];done) | (rw [fC ‹_›];simp [*];done) | rw [fE ‹_› ‹_› ‹_› ‹_› ‹_› ‹_›])
 have hc131_r:=hc131;have hc131:=beq_eq_false_iff_ne.1 hc131;refine bJ<|bT<|bD<|sr<|sp hT ?_;refine nn<|bL ?_;exact bI () rfl (rv_tmp rfl) .nil trivial (by first | (rw [fB ‹_›];simp [*];done) | (rw [fG ‹_›];simp [*];done) | (rw [fD ‹_›];simp [*];done) | (rw [fH ‹_› ‹_›];have hkn:(o.k != -1)=true:=(bne_iff_ne).2 (by omega);simp [*];done) | (rw [dC ‹_› (by omega)];done) | (rw [fI ‹_›];simp [*];done) | (rw [fC ‹_›];simp [*];done) | rw [fE ‹_› ‹_› ‹_› ‹_› ‹_› ‹_›])
set_option maxRecDepth 100000 in
theorem step10_spec(c:gM)(x:fY)(MA:Option Addr)(mc:Nat)(made:List Bool)(hv:0≤c.vars)(hv6:c.vars≤6):dG Tryz.prog 73 [.agg #[.int .i64 c.vars,.slice c.bufs.addr c.bufs.list.length c.bufs.cap,.slice c.steps.addr c.steps.list.length c.steps.cap,.slice c.outs.addr c.outs.list.length c.outs.cap],.agg #[.int .i64 x.how,.int .i64 x.buf,.slice x.at_.addr x.at_.list.length x.at_.cap,.slice x.loops.addr x.loops.list.length x.loops.cap,.int .u8 x.fn,.slice x.ops.addr x.ops.list.length x.ops.cap],.slice MA made.length mc] [] [mF c,oI x,gA.sl (.slice MA made.length mc) made] (fun(_:Unit)=> .bool (lZ c.c made x.c)) (fun _=>[]) (fun _=>[]):=by
 have hT:=dA;refine cJ Tryz.func73 rfl Tryz.ntmps73 rfl ?_;intro β hM;refine bF<|cB (cY x.at_) (bCv (Has.of mT1)) ?_;refine cB (nG x.loops) (qJ (Has.of mT2)) ?_;refine bV (opsF_c (nY (Has.of mT3))) fun hoz=>?_;have hoz2:=hoz.2;refine cB (bP.each x.ops.list opF) (opsF_e (nY (Has.of mT3))) ?_;refine cB (opE.sl (.slice x.ops.addr x.ops.list.length x.ops.cap) x.ops.list) (opsF_s (nY (Has.of mT4))) ?_;refine cB (sM.sl (.slice c.bufs.addr c.bufs.list.length c.bufs.cap) c.bufs.list) (jS (gP (Has.of mT4))) ?_;refine bB<|gC rfl rfl rfl rfl rfl rfl fun b1=>?_;refine gC rfl rfl rfl rfl rfl rfl fun b2=>?_;refine sp hT ?_;refine nn<|bF<|sr<|sp hT ?_;refine ss (ldO hT (cS .head)) ?_;refine sp2 hT ?_;refine bY (fun hg11=>?_) (fun hg11=>?_)
 ·have hg11:=of_decide_eq_true hg11;refine sk3 ?_;refine sp2 hT ?_;refine sk3 ?_;refine sp2 hT ?_;refine sk4 ?_;refine sk2 ?_;refine sp2 hT ?_;refine sk4 ?_;refine sk4 ?_;refine sp hT ?_;refine nn<|cK rfl rfl ?_;refine sr<|sp hT ?_;refine nn<|bL<|bK ?_;exact bI () rfl (rv_tmp rfl) .nil trivial (hZ fun p=>by first | (have:=p.how1;omega) | (have:=p.how3;omega) | (have:=p.buf0;omega) | (have:=p.bufn;omega) | (have:=p.inp _ ‹_›;omega))
 have hg11:=Int.not_lt.1 (of_decide_eq_false hg11);refine sp hT ?_;refine ss (ldO hT (cS .head)) ?_;refine sp3 hT ?_;refine bY (fun hg16=>?_) (fun hg16=>?_)
 ·have hg16:=of_decide_eq_true hg16;refine sk3 ?_;refine sp2 hT ?_;refine sk4 ?_;refine sk2 ?_;refine sp2 hT ?_;refine sk4 ?_;refine sk4 ?_;refine sp hT ?_;refine nn<|cK rfl rfl ?_;refine sr<|sp hT ?_;refine nn<|bL<|bK ?_;exact bI () rfl (rv_tmp rfl) .nil trivial (hZ fun p=>by first | (have:=p.how1;omega) | (have:=p.how3;omega) | (have:=p.buf0;omega) | (have:=p.bufn;omega) | (have:=p.inp _ ‹_›;omega))
 have hg16:=Int.not_lt.1 (of_decide_eq_false hg16);refine sp hT ?_;refine ss (ldO hT (dE .head)) ?_;refine sp3 hT ?_;refine bY (fun hg21=>?_) (fun hg21=>?_)
 ·have hg21:=of_decide_eq_true hg21;refine sk4 ?_;refine sk2 ?_;refine sp2 hT ?_;refine sk4 ?_;refine sk4 ?_;refine sp hT ?_;refine nn<|cK rfl rfl ?_;refine sr<|sp hT ?_;refine nn<|bL<|bK ?_;exact bI () rfl (rv_tmp rfl) .nil trivial (hZ fun p=>by first | (have:=p.how1;omega) | (have:=p.how3;omega) | (have:=p.buf0;omega) | (have:=p.bufn;omega) | (have:=p.inp _ ‹_›;omega))
 have hg21:=Int.not_lt.1 (of_decide_eq_false hg21);refine sp hT ?_;refine ss (ldO hT (dE .head)) ?_;refine sp hT ?_;refine ss (ldO hT (dE kT1)) ?_;refine sp4 hT ?_;refine bY (fun hg29=>?_) (fun hg29=>?_)
 ·have hg29:=of_decide_eq_true hg29;refine sk4 ?_;refine sk4 ?_;refine sp hT ?_;refine nn<|cK rfl rfl ?_;refine sr<|sp hT ?_;refine nn<|bL<|bK ?_;exact bI () rfl (rv_tmp rfl) .nil trivial (hZ fun p=>by first | (have:=p.how1;omega) | (have:=p.how3;omega) | (have:=p.buf0;omega) | (have:=p.bufn;omega) | (have:=p.inp _ ‹_›;omega))
 have hg29:=Int.not_le.1 (of_decide_eq_false hg29);refine sp hT ?_;refine ss (ldO hT (dE kT1)) ?_;refine sp hT ?_;refine ss (ldO hT (dE .head)) ?_
 obtain⟨x3,hx4⟩: ∃x',c.bufs.list[x.buf.toNat]?=some x':=⟨_,List.getElem?_eq_getElem (by omega)⟩
 refine ss (bG hT (k:=x.buf.toNat) (bA (Has.of mT0)) rfl rfl rfl rfl rfl rfl (by omega) (by omega)) ?_;refine sp hT ?_;refine ss (bM hT (bX.knows (bA (Has.of mT0)) (k:=x.buf.toNat) (x:=x3) hx4 1) rfl rfl rfl rfl rfl) ?_;refine sp2 hT ?_;refine nn<|bN rfl (fun hc38=>?_) (fun hc38=>?_)
 ·have hc38:=of_decide_eq_true hc38;refine sr<|sp hT ?_;refine nn<|bL<|bK ?_;exact bI () rfl (rv_tmp rfl) .nil trivial (hZ fun p=>by first | (have:=p.how1;omega) | (have:=p.how3;omega) | (have:=p.buf0;omega) | (have:=p.bufn;omega) | (have:=p.inp _ ‹_›;omega))
 have hc38:=Int.not_le.1 (of_decide_eq_false hc38);refine bJ<|bD<|bF<|sr<|sp hT ?_;refine ss (ldO hT (kC .head)) ?_;refine at_one_pols (m:=x.at_) rfl rfl rfl rfl rfl fun b5=>?_;refine qK (E:=fF) (xs:=[x.at_]) .head ?_;refine lW .head ?_;refine cB (nG ⟨some ⟨b5,0,none⟩,1,[x.at_]⟩) (listF_one (Has.of mT0) (Has.of mT5)) ?_;refine sp hT ?_;refine ss (ldO hT (cS kT1)) ?_;refine cP Tryz.func72 (uR ⟨some ⟨b5,0,none⟩,1,[x.at_]⟩ c.vars hv hv6) rfl rfl .nil ⟨(Has.of mT0),trivial⟩ fun _=>?_;refine sp2 hT ?_;refine bY (fun hg46=>?_) (fun hg46=>?_)
 ·have hg46:=gR hg46;refine sk4 ?_;refine sk2 ?_;refine sp2 hT ?_;refine sk4 ?_;refine sk4 ?_;refine sk ?_;refine sp hT ?_;refine nn<|cK rfl rfl ?_;refine sr<|sp hT ?_;refine nn<|bL<|bK ?_;exact bI () rfl (rv_tmp rfl) .nil trivial (hZ fun p=>by first | (have:=p.at_;simp_all;done) | (have:=p.loops;simp_all;done) | (have:=p.ne (by simp_all);simp_all;done))
 have hg46:=gS hg46;refine sp hT ?_;refine ss (ldO hT (jJ .head)) ?_;refine sp hT ?_;refine ss (ldO hT (cS kT1)) ?_;refine cP Tryz.func72 (uR x.loops c.vars hv hv6) rfl rfl .nil ⟨(Has.of mT5),trivial⟩ fun _=>?_;refine sp3 hT ?_;refine bY (fun hg54=>?_) (fun hg54=>?_)
 ·have hg54:=gR hg54;refine sk4 ?_;refine sk4 ?_;refine sk ?_;refine sp hT ?_;refine nn<|cK rfl rfl ?_;refine sr<|sp hT ?_;refine nn<|bL<|bK ?_;exact bI () rfl (rv_tmp rfl) .nil trivial (hZ fun p=>by first | (have:=p.at_;simp_all;done) | (have:=p.loops;simp_all;done) | (have:=p.ne (by simp_all);simp_all;done))
 have hg54:=gS hg54;refine sp hT ?_;refine ss (ldO hT (cS .head)) ?_;refine sp2 hT ?_;refine bY (fun hg58=>?_) (fun hg58=>?_)
 ·have hg58:=bne_iff_ne.1 hg58;refine sp hT ?_;refine ss (ldO hT (jJ .head)) ?_;refine sp4 hT ?_;refine nn<|bN rfl (fun hc64=>?_) (fun hc64=>?_)
  ·have hc64:=eq_of_beq hc64;refine sr<|sp hT ?_;refine nn<|bL<|bK ?_;exact bI () rfl (rv_tmp rfl) .nil trivial (hZ fun p=>by first | (have:=p.at_;simp_all;done) | (have:=p.loops;simp_all;done) | (have:=p.ne (by simp_all);simp_all;done))
  have hc64:=beq_eq_false_iff_ne.1 hc64;refine bJ<|bD<|bF<|sr<|sp hT ?_;refine ss (ldO hT (cS .head)) ?_;refine sp hT ?_;refine dF (t':=false) (beq_eq_false_iff_ne.2 hg58) ?_;refine sp hT ?_;refine sk3 ?_;refine sp3 hT ?_;refine ss (ldO hT (cS .head)) ?_;refine sp hT ?_;refine dF (t':=true) ((congrArg not (show(x.how==1)=false from (beq_eq_false_iff_ne.2 hg58)):(!_)=_)) ?_;refine sp2 hT ?_;refine ss (ldO hT (yK .head)) ?_;refine cP Tryz.func133 (rB _ _) rfl rfl .nil trivial fun _=>?_;refine sp3 hT ?_;refine nn<|bN rfl (fun hc83=>?_) (fun hc83=>?_)
  ·have hc83:=gR hc83;refine sr<|sp hT ?_;refine nn<|bL<|bK ?_;exact bI () rfl (rv_tmp rfl) .nil trivial (hZ fun p=>by first | (have:=p.fn1 (by simp_all);simp_all;done) | (have:=p.fn3 (by simp_all);simp_all;done))
  have hc83:=gS hc83;refine bJ<|bD<|bF<|sr<|sp hT ?_;refine ss (ldO hT (nF .head)) ?_;refine sp3 hT ?_;refine bY (fun hg88=>?_) (fun hg88=>?_)
  ·have hg88:=eq_of_beq hg88;refine sk4 ?_;refine sp2 hT ?_;refine sk4 ?_;refine sp hT ?_;refine nn<|cK rfl rfl ?_;refine sr<|sp hT ?_;refine nn<|bL<|bK ?_;exact bI () rfl (rv_tmp rfl) .nil trivial (hZ fun p=>by first | (have:=p.ops0;simp_all;done) | (have:=p.ops1;omega) | (have:=p.dep;omega))
  have hg88:=beq_eq_false_iff_ne.1 hg88;refine sp hT ?_;refine ss (ldO hT (nF .head)) ?_;refine sp4 hT ?_;refine bY (fun hg94=>?_) (fun hg94=>?_)
  ·have hg94:=of_decide_eq_true hg94;refine sk4 ?_;refine sp hT ?_;refine nn<|cK rfl rfl ?_;refine sr<|sp hT ?_;refine nn<|bL<|bK ?_;exact bI () rfl (rv_tmp rfl) .nil trivial (hZ fun p=>by first | (have:=p.ops0;simp_all;done) | (have:=p.ops1;omega) | (have:=p.dep;omega))
  have hg94:=Int.not_lt.1 (of_decide_eq_false hg94);refine sp hT ?_;refine ss (ldO hT (nF .head)) ?_;refine cP Tryz.func134 (yC x.ops.addr x.ops.cap x.ops.list (by omega)) rfl rfl .nil ⟨(Has.of mT3),(Has.of mT4),trivial⟩ fun _=>?_;refine sp2 hT ?_;refine nn<|bN rfl (fun hc99=>?_) (fun hc99=>?_)
  ·have hc99:=of_decide_eq_true hc99;refine sr<|sp hT ?_;refine nn<|bL<|bK ?_;exact bI () rfl (rv_tmp rfl) .nil trivial (hZ fun p=>by first | (have:=p.ops0;simp_all;done) | (have:=p.ops1;omega) | (have:=p.dep;omega))
  have hc99:=Int.not_lt.1 (of_decide_eq_false hc99);refine bJ<|bD<|bF<|sr<|sp hT ?_;refine nn<|bO<|cM (ι:=Nat) [(2,_),(3,_),(4,_)] ⟨rfl,rfl,rfl,trivial⟩ (fun i=>[(7,.int .i64 (i:Nat))]) (fun _=>[]) (fun i=>[bP.pure (i≤x.ops.list.length∧(x.ops.list.take i).all (wB c.vars x made)=true)]) (fun i=>x.ops.list.length-i) 0 ⟨rfl,trivial⟩ .nil ⟨Has.pure (⟨by omega,rfl⟩),trivial⟩ ?_;rintro i;refine bV (Has.of mT0) fun hinv10=>?_;refine bF<|sr<|sp2 hT ?_;refine ss (ldO hT (nF .head)) ?_;refine sp2 hT ?_;refine nn<|bN rfl (fun hc104=>?_) (fun hc104=>?_)
  ·have hc104:=of_decide_eq_true hc104;refine bJ<|bD<|bF<|bO<|bF ?_
   obtain⟨x6,hx7⟩: ∃x',x.ops.list[i]?=some x':=⟨_,List.getElem?_eq_getElem (by omega)⟩
   refine cB (opF x6) (Has.each (Has.of mT5) (List.mem_of_getElem? hx7)) ?_;refine dN _ _ [(true,0),(true,1),(true,2),(true,3),(true,4),(true,5),(true,6),(true,7),(true,8),(true,9),(true,10),(false,11),(true,12),(true,13),(true,14),(true,15),(true,16),(true,17),(true,18),(true,19),(true,20),(true,21),(true,22),(true,23),(true,24),(true,25),(true,26),(true,27),(true,28),(true,29),(true,30),(true,31),(true,32)] dP (by decide+kernel) (.cons .head (.cons .head .nil)) bH.self ?_;refine puM hT ?_;refine stM rfl (ldO hT (nF .head)) ?_;refine puM hT ?_;refine stM rfl (bG hT (k:=i) (bA (Has.of mT5)) rfl rfl rfl rfl rfl rfl rfl (by omega)) ?_;refine stM rfl (cN hT (bX.knows (bA (Has.of mT5)) (k:=i) (x:=x6) hx7 0) rfl rfl rfl rfl rfl) ?_;refine puM hT ?_;refine stM rfl (ldO hT (cS kT1)) ?_;refine puM hT ?_;refine stM rfl (ldO hT (jJ .head)) ?_;refine puM hT ?_;refine puM hT ?_;refine dD (o:=_) rfl ?_;refine cP Tryz.func135 (bJo x6 c.vars (x.loops.list.length:Nat) MA mc made hv hv6) rfl rfl .nil ⟨(Has.of mT0),(Has.of mT11),trivial⟩ fun _=>?_;refine dB (.cons .head (.cons .head .nil)) (bH.drop 0) ?_;refine puM hT ?_;refine puM hT ?_;refine bY (fun hg120=>?_) (fun hg120=>?_)
   ·have hg120:=gR hg120;refine bC rfl rfl rfl rfl ?_;refine bC rfl rfl rfl rfl ?_;refine bC rfl rfl rfl rfl ?_;refine bC rfl rfl rfl rfl ?_;refine bC rfl rfl rfl rfl ?_;refine bC rfl rfl rfl rfl ?_;refine bC rfl rfl rfl rfl ?_;refine bC rfl rfl rfl rfl ?_;refine bC rfl rfl rfl rfl ?_;refine bC rfl rfl rfl rfl ?_;refine bC rfl rfl rfl rfl ?_;refine bC rfl rfl rfl rfl ?_;refine bC rfl rfl rfl rfl ?_;refine bC rfl rfl rfl rfl ?_;refine bC rfl rfl rfl rfl ?_;refine bC rfl rfl rfl rfl ?_;refine bC rfl rfl rfl rfl ?_;refine bC rfl rfl rfl rfl ?_;refine puM hT ?_;refine cO<|bD<|cK rfl rfl ?_;refine sr<|sp hT ?_;refine nn<|bL<|bR<|bK<|bK<|bR<|bK ?_;exact bI () rfl (rv_tmp rfl) .nil trivial (hZ fun p=>by have h1:=p.ops;rw [pB hx7 (show wB c.vars x made x6=false by unfold wB;simp_all)] at h1;cases h1)
   have hg120:=gS hg120;refine puM hT ?_;refine stM rfl (ldO hT (nF .head)) ?_;refine puM hT ?_;refine stM rfl (bG hT (k:=i) (bA (Has.of mT5)) rfl rfl rfl rfl rfl rfl rfl (by omega)) ?_;refine puM hT ?_;refine stM rfl (bM hT (bX.knows (bA (Has.of mT5)) (k:=i) (x:=x6) hx7 0) rfl rfl rfl rfl rfl) ?_;refine puM hT ?_;refine puM hT ?_;refine bY (fun hg128=>?_) (fun hg128=>?_)
   ·have hg128:=eq_of_beq hg128;refine puM hT ?_;refine stM rfl (ldO hT (nF .head)) ?_;refine puM hT ?_;refine stM rfl (bG hT (k:=i) (bA (Has.of mT5)) rfl rfl rfl rfl rfl rfl rfl (by omega)) ?_;refine puM hT ?_;refine stM rfl (bM hT (bX.knows (bA (Has.of mT5)) (k:=i) (x:=x6) hx7 1) rfl rfl rfl rfl rfl) ?_;refine puM hT ?_;refine stM rfl (ldO hT (dE .head)) ?_;refine puM hT ?_;refine puM hT ?_;refine puM hT ?_;refine cO<|bD<|bN rfl (fun hc139=>?_) (fun hc139=>?_)
    ·have hc139:=eq_of_beq hc139;refine sr<|sp hT ?_;refine nn<|bL<|bR<|bK<|bK<|bR<|bK ?_;exact bI () rfl (rv_tmp rfl) .nil trivial (hZ fun p=>by have h1:=p.ops;rw [pB hx7 (show wB c.vars x made x6=false by unfold wB;simp_all)] at h1;cases h1)
    have hc139:=beq_eq_false_iff_ne.1 hc139;refine bJ<|bT<|bD<|bB<|sp2 hT ?_;refine bS (z':=(((i+1):Nat):Int)) (cG (by omega) (by omega)) ?_;refine sp hT ?_;refine nn ?_;exact bZ (i+1) (by omega) ⟨rfl,trivial⟩ ⟨rfl,rfl,rfl,trivial⟩ (.cons .head (.cons .head .nil)) ⟨Has.pure (⟨by omega,jN hinv10.2 hx7 (by unfold wB;simp_all)⟩),trivial⟩ (bH.drop 2)
   have hg128:=beq_eq_false_iff_ne.1 hg128;refine bC rfl rfl rfl rfl ?_;refine bC rfl rfl rfl rfl ?_;refine bC rfl rfl rfl rfl ?_;refine bC rfl rfl rfl rfl ?_;refine bC rfl rfl rfl rfl ?_;refine bC rfl rfl rfl rfl ?_;refine bC rfl rfl rfl rfl ?_;refine bC rfl rfl rfl rfl ?_;refine bC rfl rfl rfl rfl ?_;refine puM hT ?_;refine puM hT ?_;refine cO<|bD<|cQ rfl rfl ?_;refine bJ<|bT<|bD<|bB<|sp2 hT ?_;refine bS (z':=(((i+1):Nat):Int)) (cG (by omega) (by omega)) ?_;refine sp hT ?_;refine nn ?_;exact bZ (i+1) (by omega) ⟨rfl,trivial⟩ ⟨rfl,rfl,rfl,trivial⟩ (.cons .head (.cons .head .nil)) ⟨Has.pure (⟨by omega,jN hinv10.2 hx7 (by unfold wB;simp_all)⟩),trivial⟩ (bH.drop 2)
  have hc104:=Int.not_lt.1 (of_decide_eq_false hc104);refine cE<|bW<|bW<|cD<|bD<|sr<|sp hT ?_;refine nn<|bL ?_;exact bI () rfl (rv_tmp rfl) .nil trivial (step_yes ⟨by omega,by omega,by omega,by omega,fun b hb=>by simp_all,by simp_all,by simp_all,by simp_all,by simp_all,by simp_all,by simp_all,by omega,by omega,oK hinv10.2 (by omega)⟩)
 have hg58:=bne_eq_false_iff_eq.1 hg58;refine sk4 ?_;refine sp2 hT ?_;refine nn<|cQ rfl rfl ?_;refine bJ<|bD<|bF<|sr<|sp hT ?_;refine ss (ldO hT (cS .head)) ?_;refine sp hT ?_;refine dF (t':=true) (by rw [hg58];rfl) ?_;refine sp2 hT ?_;refine ss (ldO hT (yK .head)) ?_;refine sp3 hT ?_;refine bY (fun hg73=>?_) (fun hg73=>?_)
 ·have hg73:=bne_iff_ne.1 hg73;refine sk4 ?_;refine sk4 ?_;refine sk ?_;refine sp hT ?_;refine nn<|cK rfl rfl ?_;refine sr<|sp hT ?_;refine nn<|bL<|bK ?_;exact bI () rfl (rv_tmp rfl) .nil trivial (hZ fun p=>by first | (have:=p.fn1 (by simp_all);simp_all;done) | (have:=p.fn3 (by simp_all);simp_all;done))
 have hg73:=bne_eq_false_iff_eq.1 hg73;refine sp hT ?_;refine ss (ldO hT (cS .head)) ?_;refine sp hT ?_;refine dF (t':=false) ((congrArg not (show(x.how==1)=true from (by rw [hg58];rfl)):(!_)=_)) ?_;refine sp hT ?_;refine sk4 ?_;refine sp2 hT ?_;refine nn<|cQ rfl rfl ?_;refine bJ<|bD<|bF<|sr<|sp hT ?_;refine ss (ldO hT (nF .head)) ?_;refine sp3 hT ?_;refine bY (fun hg88=>?_) (fun hg88=>?_)
 ·have hg88:=eq_of_beq hg88;refine sk4 ?_;refine sp2 hT ?_;refine sk4 ?_;refine sp hT ?_;refine nn<|cK rfl rfl ?_;refine sr<|sp hT ?_;refine nn<|bL<|bK ?_;exact bI () rfl (rv_tmp rfl) .nil trivial (hZ fun p=>by first | (have:=p.ops0;simp_all;done) | (have:=p.ops1;omega) | (have:=p.dep;omega))
 have hg88:=beq_eq_false_iff_ne.1 hg88;refine sp hT ?_;refine ss (ldO hT (nF .head)) ?_;refine sp4 hT ?_;refine bY (fun hg94=>?_) (fun hg94=>?_)
 ·have hg94:=of_decide_eq_true hg94;refine sk4 ?_;refine sp hT ?_;refine nn<|cK rfl rfl ?_;refine sr<|sp hT ?_;refine nn<|bL<|bK ?_;exact bI () rfl (rv_tmp rfl) .nil trivial (hZ fun p=>by first | (have:=p.ops0;simp_all;done) | (have:=p.ops1;omega) | (have:=p.dep;omega))
 have hg94:=Int.not_lt.1 (of_decide_eq_false hg94);refine sp hT ?_;refine ss (ldO hT (nF .head)) ?_;refine cP Tryz.func134 (yC x.ops.addr x.ops.cap x.ops.list (by omega)) rfl rfl .nil ⟨(Has.of mT3),(Has.of mT4),trivial⟩ fun _=>?_;refine sp2 hT ?_;refine nn<|bN rfl (fun hc99=>?_) (fun hc99=>?_)
 ·have hc99:=of_decide_eq_true hc99;refine sr<|sp hT ?_;refine nn<|bL<|bK ?_;exact bI () rfl (rv_tmp rfl) .nil trivial (hZ fun p=>by first | (have:=p.ops0;simp_all;done) | (have:=p.ops1;omega) | (have:=p.dep;omega))
 have hc99:=Int.not_lt.1 (of_decide_eq_false hc99);refine bJ<|bD<|bF<|sr<|sp hT ?_;refine nn<|bO<|cM (ι:=Nat) [(2,_),(3,_),(4,_)] ⟨rfl,rfl,rfl,trivial⟩ (fun i=>[(7,.int .i64 (i:Nat))]) (fun _=>[]) (fun i=>[bP.pure (i≤x.ops.list.length∧(x.ops.list.take i).all (wB c.vars x made)=true)]) (fun i=>x.ops.list.length-i) 0 ⟨rfl,trivial⟩ .nil ⟨Has.pure (⟨by omega,rfl⟩),trivial⟩ ?_;rintro i;refine bV (Has.of mT0) fun hinv10=>?_;refine bF<|sr<|sp2 hT ?_;refine ss (ldO hT (nF .head)) ?_;refine sp2 hT ?_;refine nn<|bN rfl (fun hc104=>?_) (fun hc104=>?_)
 ·have hc104:=of_decide_eq_true hc104;refine bJ<|bD<|bF<|bO<|bF ?_
  obtain⟨x8,hx9⟩: ∃x',x.ops.list[i]?=some x':=⟨_,List.getElem?_eq_getElem (by omega)⟩
  refine cB (opF x8) (Has.each (Has.of mT5) (List.mem_of_getElem? hx9)) ?_;refine dN _ _ [(true,0),(true,1),(true,2),(true,3),(true,4),(true,5),(true,6),(true,7),(true,8),(true,9),(true,10),(false,11),(true,12),(true,13),(true,14),(true,15),(true,16),(true,17),(true,18),(true,19),(true,20),(true,21),(true,22),(true,23),(true,24),(true,25),(true,26),(true,27),(true,28),(true,29),(true,30),(true,31),(true,32)] dP (by decide+kernel) (.cons .head (.cons .head .nil)) bH.self ?_;refine puM hT ?_;refine stM rfl (ldO hT (nF .head)) ?_;refine puM hT ?_;refine stM rfl (bG hT (k:=i) (bA (Has.of mT5)) rfl rfl rfl rfl rfl rfl rfl (by omega)) ?_;refine stM rfl (cN hT (bX.knows (bA (Has.of mT5)) (k:=i) (x:=x8) hx9 0) rfl rfl rfl rfl rfl) ?_;refine puM hT ?_;refine stM rfl (ldO hT (cS kT1)) ?_;refine puM hT ?_;refine stM rfl (ldO hT (jJ .head)) ?_;refine puM hT ?_;refine puM hT ?_;refine dD (o:=_) rfl ?_;refine cP Tryz.func135 (bJo x8 c.vars (x.loops.list.length:Nat) MA mc made hv hv6) rfl rfl .nil ⟨(Has.of mT0),(Has.of mT11),trivial⟩ fun _=>?_;refine dB (.cons .head (.cons .head .nil)) (bH.drop 0) ?_;refine puM hT ?_;refine puM hT ?_;refine bY (fun hg120=>?_) (fun hg120=>?_)
  ·have hg120:=gR hg120;refine bC rfl rfl rfl rfl ?_;refine bC rfl rfl rfl rfl ?_;refine bC rfl rfl rfl rfl ?_;refine bC rfl rfl rfl rfl ?_;refine bC rfl rfl rfl rfl ?_;refine bC rfl rfl rfl rfl ?_;refine bC rfl rfl rfl rfl ?_;refine bC rfl rfl rfl rfl ?_;refine bC rfl rfl rfl rfl ?_;refine bC rfl rfl rfl rfl ?_;refine bC rfl rfl rfl rfl ?_;refine bC rfl rfl rfl rfl ?_;refine bC rfl rfl rfl rfl ?_;refine bC rfl rfl rfl rfl ?_;refine bC rfl rfl rfl rfl ?_;refine bC rfl rfl rfl rfl ?_;refine bC rfl rfl rfl rfl ?_;refine bC rfl rfl rfl rfl ?_;refine puM hT ?_;refine cO<|bD<|cK rfl rfl ?_;refine sr<|sp hT ?_;refine nn<|bL<|bR<|bK<|bK<|bR<|bK ?_;exact bI () rfl (rv_tmp rfl) .nil trivial (hZ fun p=>by have h1:=p.ops;rw [pB hx9 (show wB c.vars x made x8=false by unfold wB;simp_all)] at h1;cases h1)
  have hg120:=gS hg120;refine puM hT ?_;refine stM rfl (ldO hT (nF .head)) ?_;refine puM hT ?_;refine stM rfl (bG hT (k:=i) (bA (Has.of mT5)) rfl rfl rfl rfl rfl rfl rfl (by omega)) ?_;refine puM hT ?_;refine stM rfl (bM hT (bX.knows (bA (Has.of mT5)) (k:=i) (x:=x8) hx9 0) rfl rfl rfl rfl rfl) ?_;refine puM hT ?_;refine puM hT ?_;refine bY (fun hg128=>?_) (fun hg128=>?_)
  ·have hg128:=eq_of_beq hg128;refine puM hT ?_;refine stM rfl (ldO hT (nF .head)) ?_;refine puM hT ?_;refine stM rfl (bG hT (k:=i) (bA (Has.of mT5)) rfl rfl rfl rfl rfl rfl rfl (by omega)) ?_;refine puM hT ?_;refine stM rfl (bM hT (bX.knows (bA (Has.of mT5)) (k:=i) (x:=x8) hx9 1) rfl rfl rfl rfl rfl) ?_;refine puM hT ?_;refine stM rfl (ldO hT (dE .head)) ?_;refine puM hT ?_;refine puM hT ?_;refine puM hT ?_;refine cO<|bD<|bN rfl (fun hc139=>?_) (fun hc139=>?_)
   ·have hc139:=eq_of_beq hc139;refine sr<|sp hT ?_;refine nn<|bL<|bR<|bK<|bK<|bR<|bK ?_;exact bI () rfl (rv_tmp rfl) .nil trivial (hZ fun p=>by have h1:=p.ops;rw [pB hx9 (show wB c.vars x made x8=false by unfold wB;simp_all)] at h1;cases h1)
   have hc139:=beq_eq_false_iff_ne.1 hc139;refine bJ<|bT<|bD<|bB<|sp2 hT ?_;refine bS (z':=(((i+1):Nat):Int)) (cG (by omega) (by omega)) ?_;refine sp hT ?_;refine nn ?_;exact bZ (i+1) (by omega) ⟨rfl,trivial⟩ ⟨rfl,rfl,rfl,trivial⟩ (.cons .head (.cons .head .nil)) ⟨Has.pure (⟨by omega,jN hinv10.2 hx9 (by unfold wB;simp_all)⟩),trivial⟩ (bH.drop 2)
  have hg128:=beq_eq_false_iff_ne.1 hg128;refine bC rfl rfl rfl rfl ?_;refine bC rfl rfl rfl rfl ?_;refine bC rfl rfl rfl rfl ?_;refine bC rfl rfl rfl rfl ?_;refine bC rfl rfl rfl rfl ?_;refine bC rfl rfl rfl rfl ?_;refine bC rfl rfl rfl rfl ?_;refine bC rfl rfl rfl rfl ?_;refine bC rfl rfl rfl rfl ?_;refine puM hT ?_;refine puM hT ?_;refine cO<|bD<|cQ rfl rfl ?_;refine bJ<|bT<|bD<|bB<|sp2 hT ?_;refine bS (z':=(((i+1):Nat):Int)) (cG (by omega) (by omega)) ?_;refine sp hT ?_;refine nn ?_;exact bZ (i+1) (by omega) ⟨rfl,trivial⟩ ⟨rfl,rfl,rfl,trivial⟩ (.cons .head (.cons .head .nil)) ⟨Has.pure (⟨by omega,jN hinv10.2 hx9 (by unfold wB;simp_all)⟩),trivial⟩ (bH.drop 2)
 have hc104:=Int.not_lt.1 (of_decide_eq_false hc104);refine cE<|bW<|bW<|cD<|bD<|sr<|sp hT ?_;refine nn<|bL ?_;exact bI () rfl (rv_tmp rfl) .nil trivial (step_yes ⟨by omega,by omega,by omega,by omega,fun b hb=>by simp_all,by simp_all,by simp_all,by simp_all,by simp_all,by simp_all,by simp_all,by omega,by omega,oK hinv10.2 (by omega)⟩)
end Go.Proofs.YtofjmphlpdhohaaGreatDoor
namespace Go.Proofs
open Go.Shelf
def Tryz.lays189_ren:Go.Shelf.Ren:=⟨fun | 189=>56 | 125=>116 | 257=>115 | 128=>178 | 129=>179 | 294=>170 | 295=>171 | 296=>172 | 297=>173 | 298=>174 | 299=>175 | 216=>129 | 300=>176 | 301=>177 | 328=>226 | 329=>227 | 330=>228 | 331=>229 | 332=>230 | 215=>187 | 343=>250 | n=>n,fun | 28=>24 | 3=>3 | 46=>206 | 0=>0 | 51=>270 | 53=>272 | 4=>4 | 183=>264 | 182=>263 | 131=>136 | 5=>5 | 9=>9 | 218=>317 | 222=>321 | 228=>348 | 229=>349 | n=>n,fun | n=>n⟩
theorem Tryz.lays189:Go.Proofs.Lays.n189 Tryz.prog Tryz.lays189_ren:={
 mixed:=by kernel_rfl
 f125:=Tryz.func116.trans (congrArg some (by kernel_rfl))
 f128:=Tryz.func178.trans (congrArg some (by kernel_rfl))
 f129:=Tryz.func179.trans (congrArg some (by kernel_rfl))
 f189:=Tryz.func56.trans (congrArg some (by kernel_rfl))
 f215:=Tryz.func187.trans (congrArg some (by kernel_rfl))
 f216:=Tryz.func129.trans (congrArg some (by kernel_rfl))
 f257:=Tryz.func115.trans (congrArg some (by kernel_rfl))
 f294:=Tryz.func170.trans (congrArg some (by kernel_rfl))
 f295:=Tryz.func171.trans (congrArg some (by kernel_rfl))
 f296:=Tryz.func172.trans (congrArg some (by kernel_rfl))
 f297:=Tryz.func173.trans (congrArg some (by kernel_rfl))
 f298:=Tryz.func174.trans (congrArg some (by kernel_rfl))
 f299:=Tryz.func175.trans (congrArg some (by kernel_rfl))
 f300:=Tryz.func176.trans (congrArg some (by kernel_rfl))
 f301:=Tryz.func177.trans (congrArg some (by kernel_rfl))
 f328:=Tryz.func226.trans (congrArg some (by kernel_rfl))
 f329:=Tryz.func227.trans (congrArg some (by kernel_rfl))
 f330:=Tryz.func228.trans (congrArg some (by kernel_rfl))
 f331:=Tryz.func229.trans (congrArg some (by kernel_rfl))
 f332:=Tryz.func230.trans (congrArg some (by kernel_rfl))
 f343:=Tryz.func250.trans (congrArg some (by kernel_rfl))
 t0:=Tryz.underlying0
 a0:=Tryz.isAgg0
 z0:=Tryz.sizeOf0
 v0:=Tryz.zeroValue0
 t3:=Tryz.underlying3
 a3:=Tryz.isAgg3
 z3:=Tryz.sizeOf3
 v3:=Tryz.zeroValue3
 t4:=Tryz.underlying4
 a4:=Tryz.isAgg4
 z4:=Tryz.sizeOf4
 v4:=Tryz.zeroValue4
 t5:=Tryz.underlying5
 a5:=Tryz.isAgg5
 z5:=Tryz.sizeOf5
 v5:=Tryz.zeroValue5
 t9:=Tryz.underlying9
 a9:=Tryz.isAgg9
 z9:=Tryz.sizeOf9
 v9:=Tryz.zeroValue9
 t28:=Tryz.underlying24
 a28:=Tryz.isAgg24
 z28:=Tryz.sizeOf24
 v28:=Tryz.zeroValue24
 t46:=Tryz.underlying206
 a46:=Tryz.isAgg206
 z46:=Tryz.sizeOf206
 v46:=Tryz.zeroValue206
 t51:=Tryz.underlying270
 a51:=Tryz.isAgg270
 z51:=Tryz.sizeOf270
 v51:=Tryz.zeroValue270
 t53:=Tryz.underlying272
 a53:=Tryz.isAgg272
 z53:=Tryz.sizeOf272
 v53:=Tryz.zeroValue272
 t131:=Tryz.underlying136
 a131:=Tryz.isAgg136
 z131:=Tryz.sizeOf136
 v131:=Tryz.zeroValue136
 t182:=Tryz.underlying263
 a182:=Tryz.isAgg263
 z182:=Tryz.sizeOf263
 v182:=Tryz.zeroValue263
 t183:=Tryz.underlying264
 a183:=Tryz.isAgg264
 z183:=Tryz.sizeOf264
 v183:=Tryz.zeroValue264
 t218:=Tryz.underlying317
 a218:=Tryz.isAgg317
 z218:=Tryz.sizeOf317
 v218:=Tryz.zeroValue317
 t222:=Tryz.underlying321
 a222:=Tryz.isAgg321
 z222:=Tryz.sizeOf321
 v222:=Tryz.zeroValue321
 t228:=Tryz.underlying348
 a228:=Tryz.isAgg348
 z228:=Tryz.sizeOf348
 v228:=Tryz.zeroValue348
 t229:=Tryz.underlying349
 a229:=Tryz.isAgg349
 z229:=Tryz.sizeOf349
 v229:=Tryz.zeroValue349}
open Go.Sort Go.RowKit in
theorem Tryz.slices_Sort_int(blk off cap:Nat)(zs:List Int)(w:World)(hH:Holds (Value.int .i64) w blk off zs.toArray)(hblk:blk<w.heap.size)(hsz:zs.length<4611686018427387904):
  Calls Tryz.prog 56 #[.slice (some ⟨blk,off,none⟩) zs.length cap] w fun e w'=>
   e= .returned (.tuple #[])∧ ∃n os,w'=grow (putRow (Value.int .i64) (Sort.ahead w n) blk off (zs.mergeSort fun x y=>decide (x≤y)).toArray) os:=Any.slices_Sort_int Tryz.lays189 blk off cap zs w hH hblk hsz
def Tryz.laysNm220_ren:Go.Shelf.Ren:=⟨fun | 20=>57 | n=>n,fun | 22=>24 | 3=>3 | 4=>4 | 0=>0 | n=>n,fun | n=>n⟩
theorem Tryz.laysNm220:Go.Proofs.Lays2.n20 Tryz.prog Tryz.laysNm220_ren:={
 mixed:=by kernel_rfl
 f20:=Tryz.func57.trans (congrArg some (by kernel_rfl))
 t0:=Tryz.underlying0
 a0:=Tryz.isAgg0
 z0:=Tryz.sizeOf0
 v0:=Tryz.zeroValue0
 t3:=Tryz.underlying3
 a3:=Tryz.isAgg3
 z3:=Tryz.sizeOf3
 v3:=Tryz.zeroValue3
 t4:=Tryz.underlying4
 a4:=Tryz.isAgg4
 z4:=Tryz.sizeOf4
 v4:=Tryz.zeroValue4
 t22:=Tryz.underlying24
 a22:=Tryz.isAgg24
 z22:=Tryz.sizeOf24
 v22:=Tryz.zeroValue24
 i3:=by kernel_rfl}
open Go.RowKit Go.Lib Go.Sort in
theorem Tryz.slices_Compact_int(blk off cap:Nat)(zs:List Int)(w:World)(hH:Holds (Value.int .i64) w blk off zs.toArray)(hsz:zs.length≤9223372036854775807)(hcap:zs.length≤cap):
  Calls Tryz.prog 57 #[.slice (some ⟨blk,off,none⟩) zs.length cap] w fun e w'=>e= .returned (.slice (some ⟨blk,off,none⟩) (Lib.compact zs).length cap)∧ ∃q,w'=putRow (Value.int .i64) (Sort.ahead w q) blk off (Lib.compact zs++List.replicate (zs.length-(Lib.compact zs).length) 0).toArray:=Any.slices_Compact_int Tryz.laysNm220 blk off cap zs w hH hsz hcap
open Go.RowKit Go.Lib Go.Sort in
theorem Tryz.slices_Compact_int_empty(a:Option Addr)(cap:Nat)(w:World):
  Calls Tryz.prog 57 #[.slice a 0 cap] w fun e w'=>e= .returned (.slice a 0 cap)∧w'=w:=Any.slices_Compact_int_empty Tryz.laysNm220 a cap w
open Go.RowKit Go.Sort in
theorem Tryz.slices_Sort_int_none(p:Option Addr)(cap:Nat)(w:World):
  Calls Tryz.prog 56 #[.slice p 0 cap] w fun e w'=>e= .returned (.tuple #[])∧w'=w:=Any.slices_Sort_int_none Tryz.lays189 p cap w
end Go.Proofs
namespace Go.Proofs.YtofjmphlpdhohaaGreatDoor
open Go.RowKit Go.Sort
section
variable {g off cap : Nat} {xs ys : List Int} {w w' : World}
theorem ints_all(xs:List Int):iG.all xs=xs.map (Value.int .i64):=by
 induction xs with
 | nil=>rfl
 | cons x r ih=>
  rw [List.map_cons,←ih];rfl
theorem wO(h:Holds (Value.int .i64) w g off xs.toArray):(iG.held (.slice (some ⟨g,off,none⟩) xs.length cap) xs).ok w:=by
 cases xs with
 | nil=>exact⟨_,_,rfl,.inl rfl⟩
 | cons x r=>
  obtain⟨h0,_⟩:=h 0 (by simp);unfold World.cell? at h0
  cases hh:w.heap[g]? with
  | none=>simp [hh] at h0
  | some o=>
   cases o with
   | cells cs t fz=>
    refine⟨_,_,rfl,.inr ⟨g,off,cs,t,fz,rfl,hh,fun j u hj=>?_⟩⟩;rw [ints_all,List.getElem?_map] at hj
    cases hx:(x::r)[j]? with
    | none=>rw [hx] at hj;cases hj
    | some z=>
     rw [hx] at hj;cases hj;have hlt:=(List.getElem?_eq_some_iff.1 hx).1;obtain⟨h1,h2⟩:=h j (by simpa using hlt)
     have hz:(x::r).toArray[j]! =z:=by
      rw [getElem!_pos _ j (by simpa using hlt)]
      simpa using (List.getElem?_eq_some_iff.1 hx).2
     rw [hz] at h1;refine⟨?_,?_⟩
     ·unfold World.cell? at h1;simp only [hh] at h1
      simpa using h1
     ·unfold World.frozen? at h2;simp only [hh] at h2;exact h2
   | _=>simp [hh] at h0
theorem wK(h:(iG.held (.slice (some ⟨g,off,none⟩) xs.length cap) xs).ok w):Holds (Value.int .i64) w g off xs.toArray:=fun j hj=>by
 have hlt:j<xs.length:=by simpa using hj
 obtain⟨g',off',cap',cs,t,fz,e,_,hh,hc⟩:=pP h hlt;injection e with e
 injection e with e
 injection e with e1 e2
 subst e1 e2
 have hz:xs.toArray[j]! =xs[j]:=by
  rw [getElem!_pos _ j (by simpa using hlt)];simp
 obtain⟨h1,h2⟩:=hc j (.int .i64 xs[j]) (by rw [ints_all,List.getElem?_map,List.getElem?_eq_getElem hlt];rfl);rw [hz];refine⟨?_,?_⟩
 ·unfold World.cell?;simp only [hh]
  simpa using h1
 ·unfold World.frozen?;simp only [hh];exact h2
theorem kept_put(d:Array Int)(n:Nat)(os:Array Obj):mU (fun b=>b=g) w (grow (putRow (Value.int .i64) (Sort.ahead w n) g off d) os) where
 os:=rfl
 tape:=rfl
 output:=rfl
 size:=by
  show w.heap.size≤((w.heap.modify g _)++os).size;simp
 block:=fun b hb hne=>by
  show((w.heap.modify g _)++os)[b]?=_;rw [Array.getElem?_append_left (by simpa using hb),Array.getElem?_modify,if_neg (Ne.symm hne)]
theorem holds_pre(h:Holds (Value.int .i64) w g off (xs++ys).toArray):Holds (Value.int .i64) w g off xs.toArray:=fun j hj=>by
 have hlt:j<xs.length:=by simpa using hj
 have:=h j (by simp;omega)
 have e:(xs++ys).toArray[j]! =xs.toArray[j]!:=by
  rw [getElem!_pos _ j (by simp;omega),getElem!_pos _ j (by simpa using hlt)];simp [List.getElem_append_left hlt]
 rwa [e] at this
end
def leB (x y:Int):Bool:=decide (x≤y)
def uY (l:List Int):List Int:=l.mergeSort leB
theorem vV(l:List Int):(uY l).length=l.length:=List.length_mergeSort l
theorem held_blk{A:Option Addr}{cap n:Nat}{x:Int}{r xs:List Int}(h:xs.length=(x::r).length):(iG.held (.slice A n cap) xs).blk=(iG.held (.slice A n cap) (x::r)).blk:=by
 cases xs with
 | nil=>cases h
 | cons y s=>rfl
theorem sort_spec(A:Option Addr)(cap:Nat)(xs:List Int)(hl:xs.length≤140737488355328):dG Tryz.prog 56 [.slice A xs.length cap] [iG.held (.slice A xs.length cap) xs] [] (fun _:Unit=> .tuple #[]) (fun _=>[iG.held (.slice A xs.length cap) (uY xs)]) (fun _=>[]):=fun S w s k=>by
 cases hx:xs with
 | nil=>
  refine(Tryz.slices_Sort_int_none A cap w).mono ?_;rintro e w' ⟨rfl,rfl⟩;subst hx;rw [show uY ([]:List Int)=[] by simp [uY]];exact⟨(),S,rfl,s,fun g hg=>by simp at hg⟩
 | cons x r=>
  have hok:=s.ok _ (List.mem_cons_self ..);have h1:0<xs.length:=by rw [hx];simp
  obtain⟨g,off,cap',cs,t,fz,e,hblk,hh,hc⟩:=pP hok h1;injection e with e1 e2 e3
  subst e1 e3;have hH:=wK hok;have hg:g<w.heap.size:=(s.own _ (List.mem_cons_self ..) g hblk).1;rw [←hx];refine(Tryz.slices_Sort_int g off cap xs w hH hg (by omega)).mono ?_;rintro e w' ⟨rfl,n,os,rfl⟩;have hH':=holds_grow (Value.int .i64) _ os g off _ (by show g<(w.heap.modify g _).size;simpa using hg) (holds_putRow (Value.int .i64) (Sort.ahead w n) g off xs.toArray (xs.mergeSort fun x y=>decide (x≤y)).toArray (holds_ahead _ w n g off _ hH) (by simp));have hlen:(uY xs).length=xs.length:=vV xs
  have hb':(iG.held (.slice (some ⟨g,off,none⟩) xs.length cap) (uY xs)).blk=some g:=by
   rw [←hblk];subst hx;exact held_blk hlen
  refine⟨(),S,rfl,s.swap (kept_put _ n os) hblk hb' ?_,fun g hg=>by simp at hg⟩;have:=wO (cap:=cap) hH';rw [List.length_mergeSort] at this;exact this
theorem compact_spec(A:Option Addr)(cap:Nat)(xs:List Int)(hl:xs.length≤140737488355328)(hcap:xs.length≤cap):dG Tryz.prog 57 [.slice A xs.length cap] [iG.held (.slice A xs.length cap) xs] [] (fun _:Unit=> .slice A (Lib.compact xs).length cap) (fun _=>[iG.held (.slice A (Lib.compact xs).length cap) (Lib.compact xs)]) (fun _=>[]):=fun S w s k=>by
 cases hx:xs with
 | nil=>
  refine(Tryz.slices_Compact_int_empty A cap w).mono ?_;rintro e w' ⟨rfl,rfl⟩;subst hx;exact⟨(),S,rfl,s,fun g hg=>by simp at hg⟩
 | cons x r=>
  have hok:=s.ok _ (List.mem_cons_self ..);have h1:0<xs.length:=by rw [hx];simp
  obtain⟨g,off,cap',cs,t,fz,e,hblk,hh,hc⟩:=pP hok h1;injection e with e1 e2 e3
  subst e1 e3;have hH:=wK hok;rw [←hx];refine(Tryz.slices_Compact_int g off cap xs w hH (by omega) hcap).mono ?_;rintro e w' ⟨rfl,q,rfl⟩
  have hle:(Lib.compact xs).length≤xs.length:=by
   unfold Lib.compact Lib.compactUpTo;rw [List.length_map];exact Nat.le_trans (List.length_filter_le ..) (by simp)
  have hH':=holds_putRow (Value.int .i64) (Sort.ahead w q) g off xs.toArray (Lib.compact xs++List.replicate (xs.length-(Lib.compact xs).length) 0).toArray (holds_ahead _ w q g off _ hH) (by simp;omega)
  have hk:mU (fun b=>b=g) w (putRow (Value.int .i64) (Sort.ahead w q) g off (Lib.compact xs++List.replicate (xs.length-(Lib.compact xs).length) 0).toArray):=⟨rfl,rfl,rfl,by show w.heap.size≤(w.heap.modify g _).size;simp,fun b hb hne=>by show(w.heap.modify g _)[b]?=_;rw [Array.getElem?_modify,if_neg (Ne.symm hne)]⟩
  have hok':=wO (cap:=cap) (holds_pre hH')
  cases hc:Lib.compact xs with
  | nil=>
   rw [hc] at hk hok';have s2:=s.swap hk hblk (c':= .gen (some g) fun _=>True) rfl trivial;refine⟨(),S,rfl,?_,fun g hg=>by simp at hg⟩;exact s2.recast' (fun b hb=>by cases hb) hok'
  | cons y t'=>
   rw [hc] at hk hok';have s2:=s.swap hk hblk (c':=iG.held (.slice (some ⟨g,off,none⟩) (y::t').length cap) (y::t')) rfl hok';exact⟨(),S,rfl,s2,fun g hg=>by simp at hg⟩
theorem compact_sub(xs:List Int): ∀z,z∈Lib.compact xs→z∈xs:=fun z hz=>by
 unfold Lib.compact Lib.compactUpTo at hz;obtain⟨j,hj,rfl⟩:=List.mem_map.1 hz;have hlt:=List.mem_range.1 (List.mem_filter.1 hj).1;rw [getElem!_pos _ j (by simpa using hlt)];simp
theorem bCh(xs:List Int): ∀(j:Nat) (z:Int),xs[j]?=some z→z∈Lib.compact xs
 | 0,z,h=>by
  have hlt:=(List.getElem?_eq_some_iff.1 h).1;refine List.mem_map.2 ⟨0,List.mem_filter.2 ⟨List.mem_range.2 hlt,Lib.keeps_lt_one _ 0 (by decide)⟩,?_⟩;rw [getElem!_pos _ 0 (by simpa using hlt)]
  simpa using (List.getElem?_eq_some_iff.1 h).2
 | j+1,z,h=>by
  have hlt:=(List.getElem?_eq_some_iff.1 h).1
  have hz:xs.toArray[j+1]! =z:=by
   rw [getElem!_pos _ (j+1) (by simpa using hlt)]
   simpa using (List.getElem?_eq_some_iff.1 h).2
  by_cases e:xs.toArray[j+1]! =xs.toArray[j]!
  ·have hy:xs[j]?=some z:=by
    rw [List.getElem?_eq_getElem (by omega)];rw [hz,getElem!_pos _ j (by simp;omega)] at e;rw [e];simp
   exact bCh xs j z hy
  ·exact List.mem_map.2 ⟨j+1,List.mem_filter.2 ⟨List.mem_range.2 hlt,Lib.keeps_pos (m:=j+1) e⟩,hz⟩
theorem mem_uses{xs:List Int}{z:Int}:z∈Lib.compact (uY xs)↔z∈xs:=by
 constructor
 ·exact fun h=>List.mem_mergeSort.1 (compact_sub _ z h)
 ·intro h;obtain⟨j,hj⟩:=List.mem_iff_getElem?.1 (List.mem_mergeSort.2 h:z∈uY xs);exact bCh _ j z hj
theorem uses_len{xs:List Int}:(Lib.compact (uY xs)).length≤xs.length:=by
 unfold Lib.compact Lib.compactUpTo;rw [List.length_map];refine Nat.le_trans (List.length_filter_le ..) ?_;rw [List.length_range,vV];exact Nat.le_refl _
end Go.Proofs.YtofjmphlpdhohaaGreatDoor
namespace Go.Proofs.YtofjmphlpdhohaaGreatDoor
open Go.RowKit Go.Sort
def qU (l:List OpV):List Int:=(l.filter fun o=>o.how==4).map (·.k)
def usesV (l:List OpV):List Int:=Lib.compact (uY (qU l))
theorem bKs(l:List OpV):(qU l).length≤l.length:=by
 unfold qU;rw [List.length_map];exact List.length_filter_le ..
theorem usesV_len(l:List OpV):(usesV l).length≤l.length:=Nat.le_trans uses_len (bKs l)
section
variable {l : List OpV} {i : Nat} {o : OpV} {us : List Int}
theorem uses_yes(h:us=qU (l.take i))(ho:l[i]?=some o)(e:o.how=4):us++[o.k]=qU (l.take (i+1)):=by
 subst h;rw [List.take_add_one,ho];simp [qU,e]
theorem uses_no(h:us=qU (l.take i))(ho:l[i]?=some o)(e:o.how≠4):us=qU (l.take (i+1)):=by
 subst h;rw [List.take_add_one,ho];simp [qU,e]
theorem uses_full(h:us=qU (l.take i))(hi:l.length≤i):us=qU l:=by rw [h,List.take_of_length_le hi]
theorem zL{z:Int}:z∈usesV l↔ ∃o∈l,o.how=4∧o.k=z:=by
 unfold usesV;rw [mem_uses];simp [qU,and_assoc]
end
set_option maxRecDepth 100000 in
theorem uses_spec(A:Option Addr)(c:Nat)(l:List OpV)(hl:l.length≤17592186044416):dG Tryz.prog 26 [.slice A l.length c] [] [opE.sl (.slice A l.length c) l] (fun(x:Option Addr×Nat)=> .slice x.1 (usesV l).length x.2) (fun _=>[]) (fun(x:Option Addr×Nat)=>[iG.sl (.slice x.1 (usesV l).length x.2) (usesV l)]):=by
 have hT:=dA;refine cJ Tryz.func26 rfl Tryz.ntmps26 rfl ?_;intro β hM;refine sr<|sp hT ?_;refine nn<|sr<|sp hT ?_;refine nn<|bF<|sr<|sp3 hT ?_;refine nn<|bO<|dY (t:=3) iG ?_;refine cM (ι:=Nat×List Int×Option Addr×Nat) [(6,_),(7,_)] ⟨rfl,rfl,trivial⟩ (fun⟨i,us,UA,uc⟩=>[(3,.slice UA us.length uc),(8,.int .i64 (i:Nat))]) (fun⟨i,us,UA,uc⟩=>[iG.row (.slice UA us.length uc) 3 us]) (fun⟨i,us,UA,uc⟩=>[bP.pure (i≤l.length∧us=qU (l.take i))]) (fun⟨i,us,UA,uc⟩=>l.length-i) (0,[],none,0) ⟨rfl,rfl,trivial⟩ (.cons .head .nil) ⟨Has.pure (⟨by omega,rfl⟩),trivial⟩ ?_;rintro⟨i,us,UA,uc⟩;dsimp only;refine bV (Has.of mT0) fun hinv3=>?_;have hul:us.length≤i:=by rw [hinv3.2];exact Nat.le_trans (bKs _) (List.length_take_le ..)
 refine sr<|sp hT ?_;refine nn<|bF<|bN rfl (fun hc9=>?_) (fun hc9=>?_)
 ·have hc9:=of_decide_eq_true hc9;refine bJ<|bD<|bF<|bO<|sr ?_
  obtain⟨x1,hx2⟩: ∃x',l[i]?=some x':=⟨_,List.getElem?_eq_getElem (by omega)⟩
  refine ss (bG hT (k:=i) (bA (Has.of mT1)) rfl rfl rfl rfl rfl rfl rfl (by omega)) ?_;refine ss (cN hT (bX.knows (bA (Has.of mT1)) (k:=i) (x:=x1) hx2 0) rfl rfl rfl rfl rfl) ?_;refine dZ rfl rfl rfl rfl wS rfl fun b3=>?_;refine sto hT .head ?_;refine nn<|sr<|sp hT ?_;refine ss (ldO hT (cS .head)) ?_;refine sp hT ?_;refine nn<|bN rfl (fun hc14=>?_) (fun hc14=>?_)
  ·have hc14:=eq_of_beq hc14;refine bB<|sp2 hT ?_;refine ss (ldO hT (dE .head)) ?_;refine wX (m:=x1.k) rfl rfl rfl rfl rfl fun b4=>?_;refine qB kT2 (gT .head rfl) rfl rfl rfl rfl rfl rfl rfl (by simp;omega) fun A5 c6=>?_;refine sp hT ?_;refine fW<|bT<|bD<|bB<|sp hT ?_;refine bS (z':=(((i+1):Nat):Int)) (cG (by omega) (by omega)) ?_;refine sp hT ?_;refine nn ?_;exact bZ (i+1,us++[x1.k],A5,c6) (by dsimp only;omega) ⟨rfl,rfl,trivial⟩ ⟨rfl,rfl,trivial⟩ (.cons .head .nil) ⟨Has.pure (⟨by dsimp only;omega,uses_yes hinv3.2 hx2 ‹_›⟩),trivial⟩ (bH.drop 1)
  have hc14:=beq_eq_false_iff_ne.1 hc14;refine bJ<|bT<|bD<|bB<|sp hT ?_;refine bS (z':=(((i+1):Nat):Int)) (cG (by omega) (by omega)) ?_;refine sp hT ?_;refine nn ?_;exact bZ (i+1,us,UA,uc) (by dsimp only;omega) ⟨rfl,rfl,trivial⟩ ⟨rfl,rfl,trivial⟩ (.cons kT1 .nil) ⟨Has.pure (⟨by dsimp only;omega,uses_no hinv3.2 hx2 ‹_›⟩),trivial⟩ (bH.drop 1)
 have hc9:=Int.not_lt.1 (of_decide_eq_false hc9);refine cE<|bW<|bW<|cD<|bD<|bF ?_;have hue:us=qU l:=uses_full hinv3.2 (by omega);refine bB<|sp hT ?_;refine bGk .head fun hcap=>?_;refine xS .head ?_;refine cP Tryz.func56 (sort_spec UA uc us (by omega)) rfl rfl (.cons .head .nil) trivial fun _=>?_;have hsl:=vV us;refine nn<|sr<|sp hT ?_;have cs:=compact_spec UA uc (uY us) (by omega) (by omega);rw [vV] at cs;refine cP Tryz.func57 cs rfl rfl (.cons .head .nil) trivial fun _=>?_;refine lW .head ?_;refine sp hT ?_;refine nn<|bL ?_;subst hue;exact bI (UA,uc) rfl (rv_tmp rfl) .nil ⟨(Has.of mT0),trivial⟩ rfl
end Go.Proofs.YtofjmphlpdhohaaGreatDoor
