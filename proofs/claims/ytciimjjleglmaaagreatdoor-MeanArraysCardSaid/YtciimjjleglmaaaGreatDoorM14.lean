/- Texts of one proof, one behind the other: PrimG, MeanL, MeanU, MeanA, MeanB. -/
import Derived.Test.YtciimjjleglmaaaGreatDoorM13
import Derived.Test.YtciimjjleglmaaaGreatDoorM11
namespace Go.Proofs.YtciimjjleglmaaaGreatDoor
open Go.RowKit
theorem const_map(N:Nat)(u:Int):((List.range N).map fun _=>u)=List.replicate N u:=by
  rw [List.map_const'];simp
theorem scans_total{f:Int}{a:Arr}(ha:cO a=true):(oB f (fD a).1 0).1.flatten.length≤65536:=by
  rw [uU f _ 0 (zF ha)];exact(pD ha).1
set_option maxRecDepth 100000 in
theorem FoldS_spec(f:Int)(x:ArrV)(hx:cO x.arr=true):dH Tryz.prog 49 [.int .u8 f,.agg #[.slice x.sides.addr x.sides.list.length x.sides.cap,.slice x.data.addr x.data.list.length x.data.cap]] [] [gA x] (fun(y:ArrV)=> .tuple #[.agg #[.slice y.sides.addr y.sides.list.length y.sides.cap,.slice y.data.addr y.data.list.length y.data.cap],.int .i64 (lW f x.arr).2]) (fun _=>[]) (fun(y:ArrV)=>[gA y,Fact.pure (y.arr=(lW f x.arr).1)]):=by
  have hT:=dB;generalize hR:lW f x.arr=r;refine cQ Tryz.func49 rfl Tryz.ntmps49 rfl ?_;intro β hM;refine bA<|bV (cT.sl (.slice x.data.addr x.data.list.length x.data.cap) x.data.list) (jT (Has.of mT0)) ?_;refine bV (cT.sl (.slice x.sides.addr x.sides.list.length x.sides.cap) x.sides.list) (jL (Has.of mT1)) ?_;refine cE (mY (Has.of mT2)) fun hcap=>?_;have hcs:=hcap.1;have hcd:=hcap.2;have hs4:x.sides.list.length≤4:=iC hx;have hd6:x.data.list.length≤65536:=gS hx;refine bF<|fH rfl rfl rfl rfl rfl rfl fun b1=>?_;refine cF rfl rfl rfl rfl jR rfl fun b2=>?_;refine sp hT ?_;refine nn<|bA<|sr<|ss (ldN hT (bM kT1)) ?_;refine bO Tryz.func16 (jJ x (by omega)) rfl rfl .nil ⟨(Has.of mT0),trivial⟩ fun _=>?_;refine cI (t':=true) (hx) ?_;refine sp hT ?_;refine nn<|cN rfl rfl ?_;refine bK<|bB<|bA<|sr<|sp hT ?_;refine bO Tryz.func36 (lB _ _) rfl rfl .nil trivial fun _=>?_;refine sp hT ?_;refine nn<|bH rfl (fun hc29=>?_) (fun hc29=>?_)
  · have hc29:=fW hc29;refine sr<|bO Tryz.func32 (dD _) rfl rfl .nil trivial fun _=>?_;refine sp2 hT ?_;refine sto hT .head ?_;refine sp hT ?_;refine nn<|bG<|bC ?_;have hr:=hR.symm.trans (foA_no hx (by assumption));subst hr;exact bL jX rfl (bN hT (bM .head) rfl rfl rfl rfl) (bD rfl) .nil ⟨fN,Has.pure rfl,trivial⟩ rfl
  have hc29:=fL hc29;refine bK<|bB<|sr<|sp hT ?_;refine ss (ldO hT (bM kT1)) ?_;refine sp2 hT ?_;refine nn<|bA<|sr<|sp2 hT ?_;refine nn<|bH rfl (fun hc37=>?_) (fun hc37=>?_)
  · have hc37:=eq_of_beq hc37;refine sr<|sp hT ?_;refine ss (ldO hT (dE kT1)) ?_;refine bO Tryz.func25 (dK _ _ _ (by omega)) rfl rfl .nil ⟨(Has.of mT1),trivial⟩ fun⟨A3,c4⟩=>?_;refine dV .head fun hgc=>?_;refine bW .head ?_;refine bO Tryz.func67 (fK _ _ _ _ _ ([]:List Int) (by first | omega | (simp;done) | (simp;omega))) rfl rfl .nil ⟨rW,trivial⟩ fun⟨A5,c6⟩=>?_;refine cE (Has.of mT1) fun hgs=>?_;refine sp2 hT ?_;refine sto hT .head ?_;refine sp hT ?_;refine nn<|bG<|bC ?_;have hr:=hR.symm.trans (foA_nil hx (by assumption) (by show x.sides.list.length=0;omega));subst hr;exact bL (⟨⟨A5,c6,([]:List Int)⟩,⟨A3,c4,x.data.list⟩⟩:ArrV) rfl (bN hT (bM .head) rfl rfl rfl rfl) (bD rfl) .nil ⟨fA (dS (Has.of mT0) (by first | rfl | (simp;done))) (dS (Has.of mT2) (by first | rfl | exact hlen.symm | (simp;done) | (simp;omega) | (simp [dA];done))) ⟨hgs,hgc⟩,Has.pure rfl,trivial⟩ (by first | rfl | (simp;done) | (simp;omega) | (simp [dA];done))
  have hc37:=beq_eq_false_iff_ne.1 hc37;refine bK<|bB<|sr<|sp hT ?_;refine ss (ldO hT (bM kT1)) ?_;refine sp2 hT ?_;refine bP (z':=(((x.sides.list.length-1):Nat):Int)) (cK (by omega) (by omega)) ?_;refine ss (qE hT (k:=x.sides.list.length-1) rfl rfl rfl rfl rfl rfl (by omega)) ?_;refine bV (cT.sl (.slice x.sides.addr (x.sides.list.length-1) x.sides.cap) (x.sides.list.take (x.sides.list.length-1))) (jS (Has.of mT0) (by omega)) ?_;have hlen:(x.sides.list.take (x.sides.list.length-1)).length=x.sides.list.length-1:=by rw [List.length_take];omega
  have csp:=dK x.sides.addr x.sides.cap (x.sides.list.take (x.sides.list.length-1)) (by rw [hlen];omega);rw [hlen] at csp;refine bO Tryz.func25 csp rfl rfl .nil ⟨(Has.of mT0),trivial⟩ fun⟨A7,c8⟩=>?_;refine sp hT ?_;refine nn<|bA ?_;obtain⟨N,hN,hN6⟩:=size_nat (x.sides.list.take (x.sides.list.length-1));refine bF<|sp hT ?_;have zsp:=kT A7 c8 (x.sides.list.take (x.sides.list.length-1)) (by rw [hlen];omega);rw [hlen] at zsp;refine jF (cS Tryz.func28 rfl rfl) zsp rfl rfl rfl rfl rfl .nil (.cons .head .nil) (nG nF) ⟨Has.of mT0,trivial⟩ (fun _=>True) (fun _ _ _ _=>trivial) fun _ _=>?_;refine sp2 hT ?_;refine bP (z':=((N:Nat):Int)) hN ?_;refine sp3 hT ?_;refine nn<|bA<|sr<|sp2 hT ?_;refine nn<|bH rfl (fun hc56=>?_) (fun hc56=>?_)
  · have hc56:=bne_iff_ne.1 hc56;refine sr<|bO Tryz.func32 (dD _) rfl rfl .nil trivial fun _=>?_;refine sp2 hT ?_;refine sto hT kT1 ?_;refine sp hT ?_;refine nn<|bG<|bC ?_;have hr:=hR.symm.trans (foA_size hx (by assumption) (by show x.sides.list.length≠0;omega) (by assumption));subst hr;exact bL jX rfl (bN hT (bM .head) rfl rfl rfl rfl) (bD rfl) .nil ⟨fN,Has.pure rfl,trivial⟩ rfl
  have hc56:=bne_eq_false_iff_eq.1 hc56;refine bK<|bB<|sr<|sp hT ?_;refine bO Tryz.func37 (bDx f) rfl rfl .nil trivial fun⟨bf9,bp10⟩=>?_;refine sp hT ?_;refine nn<|sr<|sp hT ?_;refine pI (m:=N) rfl rfl rfl rfl rfl rfl (by omega) fun b11=>?_;refine sp hT ?_;refine nn<|bA<|sr<|sp hT ?_;refine ss (ldO hT (bM kT4)) ?_;refine sp2 hT ?_;refine bP (z':=(((x.sides.list.length-1):Nat):Int)) (cK (by omega) (by omega)) ?_
  obtain⟨x12,hx13⟩: ∃x',x.sides.list[(x.sides.list.length-1)]?=some x':=⟨_,List.getElem?_eq_getElem (by omega)⟩
  refine ss (bS hT (k:=(x.sides.list.length-1)) (bJ (Has.of mT2)) rfl rfl rfl rfl rfl rfl rfl (by omega)) ?_;refine ss (cA hT (cR.knows (bJ (Has.of mT2)) (k:=(x.sides.list.length-1)) (x:=x12) hx13 0) rfl rfl rfl rfl rfl) ?_;refine sp hT ?_;refine nn<|bH rfl (fun hc70=>?_) (fun hc70=>?_)
  · have hc70:=eq_of_beq hc70;refine sr<|sp hT ?_;refine bO Tryz.func80 (Unit_spec _) rfl rfl .nil trivial fun _=>?_;refine sp4 hT ?_;refine sp hT ?_;refine nn<|bA<|sr<|sp3 hT ?_;refine nn<|bR<|dC (ι:=Nat×List Int) [(4,_),(7,_),(10,_),(11,_),(12,_),(77,_)] ⟨rfl,rfl,rfl,rfl,rfl,rfl,trivial⟩ (fun⟨i,cur⟩=>[(78,.int .i64 (i:Nat))]) (fun⟨i,cur⟩=>[cT.row (.slice (some ⟨b11,0,none⟩) N N) 2 cur]) (fun⟨i,cur⟩=>[Fact.pure (i≤N∧bGm (fun _=>(pE f).1) N cur i)]) (fun⟨i,cur⟩=>N-i) (0,List.replicate N 0) ⟨rfl,trivial⟩ (.cons .head .nil) ⟨Has.pure (⟨by omega,bBd _ _⟩),trivial⟩ ?_;rintro⟨i,cur⟩;dsimp only;refine cE (Has.of mT0) fun hinv17=>?_;refine sr<|sp hT ?_;refine nn<|bA<|bH rfl (fun hc79=>?_) (fun hc79=>?_)
    · have hc79:=of_decide_eq_true hc79;refine bK<|bB<|bA<|bR<|sr<|sp2 hT ?_;refine nn<|bF<|sp3 hT ?_
      obtain⟨x14,hx15⟩: ∃x',cur[i]?=some x':=⟨_,List.getElem?_eq_getElem (by have:=hinv17.2.1;omega)⟩
      refine ss (fF hT (k:=i) rfl rfl rfl rfl rfl rfl (by have:=hinv17.2.1;omega)) ?_;refine dG hT (k:=i) (fo:=0) (y':=(pE f).1) .head rfl rfl rfl rfl rfl rfl rfl rfl rfl hx15 rfl ?_;refine dT<|bY<|bB<|bF<|sp hT ?_;refine bP (z':=(((i+1):Nat):Int)) (cK (by omega) (by omega)) ?_;refine sp hT ?_;refine nn ?_;exact cP (i+1,_) (by dsimp only;omega) ⟨rfl,trivial⟩ ⟨rfl,rfl,rfl,rfl,rfl,rfl,trivial⟩ (.cons .head (.cons .head (.cons .head (.cons .head (.cons .head .nil))))) ⟨Has.pure (⟨by dsimp only;omega,bFq hinv17.2 (by omega) rfl⟩),trivial⟩ (bE.drop 1)
    have hc79:=Int.not_lt.1 (of_decide_eq_false hc79);refine cW<|cJ<|cJ<|cX<|bB<|bA ?_;have hge:=gen_end hinv17.2 (by omega) (by omega);subst hge;rw [const_map];refine bF<|sp3 hT ?_;refine bO Tryz.func40 (mS bp10 bf9 _ rfl _ _ _ _ _ _) rfl rfl (.cons kT1 .nil) trivial fun _=>?_;refine sp2 hT ?_;refine sto hT kT3 ?_;refine sp hT ?_;refine nn<|bG<|bC ?_;have hr:=hR.symm.trans (foA_unit hx (by assumption) (by show x.sides.list.length≠0;omega) (by show(dW (x.sides.list.take (x.sides.list.length-1))).2=0;omega) hN hx13 (by assumption));subst hr;refine dV kT3 fun hga=>?_;refine bW kT3 ?_;refine dV kT2 fun hgb=>?_;refine bW kT2 ?_;exact bL (⟨⟨A7,c8,(x.sides.list.take (x.sides.list.length-1))⟩,⟨(some ⟨b11,0,none⟩),N,(List.replicate N (pE f).1)⟩⟩:ArrV) rfl (bN hT (bM .head) rfl rfl rfl rfl) (bD rfl) .nil ⟨fA (dS (Has.of mT1) (by first | rfl | exact hlen.symm | (simp;done))) (dS (Has.of mT0) (by first | rfl | (simp;done) | (simp;omega) | omega)) ⟨hga,hgb⟩,Has.pure rfl,trivial⟩ (by first | rfl | (simp;done) | (simp;omega))
  have hc70:=beq_eq_false_iff_ne.1 hc70;refine bK<|bB<|sr<|ss (ldN hT (bM kT4)) ?_;refine bO Tryz.func76 (vD x (by omega) (by omega) hcd) rfl rfl .nil ⟨(Has.of mT2),(Has.of mT3),trivial⟩ fun⟨LA,Lc,xs⟩=>?_;refine iS (H':=_::([_,_,_,_,_]++xs.map laneRow)) (List.Perm.cons _ List.perm_append_comm) ?_;refine cE (Has.of mT0) fun hxl=>?_;have hlt:=pD hx;have hxn:xs.length=(fD x.arr).1.length:=by rw [←hxl,List.length_map]
  refine sp4 hT ?_;refine sp hT ?_;refine nn<|bA<|bA<|iS (List.perm_append_comm (l₁:=[_,_,_,_,_,_])) ?_;refine mI xs ?_;refine bW .head ?_;have hfl:=fold_lanes hx (by show(dW (x.sides.list.take (x.sides.list.length-1))).2=0;omega) hN hx13 (by assumption);have hxN:xs.length=N:=hxn.trans hfl;refine bF<|sp3 hT ?_;refine nn<|bR<|dC (ι:=Nat×Int×List Int) [(4,_),(7,_),(10,_),(11,_),(97,_),(98,_)] ⟨rfl,rfl,rfl,rfl,rfl,rfl,trivial⟩ (fun⟨i,w,o⟩=>[(99,.int .i64 (i:Nat))]) (fun⟨i,w,o⟩=>[pV bp10 bf9 w,cT.row (.slice (some ⟨b11,0,none⟩) N N) 2 o]) (fun⟨i,w,o⟩=>[Fact.pure (i≤xs.length∧yA f (xs.map (·.list)) i o w (pO f (xs.map (·.list)) 0)∧o.length=N)]) (fun⟨i,w,o⟩=>xs.length-i) (0,0,List.replicate N 0) ⟨rfl,trivial⟩ (.cons kT1 (.cons .head .nil)) ⟨Has.pure (⟨by omega,folds_start _ _ _ (by rw [List.length_map,List.length_replicate];omega),by simp⟩),trivial⟩ ?_;rintro⟨i,w,o⟩;dsimp only;refine cE (Has.of mT0) fun hinv24=>?_;refine sr<|sp hT ?_;refine nn<|bA<|bH rfl (fun hc100=>?_) (fun hc100=>?_)
  · have hc100:=of_decide_eq_true hc100;refine bK<|bB<|bA<|bR<|sr<|sp hT ?_
    obtain⟨x16,hx17⟩: ∃x',xs[i]?=some x':=⟨_,List.getElem?_eq_getElem (by omega)⟩
    refine ss (bS hT (k:=i) (bJ (Has.of mT1)) rfl rfl rfl rfl rfl rfl rfl (by omega)) ?_;refine ss (cA hT (cR.knows (bJ (Has.of mT1)) (k:=i) (x:=x16) hx17 0) rfl rfl rfl rfl rfl) ?_;refine sp2 hT ?_;refine nn<|bA<|cE (Has.right (Has.each (Has.of mT2) (List.mem_of_getElem? hx17))) fun hlc=>?_;refine bV (cT.sl (.slice x16.addr x16.list.length x16.cap) x16.list) (Has.left (Has.each (Has.of mT2) (List.mem_of_getElem? hx17))) ?_;have hne:x16.list≠[]:=zF hx _ (by rw [←hxl];exact List.mem_map.2 ⟨_,List.mem_of_getElem? hx17,rfl⟩);have hnl:=List.length_pos_iff.2 hne;have hll:=bEd (vF hx hxl) hx17;refine bF<|sp3 hT ?_
    obtain⟨x18,hx19⟩: ∃x',x16.list[0]?=some x':=⟨_,List.getElem?_eq_getElem (by omega)⟩
    refine ss (bS hT (k:=0) (bJ (Has.of mT0)) rfl rfl rfl rfl rfl rfl rfl (by omega)) ?_;refine ss (cA hT (cR.knows (bJ (Has.of mT0)) (k:=0) (x:=x18) hx19 0) rfl rfl rfl rfl rfl) ?_
    obtain⟨x20,hx21⟩: ∃x',o[i]?=some x':=⟨_,List.getElem?_eq_getElem (by have:=hinv24.2.2;omega)⟩
    refine ss (fF hT (k:=i) rfl rfl rfl rfl rfl rfl (by have:=hinv24.2.2;omega)) ?_;refine dG hT (k:=i) (fo:=0) (y':=x18) kT1 rfl rfl rfl rfl rfl rfl rfl rfl rfl hx21 rfl ?_;refine nn<|sr<|sp hT ?_;refine ss (gR hT (k:=1) rfl rfl rfl rfl rfl rfl (by omega)) ?_;refine bV (cT.sl (.slice (jD x16.addr 1 cT.size x16.cap) (x16.list.length-1) (x16.cap-1)) (x16.list.drop 1)) (lJ (Has.of mT0) hlc (by omega)) ?_;refine sp2 hT ?_;refine nn<|bR<|dC (ι:=Nat×Int×Int×List Int) [(4,_),(7,_),(10,_),(11,_),(17,_),(97,_),(98,_),(99,_),(111,_),(112,_)] ⟨rfl,rfl,rfl,rfl,rfl,rfl,rfl,rfl,rfl,rfl,trivial⟩ (fun⟨k,n,w2,o2⟩=>[(113,.int .i64 (k:Nat))]) (fun⟨k,n,w2,o2⟩=>[pV bp10 bf9 w2,cT.row (.slice (some ⟨b11,0,none⟩) N N) 2 o2]) (fun⟨k,n,w2,o2⟩=>[Fact.pure (k≤x16.list.length-1∧o2=o.set i n∧bAc f (x16.list.drop 1) k n w2 (zO f (x16.list.drop 1) x18 w))]) (fun⟨k,n,w2,o2⟩=>x16.list.length-k) (0,x18,w,o.set i x18) ⟨rfl,trivial⟩ (.cons kT1 (.cons .head .nil)) ⟨Has.pure (⟨by omega,rfl,rfl⟩),trivial⟩ ?_;rintro⟨k,n,w2,o2⟩;dsimp only;refine cE (Has.of mT0) fun hinv28=>?_;refine sr<|sp hT ?_;refine nn<|bA<|bH rfl (fun hc114=>?_) (fun hc114=>?_)
    · have hc114:=of_decide_eq_true hc114;refine bK<|bB<|bA<|bR<|sr ?_
      obtain⟨x22,hx23⟩: ∃x',(x16.list.drop 1)[k]?=some x':=⟨_,List.getElem?_eq_getElem (by first | omega | (rw [List.length_drop];omega))⟩
      refine ss (bS hT (k:=k) (bJ (Has.of mT1)) rfl rfl rfl rfl rfl List.length_drop.symm rfl (by first | omega | (rw [List.length_drop];omega))) ?_;refine ss (cA hT (cR.knows (bJ (Has.of mT1)) (k:=k) (x:=x22) hx23 0) rfl rfl rfl rfl rfl) ?_;refine sp hT ?_;refine nn ?_;have hon:o2[i]?=some n:=by rw [hinv28.2.1];exact List.getElem?_set_self (by have:=hinv24.2.2;omega)
      refine bF<|sp4 hT ?_;refine sp hT ?_;refine ss (fF hT (k:=i) rfl rfl rfl rfl rfl rfl (by omega)) ?_;refine ss (cA hT (cR.knows (cD kT1) (k:=i) (x:=n) hon 0) rfl rfl rfl rfl rfl) ?_;refine sp hT ?_;refine bO Tryz.func39 (qD bp10 bf9 f w2 n x22) rfl rfl (.cons .head .nil) ⟨(Has.of mT7),trivial⟩ fun _=>?_;refine ss (fF hT (k:=i) rfl rfl rfl rfl rfl rfl (by omega)) ?_;refine dG hT (k:=i) (fo:=0) (y':=(gC f w2 n x22).1) kT1 rfl rfl rfl rfl rfl rfl rfl rfl rfl hon rfl ?_;refine dT<|bY<|bB<|bF<|sp hT ?_;refine bP (z':=(((k+1):Nat):Int)) (cK (by omega) (by omega)) ?_;refine sp hT ?_;refine nn ?_;exact cP (k+1,(gC f w2 n x22).1,(gC f w2 n x22).2,_) (by dsimp only;omega) ⟨rfl,trivial⟩ ⟨rfl,rfl,rfl,rfl,rfl,rfl,rfl,rfl,rfl,rfl,trivial⟩ (.cons kT1 (.cons .head (.cons .head (.cons .head (.cons .head .nil))))) ⟨Has.pure (⟨by dsimp only;omega,by dsimp only;rw [hinv28.2.1,List.set_set],fold_step hinv28.2.2 hx23⟩),trivial⟩ (bE.drop 1)
    have hc114:=Int.not_lt.1 (of_decide_eq_false hc114);refine cW<|cJ<|cJ<|cX<|bY<|bB ?_
    have hfe:=(fold_end hinv28.2.2 (by rw [List.length_drop];omega))
    refine bF<|sp hT ?_;refine bP (z':=(((i+1):Nat):Int)) (cK (by omega) (by omega)) ?_;refine sp hT ?_;refine nn ?_;exact cP (i+1,w2,o2) (by dsimp only;omega) ⟨rfl,trivial⟩ ⟨rfl,rfl,rfl,rfl,rfl,rfl,trivial⟩ (.cons .head (.cons .head (.cons .head (.cons .head (.cons .head .nil))))) ⟨Has.pure (⟨by dsimp only;omega,folds_step hinv24.2.1 (jP hx17) hinv28.2.1 (by rw [←List.drop_one,lS hx19];exact hfe),by dsimp only;rw [hinv28.2.1,List.length_set];exact hinv24.2.2⟩),trivial⟩ (bE.drop 4)
  have hc100:=Int.not_lt.1 (of_decide_eq_false hc100);refine cW<|cJ<|cJ<|cX<|bB<|bA ?_;have hze:=folds_end hinv24.2.1 (by rw [List.length_map];omega);rw [hxl] at hze;have hol:=hinv24.2.2
  rcases Classical.em (w=0) with hw0 | hw0
  · refine bF<|sp3 hT ?_;refine bO Tryz.func40 (mS bp10 bf9 _ hw0 _ _ _ _ _ _) rfl rfl (.cons .head .nil) trivial fun _=>?_;refine sp2 hT ?_;refine sto hT kT3 ?_;refine sp hT ?_;refine nn<|bG ?_;have hr:=hR.symm.trans ((foA_ok hx (by assumption) (by show x.sides.list.length≠0;omega) (by show(dW (x.sides.list.take (x.sides.list.length-1))).2=0;omega) hx13 (by assumption)).trans (sN hze hw0));subst hr;refine dV kT3 fun hga=>?_;refine bW kT3 ?_;refine dV kT2 fun hgb=>?_;refine bW kT2 ?_;exact bL (⟨⟨A7,c8,(x.sides.list.take (x.sides.list.length-1))⟩,⟨(some ⟨b11,0,none⟩),N,o⟩⟩:ArrV) rfl (bN hT (bM .head) rfl rfl rfl rfl) (bD rfl) .nil ⟨fA (dS (Has.of mT1) (by first | rfl | (simp;done))) (dS (Has.of mT0) (by first | rfl | (simp;done) | (simp;omega) | omega)) ⟨hga,hgb⟩,Has.pure rfl,trivial⟩ (by first | rfl | (simp;done) | (simp;omega))
  refine bF<|sp3 hT ?_;refine bO Tryz.func40 (oQ bp10 bf9 _ hw0 _ _ _ _ _ _) rfl rfl (.cons .head .nil) trivial fun _=>?_;refine sp2 hT ?_;refine sto hT kT3 ?_;refine sp hT ?_;refine nn<|bG ?_;have hr:=hR.symm.trans ((foA_ok hx (by assumption) (by show x.sides.list.length≠0;omega) (by show(dW (x.sides.list.take (x.sides.list.length-1))).2=0;omega) hx13 (by assumption)).trans (qI hze hw0));subst hr;exact bL jX rfl (bN hT (bM .head) rfl rfl rfl rfl) (bD rfl) .nil ⟨fN,Has.pure rfl,trivial⟩ rfl
set_option maxRecDepth 100000 in
theorem ScanS_spec(f:Int)(x:ArrV)(hx:cO x.arr=true):dH Tryz.prog 50 [.int .u8 f,.agg #[.slice x.sides.addr x.sides.list.length x.sides.cap,.slice x.data.addr x.data.list.length x.data.cap]] [] [gA x] (fun(y:ArrV)=> .tuple #[.agg #[.slice y.sides.addr y.sides.list.length y.sides.cap,.slice y.data.addr y.data.list.length y.data.cap],.int .i64 (pU f x.arr).2]) (fun _=>[]) (fun(y:ArrV)=>[gA y,Fact.pure (y.arr=(pU f x.arr).1)]):=by
  have hT:=dB;generalize hR:pU f x.arr=r;refine cQ Tryz.func50 rfl Tryz.ntmps50 rfl ?_;intro β hM;refine bA<|bV (cT.sl (.slice x.data.addr x.data.list.length x.data.cap) x.data.list) (jT (Has.of mT0)) ?_;refine bV (cT.sl (.slice x.sides.addr x.sides.list.length x.sides.cap) x.sides.list) (jL (Has.of mT1)) ?_;refine cE (mY (Has.of mT2)) fun hcap=>?_;have hcs:=hcap.1;have hcd:=hcap.2;have hs4:x.sides.list.length≤4:=iC hx;have hd6:x.data.list.length≤65536:=gS hx;refine bF<|fH rfl rfl rfl rfl rfl rfl fun b1=>?_;refine cF rfl rfl rfl rfl jR rfl fun b2=>?_;refine sp hT ?_;refine nn<|bA<|sr<|ss (ldN hT (bM kT1)) ?_;refine bO Tryz.func16 (jJ x (by omega)) rfl rfl .nil ⟨(Has.of mT0),trivial⟩ fun _=>?_;refine cI (t':=true) (hx) ?_;refine sp hT ?_;refine nn<|cN rfl rfl ?_;refine bK<|bB<|bA<|sr<|sp hT ?_;refine bO Tryz.func36 (lB _ _) rfl rfl .nil trivial fun _=>?_;refine sp hT ?_;refine nn<|bH rfl (fun hc20=>?_) (fun hc20=>?_)
  · have hc20:=fW hc20;refine sr<|bO Tryz.func32 (dD _) rfl rfl .nil trivial fun _=>?_;refine sp2 hT ?_;refine sto hT .head ?_;refine sp hT ?_;refine nn<|bG<|bC ?_;have hr:=hR.symm.trans (scA_no hx (by assumption));subst hr;exact bL jX rfl (bN hT (bM .head) rfl rfl rfl rfl) (bD rfl) .nil ⟨fN,Has.pure rfl,trivial⟩ rfl
  have hc20:=fL hc20;refine bK<|bB<|sr<|sp hT ?_;refine bO Tryz.func37 (bDx f) rfl rfl .nil trivial fun⟨bf3,bp4⟩=>?_;refine sp hT ?_;refine nn<|sr<|ss (ldN hT (bM kT2)) ?_;refine bO Tryz.func76 (vD x (by omega) (by omega) hcd) rfl rfl .nil ⟨(Has.of mT1),(Has.of mT2),trivial⟩ fun⟨LA,Lc,xs⟩=>?_;refine iS (H':=_::([_,_,_]++xs.map laneRow)) (List.Perm.cons _ List.perm_append_comm) ?_;refine cE (Has.of mT0) fun hxl=>?_;have hlt:=pD hx;have hxn:xs.length=(fD x.arr).1.length:=by rw [←hxl,List.length_map]
  refine sp4 hT ?_;refine sp hT ?_;refine nn<|bA<|sr<|sp3 hT ?_;refine nn<|bR<|zQ (ι:=Nat×Int×List (Sl Int)) [(3,_),(4,_),(6,_),(7,_),(31,_),(32,_)] ⟨rfl,rfl,rfl,rfl,rfl,rfl,trivial⟩ (fun⟨i,w,cur⟩=>[(33,.int .i64 (i:Nat))]) (fun⟨i,w,cur⟩=>[jA.row (.slice LA xs.length Lc) 30 cur,pV bp4 bf3 w]) [_,_] (fun⟨i,w,cur⟩=>cur) (fun⟨i,w,cur⟩=>[Fact.pure (i≤xs.length∧cur.length=xs.length∧wG f (xs.map (·.list)) (cur.map (·.list)) i w (oB f (xs.map (·.list)) 0)∧(∀s∈cur,s.list.length≤65536))]) (fun⟨i,w,cur⟩=>xs.length-i) (0,0,xs) ⟨rfl,trivial⟩ (.cons .head (.cons .head .nil)) ⟨Has.pure (⟨by omega,rfl,scans_start _ _,vF hx hxl⟩),trivial⟩ ?_;rintro⟨i,w,cur⟩;dsimp only;refine cE (Has.of mT0) fun hinv8=>?_;refine sr<|sp hT ?_;refine nn<|bA<|bH rfl (fun hc34=>?_) (fun hc34=>?_)
  · have hc34:=of_decide_eq_true hc34;refine bK<|bB<|bA<|bR<|sr ?_
    obtain⟨x5,hx6⟩: ∃x',cur[i]?=some x':=⟨_,List.getElem?_eq_getElem (by have:=hinv8.2.1;omega)⟩
    refine ss (bS hT (k:=i) (cD .head) rfl rfl rfl rfl rfl hinv8.2.1.symm rfl (by have:=hinv8.2.1;omega)) ?_;refine ss (cA hT (cR.knows (cD .head) (k:=i) (x:=x5) hx6 0) rfl rfl rfl rfl rfl) ?_;refine sp hT ?_;refine nn<|bA<|iS (bEn hx6 [_,_,_,_]) ?_;have hne:x5.list≠[]:=zF hx _ (by rw [←hxl];exact List.mem_of_getElem? (scans_at hinv8.2.2.1 (jP hx6)));have hll:=bEd hinv8.2.2.2 hx6;refine bF<|sp hT ?_;refine nn<|bR<|dC (ι:=Nat×Int×List Int) [(3,_),(4,_),(6,_),(7,_),(10,_),(31,_),(32,_),(33,_)] ⟨rfl,rfl,rfl,rfl,rfl,rfl,rfl,rfl,trivial⟩ (fun⟨k,w2,c⟩=>[(11,.int .i64 (k:Nat))]) (fun⟨k,w2,c⟩=>[cT.row (.slice x5.addr x5.list.length x5.cap) 2 c,pV bp4 bf3 w2]) (fun⟨k,w2,c⟩=>[Fact.pure (bFn f x5.list c k w2 (x5.list.headD 0::(oC f x5.list.tail (x5.list.headD 0) w).1,(oC f x5.list.tail (x5.list.headD 0) w).2)∧c.length=x5.list.length)]) (fun⟨k,w2,c⟩=>x5.list.length-k) (1,w,x5.list) ⟨rfl,trivial⟩ (.cons .head (.cons kT1 .nil)) ⟨Has.pure (⟨scan_start hne,rfl⟩),trivial⟩ ?_;rintro⟨k,w2,c⟩;dsimp only;refine cE (Has.of mT0) fun hinv11=>?_;refine bA<|sr<|sp4 hT ?_;refine nn<|bH rfl (fun hc40=>?_) (fun hc40=>?_)
    · have hc40:=of_decide_eq_true hc40;refine bK<|bB<|bA<|bR ?_;have hk1:=hinv11.1.2.1;refine pZ 14 _ _ [(true,0),(true,1),(true,2),(true,3),(true,4),(true,5),(true,6),(true,7),(true,8),(true,9),(true,10),(true,11),(false,12),(true,13)] cY (by decide+kernel) (.cons .head (.cons kT1 (.cons kT1 (.cons kT1 (Sel.skip Sel.self))))) bE.self ?_;refine puL hT ?_;refine puL hT ?_;refine puL hT ?_;refine puL hT ?_;refine puL hT ?_;refine puL hT ?_;refine bP (z':=(((k-1):Nat):Int)) (cK (by omega) (by omega)) ?_
      obtain⟨x7,hx8⟩: ∃x',c[(k-1)]?=some x':=⟨_,List.getElem?_eq_getElem (by have:=hinv11.2;omega)⟩
      refine stL rfl (bS hT (k:=(k-1)) (cD .head) rfl rfl rfl rfl rfl hinv11.2.symm rfl (by have:=hinv11.2;omega)) ?_;refine stL rfl (cA hT (cR.knows (cD .head) (k:=(k-1)) (x:=x7) hx8 0) rfl rfl rfl rfl rfl) ?_;refine puL hT ?_;refine puL hT ?_
      obtain⟨x9,hx10⟩: ∃x',c[k]?=some x':=⟨_,List.getElem?_eq_getElem (by have:=hinv11.2;omega)⟩
      refine stL rfl (bS hT (k:=k) (cD .head) rfl rfl rfl rfl rfl hinv11.2.symm rfl (by have:=hinv11.2;omega)) ?_;refine stL rfl (cA hT (cR.knows (cD .head) (k:=k) (x:=x9) hx10 0) rfl rfl rfl rfl rfl) ?_;refine iX (o:=_) rfl ?_;refine bO Tryz.func39 (qD bp4 bf3 f w2 x7 x9) rfl rfl (.cons kT1 .nil) ⟨(Has.of mT3),trivial⟩ fun _=>?_;refine iY (.cons kT1 (.cons kT1 (.cons kT1 (.cons kT1 (Sel.skip Sel.self))))) (bE.drop 0) ?_;refine stL rfl (bS hT (k:=k) (cD .head) rfl rfl rfl rfl rfl hinv11.2.symm rfl (by have:=hinv11.2;omega)) ?_;refine kM (o:=_) rfl ?_;refine dG hT (k:=k) (fo:=0) (y':=(gC f w2 x7 x9).1) kT1 rfl rfl rfl rfl rfl rfl rfl rfl rfl hx10 rfl ?_;refine mQ<|bY<|bB<|bF<|sp2 hT ?_;refine bP (z':=(((k+1):Nat):Int)) (cK (by omega) (by omega)) ?_;refine sp hT ?_;refine nn ?_;exact cP (k+1,(gC f w2 x7 x9).2,_) (by dsimp only;omega) ⟨rfl,trivial⟩ ⟨rfl,rfl,rfl,rfl,rfl,rfl,rfl,rfl,trivial⟩ (.cons .head (.cons .head (.cons .head (.cons .head (.cons .head Sel.self))))) ⟨Has.pure (⟨scan_step hinv11.1 hx8 hx10,by dsimp only;rw [List.length_set];exact hinv11.2⟩),trivial⟩ (bE.drop 1)
    have hc40:=Int.not_lt.1 (of_decide_eq_false hc40);refine cW<|cJ<|cJ<|cX<|bY<|bB ?_;have hse:=scan_end hinv11.1 (by have:=hinv11.2;omega);rw [bDp hinv11.2];refine iS (bCy (xs:=cur) (y:=⟨x5.addr,x5.cap,c⟩) (i:=i) (List.getElem?_eq_some_iff.1 hx6).1 [_,_,_,_]) ?_;rw [←row_set (y:=⟨x5.addr,x5.cap,c⟩) hx6 rfl rfl hinv11.2];refine bF<|sp hT ?_;refine bP (z':=(((i+1):Nat):Int)) (cK (by omega) (by omega)) ?_;refine sp hT ?_;refine nn ?_;exact yK (i+1,w2,cur.set i ⟨x5.addr,x5.cap,c⟩) (by dsimp only;omega) ⟨rfl,trivial⟩ ⟨rfl,rfl,rfl,rfl,rfl,rfl,trivial⟩ (.cons kT1 (.cons .head (.cons .head (.cons .head Sel.self)))) ⟨Has.pure (⟨by dsimp only;omega,by dsimp only;rw [List.length_set];exact hinv8.2.1,by dsimp only;rw [List.map_set];exact scans_step hinv8.2.2.1 (jP hx6) hse,all_setL hinv8.2.2.2 hx6 hinv11.2⟩),trivial⟩ (bE.drop 2)
  have hc34:=Int.not_lt.1 (of_decide_eq_false hc34);refine cW<|cJ<|cJ<|cX<|bB<|bA ?_;have hse:=scans_end hinv8.2.2.1 (by rw [List.length_map];omega);rw [hxl] at hse
  obtain⟨LS,hcm⟩: ∃LS,cur.map (·.list)=LS:=⟨_,rfl⟩
  rw [hcm] at hse;have hst:=scans_total (f:=f) hx;rw [hse] at hst;have hst:LS.flatten.length≤65536:=hst;refine iS (List.perm_append_comm (l₁:=[_,_,_,_])) ?_;refine mI cur ?_;refine bW .head ?_
  rcases Classical.em (w=0) with hw0 | hw0
  · refine bF<|sp2 hT ?_;refine ss (ldO hT (bM kT2)) ?_;refine bO Tryz.func25 (dK _ _ _ (by omega)) rfl rfl .nil ⟨(Has.of mT5),trivial⟩ fun⟨A11,c12⟩=>?_;refine sp hT ?_;have csp:=jZ LA Lc cur (by omega) (by rw [hcm];omega);have hcl:cur.length=xs.length:=by omega
    rw [hcl,hcm] at csp;refine bO Tryz.func41 csp rfl rfl .nil ⟨(Has.of mT0),(Has.of mT1),trivial⟩ fun⟨A13,c14⟩=>?_;refine bO Tryz.func40 (mS bp4 bf3 _ hw0 _ _ _ _ _ _) rfl rfl (.cons kT2 .nil) trivial fun _=>?_;refine sp2 hT ?_;refine sto hT kT3 ?_;refine sp hT ?_;refine nn<|bG ?_;have hr:=hR.symm.trans ((scA_ok hx (by assumption) hse).trans (sN rfl hw0));subst hr;refine dV kT3 fun hga=>?_;refine bW kT3 ?_;refine dV kT2 fun hgb=>?_;refine bW kT2 ?_;exact bL (⟨⟨A11,c12,x.sides.list⟩,⟨A13,c14,LS.flatten⟩⟩:ArrV) rfl (bN hT (bM .head) rfl rfl rfl rfl) (bD rfl) .nil ⟨fA (dS (Has.of mT1) (by first | rfl | (simp;done))) (dS (Has.of mT0) (by first | rfl | (simp;done) | (simp;omega) | omega)) ⟨hga,hgb⟩,Has.pure rfl,trivial⟩ (by first | rfl | (simp;done) | (simp;omega))
  refine bF<|sp2 hT ?_;refine ss (ldO hT (bM kT2)) ?_;refine bO Tryz.func25 (dK _ _ _ (by omega)) rfl rfl .nil ⟨(Has.of mT5),trivial⟩ fun⟨A15,c16⟩=>?_;refine sp hT ?_;have csp:=jZ LA Lc cur (by omega) (by rw [hcm];omega);have hcl:cur.length=xs.length:=by omega
  rw [hcl,hcm] at csp;refine bO Tryz.func41 csp rfl rfl .nil ⟨(Has.of mT0),(Has.of mT1),trivial⟩ fun⟨A17,c18⟩=>?_;refine bO Tryz.func40 (oQ bp4 bf3 _ hw0 _ _ _ _ _ _) rfl rfl (.cons kT2 .nil) trivial fun _=>?_;refine sp2 hT ?_;refine sto hT kT3 ?_;refine sp hT ?_;refine nn<|bG ?_;have hr:=hR.symm.trans ((scA_ok hx (by assumption) hse).trans (qI rfl hw0));subst hr;exact bL jX rfl (bN hT (bM .head) rfl rfl rfl rfl) (bD rfl) .nil ⟨fN,Has.pure rfl,trivial⟩ rfl
end Go.Proofs.YtciimjjleglmaaaGreatDoor
namespace Go.Proofs.YtciimjjleglmaaaGreatDoor
open Go.RowKit
def mU:List fB→Nat→Option Nat
  | [],n=>some n
  | x::r,n=>if iW x≤n∧1≤x.how∧x.how≤7∧(x.how=1→x.nums≠[]∧x.nums.length≤65536) then mU r (n-iW x+1) else none
theorem sY{x:fB}(h:x.how=1∨x.how=2):iW x=0:=by
  unfold iW;rw [if_neg (by omega),if_neg (by omega)]
theorem bAx{x:fB}(h:x.how=4∨x.how=7):iW x=2:=by
  unfold iW;rw [if_neg (by omega),if_pos h]
theorem wA{x:fB}(h:x.how=3∨x.how=5∨x.how=6):iW x=1:=by
  unfold iW;rw [if_pos h]
theorem step_depth{st st':List gE}{x:fB}(h:iV st x=some st'):iW x≤st.length∧st'.length=st.length-iW x+1∧1≤x.how∧x.how≤7∧(x.how=1→x.nums≠[]∧x.nums.length≤65536):=by
  unfold iV at h;split at h
  · rename_i hh;rw [sY hh]
    cases ho:operandS x with
    | none=>simp [ho] at h
    | some p=>
      simp only [ho,Option.map_some,Option.some.injEq] at h;subst h;refine⟨by omega,by simp,by omega,by omega,fun h1=>?_⟩;unfold operandS at ho;rw [if_neg (by omega)] at ho;split at ho
      · cases ho
      · rename_i hb;simp only [not_or,ne_eq,Classical.not_not,Nat.not_lt] at hb;exact⟨hb.2.2.1,by omega⟩
  · split at h
    · cases h
    · rename_i h12 hk;simp only [not_or,Int.not_lt] at hk h12;unfold oS at h
      by_cases h2:x.how=4∨x.how=7
      · have e:uJ x.how=true:=by unfold uJ;rcases h2 with h2 | h2<;>rw [h2]<;>rfl
        rw [if_pos e] at h;rw [bAx h2]
        match st,h with
        | p::q::r,h=>
          simp only [Option.some.injEq] at h;subst h;exact⟨by simp,by simp,by omega,by omega,fun h1=>by omega⟩
        | [p],h=>cases h
        | [],h=>cases h
      · have e:uJ x.how=false:=by
          unfold uJ;simp only [Bool.or_eq_false_iff,beq_eq_false_iff_ne,ne_eq];omega
        rw [if_neg (by rw [e];simp)] at h;rw [wA (by omega)]
        match st,h with
        | p::r,h=>
          simp only [Option.some.injEq] at h;subst h;exact⟨by simp,by simp,by omega,by omega,fun h1=>by omega⟩
        | [],h=>cases h
theorem bBk: ∀{l:List fB} {st st':List gE},gD l st=some st'→mU l st.length=some st'.length
  | [],st,st',h=>by
    simp only [gD,Option.some.injEq] at h;subst h;rfl
  | x::l,st,st',h=>by
    rw [gD] at h
    cases h1:iV st x with
    | none=>rw [h1] at h;cases h
    | some s1=>
      rw [h1] at h;obtain⟨a,b,c,d,e⟩:=step_depth h1;rw [mU,if_pos ⟨a,c,d,e⟩,←b];exact bBk h
theorem bHz{l:List fB}{m:Nat}{t:Bs}(h:hU l m=some t):mU l 0=some 1:=by
  unfold hU at h;split at h
  · cases h
  · split at h
    · rename_i hq;exact bBk (st:=[]) hq
    · cases h
theorem bCd: ∀{ls:List rF} {o o':Bs},fX ls o=(o',true)→ ∀l∈ls,mU l.items 0=some 1
  | [],_,_,_,l,hl=>by simp at hl
  | [m],o,o',h,l,hl=>by
    rw [List.mem_singleton.1 hl];simp only [fX] at h
    cases hx:hU m.items 255 with
    | none=>rw [hx] at h;simp at h
    | some t=>exact bHz hx
  | m::n::ls,o,o',h,l,hl=>by
    have h':(match hU m.items 254 with
        | none=>(o,false)
        | some t=>if fC m.name=false then (o,false) else fX (n::ls) (o++(((m.name++[58,32])++t)++[10])))=(o',true):=h
    cases hx:hU m.items 254 with
    | none=>rw [hx] at h';simp at h'
    | some t=>
      rw [hx] at h';simp only at h';split at h'
      · simp at h'
      · rcases List.mem_cons.1 hl with rfl | hl
        · exact bHz hx
        · exact bCd h' l hl
theorem bBx{p:iK}(h:(dX p).2=true): ∀l∈p.lines,mU l.items 0=some 1:=by
  unfold dX at h;split at h
  · cases h
  · cases hi:nX p.inputs [] with
    | mk o b=>
      rw [hi] at h
      cases b with
      | false=>cases h
      | true=>exact bCd (o':=(fX p.lines o).1) (Prod.ext rfl h)
def iT (N:iA):Prop:= ∀p∈N,cO p.2=true
theorem look_mem{k:Bs}{a:Arr}: ∀{N:iA},look k N=some a→ ∃p∈N,p.2=a
  | [],h=>by cases h
  | p::r,h=>by
    unfold look at h;split at h
    · injection h with h
      exact⟨p,List.mem_cons_self ..,h⟩
    · obtain⟨q,hq,e⟩:=look_mem h;exact⟨q,List.mem_cons_of_mem _ hq,e⟩
theorem iT.look{N:iA}(h:iT N){k:Bs}{a:Arr}(hk:look k N=some a):cO a=true:=by
  obtain⟨p,hp,e⟩:=look_mem hk;rw [←e];exact h p hp
theorem iT.cons{N:iA}(h:iT N){k:Bs}{a:Arr}(ha:cO a=true):iT ((k,a)::N):=fun p hp=>by
  rcases List.mem_cons.1 hp with rfl | hp
  · exact ha
  · exact h p hp
theorem one_right(z:Int):cO ⟨[],[z]⟩=true:=iF uX (by simp [dI])
theorem nums_right{l:List Int}(h0:l≠[])(h1:l.length≤65536):cO ⟨if 1<l.length then [(l.length:Int)] else [],l⟩=true:=by
  split
  · exact iF (rK (by omega) (by omega)) (by simp [dI])
  · have:l.length≠0:=fun e=>h0 (List.length_eq_zero_iff.1 e);exact iF uX (by simp [dI];omega)
theorem bEt{N:iA}(hN:iT N){x:fB}(h1:1≤x.how)(h7:x.how≤7)(hn:x.how=1→x.nums≠[]∧x.nums.length≤65536){st:List Arr}(h:(fZ N x st).2=0):cO (fZ N x st).1=true:=by
  unfold fZ at h⊢;split at h
  · rename_i e;rw [if_pos e];exact nums_right (hn e).1 (hn e).2
  · rename_i e1;rw [if_neg e1];split at h
    · rename_i e;rw [if_pos e]
      cases hk:look x.name N with
      | none=>rw [hk] at h;simp at h
      | some a=>exact hN.look hk
    · rename_i e2;rw [if_neg e2];split at h
      · rename_i e;rw [if_pos e];exact bCb h
      · rename_i e3;rw [if_neg e3];split at h
        · rename_i e;rw [if_pos e];exact bEm h
        · rename_i e5;rw [if_neg e5];split at h
          · rename_i e;rw [if_pos e];exact bFx h
          · rename_i e6;rw [if_neg e6];split at h
            · rename_i e;rw [if_pos e];exact bFg h
            · rename_i e4;rw [if_neg e4];split at h
              · rename_i e;rw [if_pos e];exact bDc h
              · omega
theorem item_code{N:iA}{x:fB}{st:List Arr}{w:Nat}{e:Int}(h:pX N x st w= .error e):e≠0:=by
  unfold pX at h;split at h
  · rename_i hh;injection h with h
    rw [←h];exact hh
  · split at h
    · injection h with h
      rw [←h];decide
    · cases h
theorem item_ok{N:iA}{x:fB}{st st':List Arr}{w w':Nat}(h:pX N x st w= .ok (st',w')):(fZ N x st).2=0∧st'=(fZ N x st).1::st.drop (iW x)∧w'=w+(fZ N x st).1.data.length∧w'≤1048576:=by
  unfold pX at h;split at h
  · cases h
  · rename_i hh;split at h
    · cases h
    · rename_i hw;injection h with h
      injection h with h1 h2
      subst h1 h2;exact⟨Classical.not_not.1 hh,rfl,rfl,by omega⟩
theorem bHi{N:iA}(hN:iT N): ∀{l:List fB} {st st':List Arr} {w w' n:Nat},(∀a∈st,cO a=true)→mU l st.length=some n→pT N l st w= .ok (st',w')→st'.length=n∧ ∀a∈st',cO a=true
  | [],st,st',w,w',n,hs,hd,h=>by
    simp only [pT,Except.ok.injEq,Prod.mk.injEq] at h;simp only [mU,Option.some.injEq] at hd;rw [←h.1];exact⟨hd,hs⟩
  | x::l,st,st',w,w',n,hs,hd,h=>by
    rw [mU] at hd;split at hd
    · rename_i hb;rw [pT] at h
      cases hi:pX N x st w with
      | error e=>rw [hi] at h;cases h
      | ok r=>
        obtain⟨s1,w1⟩:=r;rw [hi] at h;obtain⟨a,b,_,_⟩:=item_ok hi;have hr:=bEt hN hb.2.1 hb.2.2.1 hb.2.2.2 a;refine bHi hN (st:=s1) ?_ ?_ h
        · intro y hy;rw [b] at hy
          rcases List.mem_cons.1 hy with rfl | hy
          · exact hr
          · exact hs y (List.mem_of_mem_drop hy)
        · rw [b]
          simpa [List.length_drop] using hd
    · cases hd
theorem bJk{N:iA}: ∀{l:List fB} {st:List Arr} {w:Nat} {f:Flt},pT N l st w= .error f→f.2≠0
  | [],_,_,_,h=>by cases h
  | x::l,st,w,f,h=>by
    rw [pT] at h
    cases hi:pX N x st w with
    | error e=>
      rw [hi] at h;injection h with h
      rw [←h];exact item_code hi
    | ok r=>
      obtain⟨s1,w1⟩:=r;rw [hi] at h;exact bJk h
theorem getLast_one{st:List Arr}(h:st.length=1): ∃a,st=[a]∧st.getLastD kY=a:=by
  match st,h with
  | [a],_=>exact⟨a,rfl,rfl⟩
theorem bCk: ∀{ls:List rF} {N:iA} {w:Nat} {out res:List Arr} {f:Flt},iT N→(∀a∈out,cO a=true)→(∀l∈ls,mU l.items 0=some 1)→rT N ls w out=(res,f)→
    (f.2=0→f=(0,0)∧res.length=out.length+ls.length∧ ∀a∈res,cO a=true)∧(f.2≠0→res=[])
  | [],N,w,out,res,f,hN,ho,hd,h=>by
    simp only [rT,Prod.mk.injEq] at h;obtain⟨rfl,rfl⟩:=h;exact⟨fun _=>⟨rfl,by simp,ho⟩,fun h=>absurd rfl h⟩
  | l::ls,N,w,out,res,f,hN,ho,hd,h=>by
    rw [rT] at h
    cases hl:pT N l.items [] w with
    | error g=>
      rw [hl] at h;injection h with h1 h2
      subst h1 h2;exact⟨fun e=>absurd e (bJk hl),fun _=>rfl⟩
    | ok r=>
      obtain⟨s1,w1⟩:=r;rw [hl] at h;obtain⟨a,b⟩:=bHi hN (st:=[]) (fun a ha=>by simp at ha) (hd l (List.mem_cons_self ..)) hl;obtain⟨v,rfl,e⟩:=getLast_one a;have hv:cO v=true:=b v (List.mem_cons_self ..)
      have:=bCk (hN.cons hv) (out:=out++[v]) (fun y hy=>by
        rcases List.mem_append.1 hy with hy | hy
        · exact ho y hy
        · rw [List.mem_singleton.1 hy];exact hv) (fun y hy=>hd y (List.mem_cons_of_mem _ hy)) (res:=res) (f:=f) h
      refine⟨fun e=>?_,this.2⟩;obtain⟨x,y,z⟩:=this.1 e;exact⟨x,by simp at y⊢;omega,z⟩
theorem zV(vars:List Bs)(dims:List Int): ∀{xs:List gF} {ar:List Arr} {N N':iA} {f:Flt},iT N→jW vars dims xs ar N=(N',f)→iT N'
  | [],ar,N,N',f,hN,h=>by
    simp only [jW,Prod.mk.injEq] at h;rw [←h.1];exact hN
  | x::xs,[],N,N',f,hN,h=>by
    simp only [jW,Prod.mk.injEq] at h;rw [←h.1];exact hN
  | x::xs,a::ar,N,N',f,hN,h=>by
    rw [jW] at h;split at h
    · injection h with h
      rw [←h];exact fun p hp=>by simp at hp
    · rename_i hf;have hf:bCh vars dims x a=true:=by simpa using hf
      refine zV vars dims (hN.cons ?_) h;unfold bCh at hf;simp only [Bool.and_eq_true] at hf;exact hf.1
theorem bKn: ∀{vars:List Bs} {dims:List Int} {N:iA},iT N→iT (mF vars dims N)
  | [],_,_,h=>h
  | _::_,[],_,h=>h
  | s::vars,n::dims,N,h=>by
    rw [mF];exact bKn (h.cons (one_right n))
theorem bCi(p:iK)(dims:List Int)(ins:List Arr):iT (fM p dims ins).1:=by
  have h0:iT []:=fun p hp=>by simp at hp
  unfold fM;split
  · exact h0
  · split
    · exact h0
    · split
      · exact h0
      · split
        · exact h0
        · exact zV _ _ (bKn h0) rfl
theorem bCn{p:iK}{dims:List Int}{ins:List Arr}(h:oP (fM p dims ins).2=true):(dX p).2=true:=by
  unfold fM at h;split at h
  · cases h
  · rename_i hh
    simpa using hh
theorem bBr(vars:List Bs)(dims:List Int): ∀{xs:List gF} {ar:List Arr} {N:iA},(jW vars dims xs ar N).2.2=0→(jW vars dims xs ar N).2=(0,0)
  | [],ar,N,_=>rfl
  | x::xs,[],N,_=>rfl
  | x::xs,a::ar,N,h=>by
    rw [jW] at h⊢;split at h
    · cases h
    · rename_i hf;rw [if_neg hf];exact bBr vars dims h
theorem xI{p:iK}{dims:List Int}{ins:List Arr}(h:(fM p dims ins).2.2=0):(fM p dims ins).2=(0,0):=by
  unfold fM at h⊢;split at h
  · cases h
  · rename_i h1;rw [if_neg h1];split at h
    · cases h
    · split at h
      · cases h
      · rename_i h2;simp only [if_neg h2];split at h
        · cases h
        · rename_i h3;rw [if_neg h3];exact bBr _ _ h
theorem rD{p:iK}{dims:List Int}{ins:List Arr}:((jM p dims ins).2.2=0→(jM p dims ins).2=(0,0)∧(jM p dims ins).1.length=p.lines.length∧ ∀a∈(jM p dims ins).1,cO a=true)∧((jM p dims ins).2≠(0,0)→(jM p dims ins).1=[]):=by
  unfold jM;split
  · rename_i hb;refine⟨fun e=>?_,fun _=>rfl⟩;rw [xI e] at hb;exact absurd hb (by decide)
  · rename_i hb;have hb:oP (fM p dims ins).2=true:=by simpa using hb
    have:=bCk (bCi p dims ins) (out:=[]) (w:=0) (fun a ha=>by simp at ha) (bBx (bCn hb)) rfl;refine⟨fun e=>?_,fun e=>?_⟩
    · obtain⟨x,y,z⟩:=this.1 e;exact⟨x,by simpa using y,z⟩
    · by_cases h:(rT (fM p dims ins).1 p.lines 0 []).2.2=0
      · exact absurd (this.1 h).1 e
      · exact this.2 h
end Go.Proofs.YtciimjjleglmaaaGreatDoor
namespace Go.Proofs.YtciimjjleglmaaaGreatDoor
open Go.RowKit
def nUnused:Bs:=[117,110,117,115,101,100]
def SameBut(N' N:iA):Prop:= ∀k,k≠nUnused→look k N'=look k N
theorem SameBut.cons{N' N:iA}(h:SameBut N' N)(s:Bs)(a:Arr):SameBut ((s,a)::N') ((s,a)::N):=fun k hk=>by
  unfold look;split
  · rfl
  · exact h k hk
end Go.Proofs.YtciimjjleglmaaaGreatDoor
namespace Go.Proofs.YtciimjjleglmaaaGreatDoor
open Go.RowKit
theorem yD(k k':Bs)(v:Value): ∀kv:KVS,mE k (mG k' v kv)=if k==k' then some v else mE k kv
  | []=>by
    unfold mG mE;rfl
  | p::r=>by
    have ih:=yD k k' v r;unfold mG
    by_cases h':k'=p.1
    · rw [if_pos (beq_iff_eq.2 h')]
      by_cases h:k=k'
      · rw [if_pos (beq_iff_eq.2 h),mE,if_pos (beq_iff_eq.2 h)]
      · rw [if_neg (by simpa using h),mE,if_neg (by simpa using h),mE,if_neg (by simpa [h'] using fun e=>h (e.trans h'.symm))]
    · rw [if_neg (by simpa using h')]
      by_cases h:k=p.1
      · have hk: ¬k=k':=fun e=>h' (e.symm.trans h);rw [if_neg (by simpa using hk),mE,if_pos (beq_iff_eq.2 h),mE,if_pos (beq_iff_eq.2 h)]
      · rw [mE,if_neg (by simpa using h),ih];split
        · rfl
        · rw [mE,if_neg (by simpa using h)]
def SeenR (kv:KVS)(out:List Bs):Prop:= ∀k,(mE k kv).getD (.bool false)= .bool (k==[] || out.contains k)
theorem seen_start:SeenR (mG [] (.bool true) []) []:=fun k=>by
  rw [yD];cases hk:k==[]
  · rfl
  · rfl
theorem seen_add{kv:KVS}{out:List Bs}(h:SeenR kv out)(s:Bs):SeenR (mG s (.bool true) kv) (out++[s]):=fun k=>by
  rw [yD];cases hk:k==s
  · have hk': ¬k=s:=by simpa using hk
    have e:(out++[s]).contains k=out.contains k:=by simp [hk']
    rw [e];exact h k
  · have hk':k=s:=by simpa using hk
    subst hk';simp
theorem zeroB(w:World):(zeroValue 4).run Tryz.prog w= .ok (.bool false) w:=by kernel_rfl
theorem mapSB:Tryz.prog.underlying 68=some (.map 9 4):=by kernel_rfl
theorem bIp:Tryz.prog.underlying 75=some (.map 9 42):=by kernel_rfl
theorem zeroA(w:World):(zeroValue 42).run Tryz.prog w= .ok (.agg #[.slice none 0 0,.slice none 0 0]) w:=by kernel_rfl
def sO (p:iK)(rest:List pK)(out:List Bs)(kv:KVS):Prop:=SeenR kv out∧qM rest out=varsP p∧out.length+rest.length≤8000000000000
section
variable {p : iK} {l : List gF} {x : gF} {ds R : List pK} {d : pK} {out : List Bs} {kv : KVS} {i j : Nat}
theorem va_start(h:(iD p.inputs).length≤8000000000000):sO p (iD (p.inputs.drop 0)) [] (mG [] (.bool true) []):=⟨seen_start,rfl,by simpa using h⟩
theorem va_in(h:sO p (iD (l.drop i)) out kv)(hx:l[i]?=some x):sO p (x.sides.drop 0++iD (l.drop (i+1))) out kv:=by
  rw [fU hx] at h;exact h
theorem va_skip(h:sO p (ds.drop j++R) out kv)(hd:ds[j]?=some d)(hs:(d.name==[] || out.contains d.name)=true):sO p (ds.drop (j+1)++R) out kv:=by
  rw [fU hd,List.cons_append] at h;obtain⟨a,b,c⟩:=h;refine⟨a,?_,by simp at c⊢;omega⟩;rw [qM,if_pos (by simpa using hs)] at b;exact b
theorem va_add(h:sO p (ds.drop j++R) out kv)(hd:ds[j]?=some d)(hs:(d.name==[] || out.contains d.name)=false):sO p (ds.drop (j+1)++R) (out++[d.name]) (mG d.name (.bool true) kv):=by
  rw [fU hd,List.cons_append] at h;obtain⟨a,b,c⟩:=h;refine⟨seen_add a _,?_,by simp at c⊢;omega⟩;rw [qM,if_neg (by simpa using hs)] at b;exact b
theorem va_len(h:sO p (ds.drop j++R) out kv)(hd:ds[j]?=some d):out.length+1≤8000000000000:=by
  rw [fU hd,List.cons_append] at h;have:=h.2.2;simp at this;omega
theorem va_out(h:sO p (ds.drop j++R) out kv)(hj:ds.length≤j):sO p R out kv:=by
  rw [gX hj] at h;exact h
theorem va_end(h:sO p (iD (l.drop i)) out kv)(hi:l.length≤i):varsP p=out:=by
  rw [gX hi] at h;exact h.2.1.symm
end
set_option maxRecDepth 100000 in
theorem bJv(n:Int):dH Tryz.prog 44 [.int .i64 n] [] [] (fun(_:Unit)=> .bool (lV n)) (fun _=>[]) (fun _=>[]):=by
  have hT:=dB;refine cQ Tryz.func44 rfl Tryz.ntmps44 rfl ?_;intro β hM;refine sr<|sp hT ?_;refine nn<|sr<|sp3 hT ?_;refine cH (fun hg5=>?_) (fun hg5=>?_)
  · have hg5:=of_decide_eq_true hg5;refine sk2 ?_;refine sp2 hT ?_;refine nn<|bG ?_;exact bQ () rfl (bD rfl) .nil trivial (by first | exact bJy (by omega) | exact bLi (by omega))
  have hg5:=Int.not_lt.1 (of_decide_eq_false hg5);refine sp4 hT ?_;refine nn<|bG ?_;exact bQ () rfl (bD rfl) .nil trivial (by first | exact bJy (by omega) | exact bLi (by omega))
set_option maxRecDepth 100000 in
theorem bIx(P:ProgV)(hl1:P.inputs.list.length≤140737488355328)(hs: ∀x∈P.inputs.list,x.sides.list.length≤140737488355328)(hTT:(iD P.pr.inputs).length≤8000000000000):dH Tryz.prog 11 [.agg #[.slice P.inputs.addr P.inputs.list.length P.inputs.cap,.slice P.lines.addr P.lines.list.length P.lines.cap]] [] [iH.sl (.slice P.inputs.addr P.inputs.list.length P.inputs.cap) P.inputs.list,hO P.inputs.list] (fun(x:Option Addr×Nat)=> .slice x.1 (varsP P.pr).length x.2) (fun _=>[]) (fun(x:Option Addr×Nat)=>[mC.sl (.slice x.1 (varsP P.pr).length x.2) (varsP P.pr),Fact.pure ((varsP P.pr).length≤x.2)]):=by
  have hT:=dB;refine cQ Tryz.func11 rfl Tryz.ntmps11 rfl ?_;intro β hM;refine sr<|fH rfl rfl rfl rfl rfl rfl fun b1=>?_;refine sp hT ?_;refine nn<|sr<|sp hT ?_;refine nn<|sr<|bCw rfl rfl rfl rfl fun r2=>?_;refine kQ .head rfl (.inr rfl) rfl mapSB Tryz.underlying9 rfl rfl rfl ?_;refine sp2 hT ?_;refine nn<|bA<|bA<|dM (t:=9) mC ?_;refine bF<|sp hT ?_;refine ss (ldO hT (bM kT2)) ?_;refine sp2 hT ?_;refine nn<|bR<|dC (ι:=Nat×KVS×List Bs×Option Addr×Nat) [(4,_),(12,_),(13,_)] ⟨rfl,rfl,rfl,trivial⟩ (fun⟨i,kv,vs,A1,c1⟩=>[(3,.slice A1 vs.length c1),(14,.int .i64 (i:Nat))]) (fun⟨i,kv,vs,A1,c1⟩=>[sH r2 kv,mC.row (.slice A1 vs.length c1) 9 vs]) (fun⟨i,kv,vs,A1,c1⟩=>[Fact.pure (i≤P.inputs.list.length∧sO P.pr (iD (P.pr.inputs.drop i)) vs kv)]) (fun⟨i,kv,vs,A1,c1⟩=>P.inputs.list.length-i) (0,mG [] (.bool true) [],[],none,0) ⟨rfl,rfl,trivial⟩ (.cons kT1 (.cons .head .nil)) ⟨Has.pure (⟨by omega,va_start hTT⟩),trivial⟩ ?_;rintro⟨i,kv,vs,A1,c1⟩;dsimp only;refine cE (Has.of mT0) fun hinv4=>?_;refine sr<|sp hT ?_;refine nn<|bA<|bH rfl (fun hc15=>?_) (fun hc15=>?_)
  · have hc15:=of_decide_eq_true hc15;refine bK<|bB<|bA<|bR<|sr ?_
    obtain⟨x3,hx4⟩: ∃x',P.inputs.list[i]?=some x':=⟨_,List.getElem?_eq_getElem (by omega)⟩
    refine ss (bS hT (k:=i) (bJ (Has.of mT1)) rfl rfl rfl rfl rfl rfl rfl (by omega)) ?_;refine ss (dJ hT (cR.knows (bJ (Has.of mT1)) (k:=i) (x:=x3) hx4 0) rfl rfl rfl rfl rfl) ?_;refine cF rfl rfl rfl rfl jE rfl fun b5=>?_;refine sto hT .head ?_;refine nn<|bA ?_;have hx0:P.pr.inputs[i]?=some x3.inp:=rB hx4;have hxs:=hs x3 (List.mem_of_getElem? hx4);refine bV (qL x3) (Has.each (Has.of mT2) (List.mem_of_getElem? hx4)) ?_;refine bF<|sp hT ?_;refine ss (ldO hT (dZ .head)) ?_;refine sp2 hT ?_;refine nn<|bR<|dC (ι:=Nat×KVS×List Bs×Option Addr×Nat) [(4,_),(12,_),(13,_),(14,_),(19,_),(20,_)] ⟨rfl,rfl,rfl,rfl,rfl,rfl,trivial⟩ (fun⟨j,kv2,vs2,A2,c2⟩=>[(3,.slice A2 vs2.length c2),(21,.int .i64 (j:Nat))]) (fun⟨j,kv2,vs2,A2,c2⟩=>[sH r2 kv2,mC.row (.slice A2 vs2.length c2) 9 vs2]) (fun⟨j,kv2,vs2,A2,c2⟩=>[Fact.pure (j≤x3.sides.list.length∧sO P.pr (x3.inp.sides.drop j++iD (P.pr.inputs.drop (i+1))) vs2 kv2)]) (fun⟨j,kv2,vs2,A2,c2⟩=>x3.sides.list.length-j) (0,kv,vs,A1,c1) ⟨rfl,rfl,trivial⟩ (.cons kT1 (.cons kT1 .nil)) ⟨Has.pure (⟨by omega,va_in hinv4.2 hx0⟩),trivial⟩ ?_;rintro⟨j,kv2,vs2,A2,c2⟩;dsimp only;refine cE (Has.of mT0) fun hinv7=>?_;refine sr<|sp hT ?_;refine nn<|bA<|bH rfl (fun hc22=>?_) (fun hc22=>?_)
    · have hc22:=of_decide_eq_true hc22;refine bK<|bB<|bA<|bR<|sr ?_
      obtain⟨x6,hx7⟩: ∃x',x3.sides.list[j]?=some x':=⟨_,List.getElem?_eq_getElem (by omega)⟩
      refine ss (bS hT (k:=j) (bJ (Has.of mT1)) rfl rfl rfl rfl rfl rfl rfl (by omega)) ?_;refine ss (dJ hT (cR.knows (bJ (Has.of mT1)) (k:=j) (x:=x6) hx7 0) rfl rfl rfl rfl rfl) ?_;refine cF rfl rfl rfl rfl tZ rfl fun b8=>?_;refine sto hT .head ?_;refine nn<|bA ?_;have hd0:x3.inp.sides[j]?=some x6.sd:=rB hx7;have hvl:=va_len hinv7.2 hd0;refine bF<|sp2 hT ?_;refine ss (ldO hT (bM .head)) ?_;refine ss (sti_lookupS (uZ kT1) rfl mapSB Tryz.underlying9 zeroB rfl rfl (hinv7.2.1 x6.name)) ?_;refine sp hT ?_;refine nn<|bH rfl (fun hc29=>?_) (fun hc29=>?_)
      · have hc29:=fW hc29;refine sr<|sp2 hT ?_;refine ss (ldO hT (bM .head)) ?_;refine kQ kT1 rfl (.inl rfl) rfl mapSB Tryz.underlying9 rfl rfl rfl ?_;refine nn<|bF<|sp2 hT ?_;refine ss (ldO hT (bM kT1)) ?_;refine iM (m:=x6.name) rfl rfl rfl rfl rfl fun b9=>?_;refine kE kT3 (dF .head rfl) rfl rfl rfl rfl rfl rfl rfl (by simp;omega) fun A10 c11=>?_;refine sp hT ?_;refine dT<|bY<|bB<|bF<|sp hT ?_;refine bP (z':=(((j+1):Nat):Int)) (cK (by omega) (by omega)) ?_;refine sp hT ?_;refine nn ?_;exact cP (j+1,(mG x6.name (.bool true) kv2),(vs2++[x6.name]),A10,c11) (by dsimp only;omega) ⟨rfl,rfl,trivial⟩ ⟨rfl,rfl,rfl,rfl,rfl,rfl,trivial⟩ (.cons kT2 (.cons .head (.cons kT2 (.cons kT2 .nil)))) ⟨Has.pure (⟨by dsimp only;omega,va_add hinv7.2 hd0 (by first | assumption | (simpa using (by assumption)))⟩),trivial⟩ (bE.drop 1)
      have hc29:=fL hc29;refine bK<|bY<|bB<|bF<|sp hT ?_;refine bP (z':=(((j+1):Nat):Int)) (cK (by omega) (by omega)) ?_;refine sp hT ?_;refine nn ?_;exact cP (j+1,kv2,vs2,A2,c2) (by dsimp only;omega) ⟨rfl,rfl,trivial⟩ ⟨rfl,rfl,rfl,rfl,rfl,rfl,trivial⟩ (.cons kT1 (.cons kT1 (.cons kT1 (.cons kT1 .nil)))) ⟨Has.pure (⟨by dsimp only;omega,va_skip hinv7.2 hd0 (by first | assumption | (simpa using (by assumption)))⟩),trivial⟩ (bE.drop 1)
    have hc22:=Int.not_lt.1 (of_decide_eq_false hc22);refine cW<|cJ<|cJ<|cX<|bY<|bB<|bF<|sp hT ?_;refine bP (z':=(((i+1):Nat):Int)) (cK (by omega) (by omega)) ?_;refine sp hT ?_;refine nn ?_;exact cP (i+1,kv2,vs2,A2,c2) (by dsimp only;omega) ⟨rfl,rfl,trivial⟩ ⟨rfl,rfl,rfl,trivial⟩ (.cons .head (.cons .head (.cons kT1 .nil))) ⟨Has.pure (⟨by dsimp only;omega,va_out hinv7.2 (by show(x3.sides.list.map iP.sd).length≤j;rw [List.length_map];omega)⟩),trivial⟩ (bE.drop 3)
  have hc15:=Int.not_lt.1 (of_decide_eq_false hc15);refine cW<|cJ<|cJ<|cX<|bB<|sr<|sp2 hT ?_;refine nn<|bG ?_;have he:=va_end hinv4.2 (by show(P.inputs.list.map InputV.inp).length≤i;rw [List.length_map];omega);rw [he];refine dV kT1 fun hvc=>?_;refine bW kT1 ?_;exact bQ (A1,c1) rfl (bD rfl) .nil ⟨(Has.of mT0),Has.pure hvc,trivial⟩ rfl
end Go.Proofs.YtciimjjleglmaaaGreatDoor
namespace Go.Proofs.YtciimjjleglmaaaGreatDoor
open Go.RowKit
def ArrV.v(x:ArrV):Value:= .agg #[.slice x.sides.addr x.sides.list.length x.sides.cap,.slice x.data.addr x.data.list.length x.data.cap]
abbrev NamesV:=List (Bs×ArrV)
def vK (k:Bs):NamesV→Option ArrV
  | []=>none
  | p::r=>if k=p.1 then some p.2 else vK k r
def fI (NV:NamesV):iA:=NV.map fun p=>(p.1,p.2.arr)
theorem look_of(k:Bs): ∀NV:NamesV,look k (fI NV)=(vK k NV).map ArrV.arr
  | []=>rfl
  | p::r=>by
    have ih:=look_of k r;unfold fI at ih⊢;rw [List.map_cons,look,vK];split
    · rfl
    · exact ih
def tO (kv:KVS)(NV:NamesV):Prop:= ∀k,mE k kv=(vK k NV).map ArrV.v
theorem nr_start:tO [] []:=fun _=>rfl
theorem nr_add{kv:KVS}{NV:NamesV}(h:tO kv NV)(s:Bs)(a:ArrV):tO (mG s a.v kv) ((s,a)::NV):=fun k=>by
  rw [yD,vK]
  by_cases e:k=s
  · rw [if_pos (beq_iff_eq.2 e),if_pos e];rfl
  · rw [if_neg (by simpa using e),if_neg e];exact h k
theorem run_built(m:Nat):Tryz.prog.built 77 [(0,.map (some m))]=some #[.map (some m),.int .i64 0]:=by kernel_rfl
def runO (rb mb:Nat)(work:Nat):bU:= .obj rb (.cells [.map (some mb),.int .i64 (work:Nat)].toArray 77)
def pR (NV:NamesV):Fact:=Fact.each NV fun p=>gA p.2
section
variable {p : iK} {dims : List Int} {ins : List Arr} {x : gF}
theorem bg_no(h:(dX p).2=false):fM p dims ins=([],(0,50)):=by unfold fM;rw [if_pos h]
theorem bg_few(h:(dX p).2=true)(hf:p.inputs.find? (bGz (varsP p))=some x):fM p dims ins=([],(x.at_,80)):=by unfold fM;rw [if_neg (by simp [h]),hf]
theorem bg_dims(h:(dX p).2=true)(hf:p.inputs.find? (bGz (varsP p))=none)(hd:dims.length≠(varsP p).length∨dims.any lV=true):fM p dims ins=([],(0,81)):=by
  unfold fM;rw [if_neg (by simp [h]),hf];simp only;rw [if_pos hd]
theorem bg_ins(h:(dX p).2=true)(hf:p.inputs.find? (bGz (varsP p))=none)(hd:dims.length=(varsP p).length)(hb:dims.any lV=false)(hi:ins.length≠p.inputs.length):fM p dims ins=([],(0,82)):=by
  unfold fM;rw [if_neg (by simp [h]),hf];simp only;rw [if_neg (by simp [hd,hb]),if_pos hi]
theorem bg_go(h:(dX p).2=true)(hf:p.inputs.find? (bGz (varsP p))=none)(hd:dims.length=(varsP p).length)(hb:dims.any lV=false)(hi:ins.length=p.inputs.length):fM p dims ins=jW (varsP p) dims p.inputs ins (mF (varsP p) dims []):=by
  unfold fM;rw [if_neg (by simp [h]),hf];simp only;rw [if_neg (by simp [hd,hb]),if_neg (by simp [hi])]
theorem all_sides_le(h:(dX p).2=true):(iD p.inputs).length≤256:=by
  have hf:=bDr h
  have key: ∀l:List gF,(∀x∈l,x.sides.length≤4)→(iD l).length≤4*l.length:=by
    intro l
    induction l with
    | nil=>intro _;simp [iD]
    | cons x r ih=>
      intro hx;have e:iD (x::r)=x.sides++iD r:=rfl;have h1:=hx x (List.mem_cons_self ..);have h2:=ih fun y hy=>hx y (List.mem_cons_of_mem _ hy);rw [e,List.length_append,List.length_cons];omega
  have:=key p.inputs fun x hx=>(hf.input x hx).2.1;have:=hf.ins;omega
end
def zU (vars:List Bs)(d:pK):Bool:=(d.name==[]&&lV d.n) || decide (6≤kK d.name vars 0)
section
variable {vars : List Bs} {l : List gF} {x : gF} {ds : List pK} {d : pK} {i j : Nat}
def yS (vars:List Bs)(l:List gF)(i:Nat):Prop:=l.find? (bGz vars)=(l.drop i).find? (bGz vars)
def bCg (vars:List Bs)(ds:List pK)(j:Nat):Prop:=ds.any (zU vars)=(ds.drop j).any (zU vars)
theorem few_start:yS vars l 0:=by simp [yS]
theorem few_in:bCg vars ds 0:=by simp [bCg]
theorem few_hit(h:yS vars l i)(hx:l[i]?=some x)(k:bCg vars x.sides j)(hd:x.sides[j]?=some d)(hs:zU vars d=true):l.find? (bGz vars)=some x:=by
  have e:bGz vars x=true:=by
    show x.sides.any (zU vars)=true;rw [k,fU hd,List.any_cons,hs];rfl
  rw [h,fU hx,List.find?_cons,e]
theorem few_next(k:bCg vars ds j)(hd:ds[j]?=some d)(hs:zU vars d=false):bCg vars ds (j+1):=by
  unfold bCg at k⊢;rw [k,fU hd,List.any_cons,hs,Bool.false_or]
theorem few_out(h:yS vars l i)(hx:l[i]?=some x)(k:bCg vars x.sides j)(hj:x.sides.length≤j):yS vars l (i+1):=by
  have e:bGz vars x=false:=by
    show x.sides.any (zU vars)=false;rw [k,gX hj];rfl
  unfold yS at h⊢;rw [h,fU hx,List.find?_cons,e]
theorem few_end(h:yS vars l i)(hi:l.length≤i):l.find? (bGz vars)=none:=by
  unfold yS at h;rw [h,gX hi];rfl
theorem fs_a(hn:d.name=[])(hb:lV d.n=true):zU vars d=true:=by simp [zU,hn,hb]
theorem fs_b(h:6≤kK d.name vars 0):zU vars d=true:=by simp [zU,h]
theorem fs_c(hb:lV d.n=false)(h:kK d.name vars 0<6):zU vars d=false:=by
  have: ¬6≤kK d.name vars 0:=by omega
  simp [zU,hb,this]
theorem fs_d(hn:d.name≠[])(h:kK d.name vars 0<6):zU vars d=false:=by
  have: ¬6≤kK d.name vars 0:=by omega
  simp [zU,hn,this]
end
section
variable {vars : List Bs} {dims : List Int} {i : Nat} {NV : NamesV} {N : iA}
def VNAt (vars:List Bs)(dims:List Int)(i:Nat)(NV:NamesV)(kv:KVS):Prop:=tO kv NV∧mF vars dims []=mF (vars.drop i) (dims.drop i) (fI NV)
theorem vn_start:VNAt vars dims 0 [] []:=⟨nr_start,rfl⟩
theorem vn_step{kv:KVS}{s:Bs}{n:Int}{a:ArrV}(h:VNAt vars dims i NV kv)(hs:vars[i]?=some s)(hn:dims[i]?=some n)(ha:a.arr=⟨[],[n]⟩):VNAt vars dims (i+1) ((s,a)::NV) (mG s a.v kv):=by
  refine⟨nr_add h.1 s a,?_⟩;rw [h.2,fU hs,fU hn,mF];show _=mF _ _ ((s,a.arr)::fI NV);rw [ha]
theorem vn_end{kv:KVS}(h:VNAt vars dims i NV kv)(hi:vars.length≤i):mF vars dims []=fI NV:=by
  rw [h.2,gX hi];rfl
def InAt (vars:List Bs)(dims:List Int)(xs:List gF)(ins:List ArrV)(i:Nat)(NV:NamesV)(kv:KVS)(R:iA×Flt):Prop:=tO kv NV∧R=jW vars dims (xs.drop i) ((ins.map ArrV.arr).drop i) (fI NV)
theorem in_bad{xs:List gF}{ins:List ArrV}{kv:KVS}{R:iA×Flt}{x:gF}{a:ArrV}(h:InAt vars dims xs ins i NV kv R)(hx:xs[i]?=some x)(ha:ins[i]?=some a)(hf:bCh vars dims x a.arr=false):R=([],(x.at_,82)):=by
  rw [h.2,fU hx,fU (jP (f:=ArrV.arr) ha),jW,if_pos hf]
theorem in_ok{xs:List gF}{ins:List ArrV}{kv:KVS}{R:iA×Flt}{x:gF}{a:ArrV}(h:InAt vars dims xs ins i NV kv R)(hx:xs[i]?=some x)(ha:ins[i]?=some a)(hf:bCh vars dims x a.arr=true):InAt vars dims xs ins (i+1) ((x.name,a)::NV) (mG x.name a.v kv) R:=by
  refine⟨nr_add h.1 _ a,?_⟩;rw [h.2,fU hx,fU (jP (f:=ArrV.arr) ha),jW,if_neg (by simp [hf])];rfl
theorem in_fin{xs:List gF}{ins:List ArrV}{kv:KVS}{R:iA×Flt}(h:InAt vars dims xs ins i NV kv R)(hi:xs.length≤i):R=(fI NV,(0,0)):=by
  rw [h.2,gX hi];rfl
def vR (vars:List Bs)(dims:List Int)(x:gF)(a:Arr)(k:Nat)(b:Bool):Prop:=bCh vars dims x a=(b&&decide (a.sides.drop k=(x.sides.drop k).map (nS vars dims)))∧(b=true→a.sides.length=x.sides.length)
theorem bIt{x:gF}{a:Arr}:vR vars dims x a 0 (cO a&&decide (a.sides.length=x.sides.length)):=by
  refine⟨?_,fun h=>by simp at h;exact h.2⟩;unfold bCh
  by_cases h1:a.sides.length=x.sides.length<;>by_cases h2:a.sides=x.sides.map (nS vars dims)<;>simp [h1,h2]
theorem fit_step{x:gF}{a:Arr}{k:Nat}{z:Int}{d:pK}(h:vR vars dims x a k true)(hz:a.sides[k]?=some z)(hd:x.sides[k]?=some d):vR vars dims x a (k+1) (decide (z=nS vars dims d)):=by
  refine⟨?_,fun _=>h.2 rfl⟩;rw [h.1,fU hz,fU hd,List.map_cons]
  by_cases e:z=nS vars dims d<;>simp [e]
theorem fit_skip{x:gF}{a:Arr}{k:Nat}(h:vR vars dims x a k false):vR vars dims x a (k+1) false:=⟨by rw [h.1];rfl,fun e=>by cases e⟩
theorem fit_end{x:gF}{a:Arr}{k:Nat}{b:Bool}(h:vR vars dims x a k b)(h1:x.sides.length≤k):bCh vars dims x a=b:=by
  rw [h.1]
  cases b with
  | false=>rfl
  | true=>
    rw [gX h1,gX (by rw [h.2 rfl];exact h1)];rfl
end
theorem bBl(k:Bs): ∀(l:List Bs) (i:Nat),kK k l i= -1∨ ∃j:Nat,kK k l i=((i+j:Nat):Int)∧j<l.length∧l[j]?=some k
  | [],i=> .inl rfl
  | s::r,i=>by
    rw [kK];split
    · rename_i h;exact .inr ⟨0,by simp,by simp,by simp [h]⟩
    · have:=bBl k r (i+1);have e:((i:Nat):Int)+1=((i+1:Nat):Int):=by omega
      rw [e]
      rcases this with h | ⟨j,h1,h2,h3⟩
      · exact .inl h
      · exact .inr ⟨j+1,by rw [h1];congr 1;omega,by simp;omega,by simpa using h3⟩
theorem bKt{k:Bs}: ∀{l:List Bs} {i:Nat},k∈l→kK k l i≠ -1
  | s::r,i,h=>by
    rw [kK];split
    · omega
    · rename_i hh
      rcases List.mem_cons.1 h with e | h
      · exact absurd e.symm hh
      · have e:((i:Nat):Int)+1=((i+1:Nat):Int):=by omega
        rw [e];exact bKt h
theorem vars_all: ∀{ds:List pK} {out:List Bs},(∀s∈out,s∈qM ds out)∧ ∀d∈ds,d.name≠[]→d.name∈qM ds out
  | [],out=>⟨fun s h=>h,fun d h=>by simp at h⟩
  | d::r,out=>by
    have ih:= @vars_all r (if d.name=[]∨out.contains d.name=true then out else out++[d.name]);rw [qM];refine⟨fun s hs=>ih.1 s ?_,fun e he hn=>?_⟩
    · split
      · exact hs
      · exact List.mem_append_left _ hs
    · rcases List.mem_cons.1 he with rfl | he
      · refine ih.1 _ ?_;split
        · rename_i h
          rcases h with h | h
          · exact absurd h hn
          · simpa using h
        · simp
      · exact ih.2 e he hn
theorem side_var{p:iK}{x:gF}{d:pK}{n:Nat}(hx:x∈p.inputs)(hd:d∈x.sides)(hn:d.name≠[])(h:n=(varsP p).length): ∃k:Nat,k<n∧kK d.name (varsP p) 0=(k:Int):=by
  have hm:d.name∈varsP p:=vars_all.2 d (List.mem_flatMap.2 ⟨x,hx,hd⟩) hn;have h1:=bKt (i:=0) hm
  rcases bBl d.name (varsP p) 0 with h2 | ⟨j,h2,h3,_⟩
  · exact absurd h2 h1
  · exact⟨j,by omega,by rw [Nat.zero_add] at h2;exact h2⟩
theorem value_n{vars:List Bs}{dims:List Int}{d:iP}(h:d.name=[]):nS vars dims d.sd=d.n:=by
  unfold nS;rw [if_pos (show d.sd.name=[] from h)];rfl
theorem value_k{vars:List Bs}{dims:List Int}{d:iP}{k:Nat}{z:Int}(h:d.name≠[])(hk:kK d.name vars 0=(k:Int))(hz:dims[k]?=some z):nS vars dims d.sd=z:=by
  unfold nS;rw [if_neg (show ¬d.sd.name=[] from h)];show atI dims (kK d.name vars 0)=z;rw [hk];simp [atI,List.getD,hz]
theorem fit_start_t{vars:List Bs}{dims:List Int}{x:gF}{a:Arr}(h:cO a=true):vR vars dims x a 0 (decide (a.sides.length=x.sides.length)):=by
  have:= @bIt vars dims x a
  rwa [h,Bool.true_and] at this
theorem fit_start_f{vars:List Bs}{dims:List Int}{x:gF}{a:Arr}(h:cO a=false):vR vars dims x a 0 false:=by
  have:= @bIt vars dims x a
  rwa [h,Bool.false_and] at this
theorem zeroStrs:(Tryz.prog.info? 27).bind (·.zero)=some (.slice none 0 0):=by kernel_rfl
abbrev BegX:=Option (Nat×Nat×KVS×NamesV)
def bval:BegX→Flt→Value
  | some x,f=> .tuple #[.pointer (some ⟨x.1,0,none⟩),.agg #[.int .i64 f.1,.int .i64 f.2]]
  | none,f=> .tuple #[.pointer none,.agg #[.int .i64 f.1,.int .i64 f.2]]
def bout:BegX→List bU
  | some x=>[runO x.1 x.2.1 0,sH x.2.1 x.2.2.1]
  | none=>[]
def bpost:BegX→iA×Flt→Fact
  | some x,R=>(Fact.pure (tO x.2.2.1 x.2.2.2∧R=(fI x.2.2.2,(0,0)))).and (pR x.2.2.2)
  | none,R=>Fact.pure (R.2.2≠0)
theorem fit_t_of{vars:List Bs}{dims:List Int}{x:gF}{a:Arr}{n:Nat}(h:cO a=true)(e:x.sides.length=n):vR vars dims x a 0 (decide (a.sides.length=n)):=by
  subst e;exact fit_start_t h
theorem bLg: ∀(ds:List pK) (out:List Bs),(qM ds out).length≤out.length+ds.length
  | [],out=>by simp [qM]
  | d::r,out=>by
    have ih:=bLg r (if d.name=[]∨out.contains d.name=true then out else out++[d.name]);rw [qM];split at ih
    · rename_i h;rw [if_pos h];simp;omega
    · rename_i h;rw [if_neg h];simp at ih⊢;omega
theorem vars_le(p:iK):(varsP p).length≤(iD p.inputs).length:=by
  have:=bLg (iD p.inputs) []
  simpa [varsP] using this
theorem rE(a1:Option Addr)(l1 c1:Nat):Tryz.prog.built 42 [(1,.slice a1 l1 c1)]=some #[.slice none 0 0,.slice a1 l1 c1]:=by kernel_rfl
set_option maxRecDepth 100000 in
theorem bCt(bd bv:Nat)(D V:Option Addr)(cd cv:Nat)(dims:List Int)(vars:List Bs)(hv:vars.length≤140737488355328)(d:iP)(hm:d.name≠[]→ ∃k:Nat,k<dims.length∧kK d.name vars 0=(k:Int)):dH Tryz.prog 47 [.agg #[.string (bs d.name),.int .i64 d.n],.pointer (some ⟨bd,0,none⟩),.pointer (some ⟨bv,0,none⟩)] [] [Fact.cells bd 0 [.slice D dims.length cd],Fact.cells bv 0 [.slice V vars.length cv],cT.sl (.slice D dims.length cd) dims,mC.sl (.slice V vars.length cv) vars] (fun(_:Unit)=> .int .i64 (nS vars dims d.sd)) (fun _=>[]) (fun _=>[]):=by
  have hT:=dB;refine cQ Tryz.func47 rfl Tryz.ntmps47 rfl ?_;intro β hM;refine sr<|fH rfl rfl rfl rfl rfl rfl fun b1=>?_;refine sp hT ?_;refine nn<|bA<|sr<|sp hT ?_;refine ss (ldO hT (bM .head)) ?_;refine sp hT ?_;refine nn<|bH rfl (fun hc7=>?_) (fun hc7=>?_)
  · have hc7:d.name=([]:Bs):=eq_of_beq hc7;refine sr<|sp hT ?_;refine ss (ldO hT (dE .head)) ?_;refine sp hT ?_;refine nn<|bG<|bC ?_;exact bQ () rfl (bD rfl) .nil trivial (congrArg (Value.int .i64) (value_n (by assumption)).symm)
  have hc7:d.name≠([]:Bs):=fun h=>absurd (beq_iff_eq.2 h) (by rw [show(d.name==([]:Bs))=false from hc7];simp);refine bK<|bB<|bA ?_;obtain⟨k,hk,hik⟩:=hm (by assumption);refine cU _ _ [(true,0),(true,1),(true,2),(true,3),(false,4),(true,5),(true,6),(true,7)] cY (by decide+kernel) (.cons .head .nil) bE.self ?_;refine stM rfl (cA hT (iE (Has.of mT0)) rfl rfl rfl rfl rfl) ?_;refine stM rfl (cA hT (iE (Has.of mT1)) rfl rfl rfl rfl rfl) ?_;refine puM hT ?_;refine stM rfl (ldO hT (bM .head)) ?_;refine cC (o:=_) rfl ?_;refine bO Tryz.func45 (uR _ _ _ (by omega) d.name) rfl rfl .nil ⟨Has.of mT3,trivial⟩ fun _=>?_;refine cB (.cons .head .nil) (bE.drop 0) ?_;refine bP (z':=((k:Nat):Int)) hik ?_
  obtain⟨x2,hx3⟩: ∃x',dims[k]?=some x':=⟨_,List.getElem?_eq_getElem (by omega)⟩
  refine stM rfl (bS hT (k:=k) (bJ (Has.of mT2)) rfl rfl rfl rfl rfl rfl rfl (by omega)) ?_;refine stM rfl (cA hT (cR.knows (bJ (Has.of mT2)) (k:=k) (x:=x2) hx3 0) rfl rfl rfl rfl rfl) ?_;refine puM hT ?_;refine cM<|bB<|bG ?_;exact bQ () rfl (bD rfl) .nil trivial (congrArg (Value.int .i64) (value_k (by assumption) hik hx3).symm)
set_option maxRecDepth 100000 in
theorem bGy(P:ProgV)(hP:qY P)(hl1:P.inputs.list.length≤140737488355328)(hl2:P.lines.list.length≤140737488355328)(D I:Option Addr)(cd ci:Nat)(dims:List Int)(ins:List ArrV)(hdl:dims.length≤140737488355328)(hI: ∀a∈ins,a.sides.list.length≤140737488355328):dH Tryz.prog 23 [.agg #[.slice P.inputs.addr P.inputs.list.length P.inputs.cap,.slice P.lines.addr P.lines.list.length P.lines.cap],.slice D dims.length cd,.slice I ins.length ci] [] [gW,iH.sl (.slice P.inputs.addr P.inputs.list.length P.inputs.cap) P.inputs.list,hO P.inputs.list,lH.sl (.slice P.lines.addr P.lines.list.length P.lines.cap) P.lines.list,jK P.lines.list,cT.sl (.slice D dims.length cd) dims,iN.sl (.slice I ins.length ci) ins,Fact.each ins gA] (fun(x:BegX)=>bval x (fM P.pr dims (ins.map ArrV.arr)).2) (fun(x:BegX)=>bout x) (fun(x:BegX)=>[bpost x (fM P.pr dims (ins.map ArrV.arr))]):=by
  have hT:=dB;generalize hR:fM P.pr dims (ins.map ArrV.arr)=r;refine cQ Tryz.func23 rfl Tryz.ntmps23 rfl ?_;intro β hM;refine sr<|fH rfl rfl rfl rfl rfl rfl fun b1=>?_;refine fH rfl rfl rfl rfl rfl rfl fun b2=>?_;refine sp hT ?_;refine cF rfl rfl rfl rfl xF rfl fun b3=>?_;refine nn<|bA<|sr<|ss (ldN hT (bM kT2)) ?_;refine bO Tryz.func43 (sRight_spec P hP hl1 hl2) rfl rfl .nil ⟨(Has.of mT0),(Has.of mT1),(Has.of mT2),(Has.of mT3),(Has.of mT4),trivial⟩ fun _=>?_;refine sp hT ?_;refine nn<|bH rfl (fun hc25=>?_) (fun hc25=>?_)
  · have hc25:=fW hc25;refine sr<|ss (bZ rfl rfl (uH _)) ?_;refine sp hT ?_;refine sto hT .head ?_;refine nn<|bG<|bC ?_;have hr:=hR.symm.trans (bg_no (by assumption));subst hr;exact bL none rfl (bD rfl) (bN hT (bM .head) rfl rfl rfl rfl) .nil ⟨Has.pure (by first | decide | simp),trivial⟩ rfl
  have hc25:=fL hc25;refine bK<|bB<|bA ?_;have hrt:(dX P.pr).2=true:=by assumption
  have hfine:=bDr hrt;have hs: ∀x∈P.inputs.list,x.sides.list.length≤4:=fun x hx=>by have h1:=(hfine.input x.inp (yJ hx)).2.1;have h2:x.inp.sides.length=x.sides.list.length:=List.length_map _;omega
  have hTT:=all_sides_le hrt;have hpl:P.pr.inputs.length=P.inputs.list.length:=List.length_map _;refine bF<|sp hT ?_;refine nn<|sr<|ss (ldN hT (bM kT2)) ?_;refine bO Tryz.func11 (bIx P hl1 (fun x hx=>Nat.le_trans (hs x hx) (by decide)) (by omega)) rfl rfl .nil ⟨(Has.of mT1),(Has.of mT2),trivial⟩ fun⟨V,cv⟩=>?_;have hvl:(varsP P.pr).length≤256:=Nat.le_trans (vars_le P.pr) hTT;refine cF rfl rfl rfl rfl zeroStrs rfl fun b4=>?_;refine sto hT .head ?_;refine nn<|bA<|bA<|iJ kT2 ?_;refine iJ .head ?_;refine bF<|sp hT ?_;refine ss (ldO hT (bM kT1)) ?_;refine sp2 hT ?_;refine nn<|bR<|dC (ι:=Nat) [(2,_),(3,_),(4,_),(7,_),(8,_),(9,_),(30,_),(31,_)] ⟨rfl,rfl,rfl,rfl,rfl,rfl,rfl,rfl,trivial⟩ (fun i=>[(32,.int .i64 (i:Nat))]) (fun _=>[]) (fun i=>[Fact.pure (i≤P.inputs.list.length∧yS (varsP P.pr) P.pr.inputs i)]) (fun i=>P.inputs.list.length-i) 0 ⟨rfl,trivial⟩ .nil ⟨Has.pure (⟨by omega,few_start⟩),trivial⟩ ?_;rintro i;refine cE (Has.of mT0) fun hinv6=>?_;refine sr<|sp hT ?_;refine nn<|bA<|bH rfl (fun hc33=>?_) (fun hc33=>?_)
  · have hc33:=of_decide_eq_true hc33;refine bK<|bB<|bA<|bR<|sr ?_
    obtain⟨x5,hx6⟩: ∃x',P.inputs.list[i]?=some x':=⟨_,List.getElem?_eq_getElem (by omega)⟩
    refine ss (bS hT (k:=i) (bJ (Has.of mT6)) rfl rfl rfl rfl rfl rfl rfl (by omega)) ?_;refine ss (dJ hT (cR.knows (bJ (Has.of mT6)) (k:=i) (x:=x5) hx6 0) rfl rfl rfl rfl rfl) ?_;refine cF rfl rfl rfl rfl jE rfl fun b7=>?_;refine sto hT .head ?_;refine nn<|bA ?_;have hx0:P.pr.inputs[i]?=some x5.inp:=rB hx6;have hxs:=hs x5 (List.mem_of_getElem? hx6);refine bV (qL x5) (Has.each (Has.of mT7) (List.mem_of_getElem? hx6)) ?_;refine bF<|sp hT ?_;refine ss (ldO hT (dZ .head)) ?_;refine sp2 hT ?_;refine nn<|bR<|dC (ι:=Nat) [(2,_),(3,_),(4,_),(7,_),(8,_),(9,_),(11,_),(30,_),(31,_),(32,_),(37,_),(38,_)] ⟨rfl,rfl,rfl,rfl,rfl,rfl,rfl,rfl,rfl,rfl,rfl,rfl,trivial⟩ (fun j=>[(39,.int .i64 (j:Nat))]) (fun _=>[]) (fun j=>[Fact.pure (j≤x5.sides.list.length∧bCg (varsP P.pr) x5.inp.sides j)]) (fun j=>x5.sides.list.length-j) 0 ⟨rfl,trivial⟩ .nil ⟨Has.pure (⟨by omega,few_in⟩),trivial⟩ ?_;rintro j;refine cE (Has.of mT0) fun hinv9=>?_;refine sr<|sp hT ?_;refine nn<|bA<|bH rfl (fun hc40=>?_) (fun hc40=>?_)
    · have hc40:=of_decide_eq_true hc40;refine bK<|bB<|bA<|bR<|sr ?_
      obtain⟨x8,hx9⟩: ∃x',x5.sides.list[j]?=some x':=⟨_,List.getElem?_eq_getElem (by omega)⟩
      refine ss (bS hT (k:=j) (bJ (Has.of mT1)) rfl rfl rfl rfl rfl rfl rfl (by omega)) ?_;refine ss (dJ hT (cR.knows (bJ (Has.of mT1)) (k:=j) (x:=x8) hx9 0) rfl rfl rfl rfl rfl) ?_;refine cF rfl rfl rfl rfl tZ rfl fun b10=>?_;refine sto hT .head ?_;refine nn<|bA ?_;have hd0:x5.inp.sides[j]?=some x8.sd:=rB hx9;refine bF<|sp hT ?_;refine ss (ldO hT (bM .head)) ?_;refine sp2 hT ?_;refine cH (fun hg46=>?_) (fun hg46=>?_)
      · have hg46:x8.name=([]:Bs):=eq_of_beq hg46;refine sp2 hT ?_;refine ss (ldO hT (dE .head)) ?_;refine gQ (cS Tryz.func44 rfl rfl) (bJv x8.n) rfl rfl rfl rfl rfl rfl rfl .nil trivial fun _=>?_;refine sp2 hT ?_;refine cH (fun hg52=>?_) (fun hg52=>?_)
        · refine sk4 ?_;refine sk ?_;refine sp hT ?_;refine nn<|cL rfl rfl ?_;refine bA<|cU _ _ [(true,0),(true,1),(true,2),(true,3),(false,4)] cY (by decide+kernel) (.cons .head (.cons .head (.cons kT1 .nil))) bE.self ?_;refine puM hT ?_;refine stM rfl (ldO hT (dE kT1)) ?_;refine stM rfl (bZ rfl rfl (tW _ _)) ?_;refine puM hT ?_;refine cC (o:=_) rfl ?_;refine sto hT kT2 ?_;refine cB (.cons kT1 (.cons kT1 (.cons kT1 .nil))) (bE.drop 0) ?_;refine cM<|bB<|bG<|bI<|bC<|bC<|bI<|bI<|bC<|bC<|bI<|bC ?_;have hr:=hR.symm.trans (bg_few hrt (few_hit hinv6.2 hx0 hinv9.2 hd0 (by first | exact fs_a (by assumption) (by assumption) | exact fs_b (by assumption))));subst hr;exact bL none rfl (bD rfl) (bN hT (bM .head) rfl rfl rfl rfl) .nil ⟨Has.pure (by first | decide | simp),trivial⟩ rfl
        refine ss (cA hT (iE (Has.of mT3)) rfl rfl rfl rfl rfl) ?_;refine sp hT ?_;refine ss (ldO hT (bM .head)) ?_;refine bO Tryz.func45 (uR _ _ _ (by omega) x8.name) rfl rfl .nil ⟨Has.of mT5,trivial⟩ fun _=>?_;refine sp2 hT ?_;refine nn<|bH rfl (fun hc58=>?_) (fun hc58=>?_)
        · have hc58:=of_decide_eq_true hc58;refine bA<|cU _ _ [(true,0),(true,1),(true,2),(true,3),(false,4)] cY (by decide+kernel) (.cons .head (.cons .head (.cons kT1 .nil))) bE.self ?_;refine puM hT ?_;refine stM rfl (ldO hT (dE kT1)) ?_;refine stM rfl (bZ rfl rfl (tW _ _)) ?_;refine puM hT ?_;refine cC (o:=_) rfl ?_;refine sto hT kT2 ?_;refine cB (.cons kT1 (.cons kT1 (.cons kT1 .nil))) (bE.drop 0) ?_;refine cM<|bB<|bG<|bI<|bC<|bC<|bI<|bI<|bC<|bC<|bI<|bC ?_;have hr:=hR.symm.trans (bg_few hrt (few_hit hinv6.2 hx0 hinv9.2 hd0 (by first | exact fs_a (by assumption) (by assumption) | exact fs_b (by assumption))));subst hr;exact bL none rfl (bD rfl) (bN hT (bM .head) rfl rfl rfl rfl) .nil ⟨Has.pure (by first | decide | simp),trivial⟩ rfl
        have hc58:=Int.not_le.1 (of_decide_eq_false hc58);refine bK<|bY<|bB<|bF<|sp hT ?_;refine bP (z':=(((j+1):Nat):Int)) (cK (by omega) (by omega)) ?_;refine sp hT ?_;refine nn ?_;exact cP (j+1) (by omega) ⟨rfl,trivial⟩ ⟨rfl,rfl,rfl,rfl,rfl,rfl,rfl,rfl,rfl,rfl,rfl,rfl,trivial⟩ (.cons kT1 (.cons kT1 (.cons kT1 .nil))) ⟨Has.pure (⟨by omega,few_next hinv9.2 hd0 (by first | exact fs_c (by assumption) (by assumption) | exact fs_d (by assumption) (by assumption))⟩),trivial⟩ (bE.drop 1)
      have hg46:x8.name≠([]:Bs):=fun h=>absurd (beq_iff_eq.2 h) (by rw [show(x8.name==([]:Bs))=false from hg46];simp);refine sk4 ?_;refine sp2 hT ?_;refine ss (cA hT (iE (Has.of mT3)) rfl rfl rfl rfl rfl) ?_;refine sp hT ?_;refine ss (ldO hT (bM .head)) ?_;refine bO Tryz.func45 (uR _ _ _ (by omega) x8.name) rfl rfl .nil ⟨Has.of mT5,trivial⟩ fun _=>?_;refine sp2 hT ?_;refine nn<|bH rfl (fun hc58=>?_) (fun hc58=>?_)
      · have hc58:=of_decide_eq_true hc58;refine bA<|cU _ _ [(true,0),(true,1),(true,2),(true,3),(false,4)] cY (by decide+kernel) (.cons .head (.cons .head (.cons kT1 .nil))) bE.self ?_;refine puM hT ?_;refine stM rfl (ldO hT (dE kT1)) ?_;refine stM rfl (bZ rfl rfl (tW _ _)) ?_;refine puM hT ?_;refine cC (o:=_) rfl ?_;refine sto hT kT2 ?_;refine cB (.cons kT1 (.cons kT1 (.cons kT1 .nil))) (bE.drop 0) ?_;refine cM<|bB<|bG<|bI<|bC<|bC<|bI<|bI<|bC<|bC<|bI<|bC ?_;have hr:=hR.symm.trans (bg_few hrt (few_hit hinv6.2 hx0 hinv9.2 hd0 (by first | exact fs_a (by assumption) (by assumption) | exact fs_b (by assumption))));subst hr;exact bL none rfl (bD rfl) (bN hT (bM .head) rfl rfl rfl rfl) .nil ⟨Has.pure (by first | decide | simp),trivial⟩ rfl
      have hc58:=Int.not_le.1 (of_decide_eq_false hc58);refine bK<|bY<|bB<|bF<|sp hT ?_;refine bP (z':=(((j+1):Nat):Int)) (cK (by omega) (by omega)) ?_;refine sp hT ?_;refine nn ?_;exact cP (j+1) (by omega) ⟨rfl,trivial⟩ ⟨rfl,rfl,rfl,rfl,rfl,rfl,rfl,rfl,rfl,rfl,rfl,rfl,trivial⟩ (.cons kT1 (.cons kT1 (.cons kT1 .nil))) ⟨Has.pure (⟨by omega,few_next hinv9.2 hd0 (by first | exact fs_c (by assumption) (by assumption) | exact fs_d (by assumption) (by assumption))⟩),trivial⟩ (bE.drop 1)
    have hc40:=Int.not_lt.1 (of_decide_eq_false hc40);refine cW<|cJ<|cJ<|cX<|bY<|bB<|bF<|sp hT ?_;refine bP (z':=(((i+1):Nat):Int)) (cK (by omega) (by omega)) ?_;refine sp hT ?_;refine nn ?_;exact cP (i+1) (by omega) ⟨rfl,trivial⟩ ⟨rfl,rfl,rfl,rfl,rfl,rfl,rfl,rfl,trivial⟩ (.cons kT1 (.cons kT1 .nil)) ⟨Has.pure (⟨by omega,few_out hinv6.2 hx0 hinv9.2 (by show(x5.sides.list.map iP.sd).length≤j;rw [List.length_map];omega)⟩),trivial⟩ (bE.drop 3)
  have hc33:=Int.not_lt.1 (of_decide_eq_false hc33);refine cW<|cJ<|cJ<|cX<|bB<|bA<|bA ?_;have hfn:=few_end hinv6.2 (by omega);refine bF<|ss (cA hT (iE (Has.of mT2)) rfl rfl rfl rfl rfl) ?_;refine sp hT ?_;refine ss (cA hT (iE (Has.of mT1)) rfl rfl rfl rfl rfl) ?_;refine sp3 hT ?_;refine cH (fun hg69=>?_) (fun hg69=>?_)
  · have hg69:=bne_iff_ne.1 hg69;refine sk3 ?_;refine sp hT ?_;refine nn<|cL rfl rfl ?_;refine sr<|ss (bZ rfl rfl (uH _)) ?_;refine sp hT ?_;refine sto hT .head ?_;refine nn<|bG<|bC ?_;have hr:=hR.symm.trans (bg_dims hrt hfn (by first | exact .inl (by omega) | exact .inr (by assumption)));subst hr;exact bL none rfl (bD rfl) (bN hT (bM .head) rfl rfl rfl rfl) .nil ⟨Has.pure (by first | decide | simp),trivial⟩ rfl
  have hg69:=bne_eq_false_iff_eq.1 hg69;refine ss (cA hT (iE (Has.of mT2)) rfl rfl rfl rfl rfl) ?_;refine sp hT ?_;refine bO Tryz.func46 (qQ _ _ _ hdl _ lV (cS Tryz.func44 rfl rfl) bJv) rfl rfl .nil ⟨Has.of mT10,trivial⟩ fun _=>?_;refine sp hT ?_;refine nn<|bH rfl (fun hc73=>?_) (fun hc73=>?_)
  · refine sr<|ss (bZ rfl rfl (uH _)) ?_;refine sp hT ?_;refine sto hT .head ?_;refine nn<|bG<|bC ?_;have hr:=hR.symm.trans (bg_dims hrt hfn (by first | exact .inl (by omega) | exact .inr (by assumption)));subst hr;exact bL none rfl (bD rfl) (bN hT (bM .head) rfl rfl rfl rfl) .nil ⟨Has.pure (by first | decide | simp),trivial⟩ rfl
  refine bK<|bB<|bA<|sr<|sp3 hT ?_;refine ss (ldO hT (bM kT1)) ?_;refine sp2 hT ?_;refine nn<|bH rfl (fun hc80=>?_) (fun hc80=>?_)
  · have hc80:=bne_iff_ne.1 hc80;refine sr<|ss (bZ rfl rfl (uH _)) ?_;refine sp hT ?_;refine sto hT .head ?_;refine nn<|bG<|bC ?_;have hr:=hR.symm.trans (bg_ins hrt hfn (by omega) (by assumption) (by rw [List.length_map];omega));subst hr;exact bL none rfl (bD rfl) (bN hT (bM .head) rfl rfl rfl rfl) .nil ⟨Has.pure (by first | decide | simp),trivial⟩ rfl
  have hc80:=bne_eq_false_iff_eq.1 hc80;refine bK<|bB<|sr<|bCw rfl rfl rfl rfl fun r11=>?_;refine ss (bZ rfl rfl (run_built r11)) ?_;refine fH rfl rfl rfl rfl rfl rfl fun b12=>?_;refine sp hT ?_;refine nn<|bA<|bA<|bV (pR []) (Has.each_nil) ?_;refine bF<|ss (cA hT (iE (Has.of mT2)) rfl rfl rfl rfl rfl) ?_;refine sp2 hT ?_;refine nn<|bR<|dC (ι:=Nat×KVS×NamesV) [(2,_),(3,_),(4,_),(7,_),(9,_),(14,_),(85,_),(86,_)] ⟨rfl,rfl,rfl,rfl,rfl,rfl,rfl,rfl,trivial⟩ (fun⟨i,kv,NV⟩=>[(87,.int .i64 (i:Nat))]) (fun⟨i,kv,NV⟩=>[sH r11 kv]) (fun⟨i,kv,NV⟩=>[Fact.pure (i≤(varsP P.pr).length∧VNAt (varsP P.pr) dims i NV kv),pR NV]) (fun⟨i,kv,NV⟩=>(varsP P.pr).length-i) (0,[],[]) ⟨rfl,trivial⟩ (.cons kT1 .nil) ⟨Has.pure (⟨by omega,vn_start⟩),Has.of mT0,trivial⟩ ?_;rintro⟨i,kv,NV⟩;dsimp only;refine cE (Has.of mT0) fun hinv21=>?_;refine sr<|sp hT ?_;refine nn<|bA<|bH rfl (fun hc88=>?_) (fun hc88=>?_)
  · have hc88:=of_decide_eq_true hc88;refine bK<|bB<|bA<|bR<|sr<|sp hT ?_
    obtain⟨x13,hx14⟩: ∃x',(varsP P.pr)[i]?=some x':=⟨_,List.getElem?_eq_getElem (by omega)⟩
    refine ss (bS hT (k:=i) (bJ (Has.of mT6)) rfl rfl rfl rfl rfl rfl rfl (by omega)) ?_;refine ss (cA hT (cR.knows (bJ (Has.of mT6)) (k:=i) (x:=x13) hx14 0) rfl rfl rfl rfl rfl) ?_;refine sp2 hT ?_;refine nn<|cU _ _ [(true,0),(true,1),(true,2),(true,3),(true,4),(true,5),(true,6),(true,7),(true,8),(false,9),(true,10),(false,11)] cY (by decide+kernel) (.cons kT1 (.cons kT1 (.cons kT1 .nil))) bE.self ?_;refine puM hT ?_;refine puM hT ?_;refine puM hT ?_;refine stM rfl (ldO hT (bM .head)) ?_;refine puM hT ?_;refine stM rfl (cA hT (iE (Has.of mT5)) rfl rfl rfl rfl rfl) ?_;refine puM hT ?_
    obtain⟨x15,hx16⟩: ∃x',dims[i]?=some x':=⟨_,List.getElem?_eq_getElem (by omega)⟩
    refine stM rfl (bS hT (k:=i) (bJ (Has.of mT13)) rfl rfl rfl rfl rfl rfl rfl (by omega)) ?_;refine stM rfl (cA hT (cR.knows (bJ (Has.of mT13)) (k:=i) (x:=x15) hx16 0) rfl rfl rfl rfl rfl) ?_;refine cC (o:=_) rfl ?_;refine fQ (m:=(x15:Int)) rfl rfl rfl rfl rfl fun b17=>?_;refine dQ (E:=cT) (xs:=[(x15:Int)]) .head (by simp [maxLen]) ?_;refine cB (.cons kT2 (.cons kT2 (.cons kT2 .nil))) (bE.drop 0) ?_;refine stM rfl (bZ rfl rfl (rE _ _ _)) ?_;refine cC (o:=_) rfl ?_;refine kQ kT1 rfl (.inl rfl) rfl bIp Tryz.underlying9 rfl rfl rfl ?_;refine cB (.cons kT2 (.cons kT2 (.cons kT2 .nil))) (bE.drop 0) ?_;refine cM<|bY<|bB<|bW kT1 ?_;refine bV (pR ((x13,(⟨⟨none,0,[]⟩,⟨(some ⟨b17,0,none⟩),1,[(x15:Int)]⟩⟩:ArrV))::NV)) (Has.each_cons (fA rW (Has.of mT0) ⟨Nat.le_refl 0,Nat.le_refl 1⟩) (Has.of mT2)) ?_;refine bF<|sp hT ?_;refine bP (z':=(((i+1):Nat):Int)) (cK (by omega) (by omega)) ?_;refine sp hT ?_;refine nn ?_;exact cP (i+1,_,(x13,(⟨⟨none,0,[]⟩,⟨(some ⟨b17,0,none⟩),1,[(x15:Int)]⟩⟩:ArrV))::NV) (by dsimp only;omega) ⟨rfl,trivial⟩ ⟨rfl,rfl,rfl,rfl,rfl,rfl,rfl,rfl,trivial⟩ (.cons .head (.cons .head (.cons .head (.cons .head .nil)))) ⟨Has.pure (⟨by dsimp only;omega,vn_step hinv21.2 hx14 hx16 rfl⟩),Has.of mT0,trivial⟩ (bE.drop 4)
  have hc88:=Int.not_lt.1 (of_decide_eq_false hc88);refine cW<|cJ<|cJ<|cX<|bB<|sr<|sp2 hT ?_;refine nn<|bA<|bA ?_;have hbg:=hR.symm.trans (bg_go hrt hfn (by omega) (by assumption) (by rw [List.length_map];omega));rw [vn_end hinv21.2 (by omega)] at hbg;refine bF<|sp hT ?_;refine ss (ldO hT (bM kT3)) ?_;refine sp2 hT ?_;refine nn<|bR<|dC (ι:=Nat×KVS×NamesV) [(2,_),(7,_),(14,_),(17,_),(106,_),(107,_)] ⟨rfl,rfl,rfl,rfl,rfl,rfl,trivial⟩ (fun⟨i,kv,NV⟩=>[(108,.int .i64 (i:Nat))]) (fun⟨i,kv,NV⟩=>[sH r11 kv]) (fun⟨i,kv,NV⟩=>[Fact.pure (i≤P.inputs.list.length∧InAt (varsP P.pr) dims P.pr.inputs ins i NV kv r),pR NV]) (fun⟨i,kv,NV⟩=>P.inputs.list.length-i) (0,kv,NV) ⟨rfl,trivial⟩ (.cons .head .nil) ⟨Has.pure (⟨by omega,hinv21.2.1,hbg⟩),Has.of mT1,trivial⟩ ?_;rintro⟨i,kv,NV⟩;dsimp only;refine cE (Has.of mT0) fun hinv27=>?_;refine sr<|sp hT ?_;refine nn<|bA<|bH rfl (fun hc109=>?_) (fun hc109=>?_)
  · have hc109:=of_decide_eq_true hc109;refine bK<|bB<|bA<|bR<|sr<|sp hT ?_
    obtain⟨x18,hx19⟩: ∃x',P.inputs.list[i]?=some x':=⟨_,List.getElem?_eq_getElem (by omega)⟩
    refine ss (bS hT (k:=i) (bJ (Has.of bIl)) rfl rfl rfl rfl rfl rfl rfl (by omega)) ?_;refine ss (dJ hT (cR.knows (bJ (Has.of bIl)) (k:=i) (x:=x18) hx19 0) rfl rfl rfl rfl rfl) ?_;refine cF rfl rfl rfl rfl jE rfl fun b20=>?_;refine sp hT ?_;refine sto hT .head ?_;refine nn<|bA ?_;have hx0:P.pr.inputs[i]?=some x18.inp:=rB hx19;have hxs:=hs x18 (List.mem_of_getElem? hx19);refine bV (qL x18) (Has.each (Has.of uE) (List.mem_of_getElem? hx19)) ?_
    obtain⟨a,ha⟩: ∃a,ins[i]?=some a:=⟨_,List.getElem?_eq_getElem (by omega)⟩
    have hIa:=hI a (List.mem_of_getElem? ha);refine bV (gA a) (Has.each (Has.of (.tail _ (.tail _ (.tail _ (.tail _ (.tail _ (.tail _ (.tail _ (.tail _ (.tail _ (.tail _ (.tail _ (.tail _ (.tail _ (.tail _ (.tail _ (.tail _ (.tail _ (.tail _ mT0))))))))))))))))))) (List.mem_of_getElem? ha)) ?_;refine bV (cT.sl (.slice a.sides.addr a.sides.list.length a.sides.cap) a.sides.list) (jL (Has.of mT0)) ?_;refine cU _ _ [(true,0),(true,1),(true,2),(true,3),(false,4),(true,5),(true,6),(true,7),(true,8),(true,9),(true,10),(true,11),(true,12),(true,13),(true,14),(true,15),(true,16),(true,17)] cY (by decide+kernel) (.cons .head (.cons .head (.cons .head (.cons .head (.cons .head .nil))))) bE.self ?_;refine puM hT ?_;refine puM hT ?_;refine stM rfl (bS hT (k:=i) (bJ (Has.of (.tail _ (.tail _ (.tail _ (.tail _ (.tail _ (.tail _ (.tail _ (.tail _ (.tail _ (.tail _ (.tail _ (.tail _ (.tail _ (.tail _ (.tail _ (.tail _ (.tail _ (.tail _ (.tail _ mT0))))))))))))))))))))) rfl rfl rfl rfl rfl rfl rfl (by omega)) ?_;refine stM rfl (dJ hT (cR.knows (bJ (Has.of (.tail _ (.tail _ (.tail _ (.tail _ (.tail _ (.tail _ (.tail _ (.tail _ (.tail _ (.tail _ (.tail _ (.tail _ (.tail _ (.tail _ (.tail _ (.tail _ (.tail _ (.tail _ (.tail _ mT0))))))))))))))))))))) (k:=i) (x:=a) ha 0) rfl rfl rfl rfl rfl) ?_;refine cC (o:=_) rfl ?_;refine bO Tryz.func16 (jJ a hIa) rfl rfl .nil ⟨(Has.of mT0),trivial⟩ fun _=>?_;refine cB (.cons .head (.cons .head (.cons .head (.cons .head (.cons .head .nil))))) (bE.drop 0) ?_;refine puM hT ?_;refine cH (fun hg118=>?_) (fun hg118=>?_)
    · refine puM hT ?_;refine puM hT ?_;refine stM rfl (bS hT (k:=i) (bJ (Has.of (.tail _ (.tail _ (.tail _ (.tail _ (.tail _ (.tail _ (.tail _ (.tail _ (.tail _ (.tail _ (.tail _ (.tail _ (.tail _ (.tail _ (.tail _ (.tail _ (.tail _ (.tail _ (.tail _ mT0))))))))))))))))))))) rfl rfl rfl rfl rfl rfl rfl (by omega)) ?_;refine puM hT ?_;refine stM rfl (cA hT (cR.knows (bJ (Has.of (.tail _ (.tail _ (.tail _ (.tail _ (.tail _ (.tail _ (.tail _ (.tail _ (.tail _ (.tail _ (.tail _ (.tail _ (.tail _ (.tail _ (.tail _ (.tail _ (.tail _ (.tail _ (.tail _ mT0))))))))))))))))))))) (k:=i) (x:=a) ha 0) rfl rfl rfl rfl rfl) ?_;refine puM hT ?_;refine puM hT ?_;refine stM rfl (ldO hT (dZ .head)) ?_;refine puM hT ?_;refine puM hT ?_;refine puM hT ?_;refine cI (t':=decide (a.sides.list.length=x18.sides.list.length)) (by rw [Bool.eq_iff_iff];simp;omega) ?_;refine puM hT ?_;refine cM<|bB<|bA<|sr<|sp hT ?_;refine ss (ldO hT (dZ .head)) ?_;refine sp2 hT ?_;refine nn<|bR<|dC (ι:=Nat×Bool) [(2,_),(7,_),(14,_),(17,_),(18,_),(19,_),(106,_),(107,_),(108,_),(119,_),(120,_),(121,_),(122,_),(123,_),(124,_),(125,_),(126,_),(127,_),(128,_),(131,_),(132,_)] ⟨rfl,rfl,rfl,rfl,rfl,rfl,rfl,rfl,rfl,rfl,rfl,rfl,rfl,rfl,rfl,rfl,rfl,rfl,rfl,rfl,rfl,trivial⟩ (fun⟨k,b⟩=>[(20,.bool b),(133,.int .i64 (k:Nat))]) (fun _=>[]) (fun⟨k,b⟩=>[Fact.pure (k≤x18.sides.list.length∧vR (varsP P.pr) dims x18.inp a.arr k b)]) (fun⟨k,b⟩=>x18.sides.list.length-k) (0,decide (a.sides.list.length=x18.sides.list.length)) ⟨rfl,rfl,trivial⟩ .nil ⟨Has.pure (⟨by omega,fit_t_of (by assumption) (List.length_map _)⟩),trivial⟩ ?_;rintro⟨k,b⟩;dsimp only;refine cE (Has.of mT0) fun hinv31=>?_;refine sr<|sp hT ?_;refine nn<|bA<|bH rfl (fun hc134=>?_) (fun hc134=>?_)
      · have hc134:=of_decide_eq_true hc134;refine bK<|bB<|bA<|bR<|sr<|sp hT ?_
        obtain⟨x21,hx22⟩: ∃x',x18.sides.list[k]?=some x':=⟨_,List.getElem?_eq_getElem (by omega)⟩
        refine ss (bS hT (k:=k) (bJ (Has.of mT3)) rfl rfl rfl rfl rfl rfl rfl (by omega)) ?_;refine ss (dJ hT (cR.knows (bJ (Has.of mT3)) (k:=k) (x:=x21) hx22 0) rfl rfl rfl rfl rfl) ?_;refine cF rfl rfl rfl rfl tZ rfl fun b23=>?_;refine sp hT ?_;refine sto hT .head ?_;refine nn ?_;have hd0:x18.inp.sides[k]?=some x21.sd:=rB hx22;refine cU _ _ [(true,0),(true,1),(true,2),(true,3),(true,4),(true,5),(true,6),(true,7),(true,8),(true,9),(true,10),(true,11),(false,12),(true,13),(true,14),(true,15)] cY (by decide+kernel) (.cons .head (.cons .head (.cons .head (.cons .head (.cons .head (.cons .head .nil)))))) bE.self ?_;refine puM hT ?_;refine puM hT ?_;refine cH (fun hg139=>?_) (fun hg139=>?_)
        · subst hg139;have hfl:a.sides.list.length=x18.sides.list.length:=(hinv31.2.2 rfl).trans (List.length_map _);refine puM hT ?_;refine puM hT ?_;refine stM rfl (bS hT (k:=i) (bJ (Has.of (.tail _ (.tail _ (.tail _ (.tail _ (.tail _ (.tail _ (.tail _ (.tail _ (.tail _ (.tail _ (.tail _ (.tail _ (.tail _ (.tail _ (.tail _ (.tail _ (.tail _ (.tail _ (.tail _ (.tail _ mT0)))))))))))))))))))))) rfl rfl rfl rfl rfl rfl rfl (by omega)) ?_;refine puM hT ?_;refine stM rfl (cA hT (cR.knows (bJ (Has.of (.tail _ (.tail _ (.tail _ (.tail _ (.tail _ (.tail _ (.tail _ (.tail _ (.tail _ (.tail _ (.tail _ (.tail _ (.tail _ (.tail _ (.tail _ (.tail _ (.tail _ (.tail _ (.tail _ (.tail _ mT0)))))))))))))))))))))) (k:=i) (x:=a) ha 0) rfl rfl rfl rfl rfl) ?_;refine puM hT ?_
          obtain⟨x24,hx25⟩: ∃x',a.sides.list[k]?=some x':=⟨_,List.getElem?_eq_getElem (by omega)⟩
          refine stM rfl (bS hT (k:=k) (bJ (Has.of mT1)) rfl rfl rfl rfl rfl rfl rfl (by omega)) ?_;refine stM rfl (cA hT (cR.knows (bJ (Has.of mT1)) (k:=k) (x:=x24) hx25 0) rfl rfl rfl rfl rfl) ?_;refine puM hT ?_;refine stM rfl (ldN hT (bM .head)) ?_;refine cC (o:=_) rfl ?_;refine gQ (cS Tryz.func47 rfl rfl) (bCt b2 b4 D V cd cv dims (varsP P.pr) (by omega) x21 (fun hn=>side_var (x:=x18.inp) (d:=x21.sd) (yJ (List.mem_of_getElem? hx19)) (mem_sd (List.mem_of_getElem? hx22)) hn (by omega))) rfl rfl rfl rfl rfl rfl rfl .nil ⟨(Has.of bIl),(Has.of mT10),(Has.of (.tail _ (.tail _ (.tail _ (.tail _ (.tail _ (.tail _ (.tail _ (.tail _ (.tail _ (.tail _ (.tail _ (.tail _ (.tail _ (.tail _ (.tail _ (.tail _ (.tail _ (.tail _ (.tail _ mT0)))))))))))))))))))),(Has.of uE),trivial⟩ fun _=>?_;refine cB (.cons .head (.cons .head (.cons .head (.cons .head (.cons .head (.cons .head .nil)))))) (bE.drop 0) ?_;refine puM hT ?_;refine puM hT ?_;refine cI (t':=decide (x24=nS (varsP P.pr) dims x21.sd)) (by rw [Bool.eq_iff_iff];simp) ?_;refine puM hT ?_;refine cM<|bY<|bB<|bF<|sp hT ?_;refine bP (z':=(((k+1):Nat):Int)) (cK (by omega) (by omega)) ?_;refine sp hT ?_;refine nn ?_;exact cP (k+1,decide (x24=nS (varsP P.pr) dims x21.sd)) (by dsimp only;omega) ⟨rfl,rfl,trivial⟩ ⟨rfl,rfl,rfl,rfl,rfl,rfl,rfl,rfl,rfl,rfl,rfl,rfl,rfl,rfl,rfl,rfl,rfl,rfl,rfl,rfl,rfl,trivial⟩ (.cons kT1 (.cons kT1 (.cons kT1 (.cons kT1 (.cons kT1 .nil))))) ⟨Has.pure (⟨by dsimp only;omega,fit_step hinv31.2 hx25 hd0⟩),trivial⟩ (bE.drop 1)
        subst hg139;refine cG rfl rfl rfl rfl ?_;refine cG rfl rfl rfl rfl ?_;refine cG rfl rfl rfl rfl ?_;refine cG rfl rfl rfl rfl ?_;refine cG rfl rfl rfl rfl ?_;refine cG rfl rfl rfl rfl ?_;refine cG rfl rfl rfl rfl ?_;refine cG rfl rfl rfl rfl ?_;refine cG rfl rfl rfl rfl ?_;refine cG rfl rfl rfl rfl ?_;refine cC (o:=_) rfl ?_;refine sk ?_;refine cB (.cons .head (.cons .head (.cons .head (.cons .head (.cons .head (.cons .head .nil)))))) (bE.drop 0) ?_;refine cG rfl rfl rfl rfl ?_;refine puM hT ?_;refine puM hT ?_;refine cM<|bY<|bB<|bF<|sp hT ?_;refine bP (z':=(((k+1):Nat):Int)) (cK (by omega) (by omega)) ?_;refine sp hT ?_;refine nn ?_;exact cP (k+1,false) (by dsimp only;omega) ⟨rfl,rfl,trivial⟩ ⟨rfl,rfl,rfl,rfl,rfl,rfl,rfl,rfl,rfl,rfl,rfl,rfl,rfl,rfl,rfl,rfl,rfl,rfl,rfl,rfl,rfl,trivial⟩ (.cons kT1 (.cons kT1 (.cons kT1 (.cons kT1 (.cons kT1 .nil))))) ⟨Has.pure (⟨by dsimp only;omega,fit_skip hinv31.2⟩),trivial⟩ (bE.drop 1)
      have hc134:=Int.not_lt.1 (of_decide_eq_false hc134);refine cW<|cJ<|cJ<|cX<|bB<|bA<|bA ?_;have hfe:=fit_end hinv31.2 (by show(x18.sides.list.map iP.sd).length≤k;rw [List.length_map];omega);refine bF<|sp2 hT ?_;refine nn<|bH rfl (fun hc155=>?_) (fun hc155=>?_)
      · have hc155:=fW hc155;refine bA<|cU _ _ [(true,0),(true,1),(true,2),(true,3),(false,4)] cY (by decide+kernel) (.cons .head (.cons .head (.cons .head (.cons kT1 .nil)))) bE.self ?_;refine puM hT ?_;refine stM rfl (ldO hT (dE .head)) ?_;refine stM rfl (bZ rfl rfl (tW _ _)) ?_;refine puM hT ?_;refine cC (o:=_) rfl ?_;refine sto hT kT3 ?_;refine cB (.cons kT1 (.cons kT1 (.cons kT1 (.cons kT1 .nil)))) (bE.drop 0) ?_;refine cM<|bB<|bG<|bC<|bI<|bC<|bC<|bI<|bC ?_;have hr:=in_bad hinv27.2 hx0 ha (hfe.trans (by assumption));subst hr;exact bL none rfl (bD rfl) (bN hT (bM .head) rfl rfl rfl rfl) .nil ⟨Has.pure (by first | decide | simp),trivial⟩ rfl
      have hc155:=fL hc155;refine bK<|bB<|cU _ _ [(true,0),(true,1),(true,2),(true,3),(true,4),(true,5),(true,6),(true,7),(true,8),(true,9),(false,10)] cY (by decide+kernel) (.cons .head (.cons kT1 (.cons kT1 (.cons kT1 .nil)))) bE.self ?_;refine puM hT ?_;refine puM hT ?_;refine puM hT ?_;refine stM rfl (ldO hT (bM kT1)) ?_;refine puM hT ?_;refine stM rfl (ldO hT (bM .head)) ?_;refine puM hT ?_;refine puM hT ?_;refine stM rfl (bS hT (k:=i) (bJ (Has.of (.tail _ (.tail _ (.tail _ (.tail _ (.tail _ (.tail _ (.tail _ (.tail _ (.tail _ (.tail _ (.tail _ (.tail _ (.tail _ (.tail _ (.tail _ (.tail _ (.tail _ (.tail _ (.tail _ (.tail _ mT0)))))))))))))))))))))) rfl rfl rfl rfl rfl rfl rfl (by omega)) ?_;refine stM rfl (dJ hT (cR.knows (bJ (Has.of (.tail _ (.tail _ (.tail _ (.tail _ (.tail _ (.tail _ (.tail _ (.tail _ (.tail _ (.tail _ (.tail _ (.tail _ (.tail _ (.tail _ (.tail _ (.tail _ (.tail _ (.tail _ (.tail _ (.tail _ mT0)))))))))))))))))))))) (k:=i) (x:=a) ha 0) rfl rfl rfl rfl rfl) ?_;refine cC (o:=_) rfl ?_;refine kQ kT1 rfl (.inl rfl) rfl bIp Tryz.underlying9 rfl rfl rfl ?_;refine cB (.cons kT1 (.cons kT1 (.cons kT1 (.cons kT1 .nil)))) (bE.drop 0) ?_;refine cM<|bY<|bB<|bV (pR ((x18.name,a)::NV)) (Has.each_cons (Has.of mT2) (Has.of mT5)) ?_;refine bF<|sp hT ?_;refine bP (z':=(((i+1):Nat):Int)) (cK (by omega) (by omega)) ?_;refine sp hT ?_;refine nn ?_;exact cP (i+1,_,(x18.name,a)::NV) (by dsimp only;omega) ⟨rfl,trivial⟩ ⟨rfl,rfl,rfl,rfl,rfl,rfl,trivial⟩ (.cons .head (.cons kT1 (.cons kT1 (.cons kT1 .nil)))) ⟨Has.pure (⟨by dsimp only;omega,in_ok hinv27.2 hx0 ha (hfe.trans (by assumption))⟩),Has.of mT0,trivial⟩ (bE.drop 7)
    refine cG rfl rfl rfl rfl ?_;refine cG rfl rfl rfl rfl ?_;refine cG rfl rfl rfl rfl ?_;refine cG rfl rfl rfl rfl ?_;refine cG rfl rfl rfl rfl ?_;refine cG rfl rfl rfl rfl ?_;refine cG rfl rfl rfl rfl ?_;refine cG rfl rfl rfl rfl ?_;refine cG rfl rfl rfl rfl ?_;refine cG rfl rfl rfl rfl ?_;refine puM hT ?_;refine puM hT ?_;refine cM<|bB<|bA<|sr<|sp hT ?_;refine ss (ldO hT (dZ .head)) ?_;refine sp2 hT ?_;refine nn<|bR<|dC (ι:=Nat×Bool) [(2,_),(7,_),(14,_),(17,_),(18,_),(19,_),(106,_),(107,_),(108,_),(119,_),(120,_),(121,_),(122,_),(123,_),(124,_),(125,_),(126,_),(127,_),(128,_),(131,_),(132,_)] ⟨rfl,rfl,rfl,rfl,rfl,rfl,rfl,rfl,rfl,rfl,rfl,rfl,rfl,rfl,rfl,rfl,rfl,rfl,rfl,rfl,rfl,trivial⟩ (fun⟨k,b⟩=>[(20,.bool b),(133,.int .i64 (k:Nat))]) (fun _=>[]) (fun⟨k,b⟩=>[Fact.pure (k≤x18.sides.list.length∧vR (varsP P.pr) dims x18.inp a.arr k b)]) (fun⟨k,b⟩=>x18.sides.list.length-k) (0,false) ⟨rfl,rfl,trivial⟩ .nil ⟨Has.pure (⟨by omega,fit_start_f (by assumption)⟩),trivial⟩ ?_;rintro⟨k,b⟩;dsimp only;refine cE (Has.of mT0) fun hinv31=>?_;refine sr<|sp hT ?_;refine nn<|bA<|bH rfl (fun hc134=>?_) (fun hc134=>?_)
    · have hc134:=of_decide_eq_true hc134;refine bK<|bB<|bA<|bR<|sr<|sp hT ?_
      obtain⟨x26,hx27⟩: ∃x',x18.sides.list[k]?=some x':=⟨_,List.getElem?_eq_getElem (by omega)⟩
      refine ss (bS hT (k:=k) (bJ (Has.of mT3)) rfl rfl rfl rfl rfl rfl rfl (by omega)) ?_;refine ss (dJ hT (cR.knows (bJ (Has.of mT3)) (k:=k) (x:=x26) hx27 0) rfl rfl rfl rfl rfl) ?_;refine cF rfl rfl rfl rfl tZ rfl fun b28=>?_;refine sp hT ?_;refine sto hT .head ?_;refine nn ?_;have hd0:x18.inp.sides[k]?=some x26.sd:=rB hx27;refine cU _ _ [(true,0),(true,1),(true,2),(true,3),(true,4),(true,5),(true,6),(true,7),(true,8),(true,9),(true,10),(true,11),(false,12),(true,13),(true,14),(true,15)] cY (by decide+kernel) (.cons .head (.cons .head (.cons .head (.cons .head (.cons .head (.cons .head .nil)))))) bE.self ?_;refine puM hT ?_;refine puM hT ?_;refine cH (fun hg139=>?_) (fun hg139=>?_)
      · subst hg139;have hfl:a.sides.list.length=x18.sides.list.length:=(hinv31.2.2 rfl).trans (List.length_map _);refine puM hT ?_;refine puM hT ?_;refine stM rfl (bS hT (k:=i) (bJ (Has.of (.tail _ (.tail _ (.tail _ (.tail _ (.tail _ (.tail _ (.tail _ (.tail _ (.tail _ (.tail _ (.tail _ (.tail _ (.tail _ (.tail _ (.tail _ (.tail _ (.tail _ (.tail _ (.tail _ (.tail _ mT0)))))))))))))))))))))) rfl rfl rfl rfl rfl rfl rfl (by omega)) ?_;refine puM hT ?_;refine stM rfl (cA hT (cR.knows (bJ (Has.of (.tail _ (.tail _ (.tail _ (.tail _ (.tail _ (.tail _ (.tail _ (.tail _ (.tail _ (.tail _ (.tail _ (.tail _ (.tail _ (.tail _ (.tail _ (.tail _ (.tail _ (.tail _ (.tail _ (.tail _ mT0)))))))))))))))))))))) (k:=i) (x:=a) ha 0) rfl rfl rfl rfl rfl) ?_;refine puM hT ?_
        obtain⟨x29,hx30⟩: ∃x',a.sides.list[k]?=some x':=⟨_,List.getElem?_eq_getElem (by omega)⟩
        refine stM rfl (bS hT (k:=k) (bJ (Has.of mT1)) rfl rfl rfl rfl rfl rfl rfl (by omega)) ?_;refine stM rfl (cA hT (cR.knows (bJ (Has.of mT1)) (k:=k) (x:=x29) hx30 0) rfl rfl rfl rfl rfl) ?_;refine puM hT ?_;refine stM rfl (ldN hT (bM .head)) ?_;refine cC (o:=_) rfl ?_;refine gQ (cS Tryz.func47 rfl rfl) (bCt b2 b4 D V cd cv dims (varsP P.pr) (by omega) x26 (fun hn=>side_var (x:=x18.inp) (d:=x26.sd) (yJ (List.mem_of_getElem? hx19)) (mem_sd (List.mem_of_getElem? hx27)) hn (by omega))) rfl rfl rfl rfl rfl rfl rfl .nil ⟨(Has.of bIl),(Has.of mT10),(Has.of (.tail _ (.tail _ (.tail _ (.tail _ (.tail _ (.tail _ (.tail _ (.tail _ (.tail _ (.tail _ (.tail _ (.tail _ (.tail _ (.tail _ (.tail _ (.tail _ (.tail _ (.tail _ (.tail _ mT0)))))))))))))))))))),(Has.of uE),trivial⟩ fun _=>?_;refine cB (.cons .head (.cons .head (.cons .head (.cons .head (.cons .head (.cons .head .nil)))))) (bE.drop 0) ?_;refine puM hT ?_;refine puM hT ?_;refine cI (t':=decide (x29=nS (varsP P.pr) dims x26.sd)) (by rw [Bool.eq_iff_iff];simp) ?_;refine puM hT ?_;refine cM<|bY<|bB<|bF<|sp hT ?_;refine bP (z':=(((k+1):Nat):Int)) (cK (by omega) (by omega)) ?_;refine sp hT ?_;refine nn ?_;exact cP (k+1,decide (x29=nS (varsP P.pr) dims x26.sd)) (by dsimp only;omega) ⟨rfl,rfl,trivial⟩ ⟨rfl,rfl,rfl,rfl,rfl,rfl,rfl,rfl,rfl,rfl,rfl,rfl,rfl,rfl,rfl,rfl,rfl,rfl,rfl,rfl,rfl,trivial⟩ (.cons kT1 (.cons kT1 (.cons kT1 (.cons kT1 (.cons kT1 .nil))))) ⟨Has.pure (⟨by dsimp only;omega,fit_step hinv31.2 hx30 hd0⟩),trivial⟩ (bE.drop 1)
      subst hg139;refine cG rfl rfl rfl rfl ?_;refine cG rfl rfl rfl rfl ?_;refine cG rfl rfl rfl rfl ?_;refine cG rfl rfl rfl rfl ?_;refine cG rfl rfl rfl rfl ?_;refine cG rfl rfl rfl rfl ?_;refine cG rfl rfl rfl rfl ?_;refine cG rfl rfl rfl rfl ?_;refine cG rfl rfl rfl rfl ?_;refine cG rfl rfl rfl rfl ?_;refine cC (o:=_) rfl ?_;refine sk ?_;refine cB (.cons .head (.cons .head (.cons .head (.cons .head (.cons .head (.cons .head .nil)))))) (bE.drop 0) ?_;refine cG rfl rfl rfl rfl ?_;refine puM hT ?_;refine puM hT ?_;refine cM<|bY<|bB<|bF<|sp hT ?_;refine bP (z':=(((k+1):Nat):Int)) (cK (by omega) (by omega)) ?_;refine sp hT ?_;refine nn ?_;exact cP (k+1,false) (by dsimp only;omega) ⟨rfl,rfl,trivial⟩ ⟨rfl,rfl,rfl,rfl,rfl,rfl,rfl,rfl,rfl,rfl,rfl,rfl,rfl,rfl,rfl,rfl,rfl,rfl,rfl,rfl,rfl,trivial⟩ (.cons kT1 (.cons kT1 (.cons kT1 (.cons kT1 (.cons kT1 .nil))))) ⟨Has.pure (⟨by dsimp only;omega,fit_skip hinv31.2⟩),trivial⟩ (bE.drop 1)
    have hc134:=Int.not_lt.1 (of_decide_eq_false hc134);refine cW<|cJ<|cJ<|cX<|bB<|bA<|bA ?_;have hfe:=fit_end hinv31.2 (by show(x18.sides.list.map iP.sd).length≤k;rw [List.length_map];omega);refine bF<|sp2 hT ?_;refine nn<|bH rfl (fun hc155=>?_) (fun hc155=>?_)
    · have hc155:=fW hc155;refine bA<|cU _ _ [(true,0),(true,1),(true,2),(true,3),(false,4)] cY (by decide+kernel) (.cons .head (.cons .head (.cons .head (.cons kT1 .nil)))) bE.self ?_;refine puM hT ?_;refine stM rfl (ldO hT (dE .head)) ?_;refine stM rfl (bZ rfl rfl (tW _ _)) ?_;refine puM hT ?_;refine cC (o:=_) rfl ?_;refine sto hT kT3 ?_;refine cB (.cons kT1 (.cons kT1 (.cons kT1 (.cons kT1 .nil)))) (bE.drop 0) ?_;refine cM<|bB<|bG<|bC<|bI<|bC<|bC<|bI<|bC ?_;have hr:=in_bad hinv27.2 hx0 ha (hfe.trans (by assumption));subst hr;exact bL none rfl (bD rfl) (bN hT (bM .head) rfl rfl rfl rfl) .nil ⟨Has.pure (by first | decide | simp),trivial⟩ rfl
    have hc155:=fL hc155;refine bK<|bB<|cU _ _ [(true,0),(true,1),(true,2),(true,3),(true,4),(true,5),(true,6),(true,7),(true,8),(true,9),(false,10)] cY (by decide+kernel) (.cons .head (.cons kT1 (.cons kT1 (.cons kT1 .nil)))) bE.self ?_;refine puM hT ?_;refine puM hT ?_;refine puM hT ?_;refine stM rfl (ldO hT (bM kT1)) ?_;refine puM hT ?_;refine stM rfl (ldO hT (bM .head)) ?_;refine puM hT ?_;refine puM hT ?_;refine stM rfl (bS hT (k:=i) (bJ (Has.of (.tail _ (.tail _ (.tail _ (.tail _ (.tail _ (.tail _ (.tail _ (.tail _ (.tail _ (.tail _ (.tail _ (.tail _ (.tail _ (.tail _ (.tail _ (.tail _ (.tail _ (.tail _ (.tail _ (.tail _ mT0)))))))))))))))))))))) rfl rfl rfl rfl rfl rfl rfl (by omega)) ?_;refine stM rfl (dJ hT (cR.knows (bJ (Has.of (.tail _ (.tail _ (.tail _ (.tail _ (.tail _ (.tail _ (.tail _ (.tail _ (.tail _ (.tail _ (.tail _ (.tail _ (.tail _ (.tail _ (.tail _ (.tail _ (.tail _ (.tail _ (.tail _ (.tail _ mT0)))))))))))))))))))))) (k:=i) (x:=a) ha 0) rfl rfl rfl rfl rfl) ?_;refine cC (o:=_) rfl ?_;refine kQ kT1 rfl (.inl rfl) rfl bIp Tryz.underlying9 rfl rfl rfl ?_;refine cB (.cons kT1 (.cons kT1 (.cons kT1 (.cons kT1 .nil)))) (bE.drop 0) ?_;refine cM<|bY<|bB<|bV (pR ((x18.name,a)::NV)) (Has.each_cons (Has.of mT2) (Has.of mT5)) ?_;refine bF<|sp hT ?_;refine bP (z':=(((i+1):Nat):Int)) (cK (by omega) (by omega)) ?_;refine sp hT ?_;refine nn ?_;exact cP (i+1,_,(x18.name,a)::NV) (by dsimp only;omega) ⟨rfl,trivial⟩ ⟨rfl,rfl,rfl,rfl,rfl,rfl,trivial⟩ (.cons .head (.cons kT1 (.cons kT1 (.cons kT1 .nil)))) ⟨Has.pure (⟨by dsimp only;omega,in_ok hinv27.2 hx0 ha (hfe.trans (by assumption))⟩),Has.of mT0,trivial⟩ (bE.drop 7)
  have hc109:=Int.not_lt.1 (of_decide_eq_false hc109);refine cW<|cJ<|cJ<|cX<|bB<|sr<|sp hT ?_;refine ss (bZ rfl rfl (uT)) ?_;refine sp hT ?_;refine sto hT kT2 ?_;refine nn<|bG ?_;have hr:=in_fin hinv27.2 (by omega);subst hr;exact bL (some (b12,r11,kv,NV)) rfl (bD rfl) (bN hT (bM .head) rfl rfl rfl rfl) (.cons kT2 (.cons kT1 .nil)) ⟨(Has.pure ⟨hinv27.2.1,rfl⟩).and (Has.of mT1),trivial⟩ rfl
end Go.Proofs.YtciimjjleglmaaaGreatDoor
