/- Texts of one proof, one behind the other: PrimG, MeanL, MeanU, MeanA, MeanB. -/
import Derived.Test.YtbgdphbebhjpiaaGreatDoorM13
import Derived.Test.YtbgdphbebhjpiaaGreatDoorM11
namespace Go.Proofs.YtbgdphbebhjpiaaGreatDoor
open Go.RowKit
theorem const_map(N:Nat)(u:Int):((List.range N).map fun _=>u)=List.replicate N u:=by
  rw [List.map_const'];simp
theorem scans_total{f:Int}{a:Arr}(ha:cP a=true):(nU f (fD a).1 0).1.flatten.length≤65536:=by
  rw [uY f _ 0 (zI ha)];exact(pC ha).1
set_option maxRecDepth 100000 in
theorem FoldS_spec(f:Int)(x:ArrV)(hx:cP x.arr=true):dG Tryz.prog 62 [.int .u8 f,.agg #[.slice x.sides.addr x.sides.list.length x.sides.cap,.slice x.data.addr x.data.list.length x.data.cap]] [] [gW x] (fun(y:ArrV)=> .tuple #[.agg #[.slice y.sides.addr y.sides.list.length y.sides.cap,.slice y.data.addr y.data.list.length y.data.cap],.int .i64 (lQ f x.arr).2]) (fun _=>[]) (fun(y:ArrV)=>[gW y,Fact.pure (y.arr=(lQ f x.arr).1)]):=by
  have hT:=dA;generalize hR:lQ f x.arr=r;refine cQ Tryz.func62 rfl Tryz.ntmps62 rfl ?_;intro β hM;refine bA<|bW (cT.sl (.slice x.data.addr x.data.list.length x.data.cap) x.data.list) (kY (Has.of mT0)) ?_;refine bW (cT.sl (.slice x.sides.addr x.sides.list.length x.sides.cap) x.sides.list) (kO (Has.of mT1)) ?_;refine cD (mM (Has.of mT2)) fun hcap=>?_;have hcs:=hcap.1;have hcd:=hcap.2;have hs4:x.sides.list.length≤4:=iD hx;have hd6:x.data.list.length≤65536:=gT hx;refine bE<|fH rfl rfl rfl rfl rfl rfl fun b1=>?_;refine cG rfl rfl rfl rfl jH rfl fun b2=>?_;refine sp hT ?_;refine nn<|bA<|sr<|ss (ldN hT (bM kT1)) ?_;refine bO Tryz.func17 (jX x (by omega)) rfl rfl .nil ⟨(Has.of mT0),trivial⟩ fun _=>?_;refine cI (t':=true) (hx) ?_;refine sp hT ?_;refine nn<|cN rfl rfl ?_;refine bK<|bB<|bA<|sr<|sp hT ?_;refine bO Tryz.func112 (lD _ _) rfl rfl .nil trivial fun _=>?_;refine sp hT ?_;refine nn<|bH rfl (fun hc29=>?_) (fun hc29=>?_)
  · have hc29:=gA hc29;refine sr<|bO Tryz.func105 (dC _) rfl rfl .nil trivial fun _=>?_;refine sp2 hT ?_;refine sto hT .head ?_;refine sp hT ?_;refine nn<|bG<|bC ?_;have hr:=hR.symm.trans (foA_no hx (by assumption));subst hr;exact bL jJ rfl (bN hT (bM .head) rfl rfl rfl rfl) (bD rfl) .nil ⟨fN,Has.pure rfl,trivial⟩ rfl
  have hc29:=fM hc29;refine bK<|bB<|sr<|sp hT ?_;refine ss (ldO hT (bM kT1)) ?_;refine sp2 hT ?_;refine nn<|bA<|sr<|sp2 hT ?_;refine nn<|bH rfl (fun hc37=>?_) (fun hc37=>?_)
  · have hc37:=eq_of_beq hc37;refine sr<|sp hT ?_;refine ss (ldO hT (dD kT1)) ?_;refine bO Tryz.func33 (dJ _ _ _ (by omega)) rfl rfl .nil ⟨(Has.of mT1),trivial⟩ fun⟨A3,c4⟩=>?_;refine dV .head fun hgc=>?_;refine bX .head ?_;refine bO Tryz.func107 (fL _ _ _ _ _ ([]:List Int) (by first | omega | (simp;done) | (simp;omega))) rfl rfl .nil ⟨rM,trivial⟩ fun⟨A5,c6⟩=>?_;refine cD (Has.of mT1) fun hgs=>?_;refine sp2 hT ?_;refine sto hT .head ?_;refine sp hT ?_;refine nn<|bG<|bC ?_;have hr:=hR.symm.trans (foA_nil hx (by assumption) (by show x.sides.list.length=0;omega));subst hr;exact bL (⟨⟨A5,c6,([]:List Int)⟩,⟨A3,c4,x.data.list⟩⟩:ArrV) rfl (bN hT (bM .head) rfl rfl rfl rfl) (bD rfl) .nil ⟨fG (dQ (Has.of mT0) (by first | rfl | (simp;done))) (dQ (Has.of mT2) (by first | rfl | exact hlen.symm | (simp;done) | (simp;omega) | (simp [cZ];done))) ⟨hgs,hgc⟩,Has.pure rfl,trivial⟩ (by first | rfl | (simp;done) | (simp;omega) | (simp [cZ];done))
  have hc37:=beq_eq_false_iff_ne.1 hc37;refine bK<|bB<|sr<|sp hT ?_;refine ss (ldO hT (bM kT1)) ?_;refine sp2 hT ?_;refine bP (z':=(((x.sides.list.length-1):Nat):Int)) (cJ (by omega) (by omega)) ?_;refine ss (pZ hT (k:=x.sides.list.length-1) rfl rfl rfl rfl rfl rfl (by omega)) ?_;refine bW (cT.sl (.slice x.sides.addr (x.sides.list.length-1) x.sides.cap) (x.sides.list.take (x.sides.list.length-1))) (jK (Has.of mT0) (by omega)) ?_;have hlen:(x.sides.list.take (x.sides.list.length-1)).length=x.sides.list.length-1:=by rw [List.length_take];omega
  have csp:=dJ x.sides.addr x.sides.cap (x.sides.list.take (x.sides.list.length-1)) (by rw [hlen];omega);rw [hlen] at csp;refine bO Tryz.func33 csp rfl rfl .nil ⟨(Has.of mT0),trivial⟩ fun⟨A7,c8⟩=>?_;refine sp hT ?_;refine nn<|bA ?_;obtain⟨N,hN,hN6⟩:=size_nat (x.sides.list.take (x.sides.list.length-1));refine bE<|sp hT ?_;have zsp:=kK A7 c8 (x.sides.list.take (x.sides.list.length-1)) (by rw [hlen];omega);rw [hlen] at zsp;refine iV (cS Tryz.func36 rfl rfl) zsp rfl rfl rfl rfl rfl .nil (.cons .head .nil) (nF nD) ⟨Has.of mT0,trivial⟩ (fun _=>True) (fun _ _ _ _=>trivial) fun _ _=>?_;refine sp2 hT ?_;refine bP (z':=((N:Nat):Int)) hN ?_;refine sp3 hT ?_;refine nn<|bA<|sr<|sp2 hT ?_;refine nn<|bH rfl (fun hc56=>?_) (fun hc56=>?_)
  · have hc56:=bne_iff_ne.1 hc56;refine sr<|bO Tryz.func105 (dC _) rfl rfl .nil trivial fun _=>?_;refine sp2 hT ?_;refine sto hT kT1 ?_;refine sp hT ?_;refine nn<|bG<|bC ?_;have hr:=hR.symm.trans (foA_size hx (by assumption) (by show x.sides.list.length≠0;omega) (by assumption));subst hr;exact bL jJ rfl (bN hT (bM .head) rfl rfl rfl rfl) (bD rfl) .nil ⟨fN,Has.pure rfl,trivial⟩ rfl
  have hc56:=bne_eq_false_iff_eq.1 hc56;refine bK<|bB<|sr<|sp hT ?_;refine bO Tryz.func114 (bDh f) rfl rfl .nil trivial fun⟨bf9,bp10⟩=>?_;refine sp hT ?_;refine nn<|sr<|sp hT ?_;refine pD (m:=N) rfl rfl rfl rfl rfl rfl (by omega) fun b11=>?_;refine sp hT ?_;refine nn<|bA<|sr<|sp hT ?_;refine ss (ldO hT (bM kT4)) ?_;refine sp2 hT ?_;refine bP (z':=(((x.sides.list.length-1):Nat):Int)) (cJ (by omega) (by omega)) ?_
  obtain⟨x12,hx13⟩: ∃x',x.sides.list[(x.sides.list.length-1)]?=some x':=⟨_,List.getElem?_eq_getElem (by omega)⟩
  refine ss (bS hT (k:=(x.sides.list.length-1)) (bJ (Has.of mT2)) rfl rfl rfl rfl rfl rfl rfl (by omega)) ?_;refine ss (bZ hT (cR.knows (bJ (Has.of mT2)) (k:=(x.sides.list.length-1)) (x:=x12) hx13 0) rfl rfl rfl rfl rfl) ?_;refine sp hT ?_;refine nn<|bH rfl (fun hc70=>?_) (fun hc70=>?_)
  · have hc70:=eq_of_beq hc70;refine sr<|sp hT ?_;refine bO Tryz.func115 (Unit_spec _) rfl rfl .nil trivial fun _=>?_;refine sp4 hT ?_;refine sp hT ?_;refine nn<|bA<|sr<|sp3 hT ?_;refine nn<|bR<|dB (ι:=Nat×List Int) [(4,_),(7,_),(10,_),(11,_),(12,_),(77,_)] ⟨rfl,rfl,rfl,rfl,rfl,rfl,trivial⟩ (fun⟨i,cur⟩=>[(78,.int .i64 (i:Nat))]) (fun⟨i,cur⟩=>[cT.row (.slice (some ⟨b11,0,none⟩) N N) 2 cur]) (fun⟨i,cur⟩=>[Fact.pure (i≤N∧bDt (fun _=>(oZ f).1) N cur i)]) (fun⟨i,cur⟩=>N-i) (0,List.replicate N 0) ⟨rfl,trivial⟩ (.cons .head .nil) ⟨Has.pure (⟨by omega,bAq _ _⟩),trivial⟩ ?_;rintro⟨i,cur⟩;dsimp only;refine cD (Has.of mT0) fun hinv17=>?_;refine sr<|sp hT ?_;refine nn<|bA<|bH rfl (fun hc79=>?_) (fun hc79=>?_)
    · have hc79:=of_decide_eq_true hc79;refine bK<|bB<|bA<|bR<|sr<|sp2 hT ?_;refine nn<|bE<|sp3 hT ?_
      obtain⟨x14,hx15⟩: ∃x',cur[i]?=some x':=⟨_,List.getElem?_eq_getElem (by have:=hinv17.2.1;omega)⟩
      refine ss (fI hT (k:=i) rfl rfl rfl rfl rfl rfl (by have:=hinv17.2.1;omega)) ?_;refine dI hT (k:=i) (fo:=0) (y':=(oZ f).1) .head rfl rfl rfl rfl rfl rfl rfl rfl rfl hx15 rfl ?_;refine dR<|bY<|bB<|bE<|sp hT ?_;refine bP (z':=(((i+1):Nat):Int)) (cJ (by omega) (by omega)) ?_;refine sp hT ?_;refine nn ?_;exact cO (i+1,_) (by dsimp only;omega) ⟨rfl,trivial⟩ ⟨rfl,rfl,rfl,rfl,rfl,rfl,trivial⟩ (.cons .head (.cons .head (.cons .head (.cons .head (.cons .head .nil))))) ⟨Has.pure (⟨by dsimp only;omega,bFx hinv17.2 (by omega) rfl⟩),trivial⟩ (bF.drop 1)
    have hc79:=Int.not_lt.1 (of_decide_eq_false hc79);refine cW<|cK<|cK<|cX<|bB<|bA ?_;have hge:=gen_end hinv17.2 (by omega) (by omega);subst hge;rw [const_map];refine bE<|sp3 hT ?_;refine bO Tryz.func116 (mP bp10 bf9 _ rfl _ _ _ _ _ _) rfl rfl (.cons kT1 .nil) trivial fun _=>?_;refine sp2 hT ?_;refine sto hT kT3 ?_;refine sp hT ?_;refine nn<|bG<|bC ?_;have hr:=hR.symm.trans (foA_unit hx (by assumption) (by show x.sides.list.length≠0;omega) (by show(dT (x.sides.list.take (x.sides.list.length-1))).2=0;omega) hN hx13 (by assumption));subst hr;refine dV kT3 fun hga=>?_;refine bX kT3 ?_;refine dV kT2 fun hgb=>?_;refine bX kT2 ?_;exact bL (⟨⟨A7,c8,(x.sides.list.take (x.sides.list.length-1))⟩,⟨(some ⟨b11,0,none⟩),N,(List.replicate N (oZ f).1)⟩⟩:ArrV) rfl (bN hT (bM .head) rfl rfl rfl rfl) (bD rfl) .nil ⟨fG (dQ (Has.of mT1) (by first | rfl | exact hlen.symm | (simp;done))) (dQ (Has.of mT0) (by first | rfl | (simp;done) | (simp;omega) | omega)) ⟨hga,hgb⟩,Has.pure rfl,trivial⟩ (by first | rfl | (simp;done) | (simp;omega))
  have hc70:=beq_eq_false_iff_ne.1 hc70;refine bK<|bB<|sr<|ss (ldN hT (bM kT4)) ?_;refine bO Tryz.func108 (uJ x (by omega) (by omega) hcd) rfl rfl .nil ⟨(Has.of mT2),(Has.of mT3),trivial⟩ fun⟨LA,Lc,xs⟩=>?_;refine jS (H':=_::([_,_,_,_,_]++xs.map laneRow)) (List.Perm.cons _ List.perm_append_comm) ?_;refine cD (Has.of mT0) fun hxl=>?_;have hlt:=pC hx;have hxn:xs.length=(fD x.arr).1.length:=by rw [←hxl,List.length_map]
  refine sp4 hT ?_;refine sp hT ?_;refine nn<|bA<|bA<|jS (List.perm_append_comm (l₁:=[_,_,_,_,_,_])) ?_;refine mA xs ?_;refine bX .head ?_;have hfl:=fold_lanes hx (by show(dT (x.sides.list.take (x.sides.list.length-1))).2=0;omega) hN hx13 (by assumption);have hxN:xs.length=N:=hxn.trans hfl;refine bE<|sp3 hT ?_;refine nn<|bR<|dB (ι:=Nat×Int×List Int) [(4,_),(7,_),(10,_),(11,_),(97,_),(98,_)] ⟨rfl,rfl,rfl,rfl,rfl,rfl,trivial⟩ (fun⟨i,w,o⟩=>[(99,.int .i64 (i:Nat))]) (fun⟨i,w,o⟩=>[pM bp10 bf9 w,cT.row (.slice (some ⟨b11,0,none⟩) N N) 2 o]) (fun⟨i,w,o⟩=>[Fact.pure (i≤xs.length∧zD f (xs.map (·.list)) i o w (pJ f (xs.map (·.list)) 0)∧o.length=N)]) (fun⟨i,w,o⟩=>xs.length-i) (0,0,List.replicate N 0) ⟨rfl,trivial⟩ (.cons kT1 (.cons .head .nil)) ⟨Has.pure (⟨by omega,folds_start _ _ _ (by rw [List.length_map,List.length_replicate];omega),by simp⟩),trivial⟩ ?_;rintro⟨i,w,o⟩;dsimp only;refine cD (Has.of mT0) fun hinv24=>?_;refine sr<|sp hT ?_;refine nn<|bA<|bH rfl (fun hc100=>?_) (fun hc100=>?_)
  · have hc100:=of_decide_eq_true hc100;refine bK<|bB<|bA<|bR<|sr<|sp hT ?_
    obtain⟨x16,hx17⟩: ∃x',xs[i]?=some x':=⟨_,List.getElem?_eq_getElem (by omega)⟩
    refine ss (bS hT (k:=i) (bJ (Has.of mT1)) rfl rfl rfl rfl rfl rfl rfl (by omega)) ?_;refine ss (bZ hT (cR.knows (bJ (Has.of mT1)) (k:=i) (x:=x16) hx17 0) rfl rfl rfl rfl rfl) ?_;refine sp2 hT ?_;refine nn<|bA<|cD (Has.right (Has.each (Has.of mT2) (List.mem_of_getElem? hx17))) fun hlc=>?_;refine bW (cT.sl (.slice x16.addr x16.list.length x16.cap) x16.list) (Has.left (Has.each (Has.of mT2) (List.mem_of_getElem? hx17))) ?_;have hne:x16.list≠[]:=zI hx _ (by rw [←hxl];exact List.mem_map.2 ⟨_,List.mem_of_getElem? hx17,rfl⟩);have hnl:=List.length_pos_iff.2 hne;have hll:=bDc (uU hx hxl) hx17;refine bE<|sp3 hT ?_
    obtain⟨x18,hx19⟩: ∃x',x16.list[0]?=some x':=⟨_,List.getElem?_eq_getElem (by omega)⟩
    refine ss (bS hT (k:=0) (bJ (Has.of mT0)) rfl rfl rfl rfl rfl rfl rfl (by omega)) ?_;refine ss (bZ hT (cR.knows (bJ (Has.of mT0)) (k:=0) (x:=x18) hx19 0) rfl rfl rfl rfl rfl) ?_
    obtain⟨x20,hx21⟩: ∃x',o[i]?=some x':=⟨_,List.getElem?_eq_getElem (by have:=hinv24.2.2;omega)⟩
    refine ss (fI hT (k:=i) rfl rfl rfl rfl rfl rfl (by have:=hinv24.2.2;omega)) ?_;refine dI hT (k:=i) (fo:=0) (y':=x18) kT1 rfl rfl rfl rfl rfl rfl rfl rfl rfl hx21 rfl ?_;refine nn<|sr<|sp hT ?_;refine ss (gO hT (k:=1) rfl rfl rfl rfl rfl rfl (by omega)) ?_;refine bW (cT.sl (.slice (iX x16.addr 1 cT.size x16.cap) (x16.list.length-1) (x16.cap-1)) (x16.list.drop 1)) (kT (Has.of mT0) hlc (by omega)) ?_;refine sp2 hT ?_;refine nn<|bR<|dB (ι:=Nat×Int×Int×List Int) [(4,_),(7,_),(10,_),(11,_),(17,_),(97,_),(98,_),(99,_),(111,_),(112,_)] ⟨rfl,rfl,rfl,rfl,rfl,rfl,rfl,rfl,rfl,rfl,trivial⟩ (fun⟨k,n,w2,o2⟩=>[(113,.int .i64 (k:Nat))]) (fun⟨k,n,w2,o2⟩=>[pM bp10 bf9 w2,cT.row (.slice (some ⟨b11,0,none⟩) N N) 2 o2]) (fun⟨k,n,w2,o2⟩=>[Fact.pure (k≤x16.list.length-1∧o2=o.set i n∧bAl f (x16.list.drop 1) k n w2 (xT f (x16.list.drop 1) x18 w))]) (fun⟨k,n,w2,o2⟩=>x16.list.length-k) (0,x18,w,o.set i x18) ⟨rfl,trivial⟩ (.cons kT1 (.cons .head .nil)) ⟨Has.pure (⟨by omega,rfl,rfl⟩),trivial⟩ ?_;rintro⟨k,n,w2,o2⟩;dsimp only;refine cD (Has.of mT0) fun hinv28=>?_;refine sr<|sp hT ?_;refine nn<|bA<|bH rfl (fun hc114=>?_) (fun hc114=>?_)
    · have hc114:=of_decide_eq_true hc114;refine bK<|bB<|bA<|bR<|sr ?_
      obtain⟨x22,hx23⟩: ∃x',(x16.list.drop 1)[k]?=some x':=⟨_,List.getElem?_eq_getElem (by first | omega | (rw [List.length_drop];omega))⟩
      refine ss (bS hT (k:=k) (bJ (Has.of mT1)) rfl rfl rfl rfl rfl List.length_drop.symm rfl (by first | omega | (rw [List.length_drop];omega))) ?_;refine ss (bZ hT (cR.knows (bJ (Has.of mT1)) (k:=k) (x:=x22) hx23 0) rfl rfl rfl rfl rfl) ?_;refine sp hT ?_;refine nn ?_;have hon:o2[i]?=some n:=by rw [hinv28.2.1];exact List.getElem?_set_self (by have:=hinv24.2.2;omega)
      refine bE<|sp4 hT ?_;refine sp hT ?_;refine ss (fI hT (k:=i) rfl rfl rfl rfl rfl rfl (by omega)) ?_;refine ss (bZ hT (cR.knows (cH kT1) (k:=i) (x:=n) hon 0) rfl rfl rfl rfl rfl) ?_;refine sp hT ?_;refine bO Tryz.func117 (qB bp10 bf9 f w2 n x22) rfl rfl (.cons .head .nil) ⟨(Has.of mT7),trivial⟩ fun _=>?_;refine ss (fI hT (k:=i) rfl rfl rfl rfl rfl rfl (by omega)) ?_;refine dI hT (k:=i) (fo:=0) (y':=(gB f w2 n x22).1) kT1 rfl rfl rfl rfl rfl rfl rfl rfl rfl hon rfl ?_;refine dR<|bY<|bB<|bE<|sp hT ?_;refine bP (z':=(((k+1):Nat):Int)) (cJ (by omega) (by omega)) ?_;refine sp hT ?_;refine nn ?_;exact cO (k+1,(gB f w2 n x22).1,(gB f w2 n x22).2,_) (by dsimp only;omega) ⟨rfl,trivial⟩ ⟨rfl,rfl,rfl,rfl,rfl,rfl,rfl,rfl,rfl,rfl,trivial⟩ (.cons kT1 (.cons .head (.cons .head (.cons .head (.cons .head .nil))))) ⟨Has.pure (⟨by dsimp only;omega,by dsimp only;rw [hinv28.2.1,List.set_set],fold_step hinv28.2.2 hx23⟩),trivial⟩ (bF.drop 1)
    have hc114:=Int.not_lt.1 (of_decide_eq_false hc114);refine cW<|cK<|cK<|cX<|bY<|bB ?_
    have hfe:=(fold_end hinv28.2.2 (by rw [List.length_drop];omega))
    refine bE<|sp hT ?_;refine bP (z':=(((i+1):Nat):Int)) (cJ (by omega) (by omega)) ?_;refine sp hT ?_;refine nn ?_;exact cO (i+1,w2,o2) (by dsimp only;omega) ⟨rfl,trivial⟩ ⟨rfl,rfl,rfl,rfl,rfl,rfl,trivial⟩ (.cons .head (.cons .head (.cons .head (.cons .head (.cons .head .nil))))) ⟨Has.pure (⟨by dsimp only;omega,folds_step hinv24.2.1 (mJ hx17) hinv28.2.1 (by rw [←List.drop_one,lM hx19];exact hfe),by dsimp only;rw [hinv28.2.1,List.length_set];exact hinv24.2.2⟩),trivial⟩ (bF.drop 4)
  have hc100:=Int.not_lt.1 (of_decide_eq_false hc100);refine cW<|cK<|cK<|cX<|bB<|bA ?_;have hze:=folds_end hinv24.2.1 (by rw [List.length_map];omega);rw [hxl] at hze;have hol:=hinv24.2.2
  rcases Classical.em (w=0) with hw0 | hw0
  · refine bE<|sp3 hT ?_;refine bO Tryz.func116 (mP bp10 bf9 _ hw0 _ _ _ _ _ _) rfl rfl (.cons .head .nil) trivial fun _=>?_;refine sp2 hT ?_;refine sto hT kT3 ?_;refine sp hT ?_;refine nn<|bG ?_;have hr:=hR.symm.trans ((foA_ok hx (by assumption) (by show x.sides.list.length≠0;omega) (by show(dT (x.sides.list.take (x.sides.list.length-1))).2=0;omega) hx13 (by assumption)).trans (rS hze hw0));subst hr;refine dV kT3 fun hga=>?_;refine bX kT3 ?_;refine dV kT2 fun hgb=>?_;refine bX kT2 ?_;exact bL (⟨⟨A7,c8,(x.sides.list.take (x.sides.list.length-1))⟩,⟨(some ⟨b11,0,none⟩),N,o⟩⟩:ArrV) rfl (bN hT (bM .head) rfl rfl rfl rfl) (bD rfl) .nil ⟨fG (dQ (Has.of mT1) (by first | rfl | (simp;done))) (dQ (Has.of mT0) (by first | rfl | (simp;done) | (simp;omega) | omega)) ⟨hga,hgb⟩,Has.pure rfl,trivial⟩ (by first | rfl | (simp;done) | (simp;omega))
  refine bE<|sp3 hT ?_;refine bO Tryz.func116 (oG bp10 bf9 _ hw0 _ _ _ _ _ _) rfl rfl (.cons .head .nil) trivial fun _=>?_;refine sp2 hT ?_;refine sto hT kT3 ?_;refine sp hT ?_;refine nn<|bG ?_;have hr:=hR.symm.trans ((foA_ok hx (by assumption) (by show x.sides.list.length≠0;omega) (by show(dT (x.sides.list.take (x.sides.list.length-1))).2=0;omega) hx13 (by assumption)).trans (pX hze hw0));subst hr;exact bL jJ rfl (bN hT (bM .head) rfl rfl rfl rfl) (bD rfl) .nil ⟨fN,Has.pure rfl,trivial⟩ rfl
set_option maxRecDepth 100000 in
theorem ScanS_spec(f:Int)(x:ArrV)(hx:cP x.arr=true):dG Tryz.prog 63 [.int .u8 f,.agg #[.slice x.sides.addr x.sides.list.length x.sides.cap,.slice x.data.addr x.data.list.length x.data.cap]] [] [gW x] (fun(y:ArrV)=> .tuple #[.agg #[.slice y.sides.addr y.sides.list.length y.sides.cap,.slice y.data.addr y.data.list.length y.data.cap],.int .i64 (pN f x.arr).2]) (fun _=>[]) (fun(y:ArrV)=>[gW y,Fact.pure (y.arr=(pN f x.arr).1)]):=by
  have hT:=dA;generalize hR:pN f x.arr=r;refine cQ Tryz.func63 rfl Tryz.ntmps63 rfl ?_;intro β hM;refine bA<|bW (cT.sl (.slice x.data.addr x.data.list.length x.data.cap) x.data.list) (kY (Has.of mT0)) ?_;refine bW (cT.sl (.slice x.sides.addr x.sides.list.length x.sides.cap) x.sides.list) (kO (Has.of mT1)) ?_;refine cD (mM (Has.of mT2)) fun hcap=>?_;have hcs:=hcap.1;have hcd:=hcap.2;have hs4:x.sides.list.length≤4:=iD hx;have hd6:x.data.list.length≤65536:=gT hx;refine bE<|fH rfl rfl rfl rfl rfl rfl fun b1=>?_;refine cG rfl rfl rfl rfl jH rfl fun b2=>?_;refine sp hT ?_;refine nn<|bA<|sr<|ss (ldN hT (bM kT1)) ?_;refine bO Tryz.func17 (jX x (by omega)) rfl rfl .nil ⟨(Has.of mT0),trivial⟩ fun _=>?_;refine cI (t':=true) (hx) ?_;refine sp hT ?_;refine nn<|cN rfl rfl ?_;refine bK<|bB<|bA<|sr<|sp hT ?_;refine bO Tryz.func112 (lD _ _) rfl rfl .nil trivial fun _=>?_;refine sp hT ?_;refine nn<|bH rfl (fun hc20=>?_) (fun hc20=>?_)
  · have hc20:=gA hc20;refine sr<|bO Tryz.func105 (dC _) rfl rfl .nil trivial fun _=>?_;refine sp2 hT ?_;refine sto hT .head ?_;refine sp hT ?_;refine nn<|bG<|bC ?_;have hr:=hR.symm.trans (scA_no hx (by assumption));subst hr;exact bL jJ rfl (bN hT (bM .head) rfl rfl rfl rfl) (bD rfl) .nil ⟨fN,Has.pure rfl,trivial⟩ rfl
  have hc20:=fM hc20;refine bK<|bB<|sr<|sp hT ?_;refine bO Tryz.func114 (bDh f) rfl rfl .nil trivial fun⟨bf3,bp4⟩=>?_;refine sp hT ?_;refine nn<|sr<|ss (ldN hT (bM kT2)) ?_;refine bO Tryz.func108 (uJ x (by omega) (by omega) hcd) rfl rfl .nil ⟨(Has.of mT1),(Has.of mT2),trivial⟩ fun⟨LA,Lc,xs⟩=>?_;refine jS (H':=_::([_,_,_]++xs.map laneRow)) (List.Perm.cons _ List.perm_append_comm) ?_;refine cD (Has.of mT0) fun hxl=>?_;have hlt:=pC hx;have hxn:xs.length=(fD x.arr).1.length:=by rw [←hxl,List.length_map]
  refine sp4 hT ?_;refine sp hT ?_;refine nn<|bA<|sr<|sp3 hT ?_;refine nn<|bR<|bEr (ι:=Nat×Int×List (Sl Int)) [(3,_),(4,_),(6,_),(7,_),(31,_),(32,_)] ⟨rfl,rfl,rfl,rfl,rfl,rfl,trivial⟩ (fun⟨i,w,cur⟩=>[(33,.int .i64 (i:Nat))]) (fun⟨i,w,cur⟩=>[iY.row (.slice LA xs.length Lc) 30 cur,pM bp4 bf3 w]) [_,_] (fun⟨i,w,cur⟩=>cur) (fun⟨i,w,cur⟩=>[Fact.pure (i≤xs.length∧cur.length=xs.length∧vU f (xs.map (·.list)) (cur.map (·.list)) i w (nU f (xs.map (·.list)) 0)∧(∀s∈cur,s.list.length≤65536))]) (fun⟨i,w,cur⟩=>xs.length-i) (0,0,xs) ⟨rfl,trivial⟩ (.cons .head (.cons .head .nil)) ⟨Has.pure (⟨by omega,rfl,scans_start _ _,uU hx hxl⟩),trivial⟩ ?_;rintro⟨i,w,cur⟩;dsimp only;refine cD (Has.of mT0) fun hinv8=>?_;refine sr<|sp hT ?_;refine nn<|bA<|bH rfl (fun hc34=>?_) (fun hc34=>?_)
  · have hc34:=of_decide_eq_true hc34;refine bK<|bB<|bA<|bR<|sr ?_
    obtain⟨x5,hx6⟩: ∃x',cur[i]?=some x':=⟨_,List.getElem?_eq_getElem (by have:=hinv8.2.1;omega)⟩
    refine ss (bS hT (k:=i) (cH .head) rfl rfl rfl rfl rfl hinv8.2.1.symm rfl (by have:=hinv8.2.1;omega)) ?_;refine ss (bZ hT (cR.knows (cH .head) (k:=i) (x:=x5) hx6 0) rfl rfl rfl rfl rfl) ?_;refine sp hT ?_;refine nn<|bA<|jS (bFc hx6 [_,_,_,_]) ?_;have hne:x5.list≠[]:=zI hx _ (by rw [←hxl];exact List.mem_of_getElem? (scans_at hinv8.2.2.1 (mJ hx6)));have hll:=bDc hinv8.2.2.2 hx6;refine bE<|sp hT ?_;refine nn<|bR<|dB (ι:=Nat×Int×List Int) [(3,_),(4,_),(6,_),(7,_),(10,_),(31,_),(32,_),(33,_)] ⟨rfl,rfl,rfl,rfl,rfl,rfl,rfl,rfl,trivial⟩ (fun⟨k,w2,c⟩=>[(11,.int .i64 (k:Nat))]) (fun⟨k,w2,c⟩=>[cT.row (.slice x5.addr x5.list.length x5.cap) 2 c,pM bp4 bf3 w2]) (fun⟨k,w2,c⟩=>[Fact.pure (bFl f x5.list c k w2 (x5.list.headD 0::(nX f x5.list.tail (x5.list.headD 0) w).1,(nX f x5.list.tail (x5.list.headD 0) w).2)∧c.length=x5.list.length)]) (fun⟨k,w2,c⟩=>x5.list.length-k) (1,w,x5.list) ⟨rfl,trivial⟩ (.cons .head (.cons kT1 .nil)) ⟨Has.pure (⟨scan_start hne,rfl⟩),trivial⟩ ?_;rintro⟨k,w2,c⟩;dsimp only;refine cD (Has.of mT0) fun hinv11=>?_;refine bA<|sr<|sp4 hT ?_;refine nn<|bH rfl (fun hc40=>?_) (fun hc40=>?_)
    · have hc40:=of_decide_eq_true hc40;refine bK<|bB<|bA<|bR ?_;have hk1:=hinv11.1.2.1;refine pS 14 _ _ [(true,0),(true,1),(true,2),(true,3),(true,4),(true,5),(true,6),(true,7),(true,8),(true,9),(true,10),(true,11),(false,12),(true,13)] cY (by decide+kernel) (.cons .head (.cons kT1 (.cons kT1 (.cons kT1 (Sel.skip Sel.self))))) bF.self ?_;refine puL hT ?_;refine puL hT ?_;refine puL hT ?_;refine puL hT ?_;refine puL hT ?_;refine puL hT ?_;refine bP (z':=(((k-1):Nat):Int)) (cJ (by omega) (by omega)) ?_
      obtain⟨x7,hx8⟩: ∃x',c[(k-1)]?=some x':=⟨_,List.getElem?_eq_getElem (by have:=hinv11.2;omega)⟩
      refine stL rfl (bS hT (k:=(k-1)) (cH .head) rfl rfl rfl rfl rfl hinv11.2.symm rfl (by have:=hinv11.2;omega)) ?_;refine stL rfl (bZ hT (cR.knows (cH .head) (k:=(k-1)) (x:=x7) hx8 0) rfl rfl rfl rfl rfl) ?_;refine puL hT ?_;refine puL hT ?_
      obtain⟨x9,hx10⟩: ∃x',c[k]?=some x':=⟨_,List.getElem?_eq_getElem (by have:=hinv11.2;omega)⟩
      refine stL rfl (bS hT (k:=k) (cH .head) rfl rfl rfl rfl rfl hinv11.2.symm rfl (by have:=hinv11.2;omega)) ?_;refine stL rfl (bZ hT (cR.knows (cH .head) (k:=k) (x:=x9) hx10 0) rfl rfl rfl rfl rfl) ?_;refine iT (o:=_) rfl ?_;refine bO Tryz.func117 (qB bp4 bf3 f w2 x7 x9) rfl rfl (.cons kT1 .nil) ⟨(Has.of mT3),trivial⟩ fun _=>?_;refine iR (.cons kT1 (.cons kT1 (.cons kT1 (.cons kT1 (Sel.skip Sel.self))))) (bF.drop 0) ?_;refine stL rfl (bS hT (k:=k) (cH .head) rfl rfl rfl rfl rfl hinv11.2.symm rfl (by have:=hinv11.2;omega)) ?_;refine jZ (o:=_) rfl ?_;refine dI hT (k:=k) (fo:=0) (y':=(gB f w2 x7 x9).1) kT1 rfl rfl rfl rfl rfl rfl rfl rfl rfl hx10 rfl ?_;refine mI<|bY<|bB<|bE<|sp2 hT ?_;refine bP (z':=(((k+1):Nat):Int)) (cJ (by omega) (by omega)) ?_;refine sp hT ?_;refine nn ?_;exact cO (k+1,(gB f w2 x7 x9).2,_) (by dsimp only;omega) ⟨rfl,trivial⟩ ⟨rfl,rfl,rfl,rfl,rfl,rfl,rfl,rfl,trivial⟩ (.cons .head (.cons .head (.cons .head (.cons .head (.cons .head Sel.self))))) ⟨Has.pure (⟨scan_step hinv11.1 hx8 hx10,by dsimp only;rw [List.length_set];exact hinv11.2⟩),trivial⟩ (bF.drop 1)
    have hc40:=Int.not_lt.1 (of_decide_eq_false hc40);refine cW<|cK<|cK<|cX<|bY<|bB ?_;have hse:=scan_end hinv11.1 (by have:=hinv11.2;omega);rw [lane_eq hinv11.2];refine jS (bCh (xs:=cur) (y:=⟨x5.addr,x5.cap,c⟩) (i:=i) (List.getElem?_eq_some_iff.1 hx6).1 [_,_,_,_]) ?_;rw [←row_set (y:=⟨x5.addr,x5.cap,c⟩) hx6 rfl rfl hinv11.2];refine bE<|sp hT ?_;refine bP (z':=(((i+1):Nat):Int)) (cJ (by omega) (by omega)) ?_;refine sp hT ?_;refine nn ?_;exact bGw (i+1,w2,cur.set i ⟨x5.addr,x5.cap,c⟩) (by dsimp only;omega) ⟨rfl,trivial⟩ ⟨rfl,rfl,rfl,rfl,rfl,rfl,trivial⟩ (.cons kT1 (.cons .head (.cons .head (.cons .head Sel.self)))) ⟨Has.pure (⟨by dsimp only;omega,by dsimp only;rw [List.length_set];exact hinv8.2.1,by dsimp only;rw [List.map_set];exact scans_step hinv8.2.2.1 (mJ hx6) hse,all_setL hinv8.2.2.2 hx6 hinv11.2⟩),trivial⟩ (bF.drop 2)
  have hc34:=Int.not_lt.1 (of_decide_eq_false hc34);refine cW<|cK<|cK<|cX<|bB<|bA ?_;have hse:=scans_end hinv8.2.2.1 (by rw [List.length_map];omega);rw [hxl] at hse
  obtain⟨LS,hcm⟩: ∃LS,cur.map (·.list)=LS:=⟨_,rfl⟩
  rw [hcm] at hse;have hst:=scans_total (f:=f) hx;rw [hse] at hst;have hst:LS.flatten.length≤65536:=hst;refine jS (List.perm_append_comm (l₁:=[_,_,_,_])) ?_;refine mA cur ?_;refine bX .head ?_
  rcases Classical.em (w=0) with hw0 | hw0
  · refine bE<|sp2 hT ?_;refine ss (ldO hT (bM kT2)) ?_;refine bO Tryz.func33 (dJ _ _ _ (by omega)) rfl rfl .nil ⟨(Has.of mT5),trivial⟩ fun⟨A11,c12⟩=>?_;refine sp hT ?_;have csp:=jQ LA Lc cur (by omega) (by rw [hcm];omega);have hcl:cur.length=xs.length:=by omega
    rw [hcl,hcm] at csp;refine bO Tryz.func110 csp rfl rfl .nil ⟨(Has.of mT0),(Has.of mT1),trivial⟩ fun⟨A13,c14⟩=>?_;refine bO Tryz.func116 (mP bp4 bf3 _ hw0 _ _ _ _ _ _) rfl rfl (.cons kT2 .nil) trivial fun _=>?_;refine sp2 hT ?_;refine sto hT kT3 ?_;refine sp hT ?_;refine nn<|bG ?_;have hr:=hR.symm.trans ((scA_ok hx (by assumption) hse).trans (rS rfl hw0));subst hr;refine dV kT3 fun hga=>?_;refine bX kT3 ?_;refine dV kT2 fun hgb=>?_;refine bX kT2 ?_;exact bL (⟨⟨A11,c12,x.sides.list⟩,⟨A13,c14,LS.flatten⟩⟩:ArrV) rfl (bN hT (bM .head) rfl rfl rfl rfl) (bD rfl) .nil ⟨fG (dQ (Has.of mT1) (by first | rfl | (simp;done))) (dQ (Has.of mT0) (by first | rfl | (simp;done) | (simp;omega) | omega)) ⟨hga,hgb⟩,Has.pure rfl,trivial⟩ (by first | rfl | (simp;done) | (simp;omega))
  refine bE<|sp2 hT ?_;refine ss (ldO hT (bM kT2)) ?_;refine bO Tryz.func33 (dJ _ _ _ (by omega)) rfl rfl .nil ⟨(Has.of mT5),trivial⟩ fun⟨A15,c16⟩=>?_;refine sp hT ?_;have csp:=jQ LA Lc cur (by omega) (by rw [hcm];omega);have hcl:cur.length=xs.length:=by omega
  rw [hcl,hcm] at csp;refine bO Tryz.func110 csp rfl rfl .nil ⟨(Has.of mT0),(Has.of mT1),trivial⟩ fun⟨A17,c18⟩=>?_;refine bO Tryz.func116 (oG bp4 bf3 _ hw0 _ _ _ _ _ _) rfl rfl (.cons kT2 .nil) trivial fun _=>?_;refine sp2 hT ?_;refine sto hT kT3 ?_;refine sp hT ?_;refine nn<|bG ?_;have hr:=hR.symm.trans ((scA_ok hx (by assumption) hse).trans (pX rfl hw0));subst hr;exact bL jJ rfl (bN hT (bM .head) rfl rfl rfl rfl) (bD rfl) .nil ⟨fN,Has.pure rfl,trivial⟩ rfl
end Go.Proofs.YtbgdphbebhjpiaaGreatDoor
namespace Go.Proofs.YtbgdphbebhjpiaaGreatDoor
open Go.RowKit
def qV:List fC→Nat→Option Nat
  | [],n=>some n
  | x::r,n=>if iQ x≤n∧1≤x.how∧x.how≤7∧(x.how=1→x.nums≠[]∧x.nums.length≤65536) then qV r (n-iQ x+1) else none
theorem tO{x:fC}(h:x.how=1∨x.how=2):iQ x=0:=by
  unfold iQ;rw [if_neg (by omega),if_neg (by omega)]
theorem zV{x:fC}(h:x.how=4∨x.how=7):iQ x=2:=by
  unfold iQ;rw [if_neg (by omega),if_pos h]
theorem vZ{x:fC}(h:x.how=3∨x.how=5∨x.how=6):iQ x=1:=by
  unfold iQ;rw [if_pos h]
theorem step_depth{st st':List gF}{x:fC}(h:iP st x=some st'):iQ x≤st.length∧st'.length=st.length-iQ x+1∧1≤x.how∧x.how≤7∧(x.how=1→x.nums≠[]∧x.nums.length≤65536):=by
  unfold iP at h;split at h
  · rename_i hh;rw [tO hh]
    cases ho:operandS x with
    | none=>simp [ho] at h
    | some p=>
      simp only [ho,Option.map_some,Option.some.injEq] at h;subst h;refine⟨by omega,by simp,by omega,by omega,fun h1=>?_⟩;unfold operandS at ho;rw [if_neg (by omega)] at ho;split at ho
      · cases ho
      · rename_i hb;simp only [not_or,ne_eq,Classical.not_not,Nat.not_lt] at hb;exact⟨hb.2.2.1,by omega⟩
  · split at h
    · cases h
    · rename_i h12 hk;simp only [not_or,Int.not_lt] at hk h12;unfold oB at h
      by_cases h2:x.how=4∨x.how=7
      · have e:uZ x.how=true:=by unfold uZ;rcases h2 with h2 | h2<;>rw [h2]<;>rfl
        rw [if_pos e] at h;rw [zV h2]
        match st,h with
        | p::q::r,h=>
          simp only [Option.some.injEq] at h;subst h;exact⟨by simp,by simp,by omega,by omega,fun h1=>by omega⟩
        | [p],h=>cases h
        | [],h=>cases h
      · have e:uZ x.how=false:=by
          unfold uZ;simp only [Bool.or_eq_false_iff,beq_eq_false_iff_ne,ne_eq];omega
        rw [if_neg (by rw [e];simp)] at h;rw [vZ (by omega)]
        match st,h with
        | p::r,h=>
          simp only [Option.some.injEq] at h;subst h;exact⟨by simp,by simp,by omega,by omega,fun h1=>by omega⟩
        | [],h=>cases h
theorem bAy: ∀{l:List fC} {st st':List gF},gC l st=some st'→qV l st.length=some st'.length
  | [],st,st',h=>by
    simp only [gC,Option.some.injEq] at h;subst h;rfl
  | x::l,st,st',h=>by
    rw [gC] at h
    cases h1:iP st x with
    | none=>rw [h1] at h;cases h
    | some s1=>
      rw [h1] at h;obtain⟨a,b,c,d,e⟩:=step_depth h1;rw [qV,if_pos ⟨a,c,d,e⟩,←b];exact bAy h
theorem bDq{l:List fC}{m:Nat}{t:Bs}(h:hO l m=some t):qV l 0=some 1:=by
  unfold hO at h;split at h
  · cases h
  · split at h
    · rename_i hq;exact bAy (st:=[]) hq
    · cases h
theorem bBc: ∀{ls:List rP} {o o':Bs},fX ls o=(o',true)→ ∀l∈ls,qV l.items 0=some 1
  | [],_,_,_,l,hl=>by simp at hl
  | [m],o,o',h,l,hl=>by
    rw [List.mem_singleton.1 hl];simp only [fX] at h
    cases hx:hO m.items 255 with
    | none=>rw [hx] at h;simp at h
    | some t=>exact bDq hx
  | m::n::ls,o,o',h,l,hl=>by
    have h':(match hO m.items 254 with
        | none=>(o,false)
        | some t=>if fB m.name=false then (o,false) else fX (n::ls) (o++(((m.name++[58,32])++t)++[10])))=(o',true):=h
    cases hx:hO m.items 254 with
    | none=>rw [hx] at h';simp at h'
    | some t=>
      rw [hx] at h';simp only at h';split at h'
      · simp at h'
      · rcases List.mem_cons.1 hl with rfl | hl
        · exact bDq hx
        · exact bBc h' l hl
theorem right_depth{p:iF}(h:(dZ p).2=true): ∀l∈p.lines,qV l.items 0=some 1:=by
  unfold dZ at h;split at h
  · cases h
  · cases hi:nV p.inputs [] with
    | mk o b=>
      rw [hi] at h
      cases b with
      | false=>cases h
      | true=>exact bBc (o':=(fX p.lines o).1) (Prod.ext rfl h)
def jE (N:iI):Prop:= ∀p∈N,cP p.2=true
theorem look_mem{k:Bs}{a:Arr}: ∀{N:iI},look k N=some a→ ∃p∈N,p.2=a
  | [],h=>by cases h
  | p::r,h=>by
    unfold look at h;split at h
    · injection h with h
      exact⟨p,List.mem_cons_self ..,h⟩
    · obtain⟨q,hq,e⟩:=look_mem h;exact⟨q,List.mem_cons_of_mem _ hq,e⟩
theorem jE.look{N:iI}(h:jE N){k:Bs}{a:Arr}(hk:look k N=some a):cP a=true:=by
  obtain⟨p,hp,e⟩:=look_mem hk;rw [←e];exact h p hp
theorem jE.cons{N:iI}(h:jE N){k:Bs}{a:Arr}(ha:cP a=true):jE ((k,a)::N):=fun p hp=>by
  rcases List.mem_cons.1 hp with rfl | hp
  · exact ha
  · exact h p hp
theorem one_right(z:Int):cP ⟨[],[z]⟩=true:=iC uG (by simp [dH])
theorem nums_right{l:List Int}(h0:l≠[])(h1:l.length≤65536):cP ⟨if 1<l.length then [(l.length:Int)] else [],l⟩=true:=by
  split
  · exact iC (rD (by omega) (by omega)) (by simp [dH])
  · have:l.length≠0:=fun e=>h0 (List.length_eq_zero_iff.1 e);exact iC uG (by simp [dH];omega)
theorem item_right{N:iI}(hN:jE N){x:fC}(h1:1≤x.how)(h7:x.how≤7)(hn:x.how=1→x.nums≠[]∧x.nums.length≤65536){st:List Arr}(h:(fY N x st).2=0):cP (fY N x st).1=true:=by
  unfold fY at h⊢;split at h
  · rename_i e;rw [if_pos e];exact nums_right (hn e).1 (hn e).2
  · rename_i e1;rw [if_neg e1];split at h
    · rename_i e;rw [if_pos e]
      cases hk:look x.name N with
      | none=>rw [hk] at h;simp at h
      | some a=>exact hN.look hk
    · rename_i e2;rw [if_neg e2];split at h
      · rename_i e;rw [if_pos e];exact bBb h
      · rename_i e3;rw [if_neg e3];split at h
        · rename_i e;rw [if_pos e];exact bDm h
        · rename_i e5;rw [if_neg e5];split at h
          · rename_i e;rw [if_pos e];exact bFq h
          · rename_i e6;rw [if_neg e6];split at h
            · rename_i e;rw [if_pos e];exact bGj h
            · rename_i e4;rw [if_neg e4];split at h
              · rename_i e;rw [if_pos e];exact bCi h
              · omega
theorem item_ok{N:iI}{x:fC}{st st':List Arr}{w w':Nat}(h:tW N x st w= .ok (st',w')):(fY N x st).2=0∧st'=(fY N x st).1::st.drop (iQ x)∧w'=w+(fY N x st).1.data.length∧w'≤1048576:=by
  unfold tW at h;split at h
  · cases h
  · rename_i hh;split at h
    · cases h
    · rename_i hw;injection h with h
      injection h with h1 h2
      subst h1 h2;exact⟨Classical.not_not.1 hh,rfl,rfl,by omega⟩
theorem xR(vars:List Bs)(dims:List Int): ∀{xs:List gE} {ar:List Arr} {N N':iI} {f:Flt},jE N→jL vars dims xs ar N=(N',f)→jE N'
  | [],ar,N,N',f,hN,h=>by
    simp only [jL,Prod.mk.injEq] at h;rw [←h.1];exact hN
  | x::xs,[],N,N',f,hN,h=>by
    simp only [jL,Prod.mk.injEq] at h;rw [←h.1];exact hN
  | x::xs,a::ar,N,N',f,hN,h=>by
    rw [jL] at h;split at h
    · injection h with h
      rw [←h];exact fun p hp=>by simp at hp
    · rename_i hf;have hf:bCf vars dims x a=true:=by simpa using hf
      refine xR vars dims (hN.cons ?_) h;unfold bCf at hf;simp only [Bool.and_eq_true] at hf;exact hf.1
theorem bIw: ∀{vars:List Bs} {dims:List Int} {N:iI},jE N→jE (mC vars dims N)
  | [],_,_,h=>h
  | _::_,[],_,h=>h
  | s::vars,n::dims,N,h=>by
    rw [mC];exact bIw (h.cons (one_right n))
theorem begin_names(p:iF)(dims:List Int)(ins:List Arr):jE (fZ p dims ins).1:=by
  have h0:jE []:=fun p hp=>by simp at hp
  unfold fZ;split
  · exact h0
  · split
    · exact h0
    · split
      · exact h0
      · split
        · exact h0
        · exact xR _ _ (bIw h0) rfl
theorem begin_right{p:iF}{dims:List Int}{ins:List Arr}(h:oV (fZ p dims ins).2=true):(dZ p).2=true:=by
  unfold fZ at h;split at h
  · cases h
  · rename_i hh
    simpa using hh
theorem bBn(vars:List Bs)(dims:List Int): ∀{xs:List gE} {ar:List Arr} {N:iI},(jL vars dims xs ar N).2.2=0→(jL vars dims xs ar N).2=(0,0)
  | [],ar,N,_=>rfl
  | x::xs,[],N,_=>rfl
  | x::xs,a::ar,N,h=>by
    rw [jL] at h⊢;split at h
    · cases h
    · rename_i hf;rw [if_neg hf];exact bBn vars dims h
theorem bEx{p:iF}{dims:List Int}{ins:List Arr}(h:(fZ p dims ins).2.2=0):(fZ p dims ins).2=(0,0):=by
  unfold fZ at h⊢;split at h
  · cases h
  · rename_i h1;rw [if_neg h1];split at h
    · cases h
    · split at h
      · cases h
      · rename_i h2;simp only [if_neg h2];split at h
        · cases h
        · rename_i h3;rw [if_neg h3];exact bBn _ _ h
end Go.Proofs.YtbgdphbebhjpiaaGreatDoor
namespace Go.Proofs.YtbgdphbebhjpiaaGreatDoor
open Go.RowKit
def nUnused:Bs:=[117,110,117,115,101,100]
def SameBut(N' N:iI):Prop:= ∀k,k≠nUnused→look k N'=look k N
theorem SameBut.cons{N' N:iI}(h:SameBut N' N)(s:Bs)(a:Arr):SameBut ((s,a)::N') ((s,a)::N):=fun k hk=>by
  unfold look;split
  · rfl
  · exact h k hk
end Go.Proofs.YtbgdphbebhjpiaaGreatDoor
namespace Go.Proofs.YtbgdphbebhjpiaaGreatDoor
open Go.RowKit
theorem yN(k k':Bs)(v:Value): ∀kv:KVS,mE k (mF k' v kv)=if k==k' then some v else mE k kv
  | []=>by
    unfold mF mE;rfl
  | p::r=>by
    have ih:=yN k k' v r;unfold mF
    by_cases h':k'=p.1
    · rw [if_pos (beq_iff_eq.2 h')]
      by_cases h:k=k'
      · rw [if_pos (beq_iff_eq.2 h),mE,if_pos (beq_iff_eq.2 h)]
      · rw [if_neg (by simpa using h),mE,if_neg (by simpa using h),mE,if_neg (by simpa [h'] using fun e=>h (e.trans h'.symm))]
    · rw [if_neg (by simpa using h')]
      by_cases h:k=p.1
      · have hk: ¬k=k':=fun e=>h' (e.symm.trans h);rw [if_neg (by simpa using hk),mE,if_pos (beq_iff_eq.2 h),mE,if_pos (beq_iff_eq.2 h)]
      · rw [mE,if_neg (by simpa using h),ih];split
        · rfl
        · rw [mE,if_neg (by simpa using h)]
def SeenR (kv:KVS)(out:List Bs):Prop:= ∀k,(mE k kv).getD (.bool false)= .bool (k==[] || out.contains k)
theorem seen_start:SeenR (mF [] (.bool true) []) []:=fun k=>by
  rw [yN];cases hk:k==[]
  · rfl
  · rfl
theorem seen_add{kv:KVS}{out:List Bs}(h:SeenR kv out)(s:Bs):SeenR (mF s (.bool true) kv) (out++[s]):=fun k=>by
  rw [yN];cases hk:k==s
  · have hk': ¬k=s:=by simpa using hk
    have e:(out++[s]).contains k=out.contains k:=by simp [hk']
    rw [e];exact h k
  · have hk':k=s:=by simpa using hk
    subst hk';simp
theorem zeroB(w:World):(zeroValue 4).run Tryz.prog w= .ok (.bool false) w:=by kernel_rfl
theorem mapSB:Tryz.prog.underlying 78=some (.map 9 4):=by kernel_rfl
theorem bHw:Tryz.prog.underlying 85=some (.map 9 42):=by kernel_rfl
theorem zeroA(w:World):(zeroValue 42).run Tryz.prog w= .ok (.agg #[.slice none 0 0,.slice none 0 0]) w:=by kernel_rfl
def sE (p:iF)(rest:List nI)(out:List Bs)(kv:KVS):Prop:=SeenR kv out∧lC rest out=varsP p∧out.length+rest.length≤8000000000000
section
variable {p : iF} {l : List gE} {x : gE} {ds R : List nI} {d : nI} {out : List Bs} {kv : KVS} {i j : Nat}
theorem va_start(h:(dY p.inputs).length≤8000000000000):sE p (dY (p.inputs.drop 0)) [] (mF [] (.bool true) []):=⟨seen_start,rfl,by simpa using h⟩
theorem va_in(h:sE p (dY (l.drop i)) out kv)(hx:l[i]?=some x):sE p (x.sides.drop 0++dY (l.drop (i+1))) out kv:=by
  rw [fK hx] at h;exact h
theorem va_skip(h:sE p (ds.drop j++R) out kv)(hd:ds[j]?=some d)(hs:(d.name==[] || out.contains d.name)=true):sE p (ds.drop (j+1)++R) out kv:=by
  rw [fK hd,List.cons_append] at h;obtain⟨a,b,c⟩:=h;refine⟨a,?_,by simp at c⊢;omega⟩;rw [lC,if_pos (by simpa using hs)] at b;exact b
theorem va_add(h:sE p (ds.drop j++R) out kv)(hd:ds[j]?=some d)(hs:(d.name==[] || out.contains d.name)=false):sE p (ds.drop (j+1)++R) (out++[d.name]) (mF d.name (.bool true) kv):=by
  rw [fK hd,List.cons_append] at h;obtain⟨a,b,c⟩:=h;refine⟨seen_add a _,?_,by simp at c⊢;omega⟩;rw [lC,if_neg (by simpa using hs)] at b;exact b
theorem va_len(h:sE p (ds.drop j++R) out kv)(hd:ds[j]?=some d):out.length+1≤8000000000000:=by
  rw [fK hd,List.cons_append] at h;have:=h.2.2;simp at this;omega
theorem va_out(h:sE p (ds.drop j++R) out kv)(hj:ds.length≤j):sE p R out kv:=by
  rw [gG hj] at h;exact h
theorem va_end(h:sE p (dY (l.drop i)) out kv)(hi:l.length≤i):varsP p=out:=by
  rw [gG hi] at h;exact h.2.1.symm
end
set_option maxRecDepth 100000 in
theorem bHz(n:Int):dG Tryz.prog 58 [.int .i64 n] [] [] (fun(_:Unit)=> .bool (lG n)) (fun _=>[]) (fun _=>[]):=by
  have hT:=dA;refine cQ Tryz.func58 rfl Tryz.ntmps58 rfl ?_;intro β hM;refine sr<|sp hT ?_;refine nn<|sr<|sp3 hT ?_;refine cE (fun hg5=>?_) (fun hg5=>?_)
  · have hg5:=of_decide_eq_true hg5;refine sk2 ?_;refine sp2 hT ?_;refine nn<|bG ?_;exact bQ () rfl (bD rfl) .nil trivial (by first | exact bIk (by omega) | exact bJb (by omega))
  have hg5:=Int.not_lt.1 (of_decide_eq_false hg5);refine sp4 hT ?_;refine nn<|bG ?_;exact bQ () rfl (bD rfl) .nil trivial (by first | exact bIk (by omega) | exact bJb (by omega))
set_option maxRecDepth 100000 in
theorem zY(P:ProgV)(hl1:P.inputs.list.length≤140737488355328)(hs: ∀x∈P.inputs.list,x.sides.list.length≤140737488355328)(hTT:(dY P.pr.inputs).length≤8000000000000):dG Tryz.prog 12 [.agg #[.slice P.inputs.addr P.inputs.list.length P.inputs.cap,.slice P.lines.addr P.lines.list.length P.lines.cap]] [] [hZ.sl (.slice P.inputs.addr P.inputs.list.length P.inputs.cap) P.inputs.list,gZ P.inputs.list] (fun(x:Option Addr×Nat)=> .slice x.1 (varsP P.pr).length x.2) (fun _=>[]) (fun(x:Option Addr×Nat)=>[kG.sl (.slice x.1 (varsP P.pr).length x.2) (varsP P.pr),Fact.pure ((varsP P.pr).length≤x.2)]):=by
  have hT:=dA;refine cQ Tryz.func12 rfl Tryz.ntmps12 rfl ?_;intro β hM;refine sr<|fH rfl rfl rfl rfl rfl rfl fun b1=>?_;refine sp hT ?_;refine nn<|sr<|sp hT ?_;refine nn<|sr<|bBr rfl rfl rfl rfl fun r2=>?_;refine kJ .head rfl (.inr rfl) rfl mapSB Tryz.underlying9 rfl rfl rfl ?_;refine sp2 hT ?_;refine nn<|bA<|bA<|dK (t:=9) kG ?_;refine bE<|sp hT ?_;refine ss (ldO hT (bM kT2)) ?_;refine sp2 hT ?_;refine nn<|bR<|dB (ι:=Nat×KVS×List Bs×Option Addr×Nat) [(4,_),(12,_),(13,_)] ⟨rfl,rfl,rfl,trivial⟩ (fun⟨i,kv,vs,A1,c1⟩=>[(3,.slice A1 vs.length c1),(14,.int .i64 (i:Nat))]) (fun⟨i,kv,vs,A1,c1⟩=>[sG r2 kv,kG.row (.slice A1 vs.length c1) 9 vs]) (fun⟨i,kv,vs,A1,c1⟩=>[Fact.pure (i≤P.inputs.list.length∧sE P.pr (dY (P.pr.inputs.drop i)) vs kv)]) (fun⟨i,kv,vs,A1,c1⟩=>P.inputs.list.length-i) (0,mF [] (.bool true) [],[],none,0) ⟨rfl,rfl,trivial⟩ (.cons kT1 (.cons .head .nil)) ⟨Has.pure (⟨by omega,va_start hTT⟩),trivial⟩ ?_;rintro⟨i,kv,vs,A1,c1⟩;dsimp only;refine cD (Has.of mT0) fun hinv4=>?_;refine sr<|sp hT ?_;refine nn<|bA<|bH rfl (fun hc15=>?_) (fun hc15=>?_)
  · have hc15:=of_decide_eq_true hc15;refine bK<|bB<|bA<|bR<|sr ?_
    obtain⟨x3,hx4⟩: ∃x',P.inputs.list[i]?=some x':=⟨_,List.getElem?_eq_getElem (by omega)⟩
    refine ss (bS hT (k:=i) (bJ (Has.of mT1)) rfl rfl rfl rfl rfl rfl rfl (by omega)) ?_;refine ss (dP hT (cR.knows (bJ (Has.of mT1)) (k:=i) (x:=x3) hx4 0) rfl rfl rfl rfl rfl) ?_;refine cG rfl rfl rfl rfl iZ rfl fun b5=>?_;refine sto hT .head ?_;refine nn<|bA ?_;have hx0:P.pr.inputs[i]?=some x3.inp:=oN hx4;have hxs:=hs x3 (List.mem_of_getElem? hx4);refine bW (pF x3) (Has.each (Has.of mT2) (List.mem_of_getElem? hx4)) ?_;refine bE<|sp hT ?_;refine ss (ldO hT (dX .head)) ?_;refine sp2 hT ?_;refine nn<|bR<|dB (ι:=Nat×KVS×List Bs×Option Addr×Nat) [(4,_),(12,_),(13,_),(14,_),(19,_),(20,_)] ⟨rfl,rfl,rfl,rfl,rfl,rfl,trivial⟩ (fun⟨j,kv2,vs2,A2,c2⟩=>[(3,.slice A2 vs2.length c2),(21,.int .i64 (j:Nat))]) (fun⟨j,kv2,vs2,A2,c2⟩=>[sG r2 kv2,kG.row (.slice A2 vs2.length c2) 9 vs2]) (fun⟨j,kv2,vs2,A2,c2⟩=>[Fact.pure (j≤x3.sides.list.length∧sE P.pr (x3.inp.sides.drop j++dY (P.pr.inputs.drop (i+1))) vs2 kv2)]) (fun⟨j,kv2,vs2,A2,c2⟩=>x3.sides.list.length-j) (0,kv,vs,A1,c1) ⟨rfl,rfl,trivial⟩ (.cons kT1 (.cons kT1 .nil)) ⟨Has.pure (⟨by omega,va_in hinv4.2 hx0⟩),trivial⟩ ?_;rintro⟨j,kv2,vs2,A2,c2⟩;dsimp only;refine cD (Has.of mT0) fun hinv7=>?_;refine sr<|sp hT ?_;refine nn<|bA<|bH rfl (fun hc22=>?_) (fun hc22=>?_)
    · have hc22:=of_decide_eq_true hc22;refine bK<|bB<|bA<|bR<|sr ?_
      obtain⟨x6,hx7⟩: ∃x',x3.sides.list[j]?=some x':=⟨_,List.getElem?_eq_getElem (by omega)⟩
      refine ss (bS hT (k:=j) (bJ (Has.of mT1)) rfl rfl rfl rfl rfl rfl rfl (by omega)) ?_;refine ss (dP hT (cR.knows (bJ (Has.of mT1)) (k:=j) (x:=x6) hx7 0) rfl rfl rfl rfl rfl) ?_;refine cG rfl rfl rfl rfl sY rfl fun b8=>?_;refine sto hT .head ?_;refine nn<|bA ?_;have hd0:x3.inp.sides[j]?=some x6.sd:=oN hx7;have hvl:=va_len hinv7.2 hd0;refine bE<|sp2 hT ?_;refine ss (ldO hT (bM .head)) ?_;refine ss (sti_lookupS (uQ kT1) rfl mapSB Tryz.underlying9 zeroB rfl rfl (hinv7.2.1 x6.name)) ?_;refine sp hT ?_;refine nn<|bH rfl (fun hc29=>?_) (fun hc29=>?_)
      · have hc29:=gA hc29;refine sr<|sp2 hT ?_;refine ss (ldO hT (bM .head)) ?_;refine kJ kT1 rfl (.inl rfl) rfl mapSB Tryz.underlying9 rfl rfl rfl ?_;refine nn<|bE<|sp2 hT ?_;refine ss (ldO hT (bM kT1)) ?_;refine iA (m:=x6.name) rfl rfl rfl rfl rfl fun b9=>?_;refine jA kT3 (dF .head rfl) rfl rfl rfl rfl rfl rfl rfl (by simp;omega) fun A10 c11=>?_;refine sp hT ?_;refine dR<|bY<|bB<|bE<|sp hT ?_;refine bP (z':=(((j+1):Nat):Int)) (cJ (by omega) (by omega)) ?_;refine sp hT ?_;refine nn ?_;exact cO (j+1,(mF x6.name (.bool true) kv2),(vs2++[x6.name]),A10,c11) (by dsimp only;omega) ⟨rfl,rfl,trivial⟩ ⟨rfl,rfl,rfl,rfl,rfl,rfl,trivial⟩ (.cons kT2 (.cons .head (.cons kT2 (.cons kT2 .nil)))) ⟨Has.pure (⟨by dsimp only;omega,va_add hinv7.2 hd0 (by first | assumption | (simpa using (by assumption)))⟩),trivial⟩ (bF.drop 1)
      have hc29:=fM hc29;refine bK<|bY<|bB<|bE<|sp hT ?_;refine bP (z':=(((j+1):Nat):Int)) (cJ (by omega) (by omega)) ?_;refine sp hT ?_;refine nn ?_;exact cO (j+1,kv2,vs2,A2,c2) (by dsimp only;omega) ⟨rfl,rfl,trivial⟩ ⟨rfl,rfl,rfl,rfl,rfl,rfl,trivial⟩ (.cons kT1 (.cons kT1 (.cons kT1 (.cons kT1 .nil)))) ⟨Has.pure (⟨by dsimp only;omega,va_skip hinv7.2 hd0 (by first | assumption | (simpa using (by assumption)))⟩),trivial⟩ (bF.drop 1)
    have hc22:=Int.not_lt.1 (of_decide_eq_false hc22);refine cW<|cK<|cK<|cX<|bY<|bB<|bE<|sp hT ?_;refine bP (z':=(((i+1):Nat):Int)) (cJ (by omega) (by omega)) ?_;refine sp hT ?_;refine nn ?_;exact cO (i+1,kv2,vs2,A2,c2) (by dsimp only;omega) ⟨rfl,rfl,trivial⟩ ⟨rfl,rfl,rfl,trivial⟩ (.cons .head (.cons .head (.cons kT1 .nil))) ⟨Has.pure (⟨by dsimp only;omega,va_out hinv7.2 (by show(x3.sides.list.map iG.sd).length≤j;rw [List.length_map];omega)⟩),trivial⟩ (bF.drop 3)
  have hc15:=Int.not_lt.1 (of_decide_eq_false hc15);refine cW<|cK<|cK<|cX<|bB<|sr<|sp2 hT ?_;refine nn<|bG ?_;have he:=va_end hinv4.2 (by show(P.inputs.list.map InputV.inp).length≤i;rw [List.length_map];omega);rw [he];refine dV kT1 fun hvc=>?_;refine bX kT1 ?_;exact bQ (A1,c1) rfl (bD rfl) .nil ⟨(Has.of mT0),Has.pure hvc,trivial⟩ rfl
end Go.Proofs.YtbgdphbebhjpiaaGreatDoor
namespace Go.Proofs.YtbgdphbebhjpiaaGreatDoor
open Go.RowKit
def ArrV.v(x:ArrV):Value:= .agg #[.slice x.sides.addr x.sides.list.length x.sides.cap,.slice x.data.addr x.data.list.length x.data.cap]
abbrev NamesV:=List (Bs×ArrV)
def uV (k:Bs):NamesV→Option ArrV
  | []=>none
  | p::r=>if k=p.1 then some p.2 else uV k r
def fJ (NV:NamesV):iI:=NV.map fun p=>(p.1,p.2.arr)
theorem look_of(k:Bs): ∀NV:NamesV,look k (fJ NV)=(uV k NV).map ArrV.arr
  | []=>rfl
  | p::r=>by
    have ih:=look_of k r;unfold fJ at ih⊢;rw [List.map_cons,look,uV];split
    · rfl
    · exact ih
def sT (kv:KVS)(NV:NamesV):Prop:= ∀k,mE k kv=(uV k NV).map ArrV.v
theorem nr_start:sT [] []:=fun _=>rfl
theorem nr_add{kv:KVS}{NV:NamesV}(h:sT kv NV)(s:Bs)(a:ArrV):sT (mF s a.v kv) ((s,a)::NV):=fun k=>by
  rw [yN,uV]
  by_cases e:k=s
  · rw [if_pos (beq_iff_eq.2 e),if_pos e];rfl
  · rw [if_neg (by simpa using e),if_neg e];exact h k
theorem run_built(m:Nat):Tryz.prog.built 87 [(0,.map (some m))]=some #[.map (some m),.int .i64 0]:=by kernel_rfl
def runO (rb mb:Nat)(work:Nat):bU:= .obj rb (.cells [.map (some mb),.int .i64 (work:Nat)].toArray 87)
def pL (NV:NamesV):Fact:=Fact.each NV fun p=>gW p.2
section
variable {p : iF} {dims : List Int} {ins : List Arr} {x : gE}
theorem bg_no(h:(dZ p).2=false):fZ p dims ins=([],(0,50)):=by unfold fZ;rw [if_pos h]
theorem bg_few(h:(dZ p).2=true)(hf:p.inputs.find? (bGk (varsP p))=some x):fZ p dims ins=([],(x.at_,80)):=by unfold fZ;rw [if_neg (by simp [h]),hf]
theorem bg_dims(h:(dZ p).2=true)(hf:p.inputs.find? (bGk (varsP p))=none)(hd:dims.length≠(varsP p).length∨dims.any lG=true):fZ p dims ins=([],(0,81)):=by
  unfold fZ;rw [if_neg (by simp [h]),hf];simp only;rw [if_pos hd]
theorem bg_ins(h:(dZ p).2=true)(hf:p.inputs.find? (bGk (varsP p))=none)(hd:dims.length=(varsP p).length)(hb:dims.any lG=false)(hi:ins.length≠p.inputs.length):fZ p dims ins=([],(0,82)):=by
  unfold fZ;rw [if_neg (by simp [h]),hf];simp only;rw [if_neg (by simp [hd,hb]),if_pos hi]
theorem bg_go(h:(dZ p).2=true)(hf:p.inputs.find? (bGk (varsP p))=none)(hd:dims.length=(varsP p).length)(hb:dims.any lG=false)(hi:ins.length=p.inputs.length):fZ p dims ins=jL (varsP p) dims p.inputs ins (mC (varsP p) dims []):=by
  unfold fZ;rw [if_neg (by simp [h]),hf];simp only;rw [if_neg (by simp [hd,hb]),if_neg (by simp [hi])]
theorem all_sides_le(h:(dZ p).2=true):(dY p.inputs).length≤256:=by
  have hf:=fine_of h
  have key: ∀l:List gE,(∀x∈l,x.sides.length≤4)→(dY l).length≤4*l.length:=by
    intro l
    induction l with
    | nil=>intro _;simp [dY]
    | cons x r ih=>
      intro hx;have e:dY (x::r)=x.sides++dY r:=rfl;have h1:=hx x (List.mem_cons_self ..);have h2:=ih fun y hy=>hx y (List.mem_cons_of_mem _ hy);rw [e,List.length_append,List.length_cons];omega
  have:=key p.inputs fun x hx=>(hf.input x hx).2.1;have:=hf.ins;omega
end
def yV (vars:List Bs)(d:nI):Bool:=(d.name==[]&&lG d.n) || decide (6≤idxOf d.name vars 0)
section
variable {vars : List Bs} {l : List gE} {x : gE} {ds : List nI} {d : nI} {i j : Nat}
def yX (vars:List Bs)(l:List gE)(i:Nat):Prop:=l.find? (bGk vars)=(l.drop i).find? (bGk vars)
def bBf (vars:List Bs)(ds:List nI)(j:Nat):Prop:=ds.any (yV vars)=(ds.drop j).any (yV vars)
theorem few_start:yX vars l 0:=by simp [yX]
theorem few_in:bBf vars ds 0:=by simp [bBf]
theorem few_hit(h:yX vars l i)(hx:l[i]?=some x)(k:bBf vars x.sides j)(hd:x.sides[j]?=some d)(hs:yV vars d=true):l.find? (bGk vars)=some x:=by
  have e:bGk vars x=true:=by
    show x.sides.any (yV vars)=true;rw [k,fK hd,List.any_cons,hs];rfl
  rw [h,fK hx,List.find?_cons,e]
theorem few_next(k:bBf vars ds j)(hd:ds[j]?=some d)(hs:yV vars d=false):bBf vars ds (j+1):=by
  unfold bBf at k⊢;rw [k,fK hd,List.any_cons,hs,Bool.false_or]
theorem few_out(h:yX vars l i)(hx:l[i]?=some x)(k:bBf vars x.sides j)(hj:x.sides.length≤j):yX vars l (i+1):=by
  have e:bGk vars x=false:=by
    show x.sides.any (yV vars)=false;rw [k,gG hj];rfl
  unfold yX at h⊢;rw [h,fK hx,List.find?_cons,e]
theorem few_end(h:yX vars l i)(hi:l.length≤i):l.find? (bGk vars)=none:=by
  unfold yX at h;rw [h,gG hi];rfl
theorem fs_a(hn:d.name=[])(hb:lG d.n=true):yV vars d=true:=by simp [yV,hn,hb]
theorem fs_b(h:6≤idxOf d.name vars 0):yV vars d=true:=by simp [yV,h]
theorem fs_c(hb:lG d.n=false)(h:idxOf d.name vars 0<6):yV vars d=false:=by
  have: ¬6≤idxOf d.name vars 0:=by omega
  simp [yV,hb,this]
theorem fs_d(hn:d.name≠[])(h:idxOf d.name vars 0<6):yV vars d=false:=by
  have: ¬6≤idxOf d.name vars 0:=by omega
  simp [yV,hn,this]
end
section
variable {vars : List Bs} {dims : List Int} {i : Nat} {NV : NamesV} {N : iI}
def VNAt (vars:List Bs)(dims:List Int)(i:Nat)(NV:NamesV)(kv:KVS):Prop:=sT kv NV∧mC vars dims []=mC (vars.drop i) (dims.drop i) (fJ NV)
theorem vn_start:VNAt vars dims 0 [] []:=⟨nr_start,rfl⟩
theorem vn_step{kv:KVS}{s:Bs}{n:Int}{a:ArrV}(h:VNAt vars dims i NV kv)(hs:vars[i]?=some s)(hn:dims[i]?=some n)(ha:a.arr=⟨[],[n]⟩):VNAt vars dims (i+1) ((s,a)::NV) (mF s a.v kv):=by
  refine⟨nr_add h.1 s a,?_⟩;rw [h.2,fK hs,fK hn,mC];show _=mC _ _ ((s,a.arr)::fJ NV);rw [ha]
theorem vn_end{kv:KVS}(h:VNAt vars dims i NV kv)(hi:vars.length≤i):mC vars dims []=fJ NV:=by
  rw [h.2,gG hi];rfl
def InAt (vars:List Bs)(dims:List Int)(xs:List gE)(ins:List ArrV)(i:Nat)(NV:NamesV)(kv:KVS)(R:iI×Flt):Prop:=sT kv NV∧R=jL vars dims (xs.drop i) ((ins.map ArrV.arr).drop i) (fJ NV)
theorem in_bad{xs:List gE}{ins:List ArrV}{kv:KVS}{R:iI×Flt}{x:gE}{a:ArrV}(h:InAt vars dims xs ins i NV kv R)(hx:xs[i]?=some x)(ha:ins[i]?=some a)(hf:bCf vars dims x a.arr=false):R=([],(x.at_,82)):=by
  rw [h.2,fK hx,fK (mJ (f:=ArrV.arr) ha),jL,if_pos hf]
theorem in_ok{xs:List gE}{ins:List ArrV}{kv:KVS}{R:iI×Flt}{x:gE}{a:ArrV}(h:InAt vars dims xs ins i NV kv R)(hx:xs[i]?=some x)(ha:ins[i]?=some a)(hf:bCf vars dims x a.arr=true):InAt vars dims xs ins (i+1) ((x.name,a)::NV) (mF x.name a.v kv) R:=by
  refine⟨nr_add h.1 _ a,?_⟩;rw [h.2,fK hx,fK (mJ (f:=ArrV.arr) ha),jL,if_neg (by simp [hf])];rfl
theorem in_fin{xs:List gE}{ins:List ArrV}{kv:KVS}{R:iI×Flt}(h:InAt vars dims xs ins i NV kv R)(hi:xs.length≤i):R=(fJ NV,(0,0)):=by
  rw [h.2,gG hi];rfl
def uX (vars:List Bs)(dims:List Int)(x:gE)(a:Arr)(k:Nat)(b:Bool):Prop:=bCf vars dims x a=(b&&decide (a.sides.drop k=(x.sides.drop k).map (nR vars dims)))∧(b=true→a.sides.length=x.sides.length)
theorem bJt{x:gE}{a:Arr}:uX vars dims x a 0 (cP a&&decide (a.sides.length=x.sides.length)):=by
  refine⟨?_,fun h=>by simp at h;exact h.2⟩;unfold bCf
  by_cases h1:a.sides.length=x.sides.length<;>by_cases h2:a.sides=x.sides.map (nR vars dims)<;>simp [h1,h2]
theorem fit_step{x:gE}{a:Arr}{k:Nat}{z:Int}{d:nI}(h:uX vars dims x a k true)(hz:a.sides[k]?=some z)(hd:x.sides[k]?=some d):uX vars dims x a (k+1) (decide (z=nR vars dims d)):=by
  refine⟨?_,fun _=>h.2 rfl⟩;rw [h.1,fK hz,fK hd,List.map_cons]
  by_cases e:z=nR vars dims d<;>simp [e]
theorem fit_skip{x:gE}{a:Arr}{k:Nat}(h:uX vars dims x a k false):uX vars dims x a (k+1) false:=⟨by rw [h.1];rfl,fun e=>by cases e⟩
theorem fit_end{x:gE}{a:Arr}{k:Nat}{b:Bool}(h:uX vars dims x a k b)(h1:x.sides.length≤k):bCf vars dims x a=b:=by
  rw [h.1]
  cases b with
  | false=>rfl
  | true=>
    rw [gG h1,gG (by rw [h.2 rfl];exact h1)];rfl
end
theorem bCg(k:Bs): ∀(l:List Bs) (i:Nat),idxOf k l i= -1∨ ∃j:Nat,idxOf k l i=((i+j:Nat):Int)∧j<l.length∧l[j]?=some k
  | [],i=> .inl rfl
  | s::r,i=>by
    rw [idxOf];split
    · rename_i h;exact .inr ⟨0,by simp,by simp,by simp [h]⟩
    · have:=bCg k r (i+1);have e:((i:Nat):Int)+1=((i+1:Nat):Int):=by omega
      rw [e]
      rcases this with h | ⟨j,h1,h2,h3⟩
      · exact .inl h
      · exact .inr ⟨j+1,by rw [h1];congr 1;omega,by simp;omega,by simpa using h3⟩
theorem bKg{k:Bs}: ∀{l:List Bs} {i:Nat},k∈l→idxOf k l i≠ -1
  | s::r,i,h=>by
    rw [idxOf];split
    · omega
    · rename_i hh
      rcases List.mem_cons.1 h with e | h
      · exact absurd e.symm hh
      · have e:((i:Nat):Int)+1=((i+1:Nat):Int):=by omega
        rw [e];exact bKg h
theorem vars_all: ∀{ds:List nI} {out:List Bs},(∀s∈out,s∈lC ds out)∧ ∀d∈ds,d.name≠[]→d.name∈lC ds out
  | [],out=>⟨fun s h=>h,fun d h=>by simp at h⟩
  | d::r,out=>by
    have ih:= @vars_all r (if d.name=[]∨out.contains d.name=true then out else out++[d.name]);rw [lC];refine⟨fun s hs=>ih.1 s ?_,fun e he hn=>?_⟩
    · split
      · exact hs
      · exact List.mem_append_left _ hs
    · rcases List.mem_cons.1 he with rfl | he
      · refine ih.1 _ ?_;split
        · rename_i h
          rcases h with h | h
          · exact absurd h hn
          · simpa using h
        · simp
      · exact ih.2 e he hn
theorem side_var{p:iF}{x:gE}{d:nI}{n:Nat}(hx:x∈p.inputs)(hd:d∈x.sides)(hn:d.name≠[])(h:n=(varsP p).length): ∃k:Nat,k<n∧idxOf d.name (varsP p) 0=(k:Int):=by
  have hm:d.name∈varsP p:=vars_all.2 d (List.mem_flatMap.2 ⟨x,hx,hd⟩) hn;have h1:=bKg (i:=0) hm
  rcases bCg d.name (varsP p) 0 with h2 | ⟨j,h2,h3,_⟩
  · exact absurd h2 h1
  · exact⟨j,by omega,by rw [Nat.zero_add] at h2;exact h2⟩
theorem value_n{vars:List Bs}{dims:List Int}{d:iG}(h:d.name=[]):nR vars dims d.sd=d.n:=by
  unfold nR;rw [if_pos (show d.sd.name=[] from h)];rfl
theorem value_k{vars:List Bs}{dims:List Int}{d:iG}{k:Nat}{z:Int}(h:d.name≠[])(hk:idxOf d.name vars 0=(k:Int))(hz:dims[k]?=some z):nR vars dims d.sd=z:=by
  unfold nR;rw [if_neg (show ¬d.sd.name=[] from h)];show atI dims (idxOf d.name vars 0)=z;rw [hk];simp [atI,List.getD,hz]
theorem fit_start_t{vars:List Bs}{dims:List Int}{x:gE}{a:Arr}(h:cP a=true):uX vars dims x a 0 (decide (a.sides.length=x.sides.length)):=by
  have:= @bJt vars dims x a
  rwa [h,Bool.true_and] at this
theorem fit_start_f{vars:List Bs}{dims:List Int}{x:gE}{a:Arr}(h:cP a=false):uX vars dims x a 0 false:=by
  have:= @bJt vars dims x a
  rwa [h,Bool.false_and] at this
theorem zeroStrs:(Tryz.prog.info? 27).bind (·.zero)=some (.slice none 0 0):=by kernel_rfl
abbrev BegX:=Option (Nat×Nat×KVS×NamesV)
def bval:BegX→Flt→Value
  | some x,f=> .tuple #[.pointer (some ⟨x.1,0,none⟩),.agg #[.int .i64 f.1,.int .i64 f.2]]
  | none,f=> .tuple #[.pointer none,.agg #[.int .i64 f.1,.int .i64 f.2]]
def bout:BegX→List bU
  | some x=>[runO x.1 x.2.1 0,sG x.2.1 x.2.2.1]
  | none=>[]
def bpost:BegX→iI×Flt→Fact
  | some x,R=>(Fact.pure (sT x.2.2.1 x.2.2.2∧R=(fJ x.2.2.2,(0,0)))).and (pL x.2.2.2)
  | none,R=>Fact.pure (R.2.2≠0)
theorem fit_t_of{vars:List Bs}{dims:List Int}{x:gE}{a:Arr}{n:Nat}(h:cP a=true)(e:x.sides.length=n):uX vars dims x a 0 (decide (a.sides.length=n)):=by
  subst e;exact fit_start_t h
theorem bKn: ∀(ds:List nI) (out:List Bs),(lC ds out).length≤out.length+ds.length
  | [],out=>by simp [lC]
  | d::r,out=>by
    have ih:=bKn r (if d.name=[]∨out.contains d.name=true then out else out++[d.name]);rw [lC];split at ih
    · rename_i h;rw [if_pos h];simp;omega
    · rename_i h;rw [if_neg h];simp at ih⊢;omega
theorem vars_le(p:iF):(varsP p).length≤(dY p.inputs).length:=by
  have:=bKn (dY p.inputs) []
  simpa [varsP] using this
theorem qX(a1:Option Addr)(l1 c1:Nat):Tryz.prog.built 42 [(1,.slice a1 l1 c1)]=some #[.slice none 0 0,.slice a1 l1 c1]:=by kernel_rfl
set_option maxRecDepth 100000 in
theorem bBs(bd bv:Nat)(D V:Option Addr)(cd cv:Nat)(dims:List Int)(vars:List Bs)(hv:vars.length≤140737488355328)(d:iG)(hm:d.name≠[]→ ∃k:Nat,k<dims.length∧idxOf d.name vars 0=(k:Int)):dG Tryz.prog 60 [.agg #[.string (bs d.name),.int .i64 d.n],.pointer (some ⟨bd,0,none⟩),.pointer (some ⟨bv,0,none⟩)] [] [Fact.cells bd 0 [.slice D dims.length cd],Fact.cells bv 0 [.slice V vars.length cv],cT.sl (.slice D dims.length cd) dims,kG.sl (.slice V vars.length cv) vars] (fun(_:Unit)=> .int .i64 (nR vars dims d.sd)) (fun _=>[]) (fun _=>[]):=by
  have hT:=dA;refine cQ Tryz.func60 rfl Tryz.ntmps60 rfl ?_;intro β hM;refine sr<|fH rfl rfl rfl rfl rfl rfl fun b1=>?_;refine sp hT ?_;refine nn<|bA<|sr<|sp hT ?_;refine ss (ldO hT (bM .head)) ?_;refine sp hT ?_;refine nn<|bH rfl (fun hc7=>?_) (fun hc7=>?_)
  · have hc7:d.name=([]:Bs):=eq_of_beq hc7;refine sr<|sp hT ?_;refine ss (ldO hT (dD .head)) ?_;refine sp hT ?_;refine nn<|bG<|bC ?_;exact bQ () rfl (bD rfl) .nil trivial (congrArg (Value.int .i64) (value_n (by assumption)).symm)
  have hc7:d.name≠([]:Bs):=fun h=>absurd (beq_iff_eq.2 h) (by rw [show(d.name==([]:Bs))=false from hc7];simp);refine bK<|bB<|bA ?_;obtain⟨k,hk,hik⟩:=hm (by assumption);refine cU _ _ [(true,0),(true,1),(true,2),(true,3),(false,4),(true,5),(true,6),(true,7)] cY (by decide+kernel) (.cons .head .nil) bF.self ?_;refine stM rfl (bZ hT (iB (Has.of mT0)) rfl rfl rfl rfl rfl) ?_;refine stM rfl (bZ hT (iB (Has.of mT1)) rfl rfl rfl rfl rfl) ?_;refine puM hT ?_;refine stM rfl (ldO hT (bM .head)) ?_;refine cB (o:=_) rfl ?_;refine bO Tryz.func42 (uP _ _ _ (by omega) d.name) rfl rfl .nil ⟨Has.of mT3,trivial⟩ fun _=>?_;refine cA (.cons .head .nil) (bF.drop 0) ?_;refine bP (z':=((k:Nat):Int)) hik ?_
  obtain⟨x2,hx3⟩: ∃x',dims[k]?=some x':=⟨_,List.getElem?_eq_getElem (by omega)⟩
  refine stM rfl (bS hT (k:=k) (bJ (Has.of mT2)) rfl rfl rfl rfl rfl rfl rfl (by omega)) ?_;refine stM rfl (bZ hT (cR.knows (bJ (Has.of mT2)) (k:=k) (x:=x2) hx3 0) rfl rfl rfl rfl rfl) ?_;refine puM hT ?_;refine cM<|bB<|bG ?_;exact bQ () rfl (bD rfl) .nil trivial (congrArg (Value.int .i64) (value_k (by assumption) hik hx3).symm)
set_option maxRecDepth 100000 in
theorem bDx(P:ProgV)(hP:qN P)(hl1:P.inputs.list.length≤140737488355328)(hl2:P.lines.list.length≤140737488355328)(D I:Option Addr)(cd ci:Nat)(dims:List Int)(ins:List ArrV)(hdl:dims.length≤140737488355328)(hI: ∀a∈ins,a.sides.list.length≤140737488355328):dG Tryz.prog 31 [.agg #[.slice P.inputs.addr P.inputs.list.length P.inputs.cap,.slice P.lines.addr P.lines.list.length P.lines.cap],.slice D dims.length cd,.slice I ins.length ci] [] [gS,hZ.sl (.slice P.inputs.addr P.inputs.list.length P.inputs.cap) P.inputs.list,gZ P.inputs.list,mD.sl (.slice P.lines.addr P.lines.list.length P.lines.cap) P.lines.list,jV P.lines.list,cT.sl (.slice D dims.length cd) dims,kL.sl (.slice I ins.length ci) ins,Fact.each ins gW] (fun(x:BegX)=>bval x (fZ P.pr dims (ins.map ArrV.arr)).2) (fun(x:BegX)=>bout x) (fun(x:BegX)=>[bpost x (fZ P.pr dims (ins.map ArrV.arr))]):=by
  have hT:=dA;generalize hR:fZ P.pr dims (ins.map ArrV.arr)=r;refine cQ Tryz.func31 rfl Tryz.ntmps31 rfl ?_;intro β hM;refine sr<|fH rfl rfl rfl rfl rfl rfl fun b1=>?_;refine fH rfl rfl rfl rfl rfl rfl fun b2=>?_;refine sp hT ?_;refine cG rfl rfl rfl rfl wN rfl fun b3=>?_;refine nn<|bA<|sr<|ss (ldN hT (bM kT2)) ?_;refine bO Tryz.func41 (sRight_spec P hP hl1 hl2) rfl rfl .nil ⟨(Has.of mT0),(Has.of mT1),(Has.of mT2),(Has.of mT3),(Has.of mT4),trivial⟩ fun _=>?_;refine sp hT ?_;refine nn<|bH rfl (fun hc25=>?_) (fun hc25=>?_)
  · have hc25:=gA hc25;refine sr<|ss (cC rfl rfl (uA _)) ?_;refine sp hT ?_;refine sto hT .head ?_;refine nn<|bG<|bC ?_;have hr:=hR.symm.trans (bg_no (by assumption));subst hr;exact bL none rfl (bD rfl) (bN hT (bM .head) rfl rfl rfl rfl) .nil ⟨Has.pure (by first | decide | simp),trivial⟩ rfl
  have hc25:=fM hc25;refine bK<|bB<|bA ?_;have hrt:(dZ P.pr).2=true:=by assumption
  have hfine:=fine_of hrt;have hs: ∀x∈P.inputs.list,x.sides.list.length≤4:=fun x hx=>by have h1:=(hfine.input x.inp (yB hx)).2.1;have h2:x.inp.sides.length=x.sides.list.length:=List.length_map _;omega
  have hTT:=all_sides_le hrt;have hpl:P.pr.inputs.length=P.inputs.list.length:=List.length_map _;refine bE<|sp hT ?_;refine nn<|sr<|ss (ldN hT (bM kT2)) ?_;refine bO Tryz.func12 (zY P hl1 (fun x hx=>Nat.le_trans (hs x hx) (by decide)) (by omega)) rfl rfl .nil ⟨(Has.of mT1),(Has.of mT2),trivial⟩ fun⟨V,cv⟩=>?_;have hvl:(varsP P.pr).length≤256:=Nat.le_trans (vars_le P.pr) hTT;refine cG rfl rfl rfl rfl zeroStrs rfl fun b4=>?_;refine sto hT .head ?_;refine nn<|bA<|bA<|iH kT2 ?_;refine iH .head ?_;refine bE<|sp hT ?_;refine ss (ldO hT (bM kT1)) ?_;refine sp2 hT ?_;refine nn<|bR<|dB (ι:=Nat) [(2,_),(3,_),(4,_),(7,_),(8,_),(9,_),(30,_),(31,_)] ⟨rfl,rfl,rfl,rfl,rfl,rfl,rfl,rfl,trivial⟩ (fun i=>[(32,.int .i64 (i:Nat))]) (fun _=>[]) (fun i=>[Fact.pure (i≤P.inputs.list.length∧yX (varsP P.pr) P.pr.inputs i)]) (fun i=>P.inputs.list.length-i) 0 ⟨rfl,trivial⟩ .nil ⟨Has.pure (⟨by omega,few_start⟩),trivial⟩ ?_;rintro i;refine cD (Has.of mT0) fun hinv6=>?_;refine sr<|sp hT ?_;refine nn<|bA<|bH rfl (fun hc33=>?_) (fun hc33=>?_)
  · have hc33:=of_decide_eq_true hc33;refine bK<|bB<|bA<|bR<|sr ?_
    obtain⟨x5,hx6⟩: ∃x',P.inputs.list[i]?=some x':=⟨_,List.getElem?_eq_getElem (by omega)⟩
    refine ss (bS hT (k:=i) (bJ (Has.of mT6)) rfl rfl rfl rfl rfl rfl rfl (by omega)) ?_;refine ss (dP hT (cR.knows (bJ (Has.of mT6)) (k:=i) (x:=x5) hx6 0) rfl rfl rfl rfl rfl) ?_;refine cG rfl rfl rfl rfl iZ rfl fun b7=>?_;refine sto hT .head ?_;refine nn<|bA ?_;have hx0:P.pr.inputs[i]?=some x5.inp:=oN hx6;have hxs:=hs x5 (List.mem_of_getElem? hx6);refine bW (pF x5) (Has.each (Has.of mT7) (List.mem_of_getElem? hx6)) ?_;refine bE<|sp hT ?_;refine ss (ldO hT (dX .head)) ?_;refine sp2 hT ?_;refine nn<|bR<|dB (ι:=Nat) [(2,_),(3,_),(4,_),(7,_),(8,_),(9,_),(11,_),(30,_),(31,_),(32,_),(37,_),(38,_)] ⟨rfl,rfl,rfl,rfl,rfl,rfl,rfl,rfl,rfl,rfl,rfl,rfl,trivial⟩ (fun j=>[(39,.int .i64 (j:Nat))]) (fun _=>[]) (fun j=>[Fact.pure (j≤x5.sides.list.length∧bBf (varsP P.pr) x5.inp.sides j)]) (fun j=>x5.sides.list.length-j) 0 ⟨rfl,trivial⟩ .nil ⟨Has.pure (⟨by omega,few_in⟩),trivial⟩ ?_;rintro j;refine cD (Has.of mT0) fun hinv9=>?_;refine sr<|sp hT ?_;refine nn<|bA<|bH rfl (fun hc40=>?_) (fun hc40=>?_)
    · have hc40:=of_decide_eq_true hc40;refine bK<|bB<|bA<|bR<|sr ?_
      obtain⟨x8,hx9⟩: ∃x',x5.sides.list[j]?=some x':=⟨_,List.getElem?_eq_getElem (by omega)⟩
      refine ss (bS hT (k:=j) (bJ (Has.of mT1)) rfl rfl rfl rfl rfl rfl rfl (by omega)) ?_;refine ss (dP hT (cR.knows (bJ (Has.of mT1)) (k:=j) (x:=x8) hx9 0) rfl rfl rfl rfl rfl) ?_;refine cG rfl rfl rfl rfl sY rfl fun b10=>?_;refine sto hT .head ?_;refine nn<|bA ?_;have hd0:x5.inp.sides[j]?=some x8.sd:=oN hx9;refine bE<|sp hT ?_;refine ss (ldO hT (bM .head)) ?_;refine sp2 hT ?_;refine cE (fun hg46=>?_) (fun hg46=>?_)
      · have hg46:x8.name=([]:Bs):=eq_of_beq hg46;refine sp2 hT ?_;refine ss (ldO hT (dD .head)) ?_;refine gQ (cS Tryz.func58 rfl rfl) (bHz x8.n) rfl rfl rfl rfl rfl rfl rfl .nil trivial fun _=>?_;refine sp2 hT ?_;refine cE (fun hg52=>?_) (fun hg52=>?_)
        · refine sk4 ?_;refine sk ?_;refine sp hT ?_;refine nn<|cL rfl rfl ?_;refine bA<|cU _ _ [(true,0),(true,1),(true,2),(true,3),(false,4)] cY (by decide+kernel) (.cons .head (.cons .head (.cons kT1 .nil))) bF.self ?_;refine puM hT ?_;refine stM rfl (ldO hT (dD kT1)) ?_;refine stM rfl (cC rfl rfl (tC _ _)) ?_;refine puM hT ?_;refine cB (o:=_) rfl ?_;refine sto hT kT2 ?_;refine cA (.cons kT1 (.cons kT1 (.cons kT1 .nil))) (bF.drop 0) ?_;refine cM<|bB<|bG<|bI<|bC<|bC<|bI<|bI<|bC<|bC<|bI<|bC ?_;have hr:=hR.symm.trans (bg_few hrt (few_hit hinv6.2 hx0 hinv9.2 hd0 (by first | exact fs_a (by assumption) (by assumption) | exact fs_b (by assumption))));subst hr;exact bL none rfl (bD rfl) (bN hT (bM .head) rfl rfl rfl rfl) .nil ⟨Has.pure (by first | decide | simp),trivial⟩ rfl
        refine ss (bZ hT (iB (Has.of mT3)) rfl rfl rfl rfl rfl) ?_;refine sp hT ?_;refine ss (ldO hT (bM .head)) ?_;refine bO Tryz.func42 (uP _ _ _ (by omega) x8.name) rfl rfl .nil ⟨Has.of mT5,trivial⟩ fun _=>?_;refine sp2 hT ?_;refine nn<|bH rfl (fun hc58=>?_) (fun hc58=>?_)
        · have hc58:=of_decide_eq_true hc58;refine bA<|cU _ _ [(true,0),(true,1),(true,2),(true,3),(false,4)] cY (by decide+kernel) (.cons .head (.cons .head (.cons kT1 .nil))) bF.self ?_;refine puM hT ?_;refine stM rfl (ldO hT (dD kT1)) ?_;refine stM rfl (cC rfl rfl (tC _ _)) ?_;refine puM hT ?_;refine cB (o:=_) rfl ?_;refine sto hT kT2 ?_;refine cA (.cons kT1 (.cons kT1 (.cons kT1 .nil))) (bF.drop 0) ?_;refine cM<|bB<|bG<|bI<|bC<|bC<|bI<|bI<|bC<|bC<|bI<|bC ?_;have hr:=hR.symm.trans (bg_few hrt (few_hit hinv6.2 hx0 hinv9.2 hd0 (by first | exact fs_a (by assumption) (by assumption) | exact fs_b (by assumption))));subst hr;exact bL none rfl (bD rfl) (bN hT (bM .head) rfl rfl rfl rfl) .nil ⟨Has.pure (by first | decide | simp),trivial⟩ rfl
        have hc58:=Int.not_le.1 (of_decide_eq_false hc58);refine bK<|bY<|bB<|bE<|sp hT ?_;refine bP (z':=(((j+1):Nat):Int)) (cJ (by omega) (by omega)) ?_;refine sp hT ?_;refine nn ?_;exact cO (j+1) (by omega) ⟨rfl,trivial⟩ ⟨rfl,rfl,rfl,rfl,rfl,rfl,rfl,rfl,rfl,rfl,rfl,rfl,trivial⟩ (.cons kT1 (.cons kT1 (.cons kT1 .nil))) ⟨Has.pure (⟨by omega,few_next hinv9.2 hd0 (by first | exact fs_c (by assumption) (by assumption) | exact fs_d (by assumption) (by assumption))⟩),trivial⟩ (bF.drop 1)
      have hg46:x8.name≠([]:Bs):=fun h=>absurd (beq_iff_eq.2 h) (by rw [show(x8.name==([]:Bs))=false from hg46];simp);refine sk4 ?_;refine sp2 hT ?_;refine ss (bZ hT (iB (Has.of mT3)) rfl rfl rfl rfl rfl) ?_;refine sp hT ?_;refine ss (ldO hT (bM .head)) ?_;refine bO Tryz.func42 (uP _ _ _ (by omega) x8.name) rfl rfl .nil ⟨Has.of mT5,trivial⟩ fun _=>?_;refine sp2 hT ?_;refine nn<|bH rfl (fun hc58=>?_) (fun hc58=>?_)
      · have hc58:=of_decide_eq_true hc58;refine bA<|cU _ _ [(true,0),(true,1),(true,2),(true,3),(false,4)] cY (by decide+kernel) (.cons .head (.cons .head (.cons kT1 .nil))) bF.self ?_;refine puM hT ?_;refine stM rfl (ldO hT (dD kT1)) ?_;refine stM rfl (cC rfl rfl (tC _ _)) ?_;refine puM hT ?_;refine cB (o:=_) rfl ?_;refine sto hT kT2 ?_;refine cA (.cons kT1 (.cons kT1 (.cons kT1 .nil))) (bF.drop 0) ?_;refine cM<|bB<|bG<|bI<|bC<|bC<|bI<|bI<|bC<|bC<|bI<|bC ?_;have hr:=hR.symm.trans (bg_few hrt (few_hit hinv6.2 hx0 hinv9.2 hd0 (by first | exact fs_a (by assumption) (by assumption) | exact fs_b (by assumption))));subst hr;exact bL none rfl (bD rfl) (bN hT (bM .head) rfl rfl rfl rfl) .nil ⟨Has.pure (by first | decide | simp),trivial⟩ rfl
      have hc58:=Int.not_le.1 (of_decide_eq_false hc58);refine bK<|bY<|bB<|bE<|sp hT ?_;refine bP (z':=(((j+1):Nat):Int)) (cJ (by omega) (by omega)) ?_;refine sp hT ?_;refine nn ?_;exact cO (j+1) (by omega) ⟨rfl,trivial⟩ ⟨rfl,rfl,rfl,rfl,rfl,rfl,rfl,rfl,rfl,rfl,rfl,rfl,trivial⟩ (.cons kT1 (.cons kT1 (.cons kT1 .nil))) ⟨Has.pure (⟨by omega,few_next hinv9.2 hd0 (by first | exact fs_c (by assumption) (by assumption) | exact fs_d (by assumption) (by assumption))⟩),trivial⟩ (bF.drop 1)
    have hc40:=Int.not_lt.1 (of_decide_eq_false hc40);refine cW<|cK<|cK<|cX<|bY<|bB<|bE<|sp hT ?_;refine bP (z':=(((i+1):Nat):Int)) (cJ (by omega) (by omega)) ?_;refine sp hT ?_;refine nn ?_;exact cO (i+1) (by omega) ⟨rfl,trivial⟩ ⟨rfl,rfl,rfl,rfl,rfl,rfl,rfl,rfl,trivial⟩ (.cons kT1 (.cons kT1 .nil)) ⟨Has.pure (⟨by omega,few_out hinv6.2 hx0 hinv9.2 (by show(x5.sides.list.map iG.sd).length≤j;rw [List.length_map];omega)⟩),trivial⟩ (bF.drop 3)
  have hc33:=Int.not_lt.1 (of_decide_eq_false hc33);refine cW<|cK<|cK<|cX<|bB<|bA<|bA ?_;have hfn:=few_end hinv6.2 (by omega);refine bE<|ss (bZ hT (iB (Has.of mT2)) rfl rfl rfl rfl rfl) ?_;refine sp hT ?_;refine ss (bZ hT (iB (Has.of mT1)) rfl rfl rfl rfl rfl) ?_;refine sp3 hT ?_;refine cE (fun hg69=>?_) (fun hg69=>?_)
  · have hg69:=bne_iff_ne.1 hg69;refine sk3 ?_;refine sp hT ?_;refine nn<|cL rfl rfl ?_;refine sr<|ss (cC rfl rfl (uA _)) ?_;refine sp hT ?_;refine sto hT .head ?_;refine nn<|bG<|bC ?_;have hr:=hR.symm.trans (bg_dims hrt hfn (by first | exact .inl (by omega) | exact .inr (by assumption)));subst hr;exact bL none rfl (bD rfl) (bN hT (bM .head) rfl rfl rfl rfl) .nil ⟨Has.pure (by first | decide | simp),trivial⟩ rfl
  have hg69:=bne_eq_false_iff_eq.1 hg69;refine ss (bZ hT (iB (Has.of mT2)) rfl rfl rfl rfl rfl) ?_;refine sp hT ?_;refine bO Tryz.func59 (qH _ _ _ hdl _ lG (cS Tryz.func58 rfl rfl) bHz) rfl rfl .nil ⟨Has.of mT10,trivial⟩ fun _=>?_;refine sp hT ?_;refine nn<|bH rfl (fun hc73=>?_) (fun hc73=>?_)
  · refine sr<|ss (cC rfl rfl (uA _)) ?_;refine sp hT ?_;refine sto hT .head ?_;refine nn<|bG<|bC ?_;have hr:=hR.symm.trans (bg_dims hrt hfn (by first | exact .inl (by omega) | exact .inr (by assumption)));subst hr;exact bL none rfl (bD rfl) (bN hT (bM .head) rfl rfl rfl rfl) .nil ⟨Has.pure (by first | decide | simp),trivial⟩ rfl
  refine bK<|bB<|bA<|sr<|sp3 hT ?_;refine ss (ldO hT (bM kT1)) ?_;refine sp2 hT ?_;refine nn<|bH rfl (fun hc80=>?_) (fun hc80=>?_)
  · have hc80:=bne_iff_ne.1 hc80;refine sr<|ss (cC rfl rfl (uA _)) ?_;refine sp hT ?_;refine sto hT .head ?_;refine nn<|bG<|bC ?_;have hr:=hR.symm.trans (bg_ins hrt hfn (by omega) (by assumption) (by rw [List.length_map];omega));subst hr;exact bL none rfl (bD rfl) (bN hT (bM .head) rfl rfl rfl rfl) .nil ⟨Has.pure (by first | decide | simp),trivial⟩ rfl
  have hc80:=bne_eq_false_iff_eq.1 hc80;refine bK<|bB<|sr<|bBr rfl rfl rfl rfl fun r11=>?_;refine ss (cC rfl rfl (run_built r11)) ?_;refine fH rfl rfl rfl rfl rfl rfl fun b12=>?_;refine sp hT ?_;refine nn<|bA<|bA<|bW (pL []) (Has.each_nil) ?_;refine bE<|ss (bZ hT (iB (Has.of mT2)) rfl rfl rfl rfl rfl) ?_;refine sp2 hT ?_;refine nn<|bR<|dB (ι:=Nat×KVS×NamesV) [(2,_),(3,_),(4,_),(7,_),(9,_),(14,_),(85,_),(86,_)] ⟨rfl,rfl,rfl,rfl,rfl,rfl,rfl,rfl,trivial⟩ (fun⟨i,kv,NV⟩=>[(87,.int .i64 (i:Nat))]) (fun⟨i,kv,NV⟩=>[sG r11 kv]) (fun⟨i,kv,NV⟩=>[Fact.pure (i≤(varsP P.pr).length∧VNAt (varsP P.pr) dims i NV kv),pL NV]) (fun⟨i,kv,NV⟩=>(varsP P.pr).length-i) (0,[],[]) ⟨rfl,trivial⟩ (.cons kT1 .nil) ⟨Has.pure (⟨by omega,vn_start⟩),Has.of mT0,trivial⟩ ?_;rintro⟨i,kv,NV⟩;dsimp only;refine cD (Has.of mT0) fun hinv21=>?_;refine sr<|sp hT ?_;refine nn<|bA<|bH rfl (fun hc88=>?_) (fun hc88=>?_)
  · have hc88:=of_decide_eq_true hc88;refine bK<|bB<|bA<|bR<|sr<|sp hT ?_
    obtain⟨x13,hx14⟩: ∃x',(varsP P.pr)[i]?=some x':=⟨_,List.getElem?_eq_getElem (by omega)⟩
    refine ss (bS hT (k:=i) (bJ (Has.of mT6)) rfl rfl rfl rfl rfl rfl rfl (by omega)) ?_;refine ss (bZ hT (cR.knows (bJ (Has.of mT6)) (k:=i) (x:=x13) hx14 0) rfl rfl rfl rfl rfl) ?_;refine sp2 hT ?_;refine nn<|cU _ _ [(true,0),(true,1),(true,2),(true,3),(true,4),(true,5),(true,6),(true,7),(true,8),(false,9),(true,10),(false,11)] cY (by decide+kernel) (.cons kT1 (.cons kT1 (.cons kT1 .nil))) bF.self ?_;refine puM hT ?_;refine puM hT ?_;refine puM hT ?_;refine stM rfl (ldO hT (bM .head)) ?_;refine puM hT ?_;refine stM rfl (bZ hT (iB (Has.of mT5)) rfl rfl rfl rfl rfl) ?_;refine puM hT ?_
    obtain⟨x15,hx16⟩: ∃x',dims[i]?=some x':=⟨_,List.getElem?_eq_getElem (by omega)⟩
    refine stM rfl (bS hT (k:=i) (bJ (Has.of mT13)) rfl rfl rfl rfl rfl rfl rfl (by omega)) ?_;refine stM rfl (bZ hT (cR.knows (bJ (Has.of mT13)) (k:=i) (x:=x15) hx16 0) rfl rfl rfl rfl rfl) ?_;refine cB (o:=_) rfl ?_;refine fR (m:=(x15:Int)) rfl rfl rfl rfl rfl fun b17=>?_;refine dO (E:=cT) (xs:=[(x15:Int)]) .head (by simp [maxLen]) ?_;refine cA (.cons kT2 (.cons kT2 (.cons kT2 .nil))) (bF.drop 0) ?_;refine stM rfl (cC rfl rfl (qX _ _ _)) ?_;refine cB (o:=_) rfl ?_;refine kJ kT1 rfl (.inl rfl) rfl bHw Tryz.underlying9 rfl rfl rfl ?_;refine cA (.cons kT2 (.cons kT2 (.cons kT2 .nil))) (bF.drop 0) ?_;refine cM<|bY<|bB<|bX kT1 ?_;refine bW (pL ((x13,(⟨⟨none,0,[]⟩,⟨(some ⟨b17,0,none⟩),1,[(x15:Int)]⟩⟩:ArrV))::NV)) (Has.each_cons (fG rM (Has.of mT0) ⟨Nat.le_refl 0,Nat.le_refl 1⟩) (Has.of mT2)) ?_;refine bE<|sp hT ?_;refine bP (z':=(((i+1):Nat):Int)) (cJ (by omega) (by omega)) ?_;refine sp hT ?_;refine nn ?_;exact cO (i+1,_,(x13,(⟨⟨none,0,[]⟩,⟨(some ⟨b17,0,none⟩),1,[(x15:Int)]⟩⟩:ArrV))::NV) (by dsimp only;omega) ⟨rfl,trivial⟩ ⟨rfl,rfl,rfl,rfl,rfl,rfl,rfl,rfl,trivial⟩ (.cons .head (.cons .head (.cons .head (.cons .head .nil)))) ⟨Has.pure (⟨by dsimp only;omega,vn_step hinv21.2 hx14 hx16 rfl⟩),Has.of mT0,trivial⟩ (bF.drop 4)
  have hc88:=Int.not_lt.1 (of_decide_eq_false hc88);refine cW<|cK<|cK<|cX<|bB<|sr<|sp2 hT ?_;refine nn<|bA<|bA ?_;have hbg:=hR.symm.trans (bg_go hrt hfn (by omega) (by assumption) (by rw [List.length_map];omega));rw [vn_end hinv21.2 (by omega)] at hbg;refine bE<|sp hT ?_;refine ss (ldO hT (bM kT3)) ?_;refine sp2 hT ?_;refine nn<|bR<|dB (ι:=Nat×KVS×NamesV) [(2,_),(7,_),(14,_),(17,_),(106,_),(107,_)] ⟨rfl,rfl,rfl,rfl,rfl,rfl,trivial⟩ (fun⟨i,kv,NV⟩=>[(108,.int .i64 (i:Nat))]) (fun⟨i,kv,NV⟩=>[sG r11 kv]) (fun⟨i,kv,NV⟩=>[Fact.pure (i≤P.inputs.list.length∧InAt (varsP P.pr) dims P.pr.inputs ins i NV kv r),pL NV]) (fun⟨i,kv,NV⟩=>P.inputs.list.length-i) (0,kv,NV) ⟨rfl,trivial⟩ (.cons .head .nil) ⟨Has.pure (⟨by omega,hinv21.2.1,hbg⟩),Has.of mT1,trivial⟩ ?_;rintro⟨i,kv,NV⟩;dsimp only;refine cD (Has.of mT0) fun hinv27=>?_;refine sr<|sp hT ?_;refine nn<|bA<|bH rfl (fun hc109=>?_) (fun hc109=>?_)
  · have hc109:=of_decide_eq_true hc109;refine bK<|bB<|bA<|bR<|sr<|sp hT ?_
    obtain⟨x18,hx19⟩: ∃x',P.inputs.list[i]?=some x':=⟨_,List.getElem?_eq_getElem (by omega)⟩
    refine ss (bS hT (k:=i) (bJ (Has.of bHs)) rfl rfl rfl rfl rfl rfl rfl (by omega)) ?_;refine ss (dP hT (cR.knows (bJ (Has.of bHs)) (k:=i) (x:=x18) hx19 0) rfl rfl rfl rfl rfl) ?_;refine cG rfl rfl rfl rfl iZ rfl fun b20=>?_;refine sp hT ?_;refine sto hT .head ?_;refine nn<|bA ?_;have hx0:P.pr.inputs[i]?=some x18.inp:=oN hx19;have hxs:=hs x18 (List.mem_of_getElem? hx19);refine bW (pF x18) (Has.each (Has.of wP) (List.mem_of_getElem? hx19)) ?_
    obtain⟨a,ha⟩: ∃a,ins[i]?=some a:=⟨_,List.getElem?_eq_getElem (by omega)⟩
    have hIa:=hI a (List.mem_of_getElem? ha);refine bW (gW a) (Has.each (Has.of (.tail _ (.tail _ (.tail _ (.tail _ (.tail _ (.tail _ (.tail _ (.tail _ (.tail _ (.tail _ (.tail _ (.tail _ (.tail _ (.tail _ (.tail _ (.tail _ (.tail _ (.tail _ mT0))))))))))))))))))) (List.mem_of_getElem? ha)) ?_;refine bW (cT.sl (.slice a.sides.addr a.sides.list.length a.sides.cap) a.sides.list) (kO (Has.of mT0)) ?_;refine cU _ _ [(true,0),(true,1),(true,2),(true,3),(false,4),(true,5),(true,6),(true,7),(true,8),(true,9),(true,10),(true,11),(true,12),(true,13),(true,14),(true,15),(true,16),(true,17)] cY (by decide+kernel) (.cons .head (.cons .head (.cons .head (.cons .head (.cons .head .nil))))) bF.self ?_;refine puM hT ?_;refine puM hT ?_;refine stM rfl (bS hT (k:=i) (bJ (Has.of (.tail _ (.tail _ (.tail _ (.tail _ (.tail _ (.tail _ (.tail _ (.tail _ (.tail _ (.tail _ (.tail _ (.tail _ (.tail _ (.tail _ (.tail _ (.tail _ (.tail _ (.tail _ (.tail _ mT0))))))))))))))))))))) rfl rfl rfl rfl rfl rfl rfl (by omega)) ?_;refine stM rfl (dP hT (cR.knows (bJ (Has.of (.tail _ (.tail _ (.tail _ (.tail _ (.tail _ (.tail _ (.tail _ (.tail _ (.tail _ (.tail _ (.tail _ (.tail _ (.tail _ (.tail _ (.tail _ (.tail _ (.tail _ (.tail _ (.tail _ mT0))))))))))))))))))))) (k:=i) (x:=a) ha 0) rfl rfl rfl rfl rfl) ?_;refine cB (o:=_) rfl ?_;refine bO Tryz.func17 (jX a hIa) rfl rfl .nil ⟨(Has.of mT0),trivial⟩ fun _=>?_;refine cA (.cons .head (.cons .head (.cons .head (.cons .head (.cons .head .nil))))) (bF.drop 0) ?_;refine puM hT ?_;refine cE (fun hg118=>?_) (fun hg118=>?_)
    · refine puM hT ?_;refine puM hT ?_;refine stM rfl (bS hT (k:=i) (bJ (Has.of (.tail _ (.tail _ (.tail _ (.tail _ (.tail _ (.tail _ (.tail _ (.tail _ (.tail _ (.tail _ (.tail _ (.tail _ (.tail _ (.tail _ (.tail _ (.tail _ (.tail _ (.tail _ (.tail _ mT0))))))))))))))))))))) rfl rfl rfl rfl rfl rfl rfl (by omega)) ?_;refine puM hT ?_;refine stM rfl (bZ hT (cR.knows (bJ (Has.of (.tail _ (.tail _ (.tail _ (.tail _ (.tail _ (.tail _ (.tail _ (.tail _ (.tail _ (.tail _ (.tail _ (.tail _ (.tail _ (.tail _ (.tail _ (.tail _ (.tail _ (.tail _ (.tail _ mT0))))))))))))))))))))) (k:=i) (x:=a) ha 0) rfl rfl rfl rfl rfl) ?_;refine puM hT ?_;refine puM hT ?_;refine stM rfl (ldO hT (dX .head)) ?_;refine puM hT ?_;refine puM hT ?_;refine puM hT ?_;refine cI (t':=decide (a.sides.list.length=x18.sides.list.length)) (by rw [Bool.eq_iff_iff];simp;omega) ?_;refine puM hT ?_;refine cM<|bB<|bA<|sr<|sp hT ?_;refine ss (ldO hT (dX .head)) ?_;refine sp2 hT ?_;refine nn<|bR<|dB (ι:=Nat×Bool) [(2,_),(7,_),(14,_),(17,_),(18,_),(19,_),(106,_),(107,_),(108,_),(119,_),(120,_),(121,_),(122,_),(123,_),(124,_),(125,_),(126,_),(127,_),(128,_),(131,_),(132,_)] ⟨rfl,rfl,rfl,rfl,rfl,rfl,rfl,rfl,rfl,rfl,rfl,rfl,rfl,rfl,rfl,rfl,rfl,rfl,rfl,rfl,rfl,trivial⟩ (fun⟨k,b⟩=>[(20,.bool b),(133,.int .i64 (k:Nat))]) (fun _=>[]) (fun⟨k,b⟩=>[Fact.pure (k≤x18.sides.list.length∧uX (varsP P.pr) dims x18.inp a.arr k b)]) (fun⟨k,b⟩=>x18.sides.list.length-k) (0,decide (a.sides.list.length=x18.sides.list.length)) ⟨rfl,rfl,trivial⟩ .nil ⟨Has.pure (⟨by omega,fit_t_of (by assumption) (List.length_map _)⟩),trivial⟩ ?_;rintro⟨k,b⟩;dsimp only;refine cD (Has.of mT0) fun hinv31=>?_;refine sr<|sp hT ?_;refine nn<|bA<|bH rfl (fun hc134=>?_) (fun hc134=>?_)
      · have hc134:=of_decide_eq_true hc134;refine bK<|bB<|bA<|bR<|sr<|sp hT ?_
        obtain⟨x21,hx22⟩: ∃x',x18.sides.list[k]?=some x':=⟨_,List.getElem?_eq_getElem (by omega)⟩
        refine ss (bS hT (k:=k) (bJ (Has.of mT3)) rfl rfl rfl rfl rfl rfl rfl (by omega)) ?_;refine ss (dP hT (cR.knows (bJ (Has.of mT3)) (k:=k) (x:=x21) hx22 0) rfl rfl rfl rfl rfl) ?_;refine cG rfl rfl rfl rfl sY rfl fun b23=>?_;refine sp hT ?_;refine sto hT .head ?_;refine nn ?_;have hd0:x18.inp.sides[k]?=some x21.sd:=oN hx22;refine cU _ _ [(true,0),(true,1),(true,2),(true,3),(true,4),(true,5),(true,6),(true,7),(true,8),(true,9),(true,10),(true,11),(false,12),(true,13),(true,14),(true,15)] cY (by decide+kernel) (.cons .head (.cons .head (.cons .head (.cons .head (.cons .head (.cons .head .nil)))))) bF.self ?_;refine puM hT ?_;refine puM hT ?_;refine cE (fun hg139=>?_) (fun hg139=>?_)
        · subst hg139;have hfl:a.sides.list.length=x18.sides.list.length:=(hinv31.2.2 rfl).trans (List.length_map _);refine puM hT ?_;refine puM hT ?_;refine stM rfl (bS hT (k:=i) (bJ (Has.of (.tail _ (.tail _ (.tail _ (.tail _ (.tail _ (.tail _ (.tail _ (.tail _ (.tail _ (.tail _ (.tail _ (.tail _ (.tail _ (.tail _ (.tail _ (.tail _ (.tail _ (.tail _ (.tail _ (.tail _ mT0)))))))))))))))))))))) rfl rfl rfl rfl rfl rfl rfl (by omega)) ?_;refine puM hT ?_;refine stM rfl (bZ hT (cR.knows (bJ (Has.of (.tail _ (.tail _ (.tail _ (.tail _ (.tail _ (.tail _ (.tail _ (.tail _ (.tail _ (.tail _ (.tail _ (.tail _ (.tail _ (.tail _ (.tail _ (.tail _ (.tail _ (.tail _ (.tail _ (.tail _ mT0)))))))))))))))))))))) (k:=i) (x:=a) ha 0) rfl rfl rfl rfl rfl) ?_;refine puM hT ?_
          obtain⟨x24,hx25⟩: ∃x',a.sides.list[k]?=some x':=⟨_,List.getElem?_eq_getElem (by omega)⟩
          refine stM rfl (bS hT (k:=k) (bJ (Has.of mT1)) rfl rfl rfl rfl rfl rfl rfl (by omega)) ?_;refine stM rfl (bZ hT (cR.knows (bJ (Has.of mT1)) (k:=k) (x:=x24) hx25 0) rfl rfl rfl rfl rfl) ?_;refine puM hT ?_;refine stM rfl (ldN hT (bM .head)) ?_;refine cB (o:=_) rfl ?_;refine gQ (cS Tryz.func60 rfl rfl) (bBs b2 b4 D V cd cv dims (varsP P.pr) (by omega) x21 (fun hn=>side_var (x:=x18.inp) (d:=x21.sd) (yB (List.mem_of_getElem? hx19)) (mem_sd (List.mem_of_getElem? hx22)) hn (by omega))) rfl rfl rfl rfl rfl rfl rfl .nil ⟨(Has.of bHs),(Has.of mT10),(Has.of (.tail _ (.tail _ (.tail _ (.tail _ (.tail _ (.tail _ (.tail _ (.tail _ (.tail _ (.tail _ (.tail _ (.tail _ (.tail _ (.tail _ (.tail _ (.tail _ (.tail _ (.tail _ (.tail _ mT0)))))))))))))))))))),(Has.of wP),trivial⟩ fun _=>?_;refine cA (.cons .head (.cons .head (.cons .head (.cons .head (.cons .head (.cons .head .nil)))))) (bF.drop 0) ?_;refine puM hT ?_;refine puM hT ?_;refine cI (t':=decide (x24=nR (varsP P.pr) dims x21.sd)) (by rw [Bool.eq_iff_iff];simp) ?_;refine puM hT ?_;refine cM<|bY<|bB<|bE<|sp hT ?_;refine bP (z':=(((k+1):Nat):Int)) (cJ (by omega) (by omega)) ?_;refine sp hT ?_;refine nn ?_;exact cO (k+1,decide (x24=nR (varsP P.pr) dims x21.sd)) (by dsimp only;omega) ⟨rfl,rfl,trivial⟩ ⟨rfl,rfl,rfl,rfl,rfl,rfl,rfl,rfl,rfl,rfl,rfl,rfl,rfl,rfl,rfl,rfl,rfl,rfl,rfl,rfl,rfl,trivial⟩ (.cons kT1 (.cons kT1 (.cons kT1 (.cons kT1 (.cons kT1 .nil))))) ⟨Has.pure (⟨by dsimp only;omega,fit_step hinv31.2 hx25 hd0⟩),trivial⟩ (bF.drop 1)
        subst hg139;refine cF rfl rfl rfl rfl ?_;refine cF rfl rfl rfl rfl ?_;refine cF rfl rfl rfl rfl ?_;refine cF rfl rfl rfl rfl ?_;refine cF rfl rfl rfl rfl ?_;refine cF rfl rfl rfl rfl ?_;refine cF rfl rfl rfl rfl ?_;refine cF rfl rfl rfl rfl ?_;refine cF rfl rfl rfl rfl ?_;refine cF rfl rfl rfl rfl ?_;refine cB (o:=_) rfl ?_;refine sk ?_;refine cA (.cons .head (.cons .head (.cons .head (.cons .head (.cons .head (.cons .head .nil)))))) (bF.drop 0) ?_;refine cF rfl rfl rfl rfl ?_;refine puM hT ?_;refine puM hT ?_;refine cM<|bY<|bB<|bE<|sp hT ?_;refine bP (z':=(((k+1):Nat):Int)) (cJ (by omega) (by omega)) ?_;refine sp hT ?_;refine nn ?_;exact cO (k+1,false) (by dsimp only;omega) ⟨rfl,rfl,trivial⟩ ⟨rfl,rfl,rfl,rfl,rfl,rfl,rfl,rfl,rfl,rfl,rfl,rfl,rfl,rfl,rfl,rfl,rfl,rfl,rfl,rfl,rfl,trivial⟩ (.cons kT1 (.cons kT1 (.cons kT1 (.cons kT1 (.cons kT1 .nil))))) ⟨Has.pure (⟨by dsimp only;omega,fit_skip hinv31.2⟩),trivial⟩ (bF.drop 1)
      have hc134:=Int.not_lt.1 (of_decide_eq_false hc134);refine cW<|cK<|cK<|cX<|bB<|bA<|bA ?_;have hfe:=fit_end hinv31.2 (by show(x18.sides.list.map iG.sd).length≤k;rw [List.length_map];omega);refine bE<|sp2 hT ?_;refine nn<|bH rfl (fun hc155=>?_) (fun hc155=>?_)
      · have hc155:=gA hc155;refine bA<|cU _ _ [(true,0),(true,1),(true,2),(true,3),(false,4)] cY (by decide+kernel) (.cons .head (.cons .head (.cons .head (.cons kT1 .nil)))) bF.self ?_;refine puM hT ?_;refine stM rfl (ldO hT (dD .head)) ?_;refine stM rfl (cC rfl rfl (tC _ _)) ?_;refine puM hT ?_;refine cB (o:=_) rfl ?_;refine sto hT kT3 ?_;refine cA (.cons kT1 (.cons kT1 (.cons kT1 (.cons kT1 .nil)))) (bF.drop 0) ?_;refine cM<|bB<|bG<|bC<|bI<|bC<|bC<|bI<|bC ?_;have hr:=in_bad hinv27.2 hx0 ha (hfe.trans (by assumption));subst hr;exact bL none rfl (bD rfl) (bN hT (bM .head) rfl rfl rfl rfl) .nil ⟨Has.pure (by first | decide | simp),trivial⟩ rfl
      have hc155:=fM hc155;refine bK<|bB<|cU _ _ [(true,0),(true,1),(true,2),(true,3),(true,4),(true,5),(true,6),(true,7),(true,8),(true,9),(false,10)] cY (by decide+kernel) (.cons .head (.cons kT1 (.cons kT1 (.cons kT1 .nil)))) bF.self ?_;refine puM hT ?_;refine puM hT ?_;refine puM hT ?_;refine stM rfl (ldO hT (bM kT1)) ?_;refine puM hT ?_;refine stM rfl (ldO hT (bM .head)) ?_;refine puM hT ?_;refine puM hT ?_;refine stM rfl (bS hT (k:=i) (bJ (Has.of (.tail _ (.tail _ (.tail _ (.tail _ (.tail _ (.tail _ (.tail _ (.tail _ (.tail _ (.tail _ (.tail _ (.tail _ (.tail _ (.tail _ (.tail _ (.tail _ (.tail _ (.tail _ (.tail _ (.tail _ mT0)))))))))))))))))))))) rfl rfl rfl rfl rfl rfl rfl (by omega)) ?_;refine stM rfl (dP hT (cR.knows (bJ (Has.of (.tail _ (.tail _ (.tail _ (.tail _ (.tail _ (.tail _ (.tail _ (.tail _ (.tail _ (.tail _ (.tail _ (.tail _ (.tail _ (.tail _ (.tail _ (.tail _ (.tail _ (.tail _ (.tail _ (.tail _ mT0)))))))))))))))))))))) (k:=i) (x:=a) ha 0) rfl rfl rfl rfl rfl) ?_;refine cB (o:=_) rfl ?_;refine kJ kT1 rfl (.inl rfl) rfl bHw Tryz.underlying9 rfl rfl rfl ?_;refine cA (.cons kT1 (.cons kT1 (.cons kT1 (.cons kT1 .nil)))) (bF.drop 0) ?_;refine cM<|bY<|bB<|bW (pL ((x18.name,a)::NV)) (Has.each_cons (Has.of mT2) (Has.of mT5)) ?_;refine bE<|sp hT ?_;refine bP (z':=(((i+1):Nat):Int)) (cJ (by omega) (by omega)) ?_;refine sp hT ?_;refine nn ?_;exact cO (i+1,_,(x18.name,a)::NV) (by dsimp only;omega) ⟨rfl,trivial⟩ ⟨rfl,rfl,rfl,rfl,rfl,rfl,trivial⟩ (.cons .head (.cons kT1 (.cons kT1 (.cons kT1 .nil)))) ⟨Has.pure (⟨by dsimp only;omega,in_ok hinv27.2 hx0 ha (hfe.trans (by assumption))⟩),Has.of mT0,trivial⟩ (bF.drop 7)
    refine cF rfl rfl rfl rfl ?_;refine cF rfl rfl rfl rfl ?_;refine cF rfl rfl rfl rfl ?_;refine cF rfl rfl rfl rfl ?_;refine cF rfl rfl rfl rfl ?_;refine cF rfl rfl rfl rfl ?_;refine cF rfl rfl rfl rfl ?_;refine cF rfl rfl rfl rfl ?_;refine cF rfl rfl rfl rfl ?_;refine cF rfl rfl rfl rfl ?_;refine puM hT ?_;refine puM hT ?_;refine cM<|bB<|bA<|sr<|sp hT ?_;refine ss (ldO hT (dX .head)) ?_;refine sp2 hT ?_;refine nn<|bR<|dB (ι:=Nat×Bool) [(2,_),(7,_),(14,_),(17,_),(18,_),(19,_),(106,_),(107,_),(108,_),(119,_),(120,_),(121,_),(122,_),(123,_),(124,_),(125,_),(126,_),(127,_),(128,_),(131,_),(132,_)] ⟨rfl,rfl,rfl,rfl,rfl,rfl,rfl,rfl,rfl,rfl,rfl,rfl,rfl,rfl,rfl,rfl,rfl,rfl,rfl,rfl,rfl,trivial⟩ (fun⟨k,b⟩=>[(20,.bool b),(133,.int .i64 (k:Nat))]) (fun _=>[]) (fun⟨k,b⟩=>[Fact.pure (k≤x18.sides.list.length∧uX (varsP P.pr) dims x18.inp a.arr k b)]) (fun⟨k,b⟩=>x18.sides.list.length-k) (0,false) ⟨rfl,rfl,trivial⟩ .nil ⟨Has.pure (⟨by omega,fit_start_f (by assumption)⟩),trivial⟩ ?_;rintro⟨k,b⟩;dsimp only;refine cD (Has.of mT0) fun hinv31=>?_;refine sr<|sp hT ?_;refine nn<|bA<|bH rfl (fun hc134=>?_) (fun hc134=>?_)
    · have hc134:=of_decide_eq_true hc134;refine bK<|bB<|bA<|bR<|sr<|sp hT ?_
      obtain⟨x26,hx27⟩: ∃x',x18.sides.list[k]?=some x':=⟨_,List.getElem?_eq_getElem (by omega)⟩
      refine ss (bS hT (k:=k) (bJ (Has.of mT3)) rfl rfl rfl rfl rfl rfl rfl (by omega)) ?_;refine ss (dP hT (cR.knows (bJ (Has.of mT3)) (k:=k) (x:=x26) hx27 0) rfl rfl rfl rfl rfl) ?_;refine cG rfl rfl rfl rfl sY rfl fun b28=>?_;refine sp hT ?_;refine sto hT .head ?_;refine nn ?_;have hd0:x18.inp.sides[k]?=some x26.sd:=oN hx27;refine cU _ _ [(true,0),(true,1),(true,2),(true,3),(true,4),(true,5),(true,6),(true,7),(true,8),(true,9),(true,10),(true,11),(false,12),(true,13),(true,14),(true,15)] cY (by decide+kernel) (.cons .head (.cons .head (.cons .head (.cons .head (.cons .head (.cons .head .nil)))))) bF.self ?_;refine puM hT ?_;refine puM hT ?_;refine cE (fun hg139=>?_) (fun hg139=>?_)
      · subst hg139;have hfl:a.sides.list.length=x18.sides.list.length:=(hinv31.2.2 rfl).trans (List.length_map _);refine puM hT ?_;refine puM hT ?_;refine stM rfl (bS hT (k:=i) (bJ (Has.of (.tail _ (.tail _ (.tail _ (.tail _ (.tail _ (.tail _ (.tail _ (.tail _ (.tail _ (.tail _ (.tail _ (.tail _ (.tail _ (.tail _ (.tail _ (.tail _ (.tail _ (.tail _ (.tail _ (.tail _ mT0)))))))))))))))))))))) rfl rfl rfl rfl rfl rfl rfl (by omega)) ?_;refine puM hT ?_;refine stM rfl (bZ hT (cR.knows (bJ (Has.of (.tail _ (.tail _ (.tail _ (.tail _ (.tail _ (.tail _ (.tail _ (.tail _ (.tail _ (.tail _ (.tail _ (.tail _ (.tail _ (.tail _ (.tail _ (.tail _ (.tail _ (.tail _ (.tail _ (.tail _ mT0)))))))))))))))))))))) (k:=i) (x:=a) ha 0) rfl rfl rfl rfl rfl) ?_;refine puM hT ?_
        obtain⟨x29,hx30⟩: ∃x',a.sides.list[k]?=some x':=⟨_,List.getElem?_eq_getElem (by omega)⟩
        refine stM rfl (bS hT (k:=k) (bJ (Has.of mT1)) rfl rfl rfl rfl rfl rfl rfl (by omega)) ?_;refine stM rfl (bZ hT (cR.knows (bJ (Has.of mT1)) (k:=k) (x:=x29) hx30 0) rfl rfl rfl rfl rfl) ?_;refine puM hT ?_;refine stM rfl (ldN hT (bM .head)) ?_;refine cB (o:=_) rfl ?_;refine gQ (cS Tryz.func60 rfl rfl) (bBs b2 b4 D V cd cv dims (varsP P.pr) (by omega) x26 (fun hn=>side_var (x:=x18.inp) (d:=x26.sd) (yB (List.mem_of_getElem? hx19)) (mem_sd (List.mem_of_getElem? hx27)) hn (by omega))) rfl rfl rfl rfl rfl rfl rfl .nil ⟨(Has.of bHs),(Has.of mT10),(Has.of (.tail _ (.tail _ (.tail _ (.tail _ (.tail _ (.tail _ (.tail _ (.tail _ (.tail _ (.tail _ (.tail _ (.tail _ (.tail _ (.tail _ (.tail _ (.tail _ (.tail _ (.tail _ (.tail _ mT0)))))))))))))))))))),(Has.of wP),trivial⟩ fun _=>?_;refine cA (.cons .head (.cons .head (.cons .head (.cons .head (.cons .head (.cons .head .nil)))))) (bF.drop 0) ?_;refine puM hT ?_;refine puM hT ?_;refine cI (t':=decide (x29=nR (varsP P.pr) dims x26.sd)) (by rw [Bool.eq_iff_iff];simp) ?_;refine puM hT ?_;refine cM<|bY<|bB<|bE<|sp hT ?_;refine bP (z':=(((k+1):Nat):Int)) (cJ (by omega) (by omega)) ?_;refine sp hT ?_;refine nn ?_;exact cO (k+1,decide (x29=nR (varsP P.pr) dims x26.sd)) (by dsimp only;omega) ⟨rfl,rfl,trivial⟩ ⟨rfl,rfl,rfl,rfl,rfl,rfl,rfl,rfl,rfl,rfl,rfl,rfl,rfl,rfl,rfl,rfl,rfl,rfl,rfl,rfl,rfl,trivial⟩ (.cons kT1 (.cons kT1 (.cons kT1 (.cons kT1 (.cons kT1 .nil))))) ⟨Has.pure (⟨by dsimp only;omega,fit_step hinv31.2 hx30 hd0⟩),trivial⟩ (bF.drop 1)
      subst hg139;refine cF rfl rfl rfl rfl ?_;refine cF rfl rfl rfl rfl ?_;refine cF rfl rfl rfl rfl ?_;refine cF rfl rfl rfl rfl ?_;refine cF rfl rfl rfl rfl ?_;refine cF rfl rfl rfl rfl ?_;refine cF rfl rfl rfl rfl ?_;refine cF rfl rfl rfl rfl ?_;refine cF rfl rfl rfl rfl ?_;refine cF rfl rfl rfl rfl ?_;refine cB (o:=_) rfl ?_;refine sk ?_;refine cA (.cons .head (.cons .head (.cons .head (.cons .head (.cons .head (.cons .head .nil)))))) (bF.drop 0) ?_;refine cF rfl rfl rfl rfl ?_;refine puM hT ?_;refine puM hT ?_;refine cM<|bY<|bB<|bE<|sp hT ?_;refine bP (z':=(((k+1):Nat):Int)) (cJ (by omega) (by omega)) ?_;refine sp hT ?_;refine nn ?_;exact cO (k+1,false) (by dsimp only;omega) ⟨rfl,rfl,trivial⟩ ⟨rfl,rfl,rfl,rfl,rfl,rfl,rfl,rfl,rfl,rfl,rfl,rfl,rfl,rfl,rfl,rfl,rfl,rfl,rfl,rfl,rfl,trivial⟩ (.cons kT1 (.cons kT1 (.cons kT1 (.cons kT1 (.cons kT1 .nil))))) ⟨Has.pure (⟨by dsimp only;omega,fit_skip hinv31.2⟩),trivial⟩ (bF.drop 1)
    have hc134:=Int.not_lt.1 (of_decide_eq_false hc134);refine cW<|cK<|cK<|cX<|bB<|bA<|bA ?_;have hfe:=fit_end hinv31.2 (by show(x18.sides.list.map iG.sd).length≤k;rw [List.length_map];omega);refine bE<|sp2 hT ?_;refine nn<|bH rfl (fun hc155=>?_) (fun hc155=>?_)
    · have hc155:=gA hc155;refine bA<|cU _ _ [(true,0),(true,1),(true,2),(true,3),(false,4)] cY (by decide+kernel) (.cons .head (.cons .head (.cons .head (.cons kT1 .nil)))) bF.self ?_;refine puM hT ?_;refine stM rfl (ldO hT (dD .head)) ?_;refine stM rfl (cC rfl rfl (tC _ _)) ?_;refine puM hT ?_;refine cB (o:=_) rfl ?_;refine sto hT kT3 ?_;refine cA (.cons kT1 (.cons kT1 (.cons kT1 (.cons kT1 .nil)))) (bF.drop 0) ?_;refine cM<|bB<|bG<|bC<|bI<|bC<|bC<|bI<|bC ?_;have hr:=in_bad hinv27.2 hx0 ha (hfe.trans (by assumption));subst hr;exact bL none rfl (bD rfl) (bN hT (bM .head) rfl rfl rfl rfl) .nil ⟨Has.pure (by first | decide | simp),trivial⟩ rfl
    have hc155:=fM hc155;refine bK<|bB<|cU _ _ [(true,0),(true,1),(true,2),(true,3),(true,4),(true,5),(true,6),(true,7),(true,8),(true,9),(false,10)] cY (by decide+kernel) (.cons .head (.cons kT1 (.cons kT1 (.cons kT1 .nil)))) bF.self ?_;refine puM hT ?_;refine puM hT ?_;refine puM hT ?_;refine stM rfl (ldO hT (bM kT1)) ?_;refine puM hT ?_;refine stM rfl (ldO hT (bM .head)) ?_;refine puM hT ?_;refine puM hT ?_;refine stM rfl (bS hT (k:=i) (bJ (Has.of (.tail _ (.tail _ (.tail _ (.tail _ (.tail _ (.tail _ (.tail _ (.tail _ (.tail _ (.tail _ (.tail _ (.tail _ (.tail _ (.tail _ (.tail _ (.tail _ (.tail _ (.tail _ (.tail _ (.tail _ mT0)))))))))))))))))))))) rfl rfl rfl rfl rfl rfl rfl (by omega)) ?_;refine stM rfl (dP hT (cR.knows (bJ (Has.of (.tail _ (.tail _ (.tail _ (.tail _ (.tail _ (.tail _ (.tail _ (.tail _ (.tail _ (.tail _ (.tail _ (.tail _ (.tail _ (.tail _ (.tail _ (.tail _ (.tail _ (.tail _ (.tail _ (.tail _ mT0)))))))))))))))))))))) (k:=i) (x:=a) ha 0) rfl rfl rfl rfl rfl) ?_;refine cB (o:=_) rfl ?_;refine kJ kT1 rfl (.inl rfl) rfl bHw Tryz.underlying9 rfl rfl rfl ?_;refine cA (.cons kT1 (.cons kT1 (.cons kT1 (.cons kT1 .nil)))) (bF.drop 0) ?_;refine cM<|bY<|bB<|bW (pL ((x18.name,a)::NV)) (Has.each_cons (Has.of mT2) (Has.of mT5)) ?_;refine bE<|sp hT ?_;refine bP (z':=(((i+1):Nat):Int)) (cJ (by omega) (by omega)) ?_;refine sp hT ?_;refine nn ?_;exact cO (i+1,_,(x18.name,a)::NV) (by dsimp only;omega) ⟨rfl,trivial⟩ ⟨rfl,rfl,rfl,rfl,rfl,rfl,trivial⟩ (.cons .head (.cons kT1 (.cons kT1 (.cons kT1 .nil)))) ⟨Has.pure (⟨by dsimp only;omega,in_ok hinv27.2 hx0 ha (hfe.trans (by assumption))⟩),Has.of mT0,trivial⟩ (bF.drop 7)
  have hc109:=Int.not_lt.1 (of_decide_eq_false hc109);refine cW<|cK<|cK<|cX<|bB<|sr<|sp hT ?_;refine ss (cC rfl rfl (uW)) ?_;refine sp hT ?_;refine sto hT kT2 ?_;refine nn<|bG ?_;have hr:=in_fin hinv27.2 (by omega);subst hr;exact bL (some (b12,r11,kv,NV)) rfl (bD rfl) (bN hT (bM .head) rfl rfl rfl rfl) (.cons kT2 (.cons kT1 .nil)) ⟨(Has.pure ⟨hinv27.2.1,rfl⟩).and (Has.of mT1),trivial⟩ rfl
end Go.Proofs.YtbgdphbebhjpiaaGreatDoor
