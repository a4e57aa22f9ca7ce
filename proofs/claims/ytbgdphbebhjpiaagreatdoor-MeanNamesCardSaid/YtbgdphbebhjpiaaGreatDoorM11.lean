/- Texts of one proof, one behind the other: ArrS, Iter, Rng, Mark, ItC, CopyI, ArrI, Rev, LanesL, ConcA, Lanes, PrimA, PrimB. -/
import Derived.Test.YtbgdphbebhjpiaaGreatDoorM10
import Derived.RangeFuncBox
import Derived.RangeFuncLeaves
import Derived.RangeFuncBound
import Derived.RangeFuncCalls
import Derived.Shelf.Abstract
import Derived.WalkKit
import Derived.OwnWalkIn
import Derived.TacticsInMore
import Derived.LoopNIn
import Derived.LoopIn
import Derived.Test.YtbgdphbebhjpiaaGreatDoorM4
import Derived.OrdersIn
import Derived.RangeFuncNested
import Derived.Test.YtbgdphbebhjpiaaGreatDoorM3
import Derived.Laws.IdiomCopy
import Derived.Test.YtbgdphbebhjpiaaGreatDoorM9
import Derived.Lib.AppendZeros
namespace Go.Proofs.YtbgdphbebhjpiaaGreatDoor
open Go.RowKit
theorem bMn{n:Int}(h:n<0):Value.bool true= .bool (lX n):=by simp [lX,h]
theorem bMp{n:Int}(h: ¬n<0):Value.bool (decide (65536<n))= .bool (lX n):=by simp [lX,h]
section
variable {l : List Int} {n s m : Int} {i : Nat} {r : Int × Int}
theorem size_bad(h:4<l.length∨l.any lX=true):dV l=(0,61):=by rw [dV,if_pos h]
theorem size_zero(h1: ¬4<l.length)(h2:l.any lX=false)(h3:l.contains 0=true):dV l=(0,0):=by rw [dV,if_neg (by rw [h2];simp;omega),if_pos h3]
theorem size_prod(h1: ¬4<l.length)(h2:l.any lX=false)(h3:l.contains 0=false):dV l=kH l 1:=by rw [dV,if_neg (by rw [h2];simp;omega),if_neg (by rw [h3];simp)]
theorem prod_big(h:r=kH (l.drop i) n)(hx:l[i]?=some s)(hb:65536<w64 (n*s)):r=(0,61):=by
  rw [fY hx,kH,if_pos hb] at h;exact h
theorem prod_more(h:r=kH (l.drop i) n)(hx:l[i]?=some s)(hb: ¬65536<w64 (n*s)):r=kH (l.drop (i+1)) (w64 (n*s)):=by
  rw [fY hx,kH,if_neg hb] at h;exact h
theorem prod_end(h:r=kH (l.drop i) n)(hi:l.length≤i):r=(n,0):=by
  rw [List.drop_of_length_le hi] at h;exact h
end
section
variable {x : ArrV}
theorem right_a(h:(dV x.sides.list).2=0):Value.bool ((dV x.sides.list).1==((x.data.list.length:Nat):Int))= .bool (cO x.arr):=by simp [cO,ArrV.arr,h]
theorem right_b(h:(dV x.sides.list).2≠0):Value.bool false= .bool (cO x.arr):=by simp [cO,ArrV.arr,h]
end
section
variable {sides index : List Int} {n s k : Int} {i : Nat} {r : Int × Int}
theorem place_a(h:(dV sides).2≠0):mL sides index=(0,(dV sides).2):=by rw [mL,if_pos h]
theorem place_b(h:(dV sides).2=0)(h2:index.length≠sides.length):mL sides index=(0,62):=by rw [mL,if_neg (fun e=>e h),if_pos h2]
theorem place_c(h:(dV sides).2=0)(h2:index.length=sides.length):mL sides index=nK sides index 0:=by rw [mL,if_neg (fun e=>e h),if_neg (fun e=>e h2)]
theorem bNb(h:r=nK (sides.drop i) (index.drop i) n)(hx:index[i]?=some k)(hy:sides[i]?=some s)(hb:k<0∨s≤k):r=(0,62):=by
  rw [fY hx,fY hy,nK,if_pos hb] at h;exact h
theorem place_more(h:r=nK (sides.drop i) (index.drop i) n)(hx:index[i]?=some k)(hy:sides[i]?=some s)(hb: ¬(k<0∨s≤k)):r=nK (sides.drop (i+1)) (index.drop (i+1)) (w64 (w64 (n*s)+k)):=by
  rw [fY hx,fY hy,nK,if_neg hb] at h;exact h
theorem place_end(h:r=nK (sides.drop i) (index.drop i) n)(hi:index.length≤i):r=(n,0):=by
  rw [List.drop_of_length_le hi] at h
  cases hs:sides.drop i with
  | nil=>rw [hs] at h;exact h
  | cons a b=>rw [hs] at h;exact h
end
set_option maxRecDepth 100000 in
theorem sizeBad_spec(n:Int):dH Tryz.prog 68 [.int .i64 n] [] [] (fun(_:Unit)=> .bool (lX n)) (fun _=>[]) (fun _=>[]):=by
  have hT:=dA;refine cQ Tryz.func68 rfl Tryz.ntmps68 rfl ?_;intro β hM;refine sr<|sp hT ?_;refine nn<|sr<|sp3 hT ?_;refine cF (fun hg5=>?_) (fun hg5=>?_)
  · have hg5:=of_decide_eq_true hg5;refine sk2 ?_;refine sp2 hT ?_;refine nn<|bG ?_;exact bR () rfl (bD rfl) .nil trivial (by first | exact bMn (by omega) | exact bMp (by omega))
  have hg5:=Int.not_lt.1 (of_decide_eq_false hg5);refine sp4 hT ?_;refine nn<|bG ?_;exact bR () rfl (bD rfl) .nil trivial (by first | exact bMn (by omega) | exact bMp (by omega))
set_option maxRecDepth 100000 in
theorem lG(A:Option Addr)(c:Nat)(l:List Int)(hl:l.length≤140737488355328):dH Tryz.prog 36 [.slice A l.length c] [] [cT.sl (.slice A l.length c) l] (fun(_:Unit)=> .tuple #[.int .i64 (dV l).1,.int .i64 (dV l).2]) (fun _=>[]) (fun _=>[]):=by
  have hT:=dA;generalize hR:dV l=r;refine cQ Tryz.func36 rfl Tryz.ntmps36 rfl ?_;intro β hM;refine sr<|sp2 hT ?_;refine nn<|bA<|sr<|sp4 hT ?_;refine cF (fun hg10=>?_) (fun hg10=>?_)
  · have hg10:=of_decide_eq_true hg10;refine sk2 ?_;refine sp hT ?_;refine nn<|cI rfl rfl ?_;refine sr<|sp2 hT ?_;refine nn<|bG<|bC ?_;have hr:=hR.symm.trans (size_bad (by first | exact .inl (by omega) | exact .inr (by assumption)));subst hr;exact bM () rfl (bD rfl) (bD rfl) .nil trivial rfl
  have hg10:=Int.not_lt.1 (of_decide_eq_false hg10);refine sp hT ?_;refine bO Tryz.func59 (rM _ _ _ hl _ lX (cS Tryz.func68 rfl rfl) sizeBad_spec) rfl rfl .nil ⟨Has.of mT0,trivial⟩ fun _=>?_;refine sp hT ?_;refine nn<|bH rfl (fun hc13=>?_) (fun hc13=>?_)
  · refine sr<|sp2 hT ?_;refine nn<|bG<|bC ?_;have hr:=hR.symm.trans (size_bad (by first | exact .inl (by omega) | exact .inr (by assumption)));subst hr;exact bM () rfl (bD rfl) (bD rfl) .nil trivial rfl
  refine bK<|bB<|bA<|sr<|sp hT ?_;refine bO Tryz.func69 (bHk _ _ _ hl _) rfl rfl .nil ⟨Has.of mT0,trivial⟩ fun _=>?_;refine nn<|bH rfl (fun hc15=>?_) (fun hc15=>?_)
  · refine sr<|sp2 hT ?_;refine nn<|bG<|bC ?_;have hr:=hR.symm.trans (size_zero (by omega) (by assumption) (by assumption));subst hr;exact bM () rfl (bD rfl) (bD rfl) .nil trivial rfl
  refine bK<|bB<|sr<|sp hT ?_;refine nn<|bA<|sr<|sp3 hT ?_;refine nn<|bT<|dD (ι:=Nat×Int) [(16,_),(17,_)] ⟨rfl,rfl,trivial⟩ (fun⟨i,n⟩=>[(4,.int .i64 n),(18,.int .i64 (i:Nat))]) (fun _=>[]) (fun⟨i,n⟩=>[Fact.pure (i≤l.length∧r=kH (l.drop i) n)]) (fun⟨i,n⟩=>l.length-i) (0,1) ⟨rfl,rfl,trivial⟩ .nil ⟨Has.pure (⟨by omega,hR.symm.trans (size_prod (by omega) (by assumption) (by assumption))⟩),trivial⟩ ?_;rintro⟨i,n⟩;dsimp only;refine cD (Has.of mT0) fun hinv7=>?_;refine sr<|sp hT ?_;refine nn<|bA<|bH rfl (fun hc19=>?_) (fun hc19=>?_)
  · have hc19:=of_decide_eq_true hc19;refine bK<|bB<|bA<|bT<|sr ?_
    obtain⟨x1,hx2⟩: ∃x',l[i]?=some x':=⟨_,List.getElem?_eq_getElem (by omega)⟩
    refine ss (bS hT (k:=i) (bJ (Has.of mT1)) rfl rfl rfl rfl rfl rfl rfl (by omega)) ?_;refine ss (bZ hT (cR.knows (bJ (Has.of mT1)) (k:=i) (x:=x1) hx2 0) rfl rfl rfl rfl rfl) ?_;refine sp hT ?_;refine nn<|sr<|sp4 hT ?_;refine nn<|sr<|sp2 hT ?_;refine nn<|bH rfl (fun hc26=>?_) (fun hc26=>?_)
    · have hc26:=of_decide_eq_true hc26;refine sr<|sp2 hT ?_;refine nn<|bG<|bI<|bC<|bC<|bI<|bC ?_;have hr:=prod_big hinv7.2 hx2 (by assumption);subst hr;exact bM () rfl (bD rfl) (bD rfl) .nil trivial rfl
    have hc26:=Int.not_lt.1 (of_decide_eq_false hc26);refine bK<|cA<|bB<|bE<|sp hT ?_;refine bP (z':=(((i+1):Nat):Int)) (cL (by omega) (by omega)) ?_;refine sp hT ?_;refine nn ?_;exact cP (i+1,_) (by dsimp only;omega) ⟨rfl,rfl,trivial⟩ ⟨rfl,rfl,trivial⟩ .nil ⟨Has.pure (⟨by dsimp only;omega,prod_more hinv7.2 hx2 (Int.not_lt.2 (by assumption))⟩),trivial⟩ (bF.drop 1)
  have hc19:=Int.not_lt.1 (of_decide_eq_false hc19);refine cW<|cM<|cM<|cX<|bB<|sr<|sp3 hT ?_;refine nn<|bG ?_;have hr:=prod_end hinv7.2 (by omega);subst hr;exact bM () rfl (bD rfl) (bD rfl) .nil trivial rfl
set_option maxRecDepth 100000 in
theorem jU(x:ArrV)(hl:x.sides.list.length≤140737488355328):dH Tryz.prog 17 [.agg #[.slice x.sides.addr x.sides.list.length x.sides.cap,.slice x.data.addr x.data.list.length x.data.cap]] [] [cT.sl (.slice x.sides.addr x.sides.list.length x.sides.cap) x.sides.list] (fun(_:Unit)=> .bool (cO x.arr)) (fun _=>[]) (fun _=>[]):=by
  have hT:=dA;refine cQ Tryz.func17 rfl Tryz.ntmps17 rfl ?_;intro β hM;refine sr<|fL rfl rfl rfl rfl rfl rfl fun b1=>?_;refine sp hT ?_;refine nn<|sr<|sp hT ?_;refine ss (ldO hT (bL .head)) ?_;refine bO Tryz.func36 (lG _ _ _ (by omega)) rfl rfl .nil ⟨Has.of mT0,trivial⟩ fun _=>?_;refine sp4 hT ?_;refine sp hT ?_;refine nn<|sr<|sp3 hT ?_;refine cF (fun hg13=>?_) (fun hg13=>?_)
  · have hg13:=eq_of_beq hg13;refine sp2 hT ?_;refine ss (ldO hT (dB .head)) ?_;refine sp4 hT ?_;refine nn<|bG ?_;exact bR () rfl (bD rfl) .nil trivial (by first | exact right_a (by assumption) | exact right_b (by assumption))
  have hg13:=beq_eq_false_iff_ne.1 hg13;refine sk4 ?_;refine sk ?_;refine sp2 hT ?_;refine nn<|bG ?_;exact bR () rfl (bD rfl) .nil trivial (by first | exact right_a (by assumption) | exact right_b (by assumption))
set_option maxRecDepth 100000 in
theorem place_spec(A B:Option Addr)(ca cb:Nat)(sides index:List Int)(hs:sides.length≤140737488355328):dH Tryz.prog 176 [.slice A sides.length ca,.slice B index.length cb] [] [cT.sl (.slice A sides.length ca) sides,cT.sl (.slice B index.length cb) index] (fun(_:Unit)=> .tuple #[.int .i64 (mL sides index).1,.int .i64 (mL sides index).2]) (fun _=>[]) (fun _=>[]):=by
  have hT:=dA;generalize hR:mL sides index=r;refine cQ Tryz.func176 rfl Tryz.ntmps176 rfl ?_;intro β hM;refine sr<|sp2 hT ?_;refine nn<|bA<|sr<|sp hT ?_;refine bO Tryz.func36 (lG _ _ _ (by omega)) rfl rfl .nil ⟨Has.of mT0,trivial⟩ fun _=>?_;refine sp4 hT ?_;refine sp hT ?_;refine nn<|sr<|sp2 hT ?_;refine nn<|bH rfl (fun hc17=>?_) (fun hc17=>?_)
  · have hc17:=bne_iff_ne.1 hc17;refine sr<|sp3 hT ?_;refine nn<|bG<|bC ?_;have hr:=hR.symm.trans (place_a (by assumption));subst hr;exact bM () rfl (bD rfl) (bD rfl) .nil trivial rfl
  have hc17:=bne_eq_false_iff_eq.1 hc17;refine bK<|bB<|bA<|sr<|sp4 hT ?_;refine sp hT ?_;refine nn<|bH rfl (fun hc23=>?_) (fun hc23=>?_)
  · have hc23:=bne_iff_ne.1 hc23;refine sr<|sp2 hT ?_;refine nn<|bG<|bC ?_;have hr:=hR.symm.trans (place_b (by assumption) (by omega));subst hr;exact bM () rfl (bD rfl) (bD rfl) .nil trivial rfl
  have hc23:=bne_eq_false_iff_eq.1 hc23;refine bK<|bB<|sr<|sp hT ?_;refine nn<|bA<|sr<|sp3 hT ?_;refine nn<|bT<|dD (ι:=Nat×Int) [(0,_),(24,_),(25,_)] ⟨rfl,rfl,rfl,trivial⟩ (fun⟨i,n⟩=>[(8,.int .i64 n),(26,.int .i64 (i:Nat))]) (fun _=>[]) (fun⟨i,n⟩=>[Fact.pure (i≤index.length∧r=nK (sides.drop i) (index.drop i) n)]) (fun⟨i,n⟩=>index.length-i) (0,0) ⟨rfl,rfl,trivial⟩ .nil ⟨Has.pure (⟨by omega,hR.symm.trans (place_c (by assumption) (by omega))⟩),trivial⟩ ?_;rintro⟨i,n⟩;dsimp only;refine cD (Has.of mT0) fun hinv8=>?_;refine sr<|sp hT ?_;refine nn<|bA<|bH rfl (fun hc27=>?_) (fun hc27=>?_)
  · have hc27:=of_decide_eq_true hc27;refine bK<|bB<|bA<|bT<|sr<|sp hT ?_
    obtain⟨x1,hx2⟩: ∃x',index[i]?=some x':=⟨_,List.getElem?_eq_getElem (by omega)⟩
    refine ss (bS hT (k:=i) (bJ (Has.of mT2)) rfl rfl rfl rfl rfl rfl rfl (by omega)) ?_;refine ss (bZ hT (cR.knows (bJ (Has.of mT2)) (k:=i) (x:=x1) hx2 0) rfl rfl rfl rfl rfl) ?_;refine sp2 hT ?_;refine nn<|bA<|sr<|sp3 hT ?_;refine cF (fun hg33=>?_) (fun hg33=>?_)
    · have hg33:=of_decide_eq_true hg33;refine sk4 ?_;refine sk2 ?_;refine sp hT ?_;refine nn<|cI rfl rfl ?_;refine sr<|sp2 hT ?_;refine nn<|bG<|bC<|bI<|bC<|bC<|bI<|bC ?_;have hr:=bNb hinv8.2 hx2 (List.getElem?_eq_getElem (by omega)) (by omega);subst hr;exact bM () rfl (bD rfl) (bD rfl) .nil trivial rfl
    have hg33:=Int.not_lt.1 (of_decide_eq_false hg33);refine sp3 hT ?_
    obtain⟨x3,hx4⟩: ∃x',sides[i]?=some x':=⟨_,List.getElem?_eq_getElem (by omega)⟩
    refine ss (bS hT (k:=i) (bJ (Has.of mT1)) rfl rfl rfl rfl rfl rfl rfl (by omega)) ?_;refine ss (bZ hT (cR.knows (bJ (Has.of mT1)) (k:=i) (x:=x3) hx4 0) rfl rfl rfl rfl rfl) ?_;refine sp2 hT ?_;refine nn<|bH rfl (fun hc40=>?_) (fun hc40=>?_)
    · have hc40:=of_decide_eq_true hc40;refine sr<|sp2 hT ?_;refine nn<|bG<|bC<|bI<|bC<|bC<|bI<|bC ?_;have hr:=bNb hinv8.2 hx2 hx4 (by omega);subst hr;exact bM () rfl (bD rfl) (bD rfl) .nil trivial rfl
    have hc40:=Int.not_le.1 (of_decide_eq_false hc40);refine bK<|bB<|bE<|sp3 hT ?_;refine ss (bS hT (k:=i) (bJ (Has.of mT1)) rfl rfl rfl rfl rfl rfl rfl (by omega)) ?_;refine ss (bZ hT (cR.knows (bJ (Has.of mT1)) (k:=i) (x:=x3) hx4 0) rfl rfl rfl rfl rfl) ?_;refine sp4 hT ?_;refine dU<|cA<|bB<|bE<|sp hT ?_;refine bP (z':=(((i+1):Nat):Int)) (cL (by omega) (by omega)) ?_;refine sp hT ?_;refine nn ?_;exact cP (i+1,_) (by dsimp only;omega) ⟨rfl,rfl,trivial⟩ ⟨rfl,rfl,rfl,trivial⟩ .nil ⟨Has.pure (⟨by dsimp only;omega,place_more hinv8.2 hx2 hx4 (by omega)⟩),trivial⟩ (bF.drop 1)
  have hc27:=Int.not_lt.1 (of_decide_eq_false hc27);refine cW<|cM<|cM<|cX<|bB<|sr<|sp3 hT ?_;refine nn<|bG ?_;have hr:=place_end hinv8.2 (by omega);subst hr;exact bM () rfl (bD rfl) (bD rfl) .nil trivial rfl
end Go.Proofs.YtbgdphbebhjpiaaGreatDoor
namespace Go.Proofs.YtbgdphbebhjpiaaGreatDoor
open Go.RowKit Go.Shelf
attribute [local go_sem] Oper.semAt_some
def jS (S:Nat→Prop)(W W':World):Prop:= ∀c,S c→W'.heap[c]?=W.heap[c]?
theorem jS.refl(S:Nat→Prop)(W:World):jS S W W:=fun _ _=>rfl
theorem jS.trans{S:Nat→Prop}{A B C:World}(h:jS S A B)(k:jS S B C):jS S A C:=fun c hc=>(k c hc).trans (h c hc)
theorem jS.cell{S:Nat→Prop}{A B:World}(h:jS S A B){p:Addr}(hp:S p.block):B.cell? p=A.cell? p:=World.cell?_of_block (h p.block hp)
set_option maxRecDepth 100000 in
set_option maxHeartbeats 2000000 in
theorem back1_in(n l Bs b off len cap:Nat)(A:Option Addr)(hA:0<len→A=some ⟨b,off,none⟩)(zs:List Int)(S:Nat→Prop)(hS1:S Bs)(hS2:0<len→S b)(hlen:len≤1000000)(J:Nat→World→Prop)
    (hY: ∀k W,k<len→J k W→YieldAt Fence.wide (n-1) Tryz.prog l #[.int .i64 ((len:Int)-1-k),.int .i64 (zs[len-1-k]?.getD 0)] W fun e W'=>e= .returned (.bool true)∧J (k+1) W'∧jS S W W')
    (W:World) (hBs:W.cell? ⟨Bs,0,none⟩=some (.slice A len cap)) (hc: ∀j,j<len→W.cell? ⟨b,off+j,none⟩=some (.int .i64 (zs[j]?.getD 0))) (h0:J 0 W):
    CallsIn Fence.wide n Tryz.prog 261 #[.func (.yield l) #[] #[],.pointer (some ⟨Bs,0,none⟩)] W fun e W'=>(∃v,e= .returned v)∧J len W'∧jS S W W':=by
  refine callsIn_of_wp Tryz.func261 rfl trivial ?_ rfl;simp only [Tryz.ntmps261,List.size_toArray,List.length_cons,List.length_nil,Nat.reduceAdd,Nat.reduceSub,Array.replicate_succ,Array.replicate_zero,List.push_toArray,List.append_toArray,List.nil_append,List.cons_append]
  gi_wp2
  gi_loopw [3] (fun i wr=> ∃k:Nat,k≤len∧i= .int .i64 ((len:Int)-1-k)∧J k wr∧jS S W wr)
    (fun i _=>(intOf i+1).toNat)
  case atStart=>exact⟨0,Nat.zero_le _,by simp,h0,jS.refl _ _⟩
  case round=>
    obtain⟨k,hk,rfl,hJs,hnx⟩:=hrel
    by_cases hlt:k<len
    · obtain rfl:=hA (by omega)
      replace hS2:=hS2 (by omega)
      have hBs':=(hnx.cell (p:=⟨Bs,0,none⟩) hS1).trans hBs;have hcx:wr.cell? ⟨b,off+(len-1-k),none⟩=some (.int .i64 (zs[len-1-k]?.getD 0)):=(hnx.cell (p:=⟨b,off+(len-1-k),none⟩) hS2).trans (hc _ (by omega));have e1:((len:Int)-1-k).toNat=len-1-k:=by omega
      obtain⟨fn,tmps,assign,body,hy,hR⟩:=hY k wr hlt hJs;have h1:(0:Int)≤(len:Int)-1-k:=by omega
      gi_wp2
      refine⟨fun h=>(by cases h),hR.mono ?_⟩;rintro e W3 ⟨rfl,hJ3,hk3⟩
      gi_wp2
      go_roundw
      case rel=>exact⟨k+1,by omega,by simp;omega,hJ3,hnx.trans hk3⟩
      case measure=>simp [intOf];omega
    · obtain rfl:k=len:=by omega
      gi_wp2
      go_end0
      exact⟨⟨_,rfl⟩,hJs,hnx⟩
set_option maxRecDepth 100000 in
set_option maxHeartbeats 4000000 in
theorem chunk1_in(n l Bs Bn b off len cap m N:Nat)(S:Nat→Prop)(hS1:S Bs)(hS2:S Bn)(hlen:len≤1000000)(hm:0<m)(hN:len=N*m)(hcap:len≤cap)(J:Nat→World→Prop)
    (hJd: ∀k W,J k W→J k W.drew) (hY: ∀k W,k<N→J k W→YieldAt Fence.wide (n-1) Tryz.prog l #[.slice (some ⟨b,off+k*m,none⟩) m m] W fun e W'=>e= .returned (.bool true)∧J (k+1) W'∧jS S W W')
    (W:World) (hBs:W.cell? ⟨Bs,0,none⟩=some (.slice (some ⟨b,off,none⟩) len cap)) (hBn:W.cell? ⟨Bn,0,none⟩=some (.int .i64 (m:Int))) (h0:J 0 W):
    CallsIn Fence.wide n Tryz.prog 227 #[.func (.yield l) #[] #[],.pointer (some ⟨Bs,0,none⟩),.pointer (some ⟨Bn,0,none⟩)] W fun e W'=>(∃v,e= .returned v)∧J N W'∧jS S W W':=by
  refine callsIn_of_wp Tryz.func227 rfl trivial ?_ rfl;simp only [Tryz.ntmps227,List.size_toArray,List.length_cons,List.length_nil,Nat.reduceAdd,Nat.reduceSub,Array.replicate_succ,Array.replicate_zero,List.push_toArray,List.append_toArray,List.nil_append,List.cons_append]
  gi_wp2
  gi_loopw [4] (fun i wr=> ∃k:Nat,k≤N∧i= .int .i64 ((k*m:Nat):Int)∧J k wr∧jS S W wr)
    (fun i _=>len-(intOf i).toNat)
  case atStart=>exact⟨0,Nat.zero_le _,by simp,h0,jS.refl _ _⟩
  case round=>
    obtain⟨k,hk,rfl,hJs,hnx⟩:=hrel;have hBs':=(hnx.cell (p:=⟨Bs,0,none⟩) hS1).trans hBs;have hBn':=(hnx.cell (p:=⟨Bn,0,none⟩) hS2).trans hBn
    by_cases hlt:k<N
    · have h1:(k+1)*m≤N*m:=Nat.mul_le_mul_right _ hlt;rw [Nat.add_mul,Nat.one_mul] at h1
      gi_wp2
      gi_region
      all_goals gi_wp2
      all_goals (try go_bits)
      have e2:((k:Int)*(m:Int)+min (m:Int) ((N*m-k*m:Nat):Int)).toNat-k*m=m:=by
        have e3:((k:Int)*(m:Int))=((k*m:Nat):Int):=by simp
        rw [e3];omega
      rw [e2];obtain⟨fn,tmps,assign,body,hy,hR⟩:=hY k wr.drew hlt (hJd k wr hJs);rw [hy];refine⟨fun h=>(by cases h),hR.mono ?_⟩;rintro e W3 ⟨rfl,hJ3,hk3⟩;have hnx3:jS S W W3:=hnx.trans (jS.trans (B:=wr.drew) (fun _ _=>rfl) hk3);have hBn3:=(hnx3.cell (p:=⟨Bn,0,none⟩) hS2).trans hBn
      gi_wp2
      go_roundw
      case rel=>exact⟨k+1,by omega,by simp [Nat.add_mul],hJ3,hnx3⟩
      case measure=>simp [intOf];omega
    · obtain rfl:k=N:=by omega
      gi_wp2
      go_end0
      exact⟨⟨_,rfl⟩,hJs,hnx⟩
end Go.Proofs.YtbgdphbebhjpiaaGreatDoor
namespace Go.Proofs.YtbgdphbebhjpiaaGreatDoor
open Go.RowKit
theorem rows_wide{n:Nat}{P:Program}{row:String}{args:Array Value}{w:World}{R:Value→World→Prop}(h:Rows P row args w R):RowsIn Fence.wide n P row args w R:=fun c cs _=>
  let ⟨v,w',r,s⟩:=h c cs
  ⟨v,w',r,stepsIn_wide.2 s⟩
def tL (o:Oper):Bool:=match o.op with
  | .defer _=>false
  | _=>true
theorem noDefer_ne{o:Oper}(h:tL o=true)(c:Call):o.op≠ .defer c:=fun e=>by simp [tL,e] at h
section
variable {P : Program} {o : Oper} {a : Act} {w : World} {Q : Exit → Act → World → Prop} {ops : Array Oper}
theorem op_round{l n:Nat}{next:Act→World→Prop}(hd:tL o=true)(h:o.wp P a w next Q):o.wpIn (Fence.wide.inRound l) n P a w next Q:=by
  refine⟨fun _ _=>trivial,?_⟩;rw [Oper.semAt_eq _ _ _ (noDefer_ne hd)];unfold Oper.wp at h;generalize (execOp a.eval o).run P w=r at h⊢
  cases r with
  | ok x w'=>
    cases x with
    | value v=>exact h
    | skip=>exact h
    | defer d=>exact h
    | enter f args=>exact⟨fun e=>(by cases e),CallsIn.inRound l (callsIn_wide.2 h)⟩
    | row r args=>exact⟨fun e=>(by cases e),rows_wide h⟩
    | _=>exact h.elim
  | halt e w'=>
    cases e with
    | panic v=>exact h
    | _=>exact h.elim
theorem xC{md:Region.Mode}{l n:Nat}(hQ: ¬LetsOut Q)(hd: ∀o∈ops,tL o=true): ∀(fuel:Nat) (listed:Array Bool) (a:Act) (w:World),wpAny P md ops Q fuel listed a w→wpAnyIn (Fence.wide.inRound l) n P md ops Q fuel listed a w
  | 0,_,_,_,h=>h
  | fuel+1,listed,a,w,h=>by
    refine⟨h.1,fun i hi=>?_⟩;have:=h.2 i hi;unfold wpOp at this;unfold wpOpIn
    cases ho:ops[i]? with
    | none=>
      rw [ho] at this;exact xC hQ hd fuel _ a w this
    | some o=>
      rw [ho] at this;simp only at this⊢;split at this
      · rename_i hw;rw [if_pos hw];exact Oper.wpIn_mono (fun a w=>xC hQ hd fuel _ a w) (op_round (hd o (Array.mem_of_getElem? ho)) (this.resolve_right fun h=>hQ h.2))
      · rename_i hw;rw [if_neg hw];exact⟨fun _ _=>trivial,xC hQ hd fuel _ _ w this⟩
theorem yB{l n:Nat}(hQ: ¬LetsOut Q): ∀(os:List Oper) (_: ∀o∈os,tL o=true) (a:Act) (w:World),wpList P ops Q os a w→wpListIn (Fence.wide.inRound l) n P ops Q os a w
  | [],_,_,_,h=>h
  | o::os,hd,a,w,h=>by
    unfold wpList at h;unfold wpListIn;split at h
    · rename_i hw;rw [if_pos hw];exact Oper.wpIn_mono (fun a w=>yB hQ os (fun x hx=>hd x (List.mem_cons_of_mem _ hx)) a w) (op_round (hd o (List.mem_cons_self ..)) (h.resolve_right fun h=>hQ h.2))
    · rename_i hw;rw [if_neg hw];exact⟨fun _ _=>trivial,yB hQ os (fun x hx=>hd x (List.mem_cons_of_mem _ hx)) _ w h⟩
end
section
variable {P : Program} {β : fG} {n : Nat} {Γ : Env} {H : List bW} {F : List Fact} {Q : Exit → Act → World → Prop} {K : Act → World → Prop}
theorem bJv{Fc:Fence}{m id:Nat}{c:Code}(h:At β n Γ H F (c.wpIn Fc m P (Exit.inBlock id Q))):At β n Γ H F ((Code.block id c).wpIn Fc m P Q):=fun a w S f s k=>wpIn_block (h a w S f s k)
theorem bBy{r m id:Nat}{l:List Oper}(hQ: ¬LetsOut Q)(hd:l.all tL=true)(h:At β n Γ H F (wpList P l.toArray Q l)):At β n Γ H F ((Code.region id l.toArray false).wpIn (Fence.wide.inRound r) m P Q):=fun a w S f s k=>
  wpIn_region_lit (yB hQ l (fun o ho=>List.all_eq_true.1 hd o ho) a w (h a w S f s k))
theorem in_mixL{r m id:Nat}{l:List Oper}(hQ: ¬LetsOut Q)(hd:l.all tL=true)(last:Nat)(Hk:List bW)(F0:List Fact)(od:List (Bool×Nat))(hm:P.follows .mixedOrders=true)(hB:mixLOk last od l.toArray=true)(hH:Sel H Hk)(hF:bF F F0)
    (h:At β n Γ H F (mK P l.toArray (StF β Hk F0) Q last od)):At β n Γ H F ((Code.region id l.toArray true).wpIn (Fence.wide.inRound r) m P Q):=fun a w S f s k=>by
  simp only [mixLOk,Bool.and_eq_true] at hB;have hw:=StF.drew ⟨S,s,k⟩;obtain⟨S',s',k'⟩:=hw;refine wpIn_region_any hm (xC hQ (fun o ho=>List.all_eq_true.1 hd o (by simpa using ho)) _ _ _ _ ?_);have h1:=tW (P:=P) (md:= .any) (C:=StF β Hk F0) (Q:=Q) hB.1.1 od (Array.replicate l.toArray.size false) a _ qZ.none hB.2 (StF.sel hH hF ⟨S',s',k'⟩) (h a _ S' f s' k');have h2:=rJ (Q:=Q) end_any _ _ _ _ h1
  rwa [Nat.eq_of_beq_eq_true hB.1.2] at h2
end
def IterC (P:Program)(gf:FuncId)(lb:List Value)(Pre:List Fact)(N:Nat)(encs:Nat→Array Value):Prop:=
  ∀(n l:Nat) (S:lD) (J:Nat→World→Prop) (W:World),All Pre S W→(∀k W,J k W→J k W.drew)→(∀k W,k<N→J k W→YieldAt Fence.wide (n-1) P l (encs k) W fun e W'=>e= .returned (.bool true)∧J (k+1) W'∧jS S W W')→J 0 W→
    CallsIn Fence.wide n P gf (#[.func (.yield l) #[] #[]]++lb.toArray) W fun e W'=>(∃v,e= .returned v)∧J N W'∧jS S W W'
theorem kept_putObj(w:World)(l:Nat)(o:Obj):nL (fun b=>b=l) w (w.putObj l o):=⟨rfl,rfl,rfl,by simp [World.putObj],fun _ _ hn=>World.putObj_heap_other hn⟩
def mkA (D:Nat)(a:Act):Act:={a with defers:=a.defers++[{target:= .collected D,args:= #[]}]}
def sT {ι:Type}(β:fG)(Hs:ι→List bW)(Fs:ι→List Fact):Exit→Act→World→Prop
  | .normal,_,w=> ∃y S,St β (Hs y) S w∧All (Fs y) S w
  | _,_,_=>False
theorem uG{ι:Type}{β:fG}{Hs:ι→List bW}{Fs:ι→List Fact}: ¬LetsOut (sT β Hs Fs):=fun⟨_,_,h⟩=>h
theorem bCl{id:Nat}{Q:Exit→Act→World→Prop}(h: ¬LetsOut Q): ¬LetsOut (Exit.inBlock id Q):=fun⟨a,w,k⟩=>h ⟨a,w,k⟩
section
variable {P : Program} {β : fG} {n : Nat} {Γ : Env} {H : List bW} {F : List Fact} {Q : Exit → Act → World → Prop}
theorem at_roundEnd{ι:Type}{Hs:ι→List bW}{Fs:ι→List Fact}(y:ι)(hH:Sel H (Hs y))(hF:bF F (Fs y)):At β n Γ H F (sT β Hs Fs .normal):=fun _ w S _ s k=>⟨y,S,s.sel hH,hF.all S w k⟩
theorem St.drew{S:lD}{w:World}(s:St β H S w):St β H S w.drew:=⟨⟨s.kept.os,s.kept.tape,s.kept.output,s.kept.size,s.kept.block⟩,fun c hc=>bW.ok_of (s.ok c hc) fun _ _=>rfl,s.own,s.sep,s.zone⟩
theorem at_range{ι:Type}{g:Operand}{ps:Array Tmp}{assign body:Code}{gf:FuncId}{lb:List Value}{Pre:List Fact}{N:Nat}{encs:Nat→Array Value}{Hs:Nat→ι→List bW}{Fs:Nat→ι→List Fact}{H2:List bW}{Γp Γ1:Nat→Env}
    (hg:Γ.ev g=some (.func (.func gf) #[] lb.toArray)) (eg: ∀args w,(callFunc gf args).run P w= .ok (.enter gf args) w) (hit:IterC P gf lb Pre N encs) (hps: ∀k,(encs k).size=ps.size)
    (hfit: ∀k a,kX n Γ a→kX n (Γp k) {tmps:=(ps.zip (encs k)).foldl (fun t (p,v)=>t.setIfInBounds p v) a.tmps,defers:=[]})
    (x0:ι) (hH:nU H (Hs 0 x0) H2) (hF0:bF F (Fs 0 x0)) (hPre:bF F Pre)
    (hassign: ∀(k:Nat) (K:Act→World→Prop) (β':fG) (H':List bW) (F':List Fact) (l m:Nat),At β' n (Γ1 k) H' F' K→At β' n (Γp k) H' F' (assign.wpIn (Fence.wide.inRound l) m P (Exit.then K fun _ _ _=>False)))
    (hbody: ∀(β':fG) (l D:Nat) (r:Loop) (k:Nat) (x:ι) (m:Nat),k<N→
      At β' n (Γ1 k) (.obj l (.loop r):: .obj D (.deferred (some []))::(Hs k x++H2)) (Fs k x++F) (body.wpIn (Fence.wide.inRound l) m P (sT β' (fun y=> .obj l (.loop r):: .obj D (.deferred (some []))::(Hs (k+1) y++H2)) fun y=>Fs (k+1) y++F)))
    (hk: ∀D x,At β n Γ (.obj D (.deferred (some []))::(Hs N x++H2)) (Fs N x++F) (fun a w=>Q .normal (mkA D a) w)):At β n Γ H F ((Code.rangeFunc g ps assign body).wp P Q):=fun a w S f s k=>by
  refine(wpIn_wide (n:=2)).1 (wpIn_rangeFunc fun fn hfn=>?_)
  obtain⟨rec,hrec⟩: ∃rec:LoopState→Option Code→Loop,rec=fun st pe=>{state:=st,pending:=pe,fn,tmps:=a.tmps,params:=ps,assign,body,defers:=w.heap.size}:=⟨_,rfl⟩
  have sp:St β (Hs 0 x0++H2) S w:=s.perm hH.perm;have sA:=sp.alloc (.deferred (some []));have kA:All F S (w.alloc (.deferred (some []))):=All.alloc sp k _;have sB:=sA.alloc (.loop (rec .ready none));have kB:All F S ((w.alloc (.deferred (some []))).alloc (.loop (rec .ready none))):=All.alloc sA kA _;have hsz:(w.alloc (.deferred (some []))).heap.size=w.heap.size+1:=by simp
  rw [hsz] at sB
  obtain⟨W1,hW1⟩: ∃W1,W1=(w.alloc (.deferred (some []))).alloc (.loop (rec .ready none)):=⟨_,rfl⟩
  rw [←hW1] at sB kB
  refine⟨w.heap.size+1,[{target:= .collected w.heap.size,args:= #[]}],W1,{target:= .fn (.func gf) lb.toArray,args:= #[.func (.yield (w.heap.size+1)) #[] #[]]},W1,gf,#[.func (.yield (w.heap.size+1)) #[] #[]]++lb.toArray,W1,
    by rw [hW1,hrec];exact run_enterLoop_outer _ _ _ _ _,?_,fun _ _=>trivial,?_,fun h=>(by cases h),?_⟩
  · have hev:=f.ev hg;simp only [resolve,hev];simp [go_sem]
  · simp [invoke,go_sem,eg]
  · refine(hit _ (w.heap.size+1) S (fun k W=> ∃x S',(∀b,S b→S' b)∧St β (.obj (w.heap.size+1) (.loop (rec .ready none)):: .obj w.heap.size (.deferred (some []))::(Hs k x++H2)) S' W∧All (Fs k x++F) S' W) _
      (hPre.all S _ kB) (fun k W ⟨x,S',h1,h2,h3⟩=>⟨x,S',h1,h2.drew,All.mono (w:=W) (w':=W.drew) (fun _ h=>h) (fun _ _=>rfl) h3⟩) ?_ ⟨x0,S,fun _ h=>h,sB,(hF0.all S _ kB).append kB⟩).mono ?_
    · rintro k W hkN ⟨x,S',hSS,sW,kW⟩;have hl:W.heap[w.heap.size+1]?=some (.loop (rec .ready none)):=sW.ok _ (List.mem_cons_self ..);refine⟨fn,_,assign,body,(run_yield hl (by rw [hrec];exact hps k)).trans (by rw [hrec]),roundIn_of_wpIn hfn ?_⟩;have sW':St β ((.obj (w.heap.size+1) (.loop (rec .ready none)):: .obj w.heap.size (.deferred (some []))::(Hs k x++H2))++[]) S' W:=by rw [List.append_nil];exact sW
      refine hassign k _ _ _ _ _ _ ?_ _ W S' (hfit k a f) sW'.enter kW;intro a1 w1 S1 f1 s1 k1;have hl1:w1.heap[w.heap.size+1]?=some (.loop (rec .ready none)):=s1.ok _ (List.mem_cons_self ..);have hlt1:w.heap.size+1<w1.heap.size:=(Array.getElem?_eq_some_iff.1 hl1).1;refine⟨_,run_beginRound hl1 (by rw [hrec]),?_⟩;have s2:=s1.swap (c':= .obj (w.heap.size+1) (.loop {rec .ready none with state:= .busy})) (kept_putObj w1 (w.heap.size+1) (.loop {rec .ready none with state:= .busy})) rfl rfl (World.putObj_heap_same hlt1);have k2:All (Fs k x++F) S1 (w1.putObj (w.heap.size+1) (.loop {rec .ready none with state:= .busy})):=All.mono (fun _ h=>h) (s1.agree (kept_putObj _ _ _) (fun c hc e=>by subst e;exact(s1.own _ (List.mem_cons_self ..) _ rfl).2.2 hc)) k1;refine wpIn_mono (hbody _ _ _ _ k x _ hkN a1 _ S1 f1 s2 k2) ?_;rintro e a3 w3 hp
      cases e with
      | normal=>
        obtain⟨y,S3,s3,k3⟩:=hp;have hl3:w3.heap[w.heap.size+1]?=some (.loop {rec .ready none with state:= .busy}):=s3.ok _ (List.mem_cons_self ..);have hlt3:w.heap.size+1<w3.heap.size:=(Array.getElem?_eq_some_iff.1 hl3).1;have s4:=s3.swap (c':= .obj (w.heap.size+1) (.loop (rec .ready none))) (kept_putObj w3 (w.heap.size+1) (.loop (rec .ready none))) rfl rfl (World.putObj_heap_same hlt3);have k4:All (Fs (k+1) y++F) S3 (w3.putObj (w.heap.size+1) (.loop (rec .ready none))):=All.mono (fun _ h=>h) (s3.agree (kept_putObj _ _ _) (fun c hc e=>by subst e;exact(s3.own _ (List.mem_cons_self ..) _ rfl).2.2 hc)) k3;have hend:=run_endRound (P:=P) none hl3;have e1:({{rec .ready none with state:= .busy} with state:=if (none:Option Code).isNone then .ready else .done,pending:=none}:Loop)=rec .ready none:=by rw [hrec];rfl
        rw [e1] at hend;have s5:=sW'.leave s4;rw [List.append_nil] at s5;refine⟨_,_,hend,rfl,⟨y,_,fun b hb=> .inl (hSS b hb),s5,All.mono (fun _ h=> .inr h) (fun _ _=>rfl) k4⟩,fun b hb=>?_⟩;have hz:=sW.zone b (hSS b hb);exact s4.kept.block b hz.1 fun⟨c,hc,hcb⟩=>(sW.own c hc b hcb).2.2 (hSS b hb)
      | ret=>exact hp.elim
      | exit _=>exact hp.elim
      | goto _=>exact hp.elim
      | panic _=>exact hp.elim
      | outgrown=>exact hp.elim
    · rintro e W2 ⟨⟨v,rfl⟩,⟨x,S2,hSS,s2,k2⟩,_⟩;have hl2:W2.heap[w.heap.size+1]?=some (.loop (rec .ready none)):=s2.ok _ (List.mem_cons_self ..);have hlt2:w.heap.size+1<W2.heap.size:=(Array.getElem?_eq_some_iff.1 hl2).1;have hend:=run_endLoop (P:=P) hl2 (by rw [hrec];simp);have s3:=s2.swap (c':= .obj (w.heap.size+1) (.loop {rec .ready none with state:= .exhausted})) (kept_putObj W2 (w.heap.size+1) (.loop {rec .ready none with state:= .exhausted})) rfl rfl (World.putObj_heap_same hlt2);have k3:All (Fs N x++F) S2 (W2.putObj (w.heap.size+1) (.loop {rec .ready none with state:= .exhausted})):=All.mono (fun _ h=>h) (s2.agree (kept_putObj _ _ _) (fun c hc e=>by subst e;exact(s2.own _ (List.mem_cons_self ..) _ rfl).2.2 hc)) k2;refine⟨none,_,by rw [hend,hrec],?_⟩;have:=hk w.heap.size x a _ S2 f s3.tail k3;unfold mkA at this;rw [hrec,f.defers] at this;rw [f.defers];exact this
end
end Go.Proofs.YtbgdphbebhjpiaaGreatDoor
namespace Go.Proofs.YtbgdphbebhjpiaaGreatDoor
open Go.RowKit
def Mk (D:Nat)(K:Act→World→Prop)(a:Act)(w:World):Prop:=K (mkA D a) w
def MkQ (D:Nat)(Q:Exit→Act→World→Prop)(e:Exit)(a:Act)(w:World):Prop:=Q e (mkA D a) w
theorem mkA_put(D:Nat)(a:Act)(d:Option Tmp)(v:Value):(mkA D a).put d v=mkA D (a.put d v):=by cases d<;>rfl
theorem out_mark{D:Nat}{Q:Exit→Act→World→Prop}(h:LetsOut (MkQ D Q)):LetsOut Q:=let ⟨a,w,k⟩:=h;⟨mkA D a,w,k⟩
section
variable {P : Program} {o : Oper} {a : Act} {w : World} {Q : Exit → Act → World → Prop} {ops : Array Oper} {D : Nat}
theorem op_mark{next:Act→World→Prop}(h:o.wp P a w (Mk D next) (MkQ D Q)):o.wp P (mkA D a) w next Q:=by
  unfold Oper.wp at h⊢;have he:(mkA D a).eval=a.eval:=rfl;rw [he];generalize (execOp a.eval o).run P w=r at h⊢
  cases r with
  | ok x w'=>
    cases x with
    | value v=>rw [Oper.upon_value,mkA_put];exact h
    | skip=>rw [Oper.upon_skip,mkA_put];exact h
    | defer d=>rw [Oper.upon_defer];rw [Oper.upon_defer] at h;unfold Mk at h;rw [←mkA_put] at h;exact h
    | enter f args=>
      rw [Oper.upon_enter];rw [Oper.upon_enter] at h;refine h.mono fun e w' k=>?_
      cases e with
      | returned v=>simp only at k⊢;unfold Mk at k;rw [mkA_put];exact k
      | panicked c=>exact k
      | outgrown=>exact out_mark k
    | row r args=>
      rw [Oper.upon_row];rw [Oper.upon_row] at h;exact fun c cs=>let ⟨v,w',r,s⟩:=h c cs;⟨v,w',by have r':=r;unfold Mk at r';simp only at r'⊢;rw [mkA_put];exact r',s⟩
    | _=>exact h.elim
  | halt e w'=>
    cases e with
    | panic v=>exact h
    | _=>exact h.elim
theorem bBu: ∀(os:List Oper) (a:Act) (w:World),wpList P ops (MkQ D Q) os a w→wpList P ops Q os (mkA D a) w
  | [],_,_,h=>h
  | o::os,a,w,h=>by
    unfold wpList at h⊢;have ht:(mkA D a).tmps=a.tmps:=rfl;rw [ht];split at h
    · rename_i hw;rw [if_pos hw]
      rcases h with h | ⟨h1,h2⟩
      · exact .inl (op_mark (Oper.wp_mono (fun a w k=>bBu os a w k) h))
      · exact .inr ⟨h1,out_mark h2⟩
    · rename_i hw;rw [if_neg hw,mkA_put];exact bBu os _ w h
end
section
variable {P : Program} {β : fG} {n : Nat} {Γ : Env} {H : List bW} {F : List Fact} {Q : Exit → Act → World → Prop} {K : Act → World → Prop} {D : Nat}
theorem m_block{id:Nat}(h:At β n Γ H F (Mk D (Q .normal))):At β n Γ H F (Mk D (Exit.inBlock id Q .normal)):=h
theorem bCm(h:At β n Γ H F (Mk D K)):At β n Γ H F (Mk D (Exit.then K Q .normal)):=h
theorem m_seq{x y:Code}(h:At β n Γ H F (Mk D (x.wp P (Exit.then (y.wp P Q) Q)))):At β n Γ H F (Mk D ((Code.seq x y).wp P Q)):=fun a w S f s k=>wp_seq (h a w S f s k)
theorem m_ret(h:At β n Γ H F (Mk D (Q .ret))):At β n Γ H F (Mk D (Code.ret.wp P Q)):=fun a w S f s k=>wp_ret (h a w S f s k)
theorem bIm{id:Nat}{l:List Oper}(h:At β n Γ H F (wpList P l.toArray (MkQ D Q) l)):At β n Γ H F (Mk D ((Code.region id l.toArray false).wp P Q)):=fun a w S f s k=>wp_region_lit (bBu l a w (h a w S f s k))
theorem m_nil{ops:Array Oper}(h:At β n Γ H F (Mk D (Q .normal))):At β n Γ H F (wpList P ops (MkQ D Q) []):=h
end
section
variable {P : Program} {β : fG} {n : Nat} {Γ : Env} {H H' : List bW} {F : List Fact}
theorem fitsA1{p:Nat}{v:Value}{a:Act}(h:Nat.blt p n=true)(f:kX n Γ a):kX n ((p,v)::Γ) {tmps:=(#[p].zip #[v]).foldl (fun t (p,v)=>t.setIfInBounds p v) a.tmps,defers:=[]}:=by
  have:=f.put (by simpa [Nat.blt_eq] using h) v
  simpa [Act.put,f.defers] using this
theorem fits2{p q:Nat}{v u:Value}{a:Act}(h:Nat.blt p n=true)(k:Nat.blt q n=true)(f:kX n Γ a):kX n ((q,u)::(p,v)::Γ) {tmps:=(#[p,q].zip #[v,u]).foldl (fun t (p,v)=>t.setIfInBounds p v) a.tmps,defers:=[]}:=by
  have:=(f.put (by simpa [Nat.blt_eq] using h) v).put (by simpa [Nat.blt_eq] using k) u
  simpa [Act.put,f.defers] using this
theorem bLr{Q:Exit→Act→World→Prop}(ι:Type)(γp γ1:Nat→Env)(N:Nat)(Hs:Nat→ι→List bW)(Fs:Nat→ι→List Fact){g:Operand}{ps:Array Tmp}{assign body:Code}{gf:FuncId}{lb:List Value}{Pre:List Fact}{encs:Nat→Array Value}{H2:List bW}(x0:ι)
    (hit:IterC P gf lb Pre N encs) (hg:Γ.ev g=some (.func (.func gf) #[] lb.toArray)) (eg: ∀args w,(callFunc gf args).run P w= .ok (.enter gf args) w) (hps: ∀k,(encs k).size=ps.size)
    (hfit: ∀k a,kX n Γ a→kX n (γp k++Γ) {tmps:=(ps.zip (encs k)).foldl (fun t (p,v)=>t.setIfInBounds p v) a.tmps,defers:=[]})
    (hH:nU H (Hs 0 x0) H2) (hF0:bF F (Fs 0 x0)) (hPre:bF F Pre)
    (hassign: ∀(k:Nat) (K:Act→World→Prop) (β':fG) (H':List bW) (F':List Fact) (l m:Nat),At β' n (γ1 k++Γ) H' F' K→At β' n (γp k++Γ) H' F' (assign.wpIn (Fence.wide.inRound l) m P (Exit.then K fun _ _ _=>False)))
    (hbody: ∀(β':fG) (l D:Nat) (r:Loop) (k:Nat) (x:ι) (m:Nat),k<N→
      At β' n (γ1 k++Γ) (.obj l (.loop r):: .obj D (.deferred (some []))::(Hs k x++H2)) (Fs k x++F) (body.wpIn (Fence.wide.inRound l) m P (sT β' (fun y=> .obj l (.loop r):: .obj D (.deferred (some []))::(Hs (k+1) y++H2)) fun y=>Fs (k+1) y++F)))
    (hk: ∀D x,At β n Γ (.obj D (.deferred (some []))::(Hs N x++H2)) (Fs N x++F) (Mk D (Q .normal))):At β n Γ H F ((Code.rangeFunc g ps assign body).wp P Q):=
  at_range (Γp:=fun k=>γp k++Γ) (Γ1:=fun k=>γ1 k++Γ) hg eg hit hps hfit x0 hH hF0 hPre hassign hbody hk
variable {fn : Func} {R : Ending → World → Prop}
theorem tD(h:At β n Γ H F (bodyPost P fn R .ret)):At β n Γ H F (bodyPostM Fence.wide 0 P fn R .ret):=fun a w S f s k=>by
  obtain⟨hd,v,hv⟩:=h a w S f s k;show LeavesInM Fence.wide 0 P fn a.tmps R a.defers .returning w;rw [hd];exact⟨v,hv⟩
theorem bJn{D:Nat}(hD:dM H (.obj D (.deferred (some []))) H')(h:At β n Γ H' F (bodyPost P fn R .ret)):At β n Γ H F (Mk D (bodyPostM Fence.wide 0 P fn R .ret)):=fun a w S f s k=>by
  have s1:=s.perm hD.perm;have hl:w.heap[D]?=some (.deferred (some [])):=s1.ok _ (List.mem_cons_self ..);have hlt:D<w.heap.size:=(Array.getElem?_eq_some_iff.1 hl).1;have s2:=s1.swap (c':= .obj D (.deferred none)) (kept_putObj w D (.deferred none)) rfl rfl (World.putObj_heap_same hlt);have k2:All F S (w.putObj D (.deferred none)):=All.mono (fun _ h=>h) (s1.agree (kept_putObj _ _ _) (fun c hc e=>by subst e;exact(s1.own _ (List.mem_cons_self ..) _ rfl).2.2 hc)) k;obtain⟨hd,v,hv⟩:=h a _ S f s2.tail k2;show LeavesInM Fence.wide 0 P fn a.tmps R (a.defers++[{target:= .collected D,args:= #[]}]) .returning w;rw [hd];exact⟨by simp,.inl ⟨D,_,rfl,run_takeDeferred hl,v,hv⟩⟩
theorem bFr{ι:Type}{f:FuncId}{c:Code}{args:List Value}{Hin:List bW}{Pre:List Fact}{val:ι→Value}{Hout:ι→List bW}{post:ι→List Fact}(hf:P.funcs[f]?=some fn)(hb:fn.body=some c)(hn:fn.ntmps=n)
    (hl:Nat.ble args.length n=true) (h: ∀β,β.M=vA Hin→At β n (bMf 0 args) Hin Pre (c.wp P (bodyPostM Fence.wide 0 P fn (Done β val Hout post)))):dH P f args Hin Pre val Hout post:=fun S w s k=>by
  refine callsIn_wide.1 (callsIn_of_wp_marks (F:=Fence.wide) (n:=0) hf hb trivial (wpIn_wide.2 (h ⟨w,vA Hin,S⟩ rfl _ w S ⟨rfl,?_,fun i v hi=>?_⟩ s k)) rfl)
  · have:=Nat.le_of_ble_eq_true hl;simp;omega
  · obtain⟨_,h2⟩:=bCf 0 args i v hi;simp only [Nat.sub_zero] at h2;have hlt:i<args.length:=(List.getElem?_eq_some_iff.1 h2).1;simp only [Array.getElem?_append];rw [if_pos (by simpa using hlt)]
    simpa using h2
end
end Go.Proofs.YtbgdphbebhjpiaaGreatDoor
namespace Go.Proofs.YtbgdphbebhjpiaaGreatDoor
open Go.RowKit
theorem back_it(Bs:Nat)(A:Option Addr)(cap:Nat)(zs:List Int)(hlen:zs.length≤1000000):IterC Tryz.prog 261 [.pointer (some ⟨Bs,0,none⟩)] [Fact.cells Bs 0 [.slice A zs.length cap],cT.sl (.slice A zs.length cap) zs] zs.length
    (fun k=> #[.int .i64 ((zs.length-1-k:Nat):Int),.int .i64 (zs[zs.length-1-k]?.getD 0)]):=by
  intro n l S J W hPre hJd hY0 h0
  have hY: ∀k W,k<zs.length→J k W→YieldAt Fence.wide (n-1) Tryz.prog l #[.int .i64 ((zs.length:Int)-1-k),.int .i64 (zs[zs.length-1-k]?.getD 0)] W fun e W'=>e= .returned (.bool true)∧J (k+1) W'∧jS S W W':=fun k W hk hj=>by
    have e:((zs.length:Int)-1-k)=((zs.length-1-k:Nat):Int):=by omega
    rw [e];exact hY0 k W hk hj
  obtain⟨hS1,hBs⟩:=hPre _ (List.mem_cons_self ..);obtain⟨A',cap',e,hd⟩:=hPre (cT.sl (.slice A zs.length cap) zs) (by simp);injection e with e1 e2 e3
  subst e1;have hB:=hBs 0 _ rfl;rw [Nat.add_zero] at hB
  cases hz:zs with
  | nil=>
    subst hz;exact back1_in n l Bs 0 0 0 cap A (fun h=>absurd h (Nat.lt_irrefl _)) [] S hS1 (fun h=>absurd h (Nat.lt_irrefl _)) (by omega) J hY W hB (fun j h=>absurd h (Nat.not_lt_zero _)) h0
  | cons z r=>
    obtain⟨b,o,cs,e1,e2,e3,e4⟩:=hd 0 z (by rw [hz];rfl);rw [←hz];refine back1_in n l Bs b o zs.length cap A (fun _=>e1) zs S hS1 (fun _=>e2) hlen J hY W hB (fun j hj=>?_) h0;obtain⟨b',o',cs',e1',e2',e3',e4'⟩:=hd j _ (List.getElem?_eq_getElem hj);rw [e1] at e1';injection e1' with e1'
    injection e1' with h1 h2
    subst h1 h2;have e4:cs'=[.int .i64 zs[j]]:=e4';have:=e3' 0 (.int .i64 zs[j]) (by rw [e4];rfl);rw [List.getElem?_eq_getElem hj]
    simpa [cT,Enc.flat] using this
theorem chunk_it(Bs Bn b off cap m N:Nat)(zs:List Int)(hlen:zs.length≤1000000)(hm:0<m)(hN:zs.length=N*m)(hcap:zs.length≤cap):IterC Tryz.prog 227 [.pointer (some ⟨Bs,0,none⟩),.pointer (some ⟨Bn,0,none⟩)] [Fact.cells Bs 0 [.slice (some ⟨b,off,none⟩) zs.length cap],Fact.cells Bn 0 [.int .i64 (m:Int)]] N
    (fun k=> #[.slice (some ⟨b,off+k*m,none⟩) m m]):=by
  intro n l S J W hPre hJd hY h0;obtain⟨hS1,hBs⟩:=hPre _ (List.mem_cons_self ..);obtain⟨hS2,hBn⟩:=hPre (Fact.cells Bn 0 [.int .i64 (m:Int)]) (by simp);have hB:=hBs 0 _ rfl;have hC:=hBn 0 _ rfl;rw [Nat.add_zero] at hB hC;exact chunk1_in n l Bs Bn b off zs.length cap m N S hS1 hS2 hlen hm hN hcap J hJd hY W hB hC h0
theorem bKc(A:Option Addr)(c:Nat)(l:List Int):dH Tryz.prog 228 [.slice A l.length c] [] [cT.sl (.slice A l.length c) l] (fun b:Nat=> .func (.func 261) #[] #[.pointer (some ⟨b,0,none⟩)]) (fun _=>[]) (fun b=>[Fact.cells b 0 [.slice A l.length c]]):=by
  have hT:=dA;refine cQ Tryz.func228 rfl Tryz.ntmps228 rfl ?_;intro β hM;refine sr<|fL (cs:=[.slice A l.length c]) rfl rfl rfl rfl rfl rfl fun b=>?_;refine iV .head ?_;refine sp hT ?_;refine nn<|sr<|sp2 hT ?_;refine nn<|bG ?_;exact bR b rfl (bD rfl) .nil ⟨Has.of mT0,trivial⟩ rfl
theorem bIo(A:Option Addr)(c m:Nat)(l:List Int)(hm:0<m):dH Tryz.prog 173 [.slice A l.length c,.int .i64 (m:Int)] [] [cT.sl (.slice A l.length c) l] (fun b:Nat×Nat=> .func (.func 227) #[] #[.pointer (some ⟨b.1,0,none⟩),.pointer (some ⟨b.2,0,none⟩)]) (fun _=>[]) (fun b=>[Fact.cells b.1 0 [.slice A l.length c],Fact.cells b.2 0 [.int .i64 (m:Int)]]):=by
  have hT:=dA;refine cQ Tryz.func173 rfl Tryz.ntmps173 rfl ?_;intro β hM;refine sr<|fL (cs:=[.slice A l.length c]) rfl rfl rfl rfl rfl rfl fun b1=>?_;refine iV .head ?_;refine fL (cs:=[.int .i64 (m:Int)]) rfl rfl rfl rfl rfl rfl fun b2=>?_;refine iV .head ?_;refine sp hT ?_;refine nn<|bA<|sr<|ss (bZ hT (iQ (Has.of mT0)) rfl rfl rfl rfl rfl) ?_;refine sp hT ?_;refine nn<|cN rfl (by simp;omega) ?_;refine bK<|bB<|sr<|sp2 hT ?_;refine nn<|bG ?_;exact bR (b1,b2) rfl (bD rfl) .nil ⟨Has.of mT1,Has.of mT0,trivial⟩ rfl
end Go.Proofs.YtbgdphbebhjpiaaGreatDoor
namespace Go.Proofs.YtbgdphbebhjpiaaGreatDoor
open Go.RowKit
theorem bDx: ∀(vs xs pre:List Value),xs.length=vs.length→pJ (pre++xs) pre.length vs=pre++vs
  | [],xs,pre,h=>by
    have:xs=[]:=List.length_eq_zero_iff.1 h;subst this;rfl
  | v::r,[],pre,h=>by simp at h
  | v::r,x::xs,pre,h=>by
    have e:(pre++x::xs).set pre.length v=(pre++[v])++xs:=by simp
    have e2:pre.length+1=(pre++[v]).length:=by simp
    unfold pJ;rw [e,e2,bDx r xs (pre++[v]) (by simpa using h)];simp
theorem bJz(vs xs:List Value)(h:xs.length=vs.length):pJ xs 0 vs=vs:=bDx vs xs [] h
section
variable {P : Program} {β : fG} {n : Nat} {Γ : Env} {H : List bW} {F : List Fact} {Q : Exit → Act → World → Prop}
theorem at_copyInts{ops:Array Oper}{rest:List Oper}{o:Oper}{d:Nat}{x y:Operand}{t e t':TypeId}{g c cap m q:Nat}{A:Option Addr}{xs ys:List Int}{H':List bW}(hr:cR β H F cT A ys)(hw:want ops Γ o=some true)
    (ho:o.op= .call {callee:= .builtin .copy,args:= #[x,y],argTypes:= #[t,t]}) (hd:o.dst=some d) (hn:Nat.blt d n=true) (hu:P.underlying t=some (.slice e)) (hs:(P.info? e).map (·.size)=some 1)
    (hx:Γ.ev x=some (.slice (some ⟨g,0,none⟩) m cap)) (hm:xs.length=m) (hy:Γ.ev y=some (.slice A q c)) (hq:q=ys.length) (hqm:ys.length=m) (hH:dM H (cT.row (.slice (some ⟨g,0,none⟩) m cap) t' xs) H')
    (k:At β n ((d,.int .i64 (m:Nat))::Γ) (cT.row (.slice (some ⟨g,0,none⟩) m cap) t' ys::H') F (wpList P ops Q rest)):At β n Γ H F (wpList P ops Q (o::rest)):=
  iM hw fun a w S f s hk=>by
    subst hq;have hl:(cT.all ys).length=m:=by rw [cT.all_length,hqm];show m*1=m;omega
    have hlx:(cT.all xs).length=m:=by rw [cT.all_length,hm];show m*1=m;omega
    have s2:=s.perm hH.perm;have hown:w.ownsRow 0 t' 1 (.slice (some ⟨g,0,none⟩) m cap) xs.length (cT.all xs):=s.ok _ hH.mem;rw [hm] at hown
    have hth:w.there g 0 (cT.all ys).length:=fun j hj=>by
      refine⟨?_,World.ownsRow.frozenAt hown _⟩;rw [World.ownsRow.cellAt hown _ (by omega),List.getElem?_eq_getElem (by rw [hlx];omega)];rfl
    have hcp:(Builtin.copy_ #[t,t] o.type #[.slice (some ⟨g,0,none⟩) m cap,.slice A ys.length c]).run P w= .ok (goInt m) (w.setCells g 0 (cT.all ys)):=by
      by_cases h0:0<ys.length
      · obtain⟨b,off,rfl,hb⟩:=hr.cells s hk h0;have:=run_copy_cells (P:=P) w t t o.type e g 0 m cap ⟨b,off,none⟩ ys.length c (cT.all ys) hu hs (by rw [hl,hqm];exact(Nat.min_self m).symm) hb (fun j hj=>(hth j hj).1) (fun j hj=>(hth j hj).2) cT.all_one
        rwa [hl] at this
      · have e0:ys=[]:=List.length_eq_zero_iff.1 (by omega);subst e0;have h0m:m=0:=by simpa using hqm.symm
        subst h0m;exact run_copy_none (P:=P) w t t o.type e _ A 0 cap 0 c hu hs rfl
    have hr':(execOp a.eval o).run P w= .ok (.value (.int .i64 (m:Nat))) (w.setCells g 0 (cT.all ys)):=by
      unfold execOp;simp only [ho,resolve,invoke,builtin,Sem.run_bind,Sem.run_pure,Result.andThen_ok,List.map_toArray,List.map_cons,List.map_nil,f.ev hx,f.ev hy,hcp];rfl
    unfold Oper.wp;rw [hr',Oper.upon_value,hd];refine k _ _ S (f.put (by simpa [Nat.blt_eq] using hn) _) (s2.swap (nA g _ 0 w) rfl rfl ?_) (All.mono (fun _ h=>h) (s.agree (nA g _ 0 w) (fun c hc e=>by subst e;exact(s2.own _ (List.mem_cons_self ..) _ rfl).2.2 hc)) hk);have:=rK (cT.all ys) 0 w (cT.all xs) hown;rw [bJz _ _ (by rw [hl,hlx])] at this;show World.ownsRow _ 0 t' 1 _ ys.length (cT.all ys);rw [hqm];exact this
end
end Go.Proofs.YtbgdphbebhjpiaaGreatDoor
namespace Go.Proofs.YtbgdphbebhjpiaaGreatDoor
open Go.RowKit
theorem zI: ∃i:TypeInfo,Tryz.prog.info? 2=some i∧i.zero=some (.int .i64 0)∧i.size=1∧i.bytes=8:=by
  have h:(Tryz.prog.info? 2).map (fun i=>(i.zero,i.size,i.bytes))=some (some (.int .i64 0),1,8):=by kernel_rfl
  cases hi:Tryz.prog.info? 2 with
  | none=>simp [hi] at h
  | some i=>simp [hi] at h;exact⟨i,rfl,h.1,h.2.1,h.2.2⟩
theorem pQ{β:fG}{n:Nat}{Γ:Env}{H:List bW}{F:List Fact}{Q:Exit→Act→World→Prop}{ops:Array Oper}{rest:List Oper}{o:Oper}{d m:Nat}{x y:Operand}(hw:want ops Γ o=some true)(ho:o.op= .makeSlice 30 x y)(hd:o.dst=some d)(hn:Nat.blt d n=true)
    (hx:Γ.ev x=some (.int .i64 (m:Nat))) (hy:Γ.ev y=some (.int .i64 (m:Nat))) (hm:m≤35184372088832)
    (k: ∀b,At β n ((d,.slice (some ⟨b,0,none⟩) m m)::Γ) (cT.row (.slice (some ⟨b,0,none⟩) m m) 2 (List.replicate m 0)::H) F (wpList Tryz.prog ops Q rest)):At β n Γ H F (wpList Tryz.prog ops Q (o::rest)):=by
  obtain⟨i,hi,hz,hs,hb⟩:=zI;exact at_make (E:=cT) hw ho hd hn hx hy Tryz.underlying30 hi hz hs (by rw [hb];omega) (by simp [maxLen];omega) (madeInts m) (by simp) k
theorem zeroInts:(Tryz.prog.info? 30).bind (·.zero)=some (.slice none 0 0):=by kernel_rfl
theorem i64size:(Tryz.prog.info? 2).map (·.size)=some 1:=by
  obtain⟨i,hi,_,hs,_⟩:=zI;rw [hi,Option.map_some,hs]
theorem index_bad{s:List Int}{p:Int}(h:(dV s).2≠0):jC s p=([],(dV s).2):=by
  unfold jC;rw [if_pos h]
theorem bMm{s:List Int}{p:Int}(h:(dV s).2=0)(k:p<0∨(dV s).1≤p):jC s p=([],62):=by
  unfold jC;rw [if_neg (by simp [h]),if_pos k]
theorem index_ok{s:List Int}{p:Int}(h:(dV s).2=0)(k: ¬(p<0∨(dV s).1≤p)):jC s p=((nF s.reverse p).reverse,0):=by
  unfold jC;rw [if_neg (by simp [h]),if_neg k]
theorem size_four{s:List Int}(h:(dV s).2=0):s.length≤4:=by
  unfold dV at h;split at h
  · simp at h
  · rename_i hh;omega
theorem size_nz{s:List Int}{p:Int}(h:(dV s).2=0)(k: ¬(p<0∨(dV s).1≤p)){j:Nat}{x:Int}(hx:s[j]?=some x):x≠0:=fun e=>by
  subst e;have hm:s.contains 0=true:=by simpa using List.mem_of_getElem? hx
  unfold dV at k h;split at h
  · simp at h
  · rename_i hh;rw [if_neg hh,if_pos hm] at k;simp only at k;omega
theorem index_step{s cur R:List Int}{p x:Int}{k:Nat}(hk:k<s.length)(hx:s[s.length-1-k]?=some x)(hc:cur.length=s.length)(h:R=(nF (s.take (s.length-k)).reverse p).reverse++cur.drop (s.length-k)):
    R=(nF (s.take (s.length-(k+1))).reverse (w64 (p.tdiv x))).reverse++(cur.set (s.length-1-k) (p.tmod x)).drop (s.length-(k+1)):=by
  obtain⟨j,hj⟩: ∃j,j=s.length-1-k:=⟨_,rfl⟩
  have e1:s.length-k=j+1:=by omega
  have e2:s.length-(k+1)=j:=by omega
  rw [←hj] at hx⊢;rw [e1] at h;rw [e2];have hjl:j<cur.length:=by omega
  have h3:(cur.set j (p.tmod x)).drop j=p.tmod x::cur.drop (j+1):=by
    rw [List.drop_eq_getElem_cons (by simpa using hjl)];simp [List.drop_set_of_lt]
  have h4:s.take (j+1)=s.take j++[x]:=by rw [List.take_add_one,hx];rfl
  rw [h,h3,h4];simp [nF]
theorem index_end{s cur R:List Int}{p:Int}(h:R=(nF (s.take (s.length-s.length)).reverse p).reverse++cur.drop (s.length-s.length)):R=cur:=by
  simpa [nF] using h
set_option maxRecDepth 100000 in
theorem indexA_spec(A:Option Addr)(c:Nat)(sides:List Int)(hs:sides.length≤140737488355328)(place:Int):dH Tryz.prog 175 [.slice A sides.length c,.int .i64 place] [] [cT.sl (.slice A sides.length c) sides] (fun(x:Option Addr×Nat)=> .tuple #[.slice x.1 (jC sides place).1.length x.2,.int .i64 (jC sides place).2]) (fun(x:Option Addr×Nat)=>[cT.row (.slice x.1 (jC sides place).1.length x.2) 2 (jC sides place).1]) (fun _=>[]):=by
  have hT:=dA;generalize hR:jC sides place=r;refine bFr Tryz.func175 rfl Tryz.ntmps175 rfl ?_;intro β hM;refine sr<|fL rfl rfl rfl rfl rfl rfl fun b1=>?_;refine fL rfl rfl rfl rfl rfl rfl fun b2=>?_;refine sp2 hT ?_;refine nn<|sr<|ss (ldO hT (bL kT1)) ?_;refine bO Tryz.func36 (lG _ _ _ (by omega)) rfl rfl .nil ⟨Has.of mT0,trivial⟩ fun _=>?_;refine sp4 hT ?_;refine sp hT ?_;refine nn<|bA<|sr<|sp2 hT ?_;refine nn<|bH rfl (fun hc16=>?_) (fun hc16=>?_)
  · have hc16:=bne_iff_ne.1 hc16;refine sr<|sp3 hT ?_;refine nn<|bG<|bC ?_;have hr:=hR.symm.trans (index_bad (by assumption));subst hr;refine dQ (t:=2) cT ?_;refine tD ?_;exact bM (none,0) rfl (bD rfl) (bD rfl) (.cons .head .nil) trivial rfl
  have hc16:=bne_eq_false_iff_eq.1 hc16;refine bK<|bB<|bA<|bA ?_;have h0:(dV sides).2=0:=by omega
  have h4:=size_four h0;refine bE<|ss (ldO hT (bL .head)) ?_;refine sp2 hT ?_;refine cF (fun hg20=>?_) (fun hg20=>?_)
  · have hg20:=of_decide_eq_true hg20;refine sk3 ?_;refine sp hT ?_;refine nn<|cI rfl rfl ?_;refine sr<|sp2 hT ?_;refine nn<|bG<|bC ?_;have hr:=hR.symm.trans (bMm h0 (by first | exact .inl (by assumption) | exact .inr (by assumption)));subst hr;refine dQ (t:=2) cT ?_;refine tD ?_;exact bM (none,0) rfl (bD rfl) (bD rfl) (.cons .head .nil) trivial rfl
  have hg20:=Int.not_lt.1 (of_decide_eq_false hg20);refine ss (ldO hT (bL .head)) ?_;refine sp3 hT ?_;refine nn<|bH rfl (fun hc24=>?_) (fun hc24=>?_)
  · have hc24:=of_decide_eq_true hc24;refine sr<|sp2 hT ?_;refine nn<|bG<|bC ?_;have hr:=hR.symm.trans (bMm h0 (by first | exact .inl (by assumption) | exact .inr (by assumption)));subst hr;refine dQ (t:=2) cT ?_;refine tD ?_;exact bM (none,0) rfl (bD rfl) (bD rfl) (.cons .head .nil) trivial rfl
  have hc24:=Int.not_le.1 (of_decide_eq_false hc24);refine bK<|bB<|bA ?_;have hout: ¬(place<0∨(dV sides).1≤place):=by omega
  refine bE<|ss (ldO hT (bL kT1)) ?_;refine sp hT ?_;refine pQ rfl rfl rfl rfl rfl rfl (by omega) fun b3=>?_;refine cE rfl rfl rfl rfl zeroInts rfl fun b4=>?_;refine sto hT .head ?_;refine nn<|sr<|ss (ldO hT (bL .head)) ?_;refine ss (ldO hT (bL kT3)) ?_;refine at_copyInts (bJ (Has.of mT0)) rfl rfl rfl rfl Tryz.underlying30 i64size rfl (by simp) rfl rfl rfl kT1 ?_;refine nn<|bA<|sr<|ss (ldO hT (bL kT3)) ?_;refine bO Tryz.func228 (bKc _ _ _) rfl rfl .nil ⟨Has.of mT0,trivial⟩ fun bk5=>?_;refine nn<|bT<|bLr (Int×List Int) (fun k=>[(34,.int .i64 (sides[sides.length-1-k]?.getD 0)),(33,.int .i64 ((sides.length-1-k:Nat):Int))]) (fun k=>[(9,.int .i64 ((sides.length-1-k:Nat):Int)),(34,.int .i64 (sides[sides.length-1-k]?.getD 0)),(33,.int .i64 ((sides.length-1-k:Nat):Int))]) (sides.length) (fun k ⟨p,cur⟩=>[.obj b2 (.cells #[.int .i64 p] 2),cT.row (.slice (some ⟨b3,0,none⟩) sides.length sides.length) 2 cur]) (fun k ⟨p,cur⟩=>[Fact.pure (cur.length=sides.length∧(nF sides.reverse place).reverse=(nF (sides.take (sides.length-k)).reverse p).reverse++cur.drop (sides.length-k))]) (place,sides) (back_it bk5 _ _ sides (by omega)) rfl (cS Tryz.func261 rfl rfl) (fun _=>rfl) (fun k a f=>fits2 rfl rfl f) (.cons kT2 (.cons .head .nil)) ⟨Has.pure (⟨rfl,by simp⟩),trivial⟩ ⟨Has.of mT0,Has.of mT1,trivial⟩ ?_ ?_ ?_
  · intro k K β' H' F' l m hK;refine bBy (fun⟨_,_,h⟩=>h) rfl ?_;refine sp hT ?_;refine dU ?_;exact bB hK
  · rintro β' l D r k ⟨p,cur⟩ m hk;dsimp only;refine cD (Has.of mT0) fun hinv10=>?_;refine bJv ?_;refine in_mixL (bCl uG) rfl 16 _ _ [(true,0),(true,1),(true,2),(true,3),(true,4),(true,5),(true,6),(true,7),(true,8),(true,9),(true,10),(true,11),(true,12),(true,13),(true,14),(false,15)] cY (by decide+kernel) (.cons .head (.cons .head (.cons .head (.cons kT1 (.cons kT1 .nil))))) bF.self ?_;refine stL rfl (ldO hT (bL kT3)) ?_;refine puL hT ?_;refine stL rfl (ldO hT (bL kT2)) ?_;refine stL rfl (ldO hT (bL kT4)) ?_;refine puL hT ?_
    obtain⟨x6,hx7⟩: ∃x',sides[(sides.length-1-k)]?=some x':=⟨_,List.getElem?_eq_getElem (by omega)⟩
    refine stL rfl (bS hT (k:=(sides.length-1-k)) (bJ (Has.of mT2)) rfl rfl rfl rfl rfl rfl rfl (by omega)) ?_;refine stL rfl (bZ hT (cR.knows (bJ (Has.of mT2)) (k:=(sides.length-1-k)) (x:=x6) hx7 0) rfl rfl rfl rfl rfl) ?_;refine stL rfl (bIh rfl rfl rfl (size_nz h0 hout (by assumption))) ?_;refine stL rfl (ldO hT (bL kT2)) ?_;refine stL rfl (ldO hT (bL kT4)) ?_;refine puL hT ?_;refine stL rfl (bS hT (k:=(sides.length-1-k)) (bJ (Has.of mT2)) rfl rfl rfl rfl rfl rfl rfl (by omega)) ?_;refine stL rfl (bZ hT (cR.knows (bJ (Has.of mT2)) (k:=(sides.length-1-k)) (x:=x6) hx7 0) rfl rfl rfl rfl rfl) ?_;refine stL rfl (sY rfl rfl rfl (size_nz h0 hout (by assumption))) ?_
    obtain⟨x8,hx9⟩: ∃x',cur[(sides.length-1-k)]?=some x':=⟨_,List.getElem?_eq_getElem (by omega)⟩
    refine stL rfl (fI hT (k:=(sides.length-1-k)) rfl rfl rfl rfl rfl rfl (by omega)) ?_;refine jK (o:=_) rfl ?_;refine dJ hT (k:=(sides.length-1-k)) (fo:=0) (y':=_) kT3 rfl rfl rfl rfl rfl rfl rfl rfl rfl hx9 rfl ?_;refine jL (.cons kT1 (.cons kT1 (.cons kT1 (.cons kT1 (.cons kT1 .nil))))) (bF.drop 0) ?_;refine lF (o:=_) rfl ?_;refine sto hT kT3 ?_;refine nH<|cA ?_;exact at_roundEnd (w64 (p.tdiv x6),cur.set (sides.length-1-k) (p.tmod x6)) (.cons kT2 (.cons kT2 (.cons .head (.cons .head (.cons .head (.cons .head .nil)))))) (bF.append ⟨Has.pure (⟨by simp [hinv10.1],index_step hk hx7 hinv10.1 hinv10.2⟩),trivial⟩ (bF.drop 1))
  rintro D ⟨p,cur⟩;dsimp only;refine cD (Has.of mT0) fun hinv10=>?_;refine m_block ?_;refine bCm ?_;refine m_seq ?_;refine bIm ?_;refine ss (ldO hT (bL kT3)) ?_;refine sp2 hT ?_;refine m_nil ?_;refine bCm ?_;refine m_ret ?_;have hr:=hR.symm.trans ((index_ok h0 hout).trans (congrArg (·,(0:Int)) (index_end hinv10.2)));subst hr;have hcl:=hinv10.1;rw [←hcl];refine bJn .head ?_;exact bM (_,_) rfl (bD rfl) (bD rfl) (.cons kT1 .nil) trivial rfl
end Go.Proofs.YtbgdphbebhjpiaaGreatDoor
namespace Go.Proofs.YtbgdphbebhjpiaaGreatDoor
open Go.RowKit
theorem wrapTo{a z:Int}(h:a=z)(h1: -9223372036854775808≤z)(h2:z<9223372036854775808):IntKind.i64.wrap a=z:=by
  rw [h];exact bMl h1 h2
def RevAt (l cur:List Int)(i:Nat):Prop:=cur.length=l.length∧ ∀q,q<l.length→cur[q]?=if q<i∨l.length≤q+i then l[l.length-1-q]? else l[q]?
theorem rev_start(l:List Int):RevAt l l 0:=⟨rfl,fun q hq=>by rw [if_neg (by omega)]⟩
theorem rev_step{l cur:List Int}{i:Nat}{x y:Int}(h:RevAt l cur i)(hi:i<l.length-1-i)(hx:cur[l.length-1-i]?=some x)(hy:cur[i]?=some y):RevAt l ((cur.set i x).set (l.length-1-i) y) (i+1):=by
  obtain⟨h1,h2⟩:=h;refine⟨by simp [h1],fun q hq=>?_⟩;have hx':=h2 (l.length-1-i) (by omega);have hy':=h2 i (by omega);rw [if_neg (by omega)] at hx' hy';rw [hx] at hx';rw [hy] at hy'
  by_cases e1:q=l.length-1-i
  · subst e1;rw [List.getElem?_set_self (by simp;omega),if_pos (by omega),show l.length-1-(l.length-1-i)=i by omega];exact hy'
  · rw [List.getElem?_set_ne (fun e=>e1 e.symm)]
    by_cases e2:q=i
    · subst e2;rw [List.getElem?_set_self (by omega),if_pos (by omega)];exact hx'
    · rw [List.getElem?_set_ne (fun e=>e2 e.symm),h2 q hq]
      by_cases hc:q<i∨l.length≤q+i
      · rw [if_pos hc,if_pos (by omega)]
      · rw [if_neg hc,if_neg (by omega)]
theorem rev_end{l cur:List Int}{i:Nat}(h:RevAt l cur i)(hi:l.length≤2*i+1):cur=l.reverse:=by
  obtain⟨h1,h2⟩:=h;apply List.ext_getElem?;intro q
  by_cases hq:q<l.length
  · rw [h2 q hq,List.getElem?_reverse hq]
    by_cases hc:q<i∨l.length≤q+i
    · rw [if_pos hc]
    · rw [if_neg hc,show l.length-1-q=q by omega]
  · rw [List.getElem?_eq_none (by omega),List.getElem?_eq_none (by simp;omega)]
set_option maxRecDepth 100000 in
theorem tX(A:Option Addr)(c:Nat)(l:List Int)(hl:l.length≤140737488355328):dH Tryz.prog 109 [.slice A l.length c] [cT.row (.slice A l.length c) 2 l] [] (fun(_:Unit)=> .tuple #[]) (fun(_:Unit)=>[cT.row (.slice A l.length c) 2 l.reverse]) (fun _=>[]):=by
  have hT:=dA;refine cQ Tryz.func109 rfl Tryz.ntmps109 rfl ?_;intro β hM;refine sr<|sp3 hT ?_;refine bP (z':=(l.length:Int)-1-((0:Nat):Int)) (wrapTo (by omega) (by omega) (by omega)) ?_;refine sp2 hT ?_;refine nn<|bT<|dD (ι:=Nat×List Int) [(0,_)] ⟨rfl,trivial⟩ (fun⟨i,cur⟩=>[(2,.int .i64 (i:Nat)),(3,.int .i64 ((l.length:Int)-1-(i:Nat)))]) (fun⟨i,cur⟩=>[cT.row (.slice A l.length c) 2 cur]) (fun⟨i,cur⟩=>[Fact.pure (i≤l.length∧RevAt l cur i)]) (fun⟨i,cur⟩=>l.length-i) (0,l) ⟨rfl,rfl,trivial⟩ (.cons .head .nil) ⟨Has.pure (⟨by omega,rev_start l⟩),trivial⟩ ?_;rintro⟨i,cur⟩;dsimp only;refine cD (Has.of mT0) fun hinv1=>?_;refine bA<|sr<|sp3 hT ?_;refine nn<|bH rfl (fun hc9=>?_) (fun hc9=>?_)
  · have hc9:=of_decide_eq_true hc9;refine bK<|bB<|bA<|bT ?_;have hlt:i<l.length-1-i:=by omega
    have hcl:=hinv1.2.1;refine at_rowg .head (by omega) fun g1 hg=>?_;subst hg;have ej:((l.length:Int)-1-(i:Nat))=((l.length-1-i:Nat):Int):=by omega
    rw [ej];refine qQ _ _ (.fl 0 (.fl 1 (.fl 2 (.fl 3 (.fl 4 (.fl 5 (.fl 6 (.fl 8 (.fl 9 (.fl 10 (.two 7 11 (.op 11 (.fl 12 (.op 13 (.fl 14 (.op 15 .nil))))) (.op 7 (.fl 12 (.op 13 (.fl 14 (.op 15 .nil)))))))))))))))) cY (by decide+kernel) .nil bF.self ?_;refine puT hT ?_;refine puT hT ?_;refine puT hT ?_;refine puT hT ?_;refine puT hT ?_;refine puT hT ?_
    obtain⟨x2,hx3⟩: ∃x',cur[(l.length-1-i)]?=some x':=⟨_,List.getElem?_eq_getElem (by first | omega | (simp only [List.length_set];omega))⟩
    refine stT rfl (fI hT (k:=(l.length-1-i)) rfl rfl rfl rfl rfl rfl (by first | omega | (simp only [List.length_set];omega))) ?_;refine puT hT ?_;refine puT hT ?_
    obtain⟨x4,hx5⟩: ∃x',cur[i]?=some x':=⟨_,List.getElem?_eq_getElem (by first | omega | (simp only [List.length_set];omega))⟩
    refine stT rfl (fI hT (k:=i) rfl rfl rfl rfl rfl rfl (by first | omega | (simp only [List.length_set];omega))) ?_;refine oF (o:=_) (o':=_) rfl rfl ?_ ?_
    · refine ss (bZ hT (cR.knows (cJ .head) (k:=(l.length-1-i)) (x:=x2) hx3 0) rfl rfl rfl rfl rfl) ?_;refine dE .nil (bF.drop 0) ?_;refine fB (o:=_) rfl ?_;refine ss (bZ hT (cR.knows (cJ .head) (k:=i) (x:=x4) hx5 0) rfl rfl rfl rfl rfl) ?_;refine dE .nil (bF.drop 0) ?_;refine stT rfl (fI hT (k:=i) rfl rfl rfl rfl rfl rfl (by first | omega | (simp only [List.length_set];omega))) ?_;refine fB (o:=_) rfl ?_;refine dJ hT (k:=i) (fo:=0) (y':=x2) .head rfl rfl rfl rfl rfl rfl rfl rfl rfl hx5 rfl ?_;refine dE .nil (bF.drop 0) ?_
      obtain⟨x6,hx7⟩: ∃x',(cur.set i x2)[(l.length-1-i)]?=some x':=⟨_,List.getElem?_eq_getElem (by first | omega | (simp only [List.length_set];omega))⟩
      refine stT rfl (fI hT (k:=(l.length-1-i)) rfl rfl rfl rfl rfl rfl (by first | omega | (simp only [List.length_set];omega))) ?_;refine fB (o:=_) rfl ?_;refine dJ hT (k:=(l.length-1-i)) (fo:=0) (y':=x4) .head rfl rfl rfl rfl rfl rfl rfl rfl rfl hx7 rfl ?_;refine dE .nil (bF.drop 0) ?_;refine iF<|cA<|bB<|bE<|sp2 hT ?_;refine bP (z':=(((i+1):Nat):Int)) (cL (by omega) (by omega)) ?_;refine sp2 hT ?_;refine bP (z':=(l.length:Int)-1-((i+1:Nat):Int)) (wrapTo (by omega) (by omega) (by omega)) ?_;refine sp2 hT ?_;refine nn ?_;exact cP (i+1,_) (by dsimp only;omega) ⟨rfl,rfl,trivial⟩ ⟨rfl,trivial⟩ (.cons .head .nil) ⟨Has.pure (⟨by dsimp only;omega,rev_step hinv1.2 hlt (by assumption) (by assumption)⟩),trivial⟩ (bF.drop 1)
    refine ss (bZ hT (cR.knows (cJ .head) (k:=i) (x:=x4) hx5 0) rfl rfl rfl rfl rfl) ?_;refine dE .nil (bF.drop 0) ?_;refine fB (o:=_) rfl ?_;refine ss (bZ hT (cR.knows (cJ .head) (k:=(l.length-1-i)) (x:=x2) hx3 0) rfl rfl rfl rfl rfl) ?_;refine dE .nil (bF.drop 0) ?_;refine stT rfl (fI hT (k:=i) rfl rfl rfl rfl rfl rfl (by first | omega | (simp only [List.length_set];omega))) ?_;refine fB (o:=_) rfl ?_;refine dJ hT (k:=i) (fo:=0) (y':=x2) .head rfl rfl rfl rfl rfl rfl rfl rfl rfl hx5 rfl ?_;refine dE .nil (bF.drop 0) ?_
    obtain⟨x8,hx9⟩: ∃x',(cur.set i x2)[(l.length-1-i)]?=some x':=⟨_,List.getElem?_eq_getElem (by first | omega | (simp only [List.length_set];omega))⟩
    refine stT rfl (fI hT (k:=(l.length-1-i)) rfl rfl rfl rfl rfl rfl (by first | omega | (simp only [List.length_set];omega))) ?_;refine fB (o:=_) rfl ?_;refine dJ hT (k:=(l.length-1-i)) (fo:=0) (y':=x4) .head rfl rfl rfl rfl rfl rfl rfl rfl rfl hx9 rfl ?_;refine dE .nil (bF.drop 0) ?_;refine iF<|cA<|bB<|bE<|sp2 hT ?_;refine bP (z':=(((i+1):Nat):Int)) (cL (by omega) (by omega)) ?_;refine sp2 hT ?_;refine bP (z':=(l.length:Int)-1-((i+1:Nat):Int)) (wrapTo (by omega) (by omega) (by omega)) ?_;refine sp2 hT ?_;refine nn ?_;exact cP (i+1,_) (by dsimp only;omega) ⟨rfl,rfl,trivial⟩ ⟨rfl,trivial⟩ (.cons .head .nil) ⟨Has.pure (⟨by dsimp only;omega,rev_step hinv1.2 hlt (by assumption) (by assumption)⟩),trivial⟩ (bF.drop 1)
  have hc9:=Int.not_lt.1 (of_decide_eq_false hc9);refine cW<|cM<|cM<|cX ?_;have hr:=rev_end hinv1.2 (by omega);subst hr;exact uE () rfl (.cons .head .nil) trivial (rfl)
end Go.Proofs.YtbgdphbebhjpiaaGreatDoor
namespace Go.Proofs.YtbgdphbebhjpiaaGreatDoor
open Go.RowKit
theorem bNs(m:Nat)(hm:0<m): ∀(N f:Nat) (l:List Int),l.length=N*m→N≤f→mQ f m l=(List.range N).map fun k=>(l.drop (k*m)).take m
  | 0,f,l,h,_=>by
    have:l=[]:=List.length_eq_zero_iff.1 (by simpa using h);subst this;cases f<;>rfl
  | N+1,0,_,_,h=>absurd h (by omega)
  | N+1,f+1,[],h,_=>by
    rw [Nat.add_mul,Nat.one_mul] at h;simp at h;omega
  | N+1,f+1,x::r,h,hf=>by
    rw [Nat.add_mul,Nat.one_mul] at h;have e:mQ (f+1) m (x::r)=(x::r).take m::mQ f m ((x::r).drop m):=by simp [mQ]
    rw [e,bNs m hm N f ((x::r).drop m) (by rw [List.length_drop];omega) (by omega),List.range_succ_eq_map,List.map_cons,List.map_map];rw [Nat.zero_mul,List.drop_zero]
    congr 1
    apply List.map_congr_left;intro k _;simp only [Function.comp,List.drop_drop];rw [Nat.succ_mul,Nat.add_comm m]
theorem lanes_eq{a:Arr}(h:cO a=true)(hd:a.data≠[]): ∃N,a.data.length=N*lastA a∧0<lastA a∧fF a=((List.range N).map fun k=>(a.data.drop (k*lastA a)).take (lastA a),0):=by
  obtain⟨l1,l2,_,_,l5,_⟩:=rD h;have hm:=l2 hd;have hle:(fF a).1.length≤(fF a).1.length*lastA a:=Nat.le_mul_of_pos_right _ hm;refine⟨(fF a).1.length,l5.symm,hm,?_⟩
  have e:fF a=(mQ a.data.length (lastA a) a.data,0):=by
    unfold fF;rw [if_neg (by simp [h])]
  rw [←bNs (lastA a) hm (fF a).1.length a.data.length a.data l5.symm (by omega)];exact e
theorem last_get{a:Arr}(h:cO a=true){z:Int}(hx:a.sides[a.sides.length-1]?=some z):z=((lastA a:Nat):Int):=by
  obtain⟨hs,hp⟩:=fZ.1 h;have e:a.sides.getLast?=some z:=by rw [List.getLast?_eq_getElem?];exact hx
  have h0:=(hs.rng z (List.mem_of_getElem? hx)).1;have e2:lastA a=z.toNat:=by unfold lastA;rw [e]
  rw [e2];omega
theorem last_none{a:Arr}(h:a.sides.length≤0):lastA a=1:=by
  have e:a.sides=[]:=List.length_eq_zero_iff.1 (by omega);unfold lastA;rw [e];rfl
theorem bNn{F:List Fact}{db doff l c m k:Nat}{xs:List Int}(hlen:((xs.drop (k*m)).take m).length=m)(h:Has F (cT.sl (.slice (some ⟨db,doff,none⟩) l c) xs)):Has F (cT.sl (.slice (some ⟨db,doff+k*m,none⟩) m m) ((xs.drop (k*m)).take m)):=fun S w q=>by
  obtain⟨A',cap',e,hh⟩:=h S w q;injection e with e0 e00 e000
  subst e0;refine⟨some ⟨db,doff+k*m,none⟩,m,by rw [hlen],fun j x hx=>?_⟩;have hj:j<m:=by have:=(List.getElem?_eq_some_iff.1 hx).1;omega
  rw [List.getElem?_take_of_lt hj,List.getElem?_drop] at hx;obtain⟨b,o,cs,e1,e2,e3,e4⟩:=hh (k*m+j) x hx;injection e1 with e1
  injection e1 with h1 h2
  subst h1 h2;refine⟨db,doff+k*m,cs,rfl,e2,fun i u hi=>?_,e4⟩;have:=e3 i u hi;simp only [Enc.flat,cT,Nat.mul_one] at this⊢;rw [←Nat.add_assoc] at this;exact this
def laneRow(s:Sl Int):bW:=cT.row (.slice s.addr s.list.length s.cap) 2 s.list
section
variable {P : Program} {β : fG} {n : Nat} {Γ : Env} {H H' : List bW} {F : List Fact} {K : Act → World → Prop}
theorem kY(p:H.Perm H')(h:At β n Γ H' F K):At β n Γ H F K:=fun a w S f s k=>h a w S f (s.perm p) k
theorem zM{ι:Type}{Hs:ι→List bW}{Fs:ι→List Fact}(y:ι)(hH:H.Perm (Hs y))(hF:bF F (Fs y)):At β n Γ H F (sT β Hs Fs .normal):=fun _ w S _ s k=>⟨y,S,s.perm hH,hF.all S w k⟩
theorem bLc{xs:List (Sl Int)}{x:Sl Int}{i:Nat}(h:xs[i]?=some x)(H:List bW):(xs.map laneRow++H).Perm (laneRow x::((xs.take i++xs.drop (i+1)).map laneRow++H)):=by
  have hlt:=(List.getElem?_eq_some_iff.1 h).1
  have e:xs=xs.take i++x::xs.drop (i+1):=by
    have h2:=(List.getElem?_eq_some_iff.1 h).2;rw [←h2,List.getElem_cons_drop,List.take_append_drop]
  have hp:(xs.map laneRow).Perm (laneRow x::(xs.take i++xs.drop (i+1)).map laneRow):=by
    conv=>lhs;rw [e]
    rw [List.map_append,List.map_cons,List.map_append];exact List.perm_middle
  exact hp.append_right H
theorem lanes_back{xs:List (Sl Int)}{y:Sl Int}{i:Nat}(h:i<xs.length)(H:List bW):(laneRow y::((xs.take i++xs.drop (i+1)).map laneRow++H)).Perm ((xs.set i y).map laneRow++H):=by
  have hs:(xs.set i y)[i]?=some y:=List.getElem?_set_self h;have:=bLc hs H;have e1:(xs.set i y).take i=xs.take i:=by rw [List.take_set_of_le (Nat.le_refl _)]
  have e2:(xs.set i y).drop (i+1)=xs.drop (i+1):=by rw [List.drop_set_of_lt (by omega)]
  rw [e1,e2] at this;exact this.symm
theorem nU.self: ∀(R H2:List bW),nU (R++H2) R H2
  | [],_=> .nil
  | _::R,H2=> .cons .head (nU.self R H2)
theorem bKm{Γ:Env}{Q:Exit→Act→World→Prop}(ι:Type)(γp γ1:Nat→Env)(N:Nat)(Hs:Nat→ι→List bW)(Fs:Nat→ι→List Fact){g:Operand}{ps:Array Tmp}{assign body:Code}{gf:FuncId}{lb:List Value}{Pre:List Fact}{encs:Nat→Array Value}(x0:ι)
    (hit:IterC P gf lb Pre N encs) (hg:Γ.ev g=some (.func (.func gf) #[] lb.toArray)) (eg: ∀args w,(callFunc gf args).run P w= .ok (.enter gf args) w) (hps: ∀k,(encs k).size=ps.size)
    (hfit: ∀k a,kX n Γ a→kX n (γp k++Γ) {tmps:=(ps.zip (encs k)).foldl (fun t (p,v)=>t.setIfInBounds p v) a.tmps,defers:=[]})
    (hH:H.Perm (Hs 0 x0)) (hF0:bF F (Fs 0 x0)) (hPre:bF F Pre)
    (hassign: ∀(k:Nat) (K:Act→World→Prop) (β':fG) (H':List bW) (F':List Fact) (l m:Nat),At β' n (γ1 k++Γ) H' F' K→At β' n (γp k++Γ) H' F' (assign.wpIn (Fence.wide.inRound l) m P (Exit.then K fun _ _ _=>False)))
    (hbody: ∀(β':fG) (l D:Nat) (r:Loop) (k:Nat) (x:ι) (m:Nat),k<N→
      At β' n (γ1 k++Γ) (.obj l (.loop r):: .obj D (.deferred (some []))::Hs k x) (Fs k x++F) (body.wpIn (Fence.wide.inRound l) m P (sT β' (fun y=> .obj l (.loop r):: .obj D (.deferred (some []))::Hs (k+1) y) fun y=>Fs (k+1) y++F)))
    (hk: ∀D x,At β n Γ (.obj D (.deferred (some []))::Hs N x) (Fs N x++F) (Mk D (Q .normal))):At β n Γ H F ((Code.rangeFunc g ps assign body).wp P Q):=
  kY (H':=Hs 0 x0++[]) (by rw [List.append_nil];exact hH) (bLr ι γp γ1 N Hs Fs x0 hit hg eg hps hfit (nU.self _ []) hF0 hPre hassign
    (fun β' l D r k x m hkN=>by
      have:=hbody β' l D r k x m hkN
      simpa only [List.append_nil] using this)
    (fun D x=>by
      have:=hk D x
      simpa only [List.append_nil] using this))
end
end Go.Proofs.YtbgdphbebhjpiaaGreatDoor
namespace Go.Proofs.YtbgdphbebhjpiaaGreatDoor
open Go.RowKit
section
variable {P : Program} {β : fG} {n : Nat} {Γ : Env} {H : List bW} {F : List Fact} {o : Oper} {x : Operand} {t e : TypeId}
theorem sti_cap{A:Option Addr}{l c:Nat}(ht:P.underlying t=some (.slice e))(ho:o.op= .call ⟨.builtin .cap,#[x],#[t]⟩)(hx:Γ.ev x=some (.slice A l c)):Sti P β n Γ H F o (.int .i64 (c:Nat)):=fun a w S f s k=>by
  unfold execOp;simp [ho,resolve,invoke,builtin,Builtin.cap_,f.ev hx,run_underlying ht,goInt]
theorem zeros_all(m:Nat):(Builtin.zeroCells #[.int .i64 0] m).toList=cT.all (List.replicate m 0):=by
  exact madeInts m
end
theorem vD(w:World)(o:Obj){k:Nat}(h:k<w.heap.size):(w.alloc o).heap[k]?=w.heap[k]?:=(yG w o).block k h fun e=>e
theorem at_app_zeros{β:fG}{n:Nat}{Γ:Env}{H:List bW}{F:List Fact}{Q:Exit→Act→World→Prop}{ops:Array Oper}{rest:List Oper}{o:Oper}{d m:Nat}{x y:Operand}(hw:want ops Γ o=some true)(ho:o.op= .call {callee:= .builtin .append,args:= #[x,y],argTypes:= #[30,3]})(hd:o.dst=some d)(hn:Nat.blt d n=true)
    (hx:Γ.ev x=some (.slice none 0 0)) (hy:Γ.ev y=some (.int .i64 (m:Nat))) (h0:0<m) (hm:m≤35184372088832)
    (k: ∀A' cap',At β n ((d,.slice A' (List.replicate m (0:Int)).length cap')::Γ) (cT.row (.slice A' (List.replicate m (0:Int)).length cap') 2 (List.replicate m 0)::H) F (wpList Tryz.prog ops Q rest)):At β n Γ H F (wpList Tryz.prog ops Q (o::rest)):=by
  obtain⟨i,hi,hz,hs,hb⟩:=zI;refine dQ (t:=2) cT ?_;refine iM hw fun a w S f s hF=>?_;have hrun:=Lib.run_append_nil_zeros (P:=Tryz.prog) w 30 3 o.type 2 i (.int .i64 0) .i64 .i64 Tryz.underlying30 Tryz.underlying3 hi hz m h0 (by omega) (by omega) (by rw [hb];omega)
  have hr':(execOp a.eval o).run Tryz.prog w= .ok (.value (.slice (some ⟨w.heap.size,0,none⟩) m (grownCap w m 0 2))) (w.drew.alloc (.cells (Builtin.zeroCells (Value.int .i64 0).cells m++Builtin.zeroCells (Value.int .i64 0).cells (grownCap w m 0 2-m)) 2)):=by
    unfold execOp;simp only [ho,resolve,invoke,builtin,Sem.run_bind,Sem.run_pure,Result.andThen_ok,List.map_toArray,List.map_cons,List.map_nil,f.ev hx,f.ev hy,hrun]
  have h63:m≤maxLen:=by simp only [maxLen];omega
  have hge:=grownCap_ge w m 0 2;have hcm:=grownCap_le_maxLen w m 0 2 h63;have hl:(List.replicate m (0:Int)).length=m:=List.length_replicate;unfold Oper.wp;rw [hr',Oper.upon_value,hd];have hK:=k (some ⟨w.heap.size,0,none⟩) (grownCap w m 0 2);rw [hl] at hK;refine hK _ _ S (f.put (by simpa [Nat.blt_eq] using hn) _) ?_ ?_
  · refine s.swap_row (v':= .slice (some ⟨w.heap.size,0,none⟩) m (grownCap w m 0 2)) (lW ⟨rfl,rfl,rfl,by simp,fun k hk _=>vD w.drew _ hk⟩) (.inr rfl) ?_;show World.ownsRow _ 0 2 cT.size _ (List.replicate m (0:Int)).length (cT.all (List.replicate m (0:Int)));rw [hl];have e0:(cT.all (List.replicate m (0:Int))).length=m:=by rw [cT.all_length,hl];exact Nat.mul_one m
    have e1:cT.size=1:=rfl;refine⟨by rw [e0,e1];omega,.inr ⟨w.heap.size,_,_,rfl,Nat.zero_le _,heap_alloc_new w.drew _,hge,hcm,?_,?_⟩⟩
    · have hz1:(Value.int .i64 0).cells.size=1:=rfl;simp only [Array.size_append,size_zeroCells,hz1,e1];omega
    · have ez:(Builtin.zeroCells (Value.int .i64 0).cells m).toList=cT.all (List.replicate m 0):=zeros_all m;rw [Array.toList_append,ez];have:m*cT.size=(cT.all (List.replicate m (0:Int))).length:=by rw [e0,e1];omega
      rw [this];exact List.take_left
  · exact All.mono (w:=w) (fun _ h=>h) (fun b hb=>vD w.drew _ (s.zone b hb).1) hF
def wL (s:Sl Int):Fact:=(cT.sl (.slice s.addr s.list.length s.cap) s.list).and (Fact.pure (s.list.length≤s.cap))
set_option maxRecDepth 100000 in
theorem grow0_spec(n:Nat)(hn:n≤35184372088832):dH Tryz.prog 174 [.slice none 0 0,.int .i64 (n:Nat)] [] [] (fun(x:Option Addr×Nat)=> .slice x.1 0 x.2) (fun(x:Option Addr×Nat)=>[cT.row (.slice x.1 0 x.2) 2 []]) (fun _=>[]):=by
  have hT:=dA;refine cQ Tryz.func174 rfl Tryz.ntmps174 rfl ?_;intro β hM;refine sr<|sp hT ?_;refine nn<|bA<|sr<|sp2 hT ?_;refine cH (t':=false) (decide_eq_false (by omega)) ?_;refine nn<|cN rfl rfl ?_;refine bK<|bB<|bA<|sr<|sp2 hT ?_;refine ss (sti_cap Tryz.underlying30 rfl rfl) ?_;refine sp3 hT ?_;refine bP (z':=((0:Nat):Int)) (by decide) ?_;refine sp hT ?_;refine bP (z':=((n:Nat):Int)) (cL (by omega) (by omega)) ?_;refine sp hT ?_;refine nn<|sr<|sp2 hT ?_;refine nn<|bH rfl (fun hc16=>?_) (fun hc16=>?_)
  · have hc16:=of_decide_eq_true hc16;refine bE<|sp2 hT ?_;refine ss (sti_cap Tryz.underlying30 rfl rfl) ?_;refine ss (qR hT (k:=0) rfl rfl rfl rfl rfl rfl (by omega)) ?_;refine sp hT ?_;refine at_app_zeros rfl rfl rfl rfl rfl rfl (by omega) (by omega) fun A1 c2=>?_;refine sp2 hT ?_;refine jR hT (k:=0) .head rfl rfl rfl rfl rfl rfl rfl rfl rfl (by omega) ?_;refine sp hT ?_;refine nn<|sr<|sp2 hT ?_;refine nn<|bG ?_;exact bR (A1,c2) rfl (bD rfl) (.cons .head .nil) trivial rfl
  have hc16:=Int.not_lt.1 (of_decide_eq_false hc16);refine bK<|bB<|sr<|sp2 hT ?_;refine nn<|bG<|dQ (t:=2) cT ?_;exact bR (none,0) rfl (bD rfl) (.cons .head .nil) trivial rfl
set_option maxRecDepth 100000 in
theorem kM(A:Option Addr)(c:Nat)(xs:List (Sl Int))(hx:xs.length≤1000000)(ht:(xs.map (·.list)).flatten.length≤1000000):dH Tryz.prog 110 [.slice A xs.length c] [] [jN.sl (.slice A xs.length c) xs,Fact.each xs wL] (fun(x:Option Addr×Nat)=> .slice x.1 (xs.map (·.list)).flatten.length x.2) (fun(x:Option Addr×Nat)=>[cT.row (.slice x.1 (xs.map (·.list)).flatten.length x.2) 2 (xs.map (·.list)).flatten]) (fun _=>[]):=by
  have hT:=dA;refine cQ Tryz.func110 rfl Tryz.ntmps110 rfl ?_;intro β hM;refine sr<|sp hT ?_;refine nn<|sr<|sp hT ?_;refine nn<|bA<|sr<|sp3 hT ?_;refine nn<|bT<|dD (ι:=Nat×Nat) [(0,_),(9,_),(10,_)] ⟨rfl,rfl,rfl,trivial⟩ (fun⟨i,n⟩=>[(3,.int .i64 (n:Nat)),(11,.int .i64 (i:Nat))]) (fun _=>[]) (fun⟨i,n⟩=>[Fact.pure (i≤xs.length∧n=((xs.map (·.list)).take i).flatten.length)]) (fun⟨i,n⟩=>xs.length-i) (0,0) ⟨rfl,rfl,trivial⟩ .nil ⟨Has.pure (⟨by omega,rfl⟩),trivial⟩ ?_;rintro⟨i,n⟩;dsimp only;refine cD (Has.of mT0) fun hinv3=>?_;refine sr<|sp hT ?_;refine nn<|bA<|bH rfl (fun hc12=>?_) (fun hc12=>?_)
  · have hc12:=of_decide_eq_true hc12;refine bK<|bB<|bA<|bT<|sr ?_
    obtain⟨x1,hx2⟩: ∃x',xs[i]?=some x':=⟨_,List.getElem?_eq_getElem (by omega)⟩
    refine ss (bS hT (k:=i) (bJ (Has.of mT1)) rfl rfl rfl rfl rfl rfl rfl (by omega)) ?_;refine ss (bZ hT (cR.knows (bJ (Has.of mT1)) (k:=i) (x:=x1) hx2 0) rfl rfl rfl rfl rfl) ?_;have hL:=nG (f:=fun s:Sl Int=>s.list) hx2;have hfl:=bKw hL;have hfn:=congrArg List.length hfl;rw [List.length_append] at hfn;have hfm:=flat_le (L:=(xs.map (·.list))) (i+1);refine bV (cT.sl (.slice x1.addr x1.list.length x1.cap) x1.list) (Has.left (Has.each (Has.of mT2) (List.mem_of_getElem? hx2))) ?_;refine sp hT ?_;refine nn<|sr<|sp4 hT ?_;refine bP (z':=(((n+x1.list.length):Nat):Int)) (cL (by omega) (by omega)) ?_;refine sp hT ?_;refine nn<|sr<|sp2 hT ?_;refine cH (t':=false) (decide_eq_false (by omega)) ?_;refine nn<|cN rfl rfl ?_;refine bK<|cA<|bB<|bE<|sp hT ?_;refine bP (z':=(((i+1):Nat):Int)) (cL (by omega) (by omega)) ?_;refine sp hT ?_;refine nn ?_;exact cP (i+1,n+x1.list.length) (by dsimp only;omega) ⟨rfl,rfl,trivial⟩ ⟨rfl,rfl,rfl,trivial⟩ .nil ⟨Has.pure (⟨by dsimp only;omega,by dsimp only;omega⟩),trivial⟩ (bF.drop 2)
  have hc12:=Int.not_lt.1 (of_decide_eq_false hc12);refine cW<|cM<|cM<|cX<|bB<|sr<|sp hT ?_;refine bO Tryz.func174 (grow0_spec n (by have:=flat_le (L:=(xs.map (·.list))) i;omega)) rfl rfl .nil trivial fun⟨A3,c4⟩=>?_;refine sp hT ?_;refine nn<|bA<|sr<|sp3 hT ?_;refine nn<|bT<|dD (ι:=Nat×Option Addr×Nat) [(25,_),(26,_)] ⟨rfl,rfl,trivial⟩ (fun⟨i,A1,c1⟩=>[(6,.slice A1 ((xs.map (·.list)).take i).flatten.length c1),(27,.int .i64 (i:Nat))]) (fun⟨i,A1,c1⟩=>[cT.row (.slice A1 ((xs.map (·.list)).take i).flatten.length c1) 2 ((xs.map (·.list)).take i).flatten]) (fun⟨i,A1,c1⟩=>[Fact.pure (i≤xs.length)]) (fun⟨i,A1,c1⟩=>xs.length-i) (0,A3,c4) ⟨rfl,rfl,trivial⟩ (.cons .head .nil) ⟨Has.pure (Nat.zero_le _),trivial⟩ ?_;rintro⟨i,A1,c1⟩;dsimp only;refine cD (Has.of mT0) fun hinv11=>?_;refine sr<|sp hT ?_;refine nn<|bA<|bH rfl (fun hc28=>?_) (fun hc28=>?_)
  · have hc28:=of_decide_eq_true hc28;refine bK<|bB<|bA<|bT<|sr ?_
    obtain⟨x5,hx6⟩: ∃x',xs[i]?=some x':=⟨_,List.getElem?_eq_getElem (by omega)⟩
    refine ss (bS hT (k:=i) (bJ (Has.of mT2)) rfl rfl rfl rfl rfl rfl rfl (by omega)) ?_;refine ss (bZ hT (cR.knows (bJ (Has.of mT2)) (k:=i) (x:=x5) hx6 0) rfl rfl rfl rfl rfl) ?_;have hL:=nG (f:=fun s:Sl Int=>s.list) hx6;have hfl:=bKw hL;have hfn:=congrArg List.length hfl;rw [List.length_append] at hfn;have hfm:=flat_le (L:=(xs.map (·.list))) (i+1);refine bV (cT.sl (.slice x5.addr x5.list.length x5.cap) x5.list) (Has.left (Has.each (Has.of mT3) (List.mem_of_getElem? hx6))) ?_;refine sp hT ?_;refine nn<|bE<|sp2 hT ?_;refine jW .head (bJ (Has.of mT0)) rfl rfl rfl rfl rfl rfl rfl (by omega) fun A7 c8=>?_;rw [hfl];refine sp hT ?_;refine dU<|cA<|bB<|bE<|sp hT ?_;refine bP (z':=(((i+1):Nat):Int)) (cL (by omega) (by omega)) ?_;refine sp hT ?_;refine nn ?_;exact cP (i+1,A7,c8) (by dsimp only;omega) ⟨rfl,rfl,trivial⟩ ⟨rfl,rfl,trivial⟩ (.cons .head .nil) ⟨Has.pure (by omega),trivial⟩ (bF.drop 2)
  have hc28:=Int.not_lt.1 (of_decide_eq_false hc28);refine cW<|cM<|cM<|cX<|bB<|sr<|sp2 hT ?_;refine nn<|bG ?_;rw [List.take_of_length_le (by simp;omega)];exact bR (A1,c1) rfl (bD rfl) (.cons .head .nil) trivial rfl
end Go.Proofs.YtbgdphbebhjpiaaGreatDoor
namespace Go.Proofs.YtbgdphbebhjpiaaGreatDoor
open Go.RowKit
theorem bMd:(Tryz.prog.info? 189).bind (·.zero)=some (.slice none 0 0):=by kernel_rfl
theorem lanes_bad{a:Arr}(h:cO a=false):fF a=([],60):=by
  unfold fF;rw [if_pos h]
theorem lanes_none{a:Arr}(h:cO a=true)(h0:(a.data.length:Int)=0):fF a=([],0):=by
  have e:a.data=[]:=List.length_eq_zero_iff.1 (by omega);unfold fF;rw [if_neg (by simp [h]),e];rfl
set_option maxRecDepth 100000 in
theorem vH(x:ArrV)(hl:x.sides.list.length≤140737488355328)(hd:x.data.list.length≤1000000)(hcap:x.data.list.length≤x.data.cap):dH Tryz.prog 108 [.agg #[.slice x.sides.addr x.sides.list.length x.sides.cap,.slice x.data.addr x.data.list.length x.data.cap]] [] [cT.sl (.slice x.sides.addr x.sides.list.length x.sides.cap) x.sides.list,cT.sl (.slice x.data.addr x.data.list.length x.data.cap) x.data.list] (fun(y:Option Addr×Nat×List (Sl Int))=> .tuple #[.slice y.1 y.2.2.length y.2.1,.int .i64 (fF x.arr).2]) (fun(y:Option Addr×Nat×List (Sl Int))=>jN.row (.slice y.1 y.2.2.length y.2.1) 30 y.2.2::y.2.2.map laneRow) (fun(y:Option Addr×Nat×List (Sl Int))=>[Fact.pure (y.2.2.map (·.list)=(fF x.arr).1)]):=by
  have hT:=dA;generalize hR:fF x.arr=r;refine bFr Tryz.func108 rfl Tryz.ntmps108 rfl ?_;intro β hM;refine sr<|fL rfl rfl rfl rfl rfl rfl fun b1=>?_;refine sp2 hT ?_;refine nn<|bA<|sr<|ss (ldN hT (bL .head)) ?_;refine bO Tryz.func17 (jU x (by omega)) rfl rfl .nil ⟨Has.of mT0,trivial⟩ fun _=>?_;refine sp hT ?_;refine nn<|bH rfl (fun hc10=>?_) (fun hc10=>?_)
  · have hc10:=gC hc10;refine sr<|sp2 hT ?_;refine nn<|bG<|bC ?_;have hr:=hR.symm.trans (lanes_bad (by simp_all));subst hr;refine dQ (t:=30) jN ?_;refine tD ?_;exact bM (none,0,[]) rfl (bD rfl) (bD rfl) (.cons .head .nil) ⟨Has.pure rfl,trivial⟩ rfl
  have hc10:=fN hc10;refine bK<|bB<|bA<|sr<|sp hT ?_;refine ss (ldO hT (dB .head)) ?_;refine sp2 hT ?_;refine nn<|bH rfl (fun hc14=>?_) (fun hc14=>?_)
  · have hc14:=eq_of_beq hc14;refine sr<|sp2 hT ?_;refine nn<|bG<|bC ?_;have hr:=hR.symm.trans (lanes_none (by simp_all) (by show(x.data.list.length:Int)=0;omega));subst hr;refine dQ (t:=30) jN ?_;refine tD ?_;exact bM (none,0,[]) rfl (bD rfl) (bD rfl) (.cons .head .nil) ⟨Has.pure rfl,trivial⟩ rfl
  have hc14:=beq_eq_false_iff_ne.1 hc14;refine bK<|bB<|sr<|sp hT ?_;refine nn<|bA<|sr<|sp hT ?_;refine ss (ldO hT (bL .head)) ?_;refine sp2 hT ?_;refine nn<|sr<|sp2 hT ?_;refine nn<|bH rfl (fun hc19=>?_) (fun hc19=>?_)
  · have hc19:=of_decide_eq_true hc19;refine bE<|sp hT ?_;refine ss (ldO hT (bL .head)) ?_;refine sp2 hT ?_;refine bP (z':=(((x.sides.list.length-1):Nat):Int)) (cL (by omega) (by omega)) ?_
    obtain⟨x2,hx3⟩: ∃x',x.sides.list[(x.sides.list.length-1)]?=some x':=⟨_,List.getElem?_eq_getElem (by omega)⟩
    refine ss (bS hT (k:=(x.sides.list.length-1)) (bJ (Has.of mT0)) rfl rfl rfl rfl rfl rfl rfl (by omega)) ?_;refine ss (bZ hT (cR.knows (bJ (Has.of mT0)) (k:=(x.sides.list.length-1)) (x:=x2) hx3 0) rfl rfl rfl rfl rfl) ?_;refine sp hT ?_;refine nn<|bA ?_;have hrt:cO x.arr=true:=by simp_all
    have hne:x.arr.data≠[]:=fun e=>by
      have e2:x.data.list=[]:=e
      simp_all
    obtain⟨N,hN,hm,hL⟩:=lanes_eq hrt hne;have ev:=last_get hrt hx3;rw [ev];refine bE<|cE rfl rfl rfl rfl bMd rfl fun b4=>?_;refine nn<|bA<|sr<|sp hT ?_;refine ss (ldO hT (dB kT1)) ?_;refine sp hT ?_;refine bO Tryz.func173 (bIo _ _ (lastA x.arr) _ hm) rfl rfl .nil ⟨Has.of mT1,trivial⟩ fun ck5=>?_;refine nn<|bT<|cD (Has.addr (k:=0) (Has.of mT3) (by omega)) fun⟨db,doff,hda⟩=>?_;rw [hda];refine dQ (t:=30) jN ?_;refine bHo (R:=[_,_]) (.cons kT1 (.cons .head .nil)) ?_;refine bKm (Option Addr×Nat×List (Sl Int)) (fun k=>[(30,.slice (some ⟨db,doff+k*(lastA x.arr),none⟩) (lastA x.arr) (lastA x.arr))]) (fun k=>[(7,.slice (some ⟨db,doff+k*(lastA x.arr),none⟩) (lastA x.arr) (lastA x.arr)),(30,.slice (some ⟨db,doff+k*(lastA x.arr),none⟩) (lastA x.arr) (lastA x.arr))]) N (fun k ⟨A,cc,xs⟩=> .obj b4 (.cells #[.slice A xs.length cc] 189)::jN.row (.slice A xs.length cc) 30 xs::xs.map laneRow) (fun k ⟨A,cc,xs⟩=>[Fact.pure (xs.map (·.list)=(List.range k).map fun k=>((x.data.list.drop (k*(lastA x.arr))).take (lastA x.arr)))]) (none,0,[]) (chunk_it ck5.1 ck5.2 db doff _ _ N x.data.list hd hm hN hcap) rfl (cS Tryz.func227 rfl rfl) (fun _=>rfl) (fun k a f=>fitsA1 rfl f) (.refl _) ⟨Has.pure rfl,trivial⟩ ⟨Has.of mT0,Has.of mT1,trivial⟩ ?_ ?_ ?_
    · intro k K β' H' F' l m hK;refine bBy (fun⟨_,_,h⟩=>h) rfl ?_;refine sp hT ?_;refine dU ?_;exact bB hK
    · rintro β' l D r k ⟨A,cc,xs⟩ m hk;dsimp only;refine cD (Has.of mT0) fun hinv=>?_;refine bJv ?_;have hkm:=Nat.mul_le_mul_right (lastA x.arr) (Nat.succ_le_of_lt hk);rw [Nat.succ_mul] at hkm
      have hlen:((x.data.list.drop (k*(lastA x.arr))).take (lastA x.arr)).length=(lastA x.arr):=by
        rw [List.length_take,List.length_drop];have:x.data.list.length=N*(lastA x.arr):=hN;omega
      refine in_mixL (bCl uG) rfl 5 _ _ [(true,0),(true,1),(false,2),(false,3),(false,4)] cY (by decide+kernel) (.cons .head (.cons .head (.cons .head .nil))) bF.self ?_;refine stL rfl (ldO hT (bL kT2)) ?_;refine puL hT ?_;have cs:=dK (some ⟨db,doff+k*(lastA x.arr),none⟩) (lastA x.arr) ((x.data.list.drop (k*(lastA x.arr))).take (lastA x.arr)) (by have:x.data.list.length=N*(lastA x.arr):=hN;rw [hlen];omega);have ea:[Value.slice (some ⟨db,doff+k*(lastA x.arr),none⟩) ((x.data.list.drop (k*(lastA x.arr))).take (lastA x.arr)).length (lastA x.arr)]=[Value.slice (some ⟨db,doff+k*(lastA x.arr),none⟩) (lastA x.arr) (lastA x.arr)]:=by rw [hlen]
      rw [ea] at cs;refine jK (o:=_) rfl ?_;refine bO Tryz.func33 cs rfl rfl .nil ⟨by rw [hlen];exact bNn hlen (Has.of mT4),trivial⟩ fun⟨A2,c2⟩=>?_;refine jL (.cons kT1 (.cons kT1 (.cons kT1 .nil))) (bF.drop 0) ?_;refine jK (o:=_) rfl ?_;refine bDz (m:=⟨A2,c2,((x.data.list.drop (k*(lastA x.arr))).take (lastA x.arr))⟩) rfl rfl rfl rfl rfl fun bo=>?_;refine jL (.cons kT2 (.cons kT2 (.cons kT2 .nil))) (bF.drop 0) ?_;refine jK (o:=_) rfl ?_;refine bDs kT5 (dF .head rfl) rfl rfl rfl rfl rfl rfl rfl (by have e1:=congrArg List.length hinv;have e2:x.data.list.length=N*(lastA x.arr):=hN;simp at e1⊢;have e3:=Nat.le_mul_of_pos_right N (show 0<(lastA x.arr) by omega);omega) fun A' cap'=>?_;refine jL (.cons kT3 (.cons kT3 (.cons kT3 .nil))) (bF.drop 0) ?_;refine lF (o:=_) rfl ?_;refine sto hT kT5 ?_;refine nH<|cA<|bHo (R:=_::_::_::_::_::xs.map laneRow) (.cons kT3 (.cons kT3 (.cons kT3 (.cons .head (.cons .head (Sel.skip Sel.self)))))) ?_;refine zM (A',cap',xs++[⟨A2,c2,((x.data.list.drop (k*(lastA x.arr))).take (lastA x.arr))⟩]) (by rw [List.map_append];exact(List.perm_append_singleton _ (_::_::_::_::_)).symm) (bF.append ⟨Has.pure (by rw [List.map_append,hinv,List.range_succ,List.map_append];rfl),trivial⟩ (bF.drop 1))
    rintro D ⟨A,cc,xs⟩;dsimp only;refine cD (Has.of mT0) fun hinv=>?_;refine m_block ?_;refine bCm ?_;refine m_seq ?_;refine bIm ?_;refine ss (ldO hT (bL kT1)) ?_;refine sp2 hT ?_;refine m_nil ?_;refine bCm ?_;refine m_ret ?_;have hr:=hR.symm.trans hL;subst hr;refine bJn .head ?_;exact bM (A,cc,xs) rfl (bD rfl) (bD rfl) (.cons kT1 (Sel.skip Sel.self)) ⟨Has.pure hinv,trivial⟩ rfl
  have hc19:=Int.not_lt.1 (of_decide_eq_false hc19);refine bK<|bB<|bA ?_;have hrt:cO x.arr=true:=by simp_all
  have hne:x.arr.data≠[]:=fun e=>by
    have e2:x.data.list=[]:=e
    simp_all
  obtain⟨N,hN,hm,hL⟩:=lanes_eq hrt hne;have hl1:lastA x.arr=1:=last_none (by show x.sides.list.length≤0;omega);rw [hl1] at hm hN hL;refine bE<|cE rfl rfl rfl rfl bMd rfl fun b6=>?_;refine nn<|bA<|sr<|sp hT ?_;refine ss (ldO hT (dB kT1)) ?_;refine sp hT ?_;refine bO Tryz.func173 (bIo _ _ 1 _ hm) rfl rfl .nil ⟨Has.of mT1,trivial⟩ fun ck7=>?_;refine nn<|bT<|cD (Has.addr (k:=0) (Has.of mT3) (by omega)) fun⟨db,doff,hda⟩=>?_;rw [hda];refine dQ (t:=30) jN ?_;refine bHo (R:=[_,_]) (.cons kT1 (.cons .head .nil)) ?_;refine bKm (Option Addr×Nat×List (Sl Int)) (fun k=>[(30,.slice (some ⟨db,doff+k*1,none⟩) 1 1)]) (fun k=>[(7,.slice (some ⟨db,doff+k*1,none⟩) 1 1),(30,.slice (some ⟨db,doff+k*1,none⟩) 1 1)]) N (fun k ⟨A,cc,xs⟩=> .obj b6 (.cells #[.slice A xs.length cc] 189)::jN.row (.slice A xs.length cc) 30 xs::xs.map laneRow) (fun k ⟨A,cc,xs⟩=>[Fact.pure (xs.map (·.list)=(List.range k).map fun k=>((x.data.list.drop (k*1)).take 1))]) (none,0,[]) (chunk_it ck7.1 ck7.2 db doff _ _ N x.data.list hd hm hN hcap) rfl (cS Tryz.func227 rfl rfl) (fun _=>rfl) (fun k a f=>fitsA1 rfl f) (.refl _) ⟨Has.pure rfl,trivial⟩ ⟨Has.of mT0,Has.of mT1,trivial⟩ ?_ ?_ ?_
  · intro k K β' H' F' l m hK;refine bBy (fun⟨_,_,h⟩=>h) rfl ?_;refine sp hT ?_;refine dU ?_;exact bB hK
  · rintro β' l D r k ⟨A,cc,xs⟩ m hk;dsimp only;refine cD (Has.of mT0) fun hinv=>?_;refine bJv ?_;have hkm:=Nat.mul_le_mul_right 1 (Nat.succ_le_of_lt hk);rw [Nat.succ_mul] at hkm
    have hlen:((x.data.list.drop (k*1)).take 1).length=1:=by
      rw [List.length_take,List.length_drop];have:x.data.list.length=N*1:=hN;omega
    refine in_mixL (bCl uG) rfl 5 _ _ [(true,0),(true,1),(false,2),(false,3),(false,4)] cY (by decide+kernel) (.cons .head (.cons .head (.cons .head .nil))) bF.self ?_;refine stL rfl (ldO hT (bL kT2)) ?_;refine puL hT ?_;have cs:=dK (some ⟨db,doff+k*1,none⟩) 1 ((x.data.list.drop (k*1)).take 1) (by have:x.data.list.length=N*1:=hN;rw [hlen];omega);have ea:[Value.slice (some ⟨db,doff+k*1,none⟩) ((x.data.list.drop (k*1)).take 1).length 1]=[Value.slice (some ⟨db,doff+k*1,none⟩) 1 1]:=by rw [hlen]
    rw [ea] at cs;refine jK (o:=_) rfl ?_;refine bO Tryz.func33 cs rfl rfl .nil ⟨by rw [hlen];exact bNn hlen (Has.of mT4),trivial⟩ fun⟨A2,c2⟩=>?_;refine jL (.cons kT1 (.cons kT1 (.cons kT1 .nil))) (bF.drop 0) ?_;refine jK (o:=_) rfl ?_;refine bDz (m:=⟨A2,c2,((x.data.list.drop (k*1)).take 1)⟩) rfl rfl rfl rfl rfl fun bo=>?_;refine jL (.cons kT2 (.cons kT2 (.cons kT2 .nil))) (bF.drop 0) ?_;refine jK (o:=_) rfl ?_;refine bDs kT5 (dF .head rfl) rfl rfl rfl rfl rfl rfl rfl (by have e1:=congrArg List.length hinv;have e2:x.data.list.length=N*1:=hN;simp at e1⊢;have e3:=Nat.le_mul_of_pos_right N (show 0<1 by omega);omega) fun A' cap'=>?_;refine jL (.cons kT3 (.cons kT3 (.cons kT3 .nil))) (bF.drop 0) ?_;refine lF (o:=_) rfl ?_;refine sto hT kT5 ?_;refine nH<|cA<|bHo (R:=_::_::_::_::_::xs.map laneRow) (.cons kT3 (.cons kT3 (.cons kT3 (.cons .head (.cons .head (Sel.skip Sel.self)))))) ?_;refine zM (A',cap',xs++[⟨A2,c2,((x.data.list.drop (k*1)).take 1)⟩]) (by rw [List.map_append];exact(List.perm_append_singleton _ (_::_::_::_::_)).symm) (bF.append ⟨Has.pure (by rw [List.map_append,hinv,List.range_succ,List.map_append];rfl),trivial⟩ (bF.drop 1))
  rintro D ⟨A,cc,xs⟩;dsimp only;refine cD (Has.of mT0) fun hinv=>?_;refine m_block ?_;refine bCm ?_;refine m_seq ?_;refine bIm ?_;refine ss (ldO hT (bL kT1)) ?_;refine sp2 hT ?_;refine m_nil ?_;refine bCm ?_;refine m_ret ?_;have hr:=hR.symm.trans hL;subst hr;refine bJn .head ?_;exact bM (A,cc,xs) rfl (bD rfl) (bD rfl) (.cons kT1 (Sel.skip Sel.self)) ⟨Has.pure hinv,trivial⟩ rfl
end Go.Proofs.YtbgdphbebhjpiaaGreatDoor
namespace Go.Proofs.YtbgdphbebhjpiaaGreatDoor
open Go.RowKit
def pfn (b:Nat):Value:= .func (.func 179) #[] #[.pointer (some ⟨b,0,none⟩)]
theorem pair_built(b:Nat):Tryz.prog.built 246 [(0,pfn b)]=some #[pfn b,.int .i64 0]:=by kernel_rfl
def qE (bp bf:Nat)(w:Int):bW:= .obj bp (.cells [pfn bf,.int .i64 w].toArray 246)
def gS (y:ArrV):Fact:=((cT.sl (.slice y.sides.addr y.sides.list.length y.sides.cap) y.sides.list).and (cT.sl (.slice y.data.addr y.data.list.length y.data.cap) y.data.list)).and (Fact.pure (y.sides.list.length≤y.sides.cap∧y.data.list.length≤y.data.cap))
section
variable {F : List Fact} {y : ArrV}
theorem jM(h:Has F (gS y)):Has F (cT.sl (.slice y.sides.addr y.sides.list.length y.sides.cap) y.sides.list):=h.left.left
theorem kS(h:Has F (gS y)):Has F (cT.sl (.slice y.data.addr y.data.list.length y.data.cap) y.data.list):=h.left.right
theorem nM(h:Has F (gS y)):Has F (Fact.pure (y.sides.list.length≤y.sides.cap∧y.data.list.length≤y.data.cap)):=h.right
theorem fJ(hs:Has F (cT.sl (.slice y.sides.addr y.sides.list.length y.sides.cap) y.sides.list))(hd:Has F (cT.sl (.slice y.data.addr y.data.list.length y.data.cap) y.data.list))(hc:y.sides.list.length≤y.sides.cap∧y.data.list.length≤y.data.cap):Has F (gS y):=(hs.and hd).and (Has.pure hc)
end
def kD:ArrV:=⟨⟨none,0,[]⟩,⟨none,0,[]⟩⟩
theorem sN{F:List Fact}:Has F (cT.sl (.slice none 0 0) []):=fun _ _ _=>⟨none,0,rfl,fun k x hk=>by simp at hk⟩
theorem fV{F:List Fact}:Has F (gS kD):=fJ sN sN ⟨Nat.le_refl 0,Nat.le_refl 0⟩
theorem call_bad{f w a b:Int}(h:(oP f a b).2≠0):gH f w a b=((oP f a b).1,(oP f a b).2):=by
  unfold gH;rw [if_pos h]
theorem call_ok{f w a b:Int}(h:(oP f a b).2=0):gH f w a b=((oP f a b).1,w):=by
  unfold gH;rw [if_neg (by simp [h])]
theorem jX:(Tryz.prog.info? 42).bind (·.zero)=some (.agg #[.slice none 0 0,.slice none 0 0]):=by kernel_rfl
theorem oN:Tryz.prog.built 42 []=some #[.slice none 0 0,.slice none 0 0]:=by kernel_rfl
theorem nW(a0:Option Addr)(l0 c0:Nat)(a1:Option Addr)(l1 c1:Nat):Tryz.prog.built 42 [(0,.slice a0 l0 c0),(1,.slice a1 l1 c1)]=some #[.slice a0 l0 c0,.slice a1 l1 c1]:=by kernel_rfl
set_option maxRecDepth 100000 in
theorem of1_spec(bf:Nat)(f a b:Int):dH Tryz.prog 179 [.int .i64 a,.int .i64 b,.pointer (some ⟨bf,0,none⟩)] [] [Fact.cells bf 0 [.int .u8 f]] (fun(_:Unit)=> .tuple #[.int .i64 (oP f a b).1,.int .i64 (oP f a b).2]) (fun _=>[]) (fun _=>[]):=by
  have hT:=dA;refine cQ Tryz.func179 rfl Tryz.ntmps179 rfl ?_;intro β hM;refine sr<|sp2 hT ?_;refine nn<|sr<|ss (bZ hT (iQ (Has.of mT0)) rfl rfl rfl rfl rfl) ?_;refine sp2 hT ?_;refine bO Tryz.func178 (bNp f a b) rfl rfl .nil trivial fun _=>?_;refine sp4 hT ?_;refine nn<|bG ?_;exact bM () rfl (bD rfl) (bD rfl) .nil trivial (rfl)
set_option maxRecDepth 100000 in
theorem bFd(f:Int):dH Tryz.prog 114 [.int .u8 f] [] [] (fun(x:Nat×Nat)=> .pointer (some ⟨x.2,0,none⟩)) (fun(x:Nat×Nat)=>[qE x.2 x.1 0]) (fun(x:Nat×Nat)=>[Fact.cells x.1 0 [.int .u8 f]]):=by
  have hT:=dA;refine cQ Tryz.func114 rfl Tryz.ntmps114 rfl ?_;intro β hM;refine sr<|fL rfl rfl rfl rfl rfl rfl fun b1=>?_;refine sp hT ?_;refine nn<|bA<|iV .head ?_;refine bE<|sp hT ?_;refine ss (bY rfl rfl (pair_built b1)) ?_;refine fL rfl rfl rfl rfl rfl rfl fun b2=>?_;refine sp hT ?_;refine nn<|bG ?_;exact bR (b1,b2) rfl (bD rfl) (.cons .head .nil) ⟨Has.of mT0,trivial⟩ rfl
set_option maxRecDepth 100000 in
theorem qW(bp bf:Nat)(f w a b:Int):dH Tryz.prog 117 [.pointer (some ⟨bp,0,none⟩),.int .i64 a,.int .i64 b] [qE bp bf w] [Fact.cells bf 0 [.int .u8 f]] (fun(_:Unit)=> .int .i64 (gH f w a b).1) (fun(_:Unit)=>[qE bp bf (gH f w a b).2]) (fun _=>[]):=by
  have hT:=dA;generalize hR:gH f w a b=r;refine cQ Tryz.func117 rfl Tryz.ntmps117 rfl ?_;intro β hM;refine sr<|sp hT ?_;refine nn<|sr<|sp3 hT ?_;refine ss (ldO hT (bL .head)) ?_;refine sp2 hT ?_;refine gZ (cS Tryz.func179 rfl rfl) (of1_spec bf f a b) rfl rfl rfl rfl rfl rfl rfl .nil ⟨(Has.of mT0),trivial⟩ fun _=>?_;refine sp4 hT ?_;refine sp hT ?_;refine nn<|bA<|sr<|sp2 hT ?_;refine nn<|bH rfl (fun hc20=>?_) (fun hc20=>?_)
  · have hc20:=bne_iff_ne.1 hc20;refine bE<|sp4 hT ?_;refine sto hT .head ?_;refine nn<|sr<|sp2 hT ?_;refine nn<|bG ?_;have hr:=hR.symm.trans (call_bad (by assumption));subst hr;exact bR () rfl (bD rfl) (.cons .head .nil) trivial rfl
  have hc20:=bne_eq_false_iff_eq.1 hc20;refine bK<|bB<|sr<|sp2 hT ?_;refine nn<|bG ?_;have hr:=hR.symm.trans (call_ok (by assumption));subst hr;exact bR () rfl (bD rfl) (.cons .head .nil) trivial rfl
set_option maxRecDepth 100000 in
theorem oW(bp bf:Nat)(w:Int)(hw:w≠0)(A B:Option Addr)(la ca lb cb:Nat):dH Tryz.prog 116 [.pointer (some ⟨bp,0,none⟩),.slice A la ca,.slice B lb cb] [qE bp bf w] [] (fun(_:Unit)=> .tuple #[.agg #[.slice none 0 0,.slice none 0 0],.int .i64 w]) (fun(_:Unit)=>[qE bp bf w]) (fun _=>[]):=by
  have hT:=dA;refine cQ Tryz.func116 rfl Tryz.ntmps116 rfl ?_;intro β hM;refine sr<|cE rfl rfl rfl rfl jX rfl fun b1=>?_;refine sp hT ?_;refine nn<|bA<|sr<|sp3 hT ?_;refine ss (ldO hT (dB kT1)) ?_;refine sp hT ?_;refine cH (t':=true) (bne_iff_ne.2 hw) ?_;refine nn<|cI rfl rfl ?_;refine bA<|cU _ _ [(true,0),(true,1),(true,2),(true,3),(true,4),(false,5),(true,6)] cY (by decide+kernel) (.cons kT1 .nil) bF.self ?_;refine stM rfl (bY rfl rfl (oN)) ?_;refine puM hT ?_;refine puM hT ?_;refine puM hT ?_;refine stM rfl (ldO hT (dB .head)) ?_;refine cC (o:=_) rfl ?_;refine sto hT .head ?_;refine cB (.cons kT1 .nil) trivial ?_;refine puM hT ?_;refine cK<|bB<|bG<|bC ?_;exact bM () rfl (bN hT (bL .head) rfl rfl rfl rfl) (bD rfl) (.cons kT1 .nil) trivial rfl
set_option maxRecDepth 100000 in
theorem nO(bp bf:Nat)(w:Int)(hw:w=0)(A B:Option Addr)(la ca lb cb:Nat):dH Tryz.prog 116 [.pointer (some ⟨bp,0,none⟩),.slice A la ca,.slice B lb cb] [qE bp bf w] [] (fun(_:Unit)=> .tuple #[.agg #[.slice A la ca,.slice B lb cb],.int .i64 0]) (fun(_:Unit)=>[qE bp bf w]) (fun _=>[]):=by
  have hT:=dA;refine cQ Tryz.func116 rfl Tryz.ntmps116 rfl ?_;intro β hM;refine sr<|cE rfl rfl rfl rfl jX rfl fun b1=>?_;refine sp hT ?_;refine nn<|bA<|sr<|sp3 hT ?_;refine ss (ldO hT (dB kT1)) ?_;refine sp hT ?_;refine cH (t':=false) (bne_eq_false_iff_eq.2 hw) ?_;refine nn<|cN rfl rfl ?_;refine bK<|bB<|sr<|sp2 hT ?_;refine ss (bY rfl rfl (nW _ _ _ _ _ _)) ?_;refine sto hT .head ?_;refine sp hT ?_;refine nn<|bG ?_;exact bM () rfl (bN hT (bL .head) rfl rfl rfl rfl) (bD rfl) (.cons kT1 .nil) trivial rfl
set_option maxRecDepth 100000 in
theorem dC(e:Int):dH Tryz.prog 105 [.int .i64 e] [] [] (fun(_:Unit)=> .tuple #[.agg #[.slice none 0 0,.slice none 0 0],.int .i64 e]) (fun _=>[]) (fun _=>[]):=by
  have hT:=dA;refine cQ Tryz.func105 rfl Tryz.ntmps105 rfl ?_;intro β hM;refine sr<|cE rfl rfl rfl rfl jX rfl fun b1=>?_;refine sp hT ?_;refine nn<|sr<|ss (bY rfl rfl (oN)) ?_;refine sp hT ?_;refine sto hT .head ?_;refine sp hT ?_;refine nn<|bG ?_;exact bM () rfl (bN hT (bL .head) rfl rfl rfl rfl) (bD rfl) .nil trivial (rfl)
set_option maxRecDepth 100000 in
theorem fR(A B:Option Addr)(ca lb cb:Nat)(sides:List Int)(hl:sides.length≤17592186044416):dH Tryz.prog 107 [.slice A sides.length ca,.slice B lb cb] [] [cT.sl (.slice A sides.length ca) sides] (fun(x:Option Addr×Nat)=> .tuple #[.agg #[.slice x.1 sides.length x.2,.slice B lb cb],.int .i64 0]) (fun _=>[]) (fun(x:Option Addr×Nat)=>[cT.sl (.slice x.1 sides.length x.2) sides,Fact.pure (sides.length≤x.2)]):=by
  have hT:=dA;refine cQ Tryz.func107 rfl Tryz.ntmps107 rfl ?_;intro β hM;refine sr<|cE rfl rfl rfl rfl jX rfl fun b1=>?_;refine sp hT ?_;refine nn<|sr<|sp hT ?_;refine bO Tryz.func33 (dK _ _ _ (by omega)) rfl rfl .nil ⟨(Has.of mT0),trivial⟩ fun⟨A2,c3⟩=>?_;refine sp hT ?_;refine ss (bY rfl rfl (nW _ _ _ _ _ _)) ?_;refine sto hT kT1 ?_;refine sp hT ?_;refine nn<|bG<|fC kT1 fun hcp=>?_;refine bX kT1 ?_;exact bM (A2,c3) rfl (bN hT (bL .head) rfl rfl rfl rfl) (bD rfl) .nil ⟨(Has.of mT0),Has.pure hcp,trivial⟩ rfl
end Go.Proofs.YtbgdphbebhjpiaaGreatDoor
namespace Go.Proofs.YtbgdphbebhjpiaaGreatDoor
open Go.RowKit
section
variable {a : Arr} {z : Int}
theorem zV(h:cO a=true)(h0:a.sides.length≤0):a.data.length=1:=by
  have e:a.sides=[]:=List.length_eq_zero_iff.1 (by omega);obtain⟨_,hp⟩:=fZ.1 h;rw [e] at hp;have:dI ([]:List Int)=1:=rfl;omega
theorem dT{α:Type}{E:Flat α}{F:List Fact}{A:Option Addr}{m c:Nat}{l:List α}(h:Has F (E.sl (.slice A m c) l))(e:m=l.length):Has F (E.sl (.slice A l.length c) l):=e▸h
theorem mE{l:List Int}(h:l[0]?=some z):l.headD 0=z:=by
  cases l with
  | nil=>cases h
  | cons x r=>simpa using h
theorem nil_of{l:List Int}(h:l.length≤0):l=[]:=List.length_eq_zero_iff.1 (by omega)
theorem iota_a(h:0<a.sides.length):uS a=gJ 71:=by
  unfold uS;rw [if_pos (fun e=>by rw [e] at h;simp at h)]
theorem iota_b(h:a.sides.length≤0)(hz:a.data[0]?=some z)(hb:z<0∨65536<z):uS a=gJ 73:=by
  unfold uS;rw [if_neg (by rw [nil_of h];simp),mE hz,if_pos (by unfold lX;rcases hb with hb | hb<;>simp [hb])]
theorem iota_c{m:Nat}(h:a.sides.length≤0)(hz:a.data[0]?=some ((m:Nat):Int))(hb: ¬(65536:Int)<m):uS a=(⟨[((m:Nat):Int)],(List.range m).map fun i:Nat=>(i:Int)⟩,0):=by
  unfold uS;rw [if_neg (by rw [nil_of h];simp),mE hz,if_neg (by unfold lX;simp;omega)];simp
def bHh (G:Nat→Int)(n:Nat)(cur:List Int)(i:Nat):Prop:=cur.length=n∧cur.take i=(List.range i).map G
theorem bCd(G:Nat→Int)(n:Nat):bHh G n (List.replicate n 0) 0:=⟨by simp,by simp⟩
theorem bJt{G:Nat→Int}{n:Nat}{cur:List Int}{i:Nat}{v:Int}(h:bHh G n cur i)(hi:i<n)(hv:v=G i):bHh G n (cur.set i v) (i+1):=by
  subst hv;obtain⟨h1,h2⟩:=h;exact⟨by simpa using h1,by rw [sQ (by omega),h2,List.range_succ,List.map_append];rfl⟩
theorem gen_end{G:Nat→Int}{n:Nat}{cur:List Int}{i:Nat}(h:bHh G n cur i)(hi:n≤i)(hn:i≤n):cur=(List.range n).map G:=by
  obtain⟨h1,h2⟩:=h;obtain rfl:i=n:=by omega
  rw [←h2,List.take_of_length_le (by omega)]
def turnG (s d:List Int)(i:Nat):Int:=atI d (mL s (jC s.reverse (i:Nat)).1.reverse).1
theorem idx_len{a:Arr}(h:cO a=true){i:Nat}(hi:i<a.data.length):(jC a.sides.reverse (i:Nat)).1.length≤4:=by
  obtain⟨hs,hp⟩:=fZ.1 h;have hw:=(bAp hs.reverse (p:=(i:Nat)) (by omega) (by rw [lH];omega)).2.len;have h4:=hs.len;rw [hw,List.length_reverse];exact h4
theorem turn_eq(a:Arr):bMk a=⟨a.sides.reverse,(List.range a.data.length).map (turnG a.sides a.data)⟩:=rfl
theorem turn_at{s d:List Int}{i k:Nat}{x:Int}(h:mL s (jC s.reverse (i:Nat)).1.reverse=(((k:Nat):Int),0))(hx:d[k]?=some x):x=turnG s d i:=by
  unfold turnG atI;rw [h];simp [List.getD,hx]
end
set_option maxRecDepth 100000 in
theorem iotaS_spec(x:ArrV)(hx:cO x.arr=true):dH Tryz.prog 106 [.agg #[.slice x.sides.addr x.sides.list.length x.sides.cap,.slice x.data.addr x.data.list.length x.data.cap]] [] [gS x] (fun(y:ArrV)=> .tuple #[.agg #[.slice y.sides.addr y.sides.list.length y.sides.cap,.slice y.data.addr y.data.list.length y.data.cap],.int .i64 (uS x.arr).2]) (fun _=>[]) (fun(y:ArrV)=>[gS y,Fact.pure (y.arr=(uS x.arr).1)]):=by
  have hT:=dA;generalize hR:uS x.arr=r;refine cQ Tryz.func106 rfl Tryz.ntmps106 rfl ?_;intro β hM;refine bA<|bV (cT.sl (.slice x.data.addr x.data.list.length x.data.cap) x.data.list) (kS (Has.of mT0)) ?_;refine bV (cT.sl (.slice x.sides.addr x.sides.list.length x.sides.cap) x.sides.list) (jM (Has.of mT1)) ?_;refine cD (nM (Has.of mT2)) fun hcap=>?_;have hcs:=hcap.1;have hcd:=hcap.2;have hs4:x.sides.list.length≤4:=iG hx;have hd6:x.data.list.length≤65536:=hO hx;refine bE<|fL rfl rfl rfl rfl rfl rfl fun b1=>?_;refine cE rfl rfl rfl rfl jX rfl fun b2=>?_;refine sp hT ?_;refine nn<|bA<|sr<|sp hT ?_;refine ss (ldO hT (bL kT1)) ?_;refine sp2 hT ?_;refine nn<|bH rfl (fun hc10=>?_) (fun hc10=>?_)
  · have hc10:=of_decide_eq_true hc10;refine sr<|bO Tryz.func105 (dC _) rfl rfl .nil trivial fun _=>?_;refine sp2 hT ?_;refine sto hT .head ?_;refine sp hT ?_;refine nn<|bG<|bC ?_;have hr:=hR.symm.trans (iota_a (by show 0<x.sides.list.length;omega));subst hr;exact bM kD rfl (bN hT (bL .head) rfl rfl rfl rfl) (bD rfl) .nil ⟨fV,Has.pure rfl,trivial⟩ rfl
  have hc10:=Int.not_lt.1 (of_decide_eq_false hc10);refine bK<|bB<|bA ?_;have hd1:x.data.list.length=1:=zV hx (by show x.sides.list.length≤0;omega);refine bE<|sp hT ?_;refine ss (ldO hT (dB kT1)) ?_
  obtain⟨x3,hx4⟩: ∃x',x.data.list[0]?=some x':=⟨_,List.getElem?_eq_getElem (by omega)⟩
  refine ss (bS hT (k:=0) (bJ (Has.of mT1)) rfl rfl rfl rfl rfl rfl rfl (by omega)) ?_;refine ss (bZ hT (cR.knows (bJ (Has.of mT1)) (k:=0) (x:=x3) hx4 0) rfl rfl rfl rfl rfl) ?_;refine sp hT ?_;refine nn<|bA<|sr<|sp3 hT ?_;refine cF (fun hg20=>?_) (fun hg20=>?_)
  · have hg20:=of_decide_eq_true hg20;refine sk2 ?_;refine sp hT ?_;refine nn<|cI rfl rfl ?_;refine sr<|bO Tryz.func105 (dC _) rfl rfl .nil trivial fun _=>?_;refine sp2 hT ?_;refine sto hT .head ?_;refine sp hT ?_;refine nn<|bG<|bC ?_;have hr:=hR.symm.trans (iota_b (by show x.sides.list.length≤0;omega) hx4 (by first | exact .inl (by assumption) | exact .inr (by assumption)));subst hr;exact bM kD rfl (bN hT (bL .head) rfl rfl rfl rfl) (bD rfl) .nil ⟨fV,Has.pure rfl,trivial⟩ rfl
  have hg20:=Int.not_lt.1 (of_decide_eq_false hg20);refine sp3 hT ?_;refine nn<|bH rfl (fun hc23=>?_) (fun hc23=>?_)
  · have hc23:=of_decide_eq_true hc23;refine sr<|bO Tryz.func105 (dC _) rfl rfl .nil trivial fun _=>?_;refine sp2 hT ?_;refine sto hT .head ?_;refine sp hT ?_;refine nn<|bG<|bC ?_;have hr:=hR.symm.trans (iota_b (by show x.sides.list.length≤0;omega) hx4 (by first | exact .inl (by assumption) | exact .inr (by assumption)));subst hr;exact bM kD rfl (bN hT (bL .head) rfl rfl rfl rfl) (bD rfl) .nil ⟨fV,Has.pure rfl,trivial⟩ rfl
  have hc23:=Int.not_lt.1 (of_decide_eq_false hc23);refine bK<|bB<|bA ?_
  obtain⟨m,hm⟩: ∃m:Nat,x3=(m:Int):=⟨x3.toNat,by omega⟩
  subst hm;refine bE<|sp hT ?_;refine pQ (m:=m) rfl rfl rfl rfl rfl rfl (by omega) fun b5=>?_;refine sp hT ?_;refine nn<|bA<|sr<|sp3 hT ?_;refine nn<|bT<|dD (ι:=Nat×List Int) [(2,_),(4,_),(5,_),(30,_)] ⟨rfl,rfl,rfl,rfl,trivial⟩ (fun⟨i,cur⟩=>[(31,.int .i64 (i:Nat))]) (fun⟨i,cur⟩=>[cT.row (.slice (some ⟨b5,0,none⟩) m m) 2 cur]) (fun⟨i,cur⟩=>[Fact.pure (i≤m∧bHh (fun i:Nat=>(i:Int)) m cur i)]) (fun⟨i,cur⟩=>m-i) (0,List.replicate m 0) ⟨rfl,trivial⟩ (.cons .head .nil) ⟨Has.pure (⟨by omega,bCd _ _⟩),trivial⟩ ?_;rintro⟨i,cur⟩;dsimp only;refine cD (Has.of mT0) fun hinv8=>?_;refine sr<|sp hT ?_;refine nn<|bA<|bH rfl (fun hc32=>?_) (fun hc32=>?_)
  · have hc32:=of_decide_eq_true hc32;refine bK<|bB<|bA<|bT<|sr<|sp2 hT ?_;refine nn<|bE<|sp3 hT ?_
    obtain⟨x6,hx7⟩: ∃x',cur[i]?=some x':=⟨_,List.getElem?_eq_getElem (by have:=hinv8.2.1;omega)⟩
    refine ss (fI hT (k:=i) rfl rfl rfl rfl rfl rfl (by have:=hinv8.2.1;omega)) ?_;refine dJ hT (k:=i) (fo:=0) (y':=((i:Nat):Int)) .head rfl rfl rfl rfl rfl rfl rfl rfl rfl hx7 rfl ?_;refine dU<|cA<|bB<|bE<|sp hT ?_;refine bP (z':=(((i+1):Nat):Int)) (cL (by omega) (by omega)) ?_;refine sp hT ?_;refine nn ?_;exact cP (i+1,_) (by dsimp only;omega) ⟨rfl,trivial⟩ ⟨rfl,rfl,rfl,rfl,trivial⟩ (.cons .head (.cons .head (.cons .head .nil))) ⟨Has.pure (⟨by dsimp only;omega,bJt hinv8.2 (by omega) rfl⟩),trivial⟩ (bF.drop 1)
  have hc32:=Int.not_lt.1 (of_decide_eq_false hc32);refine cW<|cM<|cM<|cX<|bB<|bA ?_;have hge:=gen_end hinv8.2 (by omega) (by omega);subst hge;refine bE<|sp hT ?_;refine fT (m:=((m:Nat):Int)) rfl rfl rfl rfl rfl fun b8=>?_;refine dL (E:=cT) (xs:=[((m:Nat):Int)]) .head (by simp [maxLen]) ?_;refine sp hT ?_;refine bX .head ?_;refine fC .head fun hgc=>?_;refine bX .head ?_;refine bO Tryz.func107 (fR _ _ _ _ _ [((m:Nat):Int)] (by first | omega | (simp;done) | (simp;omega))) rfl rfl .nil ⟨(Has.of mT1),trivial⟩ fun⟨A9,c10⟩=>?_;refine cD (Has.of mT1) fun hgs=>?_;refine sp2 hT ?_;refine sto hT .head ?_;refine sp hT ?_;refine nn<|bG ?_;have hr:=hR.symm.trans (iota_c (by show x.sides.list.length≤0;omega) hx4 (by omega));subst hr;exact bM (⟨⟨A9,c10,[((m:Nat):Int)]⟩,⟨(some ⟨b5,0,none⟩),m,((List.range m).map fun i:Nat=>(i:Int))⟩⟩:ArrV) rfl (bN hT (bL .head) rfl rfl rfl rfl) (bD rfl) .nil ⟨fJ (dT (Has.of mT0) (by first | rfl | (simp;done))) (dT (Has.of mT2) (by first | rfl | exact hlen.symm | (simp;done) | (simp;omega) | (simp [cZ];done))) ⟨hgs,hgc⟩,Has.pure rfl,trivial⟩ (by first | rfl | (simp;done) | (simp;omega) | (simp [cZ];done))
set_option maxRecDepth 100000 in
theorem turnS_spec(x:ArrV)(hx:cO x.arr=true):dH Tryz.prog 111 [.agg #[.slice x.sides.addr x.sides.list.length x.sides.cap,.slice x.data.addr x.data.list.length x.data.cap]] [] [gS x] (fun(y:ArrV)=> .tuple #[.agg #[.slice y.sides.addr y.sides.list.length y.sides.cap,.slice y.data.addr y.data.list.length y.data.cap],.int .i64 ((bMk x.arr,(0:Int))).2]) (fun _=>[]) (fun(y:ArrV)=>[gS y,Fact.pure (y.arr=((bMk x.arr,(0:Int))).1)]):=by
  have hT:=dA;generalize hR:(bMk x.arr,(0:Int))=r;refine cQ Tryz.func111 rfl Tryz.ntmps111 rfl ?_;intro β hM;refine bA<|bV (cT.sl (.slice x.data.addr x.data.list.length x.data.cap) x.data.list) (kS (Has.of mT0)) ?_;refine bV (cT.sl (.slice x.sides.addr x.sides.list.length x.sides.cap) x.sides.list) (jM (Has.of mT1)) ?_;refine cD (nM (Has.of mT2)) fun hcap=>?_;have hcs:=hcap.1;have hcd:=hcap.2;have hs4:x.sides.list.length≤4:=iG hx;have hd6:x.data.list.length≤65536:=hO hx;refine bE<|fL rfl rfl rfl rfl rfl rfl fun b1=>?_;refine cE rfl rfl rfl rfl jX rfl fun b2=>?_;refine sp hT ?_;refine nn<|sr<|sp hT ?_;refine ss (ldO hT (bL kT1)) ?_;refine bO Tryz.func33 (dK _ _ _ (by omega)) rfl rfl .nil ⟨(Has.of mT0),trivial⟩ fun⟨A3,c4⟩=>?_;refine sp hT ?_;refine nn<|sr<|sp hT ?_;refine bO Tryz.func109 (tX _ _ x.sides.list (by first | omega | (simp;done) | (simp;omega))) rfl rfl (.cons .head .nil) trivial fun _=>?_;refine nn<|sr<|sp hT ?_;refine ss (ldO hT (dB kT2)) ?_;refine sp hT ?_;refine pQ (m:=x.data.list.length) rfl rfl rfl rfl rfl rfl (by omega) fun b5=>?_;refine sp hT ?_;refine nn<|bA<|bA<|bX kT1 ?_;refine bE<|sp3 hT ?_;refine nn<|bT<|dD (ι:=Nat×List Int) [(1,_),(2,_),(4,_),(5,_),(21,_)] ⟨rfl,rfl,rfl,rfl,rfl,trivial⟩ (fun⟨i,cur⟩=>[(22,.int .i64 (i:Nat))]) (fun⟨i,cur⟩=>[cT.row (.slice (some ⟨b5,0,none⟩) x.data.list.length x.data.list.length) 2 cur]) (fun⟨i,cur⟩=>[Fact.pure (i≤x.data.list.length∧bHh (turnG x.sides.list x.data.list) x.data.list.length cur i)]) (fun⟨i,cur⟩=>x.data.list.length-i) (0,List.replicate x.data.list.length 0) ⟨rfl,trivial⟩ (.cons .head .nil) ⟨Has.pure (⟨by omega,bCd _ _⟩),trivial⟩ ?_;rintro⟨i,cur⟩;dsimp only;refine cD (Has.of mT0) fun hinv5=>?_;refine sr<|sp hT ?_;refine nn<|bA<|bH rfl (fun hc23=>?_) (fun hc23=>?_)
  · have hc23:=of_decide_eq_true hc23;refine bK<|bB<|bA<|bT<|sr<|sp2 hT ?_;refine nn<|sr<|sp2 hT ?_;have isp:=indexA_spec A3 c4 x.sides.list.reverse (by simp;omega) (i:Nat);simp only [List.length_reverse] at isp;refine bO Tryz.func175 isp rfl rfl .nil ⟨(Has.of mT1),trivial⟩ fun⟨A6,c7⟩=>?_;refine sp4 hT ?_;refine sp hT ?_;refine nn<|bA ?_;have hil:(jC x.sides.list.reverse (i:Nat)).1.length≤4:=idx_len hx (i:=i) (show i<x.data.list.length by omega);refine bE<|sp hT ?_;refine bO Tryz.func109 (tX _ _ (jC x.sides.list.reverse (i:Nat)).1 (by first | omega | (simp;done) | (simp;omega))) rfl rfl (.cons .head .nil) trivial fun _=>?_;refine nn<|bA ?_;obtain⟨z0,hz0,hz1,hz2⟩:=turn_place hx (i:=i) (show i<x.data.list.length by omega)
    obtain⟨k,rfl⟩: ∃k:Nat,z0=(k:Int):=⟨z0.toNat,by omega⟩
    have hz2':(k:Int)<x.data.list.length:=hz2;have hz0':mL x.sides.list (jC x.sides.list.reverse (i:Nat)).1.reverse=(((k:Nat):Int),0):=hz0;refine bE<|sp hT ?_;refine ss (ldO hT (bL kT3)) ?_;refine sp hT ?_;have psp:=fun(A B:Option Addr) (ca cb:Nat)=>place_spec A B ca cb x.sides.list (jC x.sides.list.reverse (i:Nat)).1.reverse (by omega);simp only [List.length_reverse] at psp;refine kR (cS Tryz.func176 rfl rfl) (psp _ _ _ _) rfl rfl rfl rfl rfl .nil (.cons .head .nil) (pA oT) ⟨Has.of mT3,Has.of mT0,trivial⟩ (fun _=>True) (fun _ _ _ _=>trivial) fun _ _=>?_;refine sp2 hT ?_;refine bP (z':=((k:Nat):Int)) (by rw [hz0']) ?_;refine sp3 hT ?_;refine nn<|bE<|sp3 hT ?_;refine ss (ldO hT (dB kT3)) ?_;refine sp hT ?_
    obtain⟨x8,hx9⟩: ∃x',x.data.list[k]?=some x':=⟨_,List.getElem?_eq_getElem (by omega)⟩
    refine ss (bS hT (k:=k) (bJ (Has.of mT3)) rfl rfl rfl rfl rfl rfl rfl (by omega)) ?_;refine ss (bZ hT (cR.knows (bJ (Has.of mT3)) (k:=k) (x:=x8) hx9 0) rfl rfl rfl rfl rfl) ?_
    obtain⟨x10,hx11⟩: ∃x',cur[i]?=some x':=⟨_,List.getElem?_eq_getElem (by have:=hinv5.2.1;omega)⟩
    refine ss (fI hT (k:=i) rfl rfl rfl rfl rfl rfl (by have:=hinv5.2.1;omega)) ?_;refine dJ hT (k:=i) (fo:=0) (y':=x8) kT1 rfl rfl rfl rfl rfl rfl rfl rfl rfl hx11 rfl ?_;refine dU<|cA<|bB<|bE<|sp hT ?_;refine bP (z':=(((i+1):Nat):Int)) (cL (by omega) (by omega)) ?_;refine sp hT ?_;refine nn ?_;exact cP (i+1,_) (by dsimp only;omega) ⟨rfl,trivial⟩ ⟨rfl,rfl,rfl,rfl,rfl,trivial⟩ (.cons .head (.cons kT1 (.cons kT1 .nil))) ⟨Has.pure (⟨by dsimp only;omega,bJt hinv5.2 (by omega) (turn_at hz0' hx9)⟩),trivial⟩ (bF.drop 1)
  have hc23:=Int.not_lt.1 (of_decide_eq_false hc23);refine cW<|cM<|cM<|cX<|bB<|bA ?_;have hge:=gen_end hinv5.2 (by omega) (by omega);subst hge;refine bE<|sp2 hT ?_;refine fC .head fun hgc=>?_;refine bX .head ?_;have gsp:=fun(B:Option Addr) (lb cb:Nat)=>fR A3 B c4 lb cb x.sides.list.reverse (by first | (simp;done) | (simp;omega));simp only [List.length_reverse] at gsp;refine bO Tryz.func107 (gsp _ _ _) rfl rfl .nil ⟨(Has.of mT2),trivial⟩ fun⟨A12,c13⟩=>?_;refine cD (Has.of mT1) fun hgs=>?_;refine sp2 hT ?_;refine sto hT .head ?_;refine sp hT ?_;refine nn<|bG ?_;have hr:=hR.symm.trans (congrArg (·,(0:Int)) (turn_eq x.arr));subst hr;exact bM (⟨⟨A12,c13,x.sides.list.reverse⟩,⟨(some ⟨b5,0,none⟩),x.data.list.length,((List.range x.data.list.length).map (turnG x.sides.list x.data.list))⟩⟩:ArrV) rfl (bN hT (bL .head) rfl rfl rfl rfl) (bD rfl) .nil ⟨fJ (dT (Has.of mT0) (by first | rfl | (simp;done))) (dT (Has.of mT2) (by first | rfl | exact hlen.symm | (simp;done) | (simp;omega) | (simp [cZ];done))) ⟨by first | exact hgs | simpa using hgs,hgc⟩,Has.pure rfl,trivial⟩ (by first | rfl | (simp;done) | (simp;omega) | (simp [cZ];done))
end Go.Proofs.YtbgdphbebhjpiaaGreatDoor
