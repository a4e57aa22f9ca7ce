/- Texts of one proof, one behind the other: WordS, ArrS, Iter, Rng, Mark, ItC, CopyI, ArrI, Rev, LanesL, PrimL. -/
import Derived.Test.YtbgdphbebhjpiaaGreatDoorM10
import Derived.RangeFuncBox
import Derived.RangeFuncLeaves
import Derived.RangeFuncBound
import Derived.RangeFuncCalls
import Derived.Shelf.Abstract
import Derived.WalkKit
import Derived.OwnWalkIn
import Derived.TacticsInMore
import Derived.LoopNIn
import Derived.LoopIn
import Derived.Test.YtbgdphbebhjpiaaGreatDoorM4
import Derived.OrdersIn
import Derived.RangeFuncNested
import Derived.Test.YtbgdphbebhjpiaaGreatDoorM2
import Derived.Laws.IdiomCopy
namespace Go.Proofs.YtbgdphbebhjpiaaGreatDoor
open Go.RowKit
theorem bad_a{n:Int}(h:n<0):Value.bool true= .bool (oF n):=by simp [oF,h]
theorem bad_b{n:Int}(h: ¬n<0):Value.bool (decide (65536<n))= .bool (oF n):=by simp [oF,h]
section
variable {l : List Int} {n s m : Int} {i : Nat} {r : Int × Int}
theorem bGo(h:4<l.length∨l.any oF=true):mU l=(0,61):=by rw [mU,if_pos h]
theorem size_zero(h1: ¬4<l.length)(h2:l.any oF=false)(h3:l.contains 0=true):mU l=(0,0):=by rw [mU,if_neg (by rw [h2];simp;omega),if_pos h3]
theorem size_prod(h1: ¬4<l.length)(h2:l.any oF=false)(h3:l.contains 0=false):mU l=pW l 1:=by rw [mU,if_neg (by rw [h2];simp;omega),if_neg (by rw [h3];simp)]
theorem prod_big(h:r=pW (l.drop i) n)(hx:l[i]?=some s)(hb:65536<w64 (n*s)):r=(0,61):=by
 rw [gO hx,pW,if_pos hb] at h;exact h
theorem bKw(h:r=pW (l.drop i) n)(hx:l[i]?=some s)(hb: ¬65536<w64 (n*s)):r=pW (l.drop (i+1)) (w64 (n*s)):=by
 rw [gO hx,pW,if_neg hb] at h;exact h
theorem prod_end(h:r=pW (l.drop i) n)(hi:l.length≤i):r=(n,0):=by
 rw [List.drop_of_length_le hi] at h;exact h
end
section
variable {x : rM}
theorem bFn(h:(mU x.sides.list).2=0):Value.bool ((mU x.sides.list).1==((x.data.list.length:Nat):Int))= .bool (jA x.arr):=by simp [jA,rM.arr,h]
theorem bFf(h:(mU x.sides.list).2≠0):Value.bool false= .bool (jA x.arr):=by simp [jA,rM.arr,h]
end
set_option maxRecDepth 100000 in
theorem sizeBad_spec(n:Int):dM Tryz.prog 68 [.int .i64 n] [] [] (fun(_:Unit)=> .bool (oF n)) (fun _=>[]) (fun _=>[]):=by
 have hT:=nQ;refine cQ Tryz.func68 rfl Tryz.ntmps68 rfl ?_;intro β hM;refine sr<|sp hT ?_;refine nn<|sr<|sp3 hT ?_;refine cB (fun hg5=>?_) (fun hg5=>?_)
 ·have hg5:=of_decide_eq_true hg5;refine sk2 ?_;refine sp2 hT ?_;refine nn<|bF ?_;exact bS () rfl (bE rfl) .nil trivial (by first | exact bad_a (by omega) | exact bad_b (by omega))
 have hg5:=Int.not_lt.1 (of_decide_eq_false hg5);refine sp4 hT ?_;refine nn<|bF ?_;exact bS () rfl (bE rfl) .nil trivial (by first | exact bad_a (by omega) | exact bad_b (by omega))
set_option maxRecDepth 100000 in
theorem size_spec(A:Option Addr)(c:Nat)(l:List Int)(hl:l.length≤140737488355328):dM Tryz.prog 36 [.slice A l.length c] [] [mR.sl (.slice A l.length c) l] (fun(_:Unit)=> .tuple #[.int .i64 (mU l).1,.int .i64 (mU l).2]) (fun _=>[]) (fun _=>[]):=by
 have hT:=nQ;generalize hR:mU l=r;refine cQ Tryz.func36 rfl Tryz.ntmps36 rfl ?_;intro β hM;refine sr<|sp2 hT ?_;refine nn<|bB<|sr<|sp4 hT ?_;refine cB (fun hg10=>?_) (fun hg10=>?_)
 ·have hg10:=of_decide_eq_true hg10;refine sk2 ?_;refine sp hT ?_;refine nn<|cH rfl rfl ?_;refine sr<|sp2 hT ?_;refine nn<|bF<|bA ?_;have hr:=hR.symm.trans (bGo (by first | exact .inl (by omega) | exact .inr ‹_›));subst hr;exact bO () rfl (bE rfl) (bE rfl) .nil trivial rfl
 have hg10:=Int.not_lt.1 (of_decide_eq_false hg10);refine sp hT ?_;refine bQ Tryz.func59 (bHb _ _ _ hl _ oF (cR Tryz.func68 rfl rfl) sizeBad_spec) rfl rfl .nil ⟨Has.of mT0,trivial⟩ fun _=>?_;refine sp hT ?_;refine nn<|bK rfl (fun hc13=>?_) (fun hc13=>?_)
 ·refine sr<|sp2 hT ?_;refine nn<|bF<|bA ?_;have hr:=hR.symm.trans (bGo (by first | exact .inl (by omega) | exact .inr ‹_›));subst hr;exact bO () rfl (bE rfl) (bE rfl) .nil trivial rfl
 refine bM<|bC<|bB<|sr<|sp hT ?_;refine bQ Tryz.func69 (bFs _ _ _ hl _) rfl rfl .nil ⟨Has.of mT0,trivial⟩ fun _=>?_;refine nn<|bK rfl (fun hc15=>?_) (fun hc15=>?_)
 ·refine sr<|sp2 hT ?_;refine nn<|bF<|bA ?_;have hr:=hR.symm.trans (size_zero (by omega) ‹_› ‹_›);subst hr;exact bO () rfl (bE rfl) (bE rfl) .nil trivial rfl
 refine bM<|bC<|sr<|sp hT ?_;refine nn<|bB<|sr<|sp3 hT ?_;refine nn<|bU<|dC (ι:=Nat×Int) [(16,_),(17,_)] ⟨rfl,rfl,trivial⟩ (fun⟨i,n⟩=>[(4,.int .i64 n),(18,.int .i64 (i:Nat))]) (fun _=>[]) (fun⟨i,n⟩=>[Fact.pure (i≤l.length∧r=pW (l.drop i) n)]) (fun⟨i,n⟩=>l.length-i) (0,1) ⟨rfl,rfl,trivial⟩ .nil ⟨Has.pure (⟨by omega,hR.symm.trans (size_prod (by omega) ‹_› ‹_›)⟩),trivial⟩ ?_;rintro⟨i,n⟩;dsimp only;refine bP (Has.of mT0) fun hinv7=>?_;refine sr<|sp hT ?_;refine nn<|bB<|bK rfl (fun hc19=>?_) (fun hc19=>?_)
 ·have hc19:=of_decide_eq_true hc19;refine bM<|bC<|bB<|bU<|sr ?_
  obtain⟨x1,hx2⟩: ∃x',l[i]?=some x':=⟨_,List.getElem?_eq_getElem (by omega)⟩
  refine ss (bV hT (k:=i) (bL (Has.of mT1)) rfl rfl rfl rfl rfl rfl rfl (by omega)) ?_;refine ss (cE hT (cP.knows (bL (Has.of mT1)) (k:=i) (x:=x1) hx2 0) rfl rfl rfl rfl rfl) ?_;refine sp hT ?_;refine nn<|sr<|sp4 hT ?_;refine nn<|sr<|sp2 hT ?_;refine nn<|bK rfl (fun hc26=>?_) (fun hc26=>?_)
  ·have hc26:=of_decide_eq_true hc26;refine sr<|sp2 hT ?_;refine nn<|bF<|bG<|bA<|bA<|bG<|bA ?_;have hr:=prod_big hinv7.2 hx2 ‹_›;subst hr;exact bO () rfl (bE rfl) (bE rfl) .nil trivial rfl
  have hc26:=Int.not_lt.1 (of_decide_eq_false hc26);refine bM<|bZ<|bC<|bD<|sp hT ?_;refine bT (z':=(((i+1):Nat):Int)) (cO (by omega) (by omega)) ?_;refine sp hT ?_;refine nn ?_;exact cL (i+1,_) (by dsimp only;omega) ⟨rfl,rfl,trivial⟩ ⟨rfl,rfl,trivial⟩ .nil ⟨Has.pure (⟨by dsimp only;omega,bKw hinv7.2 hx2 (Int.not_lt.2 ‹_›)⟩),trivial⟩ (bI.drop 1)
 have hc19:=Int.not_lt.1 (of_decide_eq_false hc19);refine cY<|cJ<|cJ<|cZ<|bC<|sr<|sp3 hT ?_;refine nn<|bF ?_;have hr:=prod_end hinv7.2 (by omega);subst hr;exact bO () rfl (bE rfl) (bE rfl) .nil trivial rfl
set_option maxRecDepth 100000 in
theorem right_spec(x:rM)(hl:x.sides.list.length≤140737488355328):dM Tryz.prog 17 [.agg #[.slice x.sides.addr x.sides.list.length x.sides.cap,.slice x.data.addr x.data.list.length x.data.cap]] [] [mR.sl (.slice x.sides.addr x.sides.list.length x.sides.cap) x.sides.list] (fun(_:Unit)=> .bool (jA x.arr)) (fun _=>[]) (fun _=>[]):=by
 have hT:=nQ;refine cQ Tryz.func17 rfl Tryz.ntmps17 rfl ?_;intro β hM;refine sr<|gC rfl rfl rfl rfl rfl rfl fun b1=>?_;refine sp hT ?_;refine nn<|sr<|sp hT ?_;refine ss (ldO hT (bJ .head)) ?_;refine bQ Tryz.func36 (size_spec _ _ _ (by omega)) rfl rfl .nil ⟨Has.of mT0,trivial⟩ fun _=>?_;refine sp4 hT ?_;refine sp hT ?_;refine nn<|sr<|sp3 hT ?_;refine cB (fun hg13=>?_) (fun hg13=>?_)
 ·have hg13:=eq_of_beq hg13;refine sp2 hT ?_;refine ss (ldO hT (fK .head)) ?_;refine sp4 hT ?_;refine nn<|bF ?_;exact bS () rfl (bE rfl) .nil trivial (by first | exact bFn ‹_› | exact bFf ‹_›)
 have hg13:=beq_eq_false_iff_ne.1 hg13;refine sk4 ?_;refine sk ?_;refine sp2 hT ?_;refine nn<|bF ?_;exact bS () rfl (bE rfl) .nil trivial (by first | exact bFn ‹_› | exact bFf ‹_›)
end Go.Proofs.YtbgdphbebhjpiaaGreatDoor
namespace Go.Proofs.YtbgdphbebhjpiaaGreatDoor
open Go.RowKit Go.Shelf
attribute [local go_sem] Oper.semAt_some
def kT (S:Nat→Prop)(W W':World):Prop:= ∀c,S c→W'.heap[c]?=W.heap[c]?
theorem kT.refl(S:Nat→Prop)(W:World):kT S W W:=fun _ _=>rfl
theorem kT.trans{S:Nat→Prop}{A B C:World}(h:kT S A B)(k:kT S B C):kT S A C:=fun c hc=>(k c hc).trans (h c hc)
theorem kT.cell{S:Nat→Prop}{A B:World}(h:kT S A B){p:Addr}(hp:S p.block):B.cell? p=A.cell? p:=World.cell?_of_block (h p.block hp)
set_option maxRecDepth 100000 in
set_option maxHeartbeats 2000000 in
theorem back1_in(n l Bs b off len cap:Nat)(A:Option Addr)(hA:0<len→A=some ⟨b,off,none⟩)(zs:List Int)(S:Nat→Prop)(hS1:S Bs)(hS2:0<len→S b)(hlen:len≤1000000)(J:Nat→World→Prop)
  (hY: ∀k W,k<len→J k W→YieldAt Fence.wide (n-1) Tryz.prog l #[.int .i64 ((len:Int)-1-k),.int .i64 (zs[len-1-k]?.getD 0)] W fun e W'=>e= .returned (.bool true)∧J (k+1) W'∧kT S W W')
  (W:World) (hBs:W.cell? ⟨Bs,0,none⟩=some (.slice A len cap)) (hc: ∀j,j<len→W.cell? ⟨b,off+j,none⟩=some (.int .i64 (zs[j]?.getD 0))) (h0:J 0 W):
  CallsIn Fence.wide n Tryz.prog 261 #[.func (.yield l) #[] #[],.pointer (some ⟨Bs,0,none⟩)] W fun e W'=>(∃v,e= .returned v)∧J len W'∧kT S W W':=by
 refine callsIn_of_wp Tryz.func261 rfl trivial ?_ rfl;simp only [Tryz.ntmps261,List.size_toArray,List.length_cons,List.length_nil,Nat.reduceAdd,Nat.reduceSub,Array.replicate_succ,Array.replicate_zero,List.push_toArray,List.append_toArray,List.nil_append,List.cons_append]
 gi_wp2
 gi_loopw [3] (fun i wr=> ∃k:Nat,k≤len∧i= .int .i64 ((len:Int)-1-k)∧J k wr∧kT S W wr)
  (fun i _=>(intOf i+1).toNat)
 case atStart=>exact⟨0,Nat.zero_le _,by simp,h0,kT.refl _ _⟩
 case round=>
  obtain⟨k,hk,rfl,hJs,hnx⟩:=hrel
  by_cases hlt:k<len
  ·obtain rfl:=hA (by omega)
   replace hS2:=hS2 (by omega)
   have hBs':=(hnx.cell (p:=⟨Bs,0,none⟩) hS1).trans hBs;have hcx:wr.cell? ⟨b,off+(len-1-k),none⟩=some (.int .i64 (zs[len-1-k]?.getD 0)):=(hnx.cell (p:=⟨b,off+(len-1-k),none⟩) hS2).trans (hc _ (by omega));have e1:((len:Int)-1-k).toNat=len-1-k:=by omega
   obtain⟨fn,tmps,assign,body,hy,hR⟩:=hY k wr hlt hJs;have h1:(0:Int)≤(len:Int)-1-k:=by omega
   gi_wp2
   refine⟨fun h=>(by cases h),hR.mono ?_⟩;rintro e W3 ⟨rfl,hJ3,hk3⟩
   gi_wp2
   go_roundw
   case rel=>exact⟨k+1,by omega,by simp;omega,hJ3,hnx.trans hk3⟩
   case measure=>simp [intOf];omega
  ·obtain rfl:k=len:=by omega
   gi_wp2
   go_end0
   exact⟨⟨_,rfl⟩,hJs,hnx⟩
set_option maxRecDepth 100000 in
set_option maxHeartbeats 4000000 in
theorem chunk1_in(n l Bs Bn b off len cap m N:Nat)(S:Nat→Prop)(hS1:S Bs)(hS2:S Bn)(hlen:len≤1000000)(hm:0<m)(hN:len=N*m)(hcap:len≤cap)(J:Nat→World→Prop)
  (hJd: ∀k W,J k W→J k W.drew) (hY: ∀k W,k<N→J k W→YieldAt Fence.wide (n-1) Tryz.prog l #[.slice (some ⟨b,off+k*m,none⟩) m m] W fun e W'=>e= .returned (.bool true)∧J (k+1) W'∧kT S W W')
  (W:World) (hBs:W.cell? ⟨Bs,0,none⟩=some (.slice (some ⟨b,off,none⟩) len cap)) (hBn:W.cell? ⟨Bn,0,none⟩=some (.int .i64 (m:Int))) (h0:J 0 W):
  CallsIn Fence.wide n Tryz.prog 227 #[.func (.yield l) #[] #[],.pointer (some ⟨Bs,0,none⟩),.pointer (some ⟨Bn,0,none⟩)] W fun e W'=>(∃v,e= .returned v)∧J N W'∧kT S W W':=by
 refine callsIn_of_wp Tryz.func227 rfl trivial ?_ rfl;simp only [Tryz.ntmps227,List.size_toArray,List.length_cons,List.length_nil,Nat.reduceAdd,Nat.reduceSub,Array.replicate_succ,Array.replicate_zero,List.push_toArray,List.append_toArray,List.nil_append,List.cons_append]
 gi_wp2
 gi_loopw [4] (fun i wr=> ∃k:Nat,k≤N∧i= .int .i64 ((k*m:Nat):Int)∧J k wr∧kT S W wr)
  (fun i _=>len-(intOf i).toNat)
 case atStart=>exact⟨0,Nat.zero_le _,by simp,h0,kT.refl _ _⟩
 case round=>
  obtain⟨k,hk,rfl,hJs,hnx⟩:=hrel;have hBs':=(hnx.cell (p:=⟨Bs,0,none⟩) hS1).trans hBs;have hBn':=(hnx.cell (p:=⟨Bn,0,none⟩) hS2).trans hBn
  by_cases hlt:k<N
  ·have h1:(k+1)*m≤N*m:=Nat.mul_le_mul_right _ hlt;rw [Nat.add_mul,Nat.one_mul] at h1
   gi_wp2
   gi_region
   all_goals gi_wp2
   all_goals (try go_bits)
   have e2:((k:Int)*(m:Int)+min (m:Int) ((N*m-k*m:Nat):Int)).toNat-k*m=m:=by
    have e3:((k:Int)*(m:Int))=((k*m:Nat):Int):=by simp
    rw [e3];omega
   rw [e2];obtain⟨fn,tmps,assign,body,hy,hR⟩:=hY k wr.drew hlt (hJd k wr hJs);rw [hy];refine⟨fun h=>(by cases h),hR.mono ?_⟩;rintro e W3 ⟨rfl,hJ3,hk3⟩;have hnx3:kT S W W3:=hnx.trans (kT.trans (B:=wr.drew) (fun _ _=>rfl) hk3);have hBn3:=(hnx3.cell (p:=⟨Bn,0,none⟩) hS2).trans hBn
   gi_wp2
   go_roundw
   case rel=>exact⟨k+1,by omega,by simp [Nat.add_mul],hJ3,hnx3⟩
   case measure=>simp [intOf];omega
  ·obtain rfl:k=N:=by omega
   gi_wp2
   go_end0
   exact⟨⟨_,rfl⟩,hJs,hnx⟩
end Go.Proofs.YtbgdphbebhjpiaaGreatDoor
namespace Go.Proofs.YtbgdphbebhjpiaaGreatDoor
open Go.RowKit
section
variable {P : Program} {β : fR} {n : Nat} {Γ : Env} {H : List bY} {F : List Fact} {Q : Exit → Act → World → Prop}
theorem St.drew{S:kS}{w:World}(s:St β H S w):St β H S w.drew:=⟨⟨s.kept.os,s.kept.tape,s.kept.output,s.kept.size,s.kept.block⟩,fun c hc=>bY.ok_of (s.ok c hc) fun _ _=>rfl,s.own,s.sep,s.zone⟩
end
theorem wrapTo{a z:Int}(h:a=z)(h1: -9223372036854775808≤z)(h2:z<9223372036854775808):IntKind.i64.wrap a=z:=by
 rw [h];exact bAd h1 h2
section
variable {P : Program} {β : fR} {n : Nat} {Γ : Env} {H H' : List bY} {F : List Fact} {K : Act → World → Prop}
theorem rZ.self: ∀(R H2:List bY),rZ (R++H2) R H2
 | [],_=> .nil
 | _::R,H2=> .cons .head (rZ.self R H2)
end
theorem mB{α:Type}{l:List α}{i:Nat}{x:α}(h:l[i]?=some x):l.drop i=x::l.drop (i+1):=by
 obtain⟨hlt,e⟩:=List.getElem?_eq_some_iff.1 h;rw [List.drop_eq_getElem_cons hlt,e]
theorem rI{α:Type}{l:List α}{i:Nat}(h:l.length≤i):l.drop i=[]:=List.drop_eq_nil_iff.2 h
theorem bFh{α β:Type}{f:α→β}{l:List α}{i:Nat}{x:α}(h:l[i]?=some x):(l.map f)[i]?=some (f x):=by rw [List.getElem?_map,h];rfl
end Go.Proofs.YtbgdphbebhjpiaaGreatDoor
