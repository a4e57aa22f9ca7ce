/- Texts of one proof, one behind the other: WordS, ArrS, Iter, Rng, Mark, ItC, CopyI, ArrI, Rev, LanesL, PrimL. -/
import Derived.Test.YtbgdphbebhjpiaaGreatDoorM10
import Derived.RangeFuncBox
import Derived.RangeFuncLeaves
import Derived.RangeFuncBound
import Derived.RangeFuncCalls
import Derived.Shelf.Abstract
import Derived.WalkKit
import Derived.OwnWalkIn
import Derived.TacticsInMore
import Derived.LoopNIn
import Derived.LoopIn
import Derived.Test.YtbgdphbebhjpiaaGreatDoorM4
import Derived.OrdersIn
import Derived.RangeFuncNested
import Derived.Test.YtbgdphbebhjpiaaGreatDoorM2
import Derived.Laws.IdiomCopy
namespace Go.Proofs.YtbgdphbebhjpiaaGreatDoor
open Go.RowKit
end Go.Proofs.YtbgdphbebhjpiaaGreatDoor
namespace Go.Proofs.YtbgdphbebhjpiaaGreatDoor
open Go.RowKit Go.Shelf
attribute [local go_sem] Oper.semAt_some
def lF (S:Nat→Prop)(W W':World):Prop:= ∀c,S c→W'.heap[c]?=W.heap[c]?
theorem lF.refl(S:Nat→Prop)(W:World):lF S W W:=fun _ _=>rfl
theorem lF.trans{S:Nat→Prop}{A B C:World}(h:lF S A B)(k:lF S B C):lF S A C:=fun c hc=>(k c hc).trans (h c hc)
theorem lF.cell{S:Nat→Prop}{A B:World}(h:lF S A B){p:Addr}(hp:S p.block):B.cell? p=A.cell? p:=World.cell?_of_block (h p.block hp)
set_option maxRecDepth 100000 in
set_option maxHeartbeats 2000000 in
theorem back1_in(n l Bs b off len cap:Nat)(A:Option Addr)(hA:0<len→A=some ⟨b,off,none⟩)(zs:List Int)(S:Nat→Prop)(hS1:S Bs)(hS2:0<len→S b)(hlen:len≤1000000)(J:Nat→World→Prop)
  (hY: ∀k W,k<len→J k W→YieldAt Fence.wide (n-1) Tryz.prog l #[.int .i64 ((len:Int)-1-k),.int .i64 (zs[len-1-k]?.getD 0)] W fun e W'=>e= .returned (.bool true)∧J (k+1) W'∧lF S W W')
  (W:World) (hBs:W.cell? ⟨Bs,0,none⟩=some (.slice A len cap)) (hc: ∀j,j<len→W.cell? ⟨b,off+j,none⟩=some (.int .i64 (zs[j]?.getD 0))) (h0:J 0 W):
  CallsIn Fence.wide n Tryz.prog 261 #[.func (.yield l) #[] #[],.pointer (some ⟨Bs,0,none⟩)] W fun e W'=>(∃v,e= .returned v)∧J len W'∧lF S W W':=by
 refine callsIn_of_wp Tryz.func261 rfl trivial ?_ rfl;simp only [Tryz.ntmps261,List.size_toArray,List.length_cons,List.length_nil,Nat.reduceAdd,Nat.reduceSub,Array.replicate_succ,Array.replicate_zero,List.push_toArray,List.append_toArray,List.nil_append,List.cons_append]
 gi_wp2
 gi_loopw [3] (fun i wr=> ∃k:Nat,k≤len∧i= .int .i64 ((len:Int)-1-k)∧J k wr∧lF S W wr)
  (fun i _=>(intOf i+1).toNat)
 case atStart=>exact⟨0,Nat.zero_le _,by simp,h0,lF.refl _ _⟩
 case round=>
  obtain⟨k,hk,rfl,hJs,hnx⟩:=hrel
  by_cases hlt:k<len
  ·obtain rfl:=hA (by omega)
   replace hS2:=hS2 (by omega)
   have hBs':=(hnx.cell (p:=⟨Bs,0,none⟩) hS1).trans hBs;have hcx:wr.cell? ⟨b,off+(len-1-k),none⟩=some (.int .i64 (zs[len-1-k]?.getD 0)):=(hnx.cell (p:=⟨b,off+(len-1-k),none⟩) hS2).trans (hc _ (by omega));have e1:((len:Int)-1-k).toNat=len-1-k:=by omega
   obtain⟨fn,tmps,assign,body,hy,hR⟩:=hY k wr hlt hJs;have h1:(0:Int)≤(len:Int)-1-k:=by omega
   gi_wp2
   refine⟨fun h=>(by cases h),hR.mono ?_⟩;rintro e W3 ⟨rfl,hJ3,hk3⟩
   gi_wp2
   go_roundw
   case rel=>exact⟨k+1,by omega,by simp;omega,hJ3,hnx.trans hk3⟩
   case measure=>simp [intOf];omega
  ·obtain rfl:k=len:=by omega
   gi_wp2
   go_end0
   exact⟨⟨_,rfl⟩,hJs,hnx⟩
set_option maxRecDepth 100000 in
set_option maxHeartbeats 4000000 in
theorem chunk1_in(n l Bs Bn b off len cap m N:Nat)(S:Nat→Prop)(hS1:S Bs)(hS2:S Bn)(hlen:len≤1000000)(hm:0<m)(hN:len=N*m)(hcap:len≤cap)(J:Nat→World→Prop)
  (hJd: ∀k W,J k W→J k W.drew) (hY: ∀k W,k<N→J k W→YieldAt Fence.wide (n-1) Tryz.prog l #[.slice (some ⟨b,off+k*m,none⟩) m m] W fun e W'=>e= .returned (.bool true)∧J (k+1) W'∧lF S W W')
  (W:World) (hBs:W.cell? ⟨Bs,0,none⟩=some (.slice (some ⟨b,off,none⟩) len cap)) (hBn:W.cell? ⟨Bn,0,none⟩=some (.int .i64 (m:Int))) (h0:J 0 W):
  CallsIn Fence.wide n Tryz.prog 227 #[.func (.yield l) #[] #[],.pointer (some ⟨Bs,0,none⟩),.pointer (some ⟨Bn,0,none⟩)] W fun e W'=>(∃v,e= .returned v)∧J N W'∧lF S W W':=by
 refine callsIn_of_wp Tryz.func227 rfl trivial ?_ rfl;simp only [Tryz.ntmps227,List.size_toArray,List.length_cons,List.length_nil,Nat.reduceAdd,Nat.reduceSub,Array.replicate_succ,Array.replicate_zero,List.push_toArray,List.append_toArray,List.nil_append,List.cons_append]
 gi_wp2
 gi_loopw [4] (fun i wr=> ∃k:Nat,k≤N∧i= .int .i64 ((k*m:Nat):Int)∧J k wr∧lF S W wr)
  (fun i _=>len-(intOf i).toNat)
 case atStart=>exact⟨0,Nat.zero_le _,by simp,h0,lF.refl _ _⟩
 case round=>
  obtain⟨k,hk,rfl,hJs,hnx⟩:=hrel;have hBs':=(hnx.cell (p:=⟨Bs,0,none⟩) hS1).trans hBs;have hBn':=(hnx.cell (p:=⟨Bn,0,none⟩) hS2).trans hBn
  by_cases hlt:k<N
  ·have h1:(k+1)*m≤N*m:=Nat.mul_le_mul_right _ hlt;rw [Nat.add_mul,Nat.one_mul] at h1
   gi_wp2
   gi_region
   all_goals gi_wp2
   all_goals (try go_bits)
   have e2:((k:Int)*(m:Int)+min (m:Int) ((N*m-k*m:Nat):Int)).toNat-k*m=m:=by
    have e3:((k:Int)*(m:Int))=((k*m:Nat):Int):=by simp
    rw [e3];omega
   rw [e2];obtain⟨fn,tmps,assign,body,hy,hR⟩:=hY k wr.drew hlt (hJd k wr hJs);rw [hy];refine⟨fun h=>(by cases h),hR.mono ?_⟩;rintro e W3 ⟨rfl,hJ3,hk3⟩;have hnx3:lF S W W3:=hnx.trans (lF.trans (B:=wr.drew) (fun _ _=>rfl) hk3);have hBn3:=(hnx3.cell (p:=⟨Bn,0,none⟩) hS2).trans hBn
   gi_wp2
   go_roundw
   case rel=>exact⟨k+1,by omega,by simp [Nat.add_mul],hJ3,hnx3⟩
   case measure=>simp [intOf];omega
  ·obtain rfl:k=N:=by omega
   gi_wp2
   go_end0
   exact⟨⟨_,rfl⟩,hJs,hnx⟩
end Go.Proofs.YtbgdphbebhjpiaaGreatDoor
namespace Go.Proofs.YtbgdphbebhjpiaaGreatDoor
open Go.RowKit
section
variable {P : Program} {β : fV} {n : Nat} {Γ : Env} {H : List cA} {F : List Fact} {Q : Exit → Act → World → Prop}
theorem St.drew{S:lJ}{w:World}(s:St β H S w):St β H S w.drew:=⟨⟨s.kept.os,s.kept.tape,s.kept.output,s.kept.size,s.kept.block⟩,fun c hc=>cA.ok_of (s.ok c hc) fun _ _=>rfl,s.own,s.sep,s.zone⟩
end
theorem wrapTo{a z:Int}(h:a=z)(h1: -9223372036854775808≤z)(h2:z<9223372036854775808):IntKind.i64.wrap a=z:=by
 rw [h];exact bDc h1 h2
section
variable {P : Program} {β : fV} {n : Nat} {Γ : Env} {H H' : List cA} {F : List Fact} {K : Act → World → Prop}
theorem rW.self: ∀(R H2:List cA),rW (R++H2) R H2
 | [],_=> .nil
 | _::R,H2=> .cons .head (rW.self R H2)
end
theorem mD{α:Type}{l:List α}{i:Nat}{x:α}(h:l[i]?=some x):l.drop i=x::l.drop (i+1):=by
 obtain⟨hlt,e⟩:=List.getElem?_eq_some_iff.1 h;rw [List.drop_eq_getElem_cons hlt,e]
theorem qX{α:Type}{l:List α}{i:Nat}(h:l.length≤i):l.drop i=[]:=List.drop_eq_nil_iff.2 h
theorem bEy{α β:Type}{f:α→β}{l:List α}{i:Nat}{x:α}(h:l[i]?=some x):(l.map f)[i]?=some (f x):=by rw [List.getElem?_map,h];rfl
end Go.Proofs.YtbgdphbebhjpiaaGreatDoor
