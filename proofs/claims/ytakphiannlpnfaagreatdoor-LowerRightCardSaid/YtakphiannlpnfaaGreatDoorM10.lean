/- Texts of one proof, one behind the other: ArrR, MeanP, TysM, PolyS, TysT, SlI, WordS, ArrS, Iter, Rng, Mark, ItC, CopyI, ArrI, Rev, SlT, TypP. -/
import Derived.Test.YtakphiannlpnfaaGreatDoorM9
import Derived.Test.YtakphiannlpnfaaGreatDoorM4
import Derived.Test.YtakphiannlpnfaaGreatDoorM3
import Derived.Test.YtakphiannlpnfaaGreatDoorM2
import Derived.RangeFuncBox
import Derived.RangeFuncLeaves
import Derived.RangeFuncBound
import Derived.RangeFuncCalls
import Derived.Shelf.Abstract
import Derived.WalkKit
import Derived.OwnWalkIn
import Derived.TacticsInMore
import Derived.LoopNIn
import Derived.LoopIn
import Derived.OrdersIn
import Derived.RangeFuncNested
import Derived.Laws.IdiomCopy
namespace Go.Proofs.YtakphiannlpnfaaGreatDoor
section
open Go.RowKit Go.Proofs.Tryz
set_option maxRecDepth 100000
def nD:List pN→List Bs→List Bs
 | [],out=>out
 | d::r,out=>nD r (if d.name=[]∨out.contains d.name=true then out else out++[d.name])
def jM (l:List gM):List pN:=l.flatMap gM.sides
def cJ (p:gN):List Bs:=nD (jM p.inputs) []
abbrev bEh:=List (Bs×Arr)
def look (k:Bs):bEh→Option Arr
 | []=>none
 | p::r=>if k=p.1 then some p.2 else look k r
def gF (k:Bs):List Bs→Int→Int
 | [],_=> -1
 | s::r,i=>if s=k then i else gF k r (i+1)
def bDv (vars:List Bs)(x:gM):Bool:=x.sides.any fun d=>(d.name==[]&&bGz d.n) || decide (6≤gF d.name vars 0)
def dG (it:cT):Nat:=if it.how=3∨it.how=5∨it.how=6 then 1 else if it.how=4∨it.how=7 then 2 else 0
end
section
open Go.RowKit Go.ChangeShapes Go.WideShapes Go.Proofs.Tryz
def bXw:Flat (Sl Int):=(intTy.slice 8).E
structure ArrV where
 sides:(Sl Int)
 data:(Sl Int)
 deriving Inhabited
def meanT:Tab:=[(3,⟨.int .i64,1⟩),(2,⟨.int .i64,1⟩),(5,⟨.int .u8,1⟩),(9,⟨.string,1⟩),(4,⟨.bool,1⟩),(62,⟨.int .u8,1⟩),(32,⟨.int .i64,1⟩),(85,⟨.slice 2,1⟩),(69,⟨.slice 9,1⟩),(112,⟨.struct [(3,0),(3,1),(9,2),(2,3)],4⟩),(105,⟨.slice 112,1⟩),(34,⟨.struct [(3,0),(32,1)],2⟩),(76,⟨.struct [(9,0),(2,1)],2⟩),(48,⟨.slice 76,1⟩),(50,⟨.struct [(9,0),(3,1),(48,2)],3⟩),(22,⟨.slice 50,1⟩),(87,⟨.struct [(3,0),(3,1),(62,2),(9,3),(85,4)],5⟩),(52,⟨.slice 87,1⟩),(54,⟨.struct [(9,0),(3,1),(52,2)],3⟩),(23,⟨.slice 54,1⟩),(25,⟨.struct [(22,0),(23,1)],2⟩),(110,⟨.struct [(105,0),(3,1),(3,2)],3⟩),(108,⟨.other,1⟩),(196,⟨.slice 1,1⟩),(1,⟨.other,1⟩),(255,⟨.int .u64,1⟩),(123,⟨.map 9 4,1⟩)]
theorem meanT_ok:fD prog meanT:=wC.ok
 ⟨⟨by rw [underlying3];rfl,n9⟩,
  ⟨by rw [underlying2];rfl,n9⟩,
  ⟨by rw [underlying5];rfl,n9⟩,
  ⟨by rw [underlying9];rfl,n9⟩,
  ⟨by rw [underlying4];rfl,n9⟩,
  ⟨by rw [underlying62];rfl,n9⟩,
  ⟨by rw [underlying32];rfl,n9⟩,
  ⟨by rw [underlying85];rfl,n9⟩,
  ⟨by rw [underlying69];rfl,n9⟩,
  ⟨by rw [underlying112];rfl,n9⟩,
  ⟨by rw [underlying105];rfl,n9⟩,
  ⟨by rw [underlying34];rfl,n9⟩,
  ⟨by rw [underlying76];rfl,n9⟩,
  ⟨by rw [underlying48];rfl,n9⟩,
  ⟨by rw [underlying50];rfl,n9⟩,
  ⟨by rw [underlying22];rfl,n9⟩,
  ⟨by rw [underlying87];rfl,n9⟩,
  ⟨by rw [underlying52];rfl,n9⟩,
  ⟨by rw [underlying54];rfl,n9⟩,
  ⟨by rw [underlying23];rfl,n9⟩,
  ⟨by rw [underlying25];rfl,n9⟩,
  ⟨by rw [underlying110];rfl,n9⟩,
  ⟨by rw [underlying108];rfl,n9⟩,
  ⟨by rw [underlying196];rfl,n9⟩,
  ⟨by rw [underlying1];rfl,n9⟩,
  ⟨by rw [underlying255];rfl,n9⟩,
  ⟨by rw [underlying123];rfl,n9⟩,j0⟩
end
section
open Go.RowKit Go.Proofs.Tryz
def nH:Flat Mono where
 size:=7
 cells:=Mono.cells
 len:=fun _=>rfl
 one:=fun x u hu=>by
  simp [Mono.cells] at hu
  rcases hu with rfl | rfl | rfl | rfl | rfl | rfl | rfl<;>rfl
 pos:=o9
theorem monos_of{S:mG}{w:World}{A:Option Addr}{k c:Nat}{l:List Mono}(hS: ∀b,S b→b<w.heap.size)(h:(nH.sl (.slice A k c) l).p S w):mI w A l∧k=l.length:=by
 obtain⟨A',cap,e,h⟩:=h;injection e with e1 e2 e3
 subst e1 e2;refine⟨fun k m hk=>?_,rfl⟩;obtain⟨b,o,cs,e1,e2,e3,e4⟩:=h k m hk;have e4:cs=m.cells:=e4;subst e4;exact⟨b,o,e1,hS b e2,e3 0 _ rfl,e3 1 _ rfl,e3 2 _ rfl,e3 3 _ rfl,e3 4 _ rfl,e3 5 _ rfl,e3 6 _ rfl⟩
theorem sl_of{w:World}{A:Option Addr}{c:Nat}{l:List Mono}(h:mI w A l):(nH.sl (.slice A l.length c) l).p (fun b=>b<w.heap.size) w:=by
 refine⟨A,c,rfl,fun k m hk=>?_⟩;obtain⟨b,o,e,hb,h0,h1,h2,h3,h4,h5,h6⟩:=h k m hk;refine⟨b,o,m.cells,e,hb,fun j u hj=>?_,rfl⟩;have hlt:=(List.getElem?_eq_some_iff.1 hj).1;rw [Mono.cells_length] at hlt
 match j,hlt with
 | 0,_=>simp [Mono.cells] at hj;subst hj;exact h0
 | 1,_=>simp [Mono.cells] at hj;subst hj;exact h1
 | 2,_=>simp [Mono.cells] at hj;subst hj;exact h2
 | 3,_=>simp [Mono.cells] at hj;subst hj;exact h3
 | 4,_=>simp [Mono.cells] at hj;subst hj;exact h4
 | 5,_=>simp [Mono.cells] at hj;subst hj;exact h5
 | 6,_=>simp [Mono.cells] at hj;subst hj;exact h6
abbrev PolV:=Sl Mono
def kT (p:PolV):Fact:=(nH.sl (.slice p.addr p.list.length p.cap) p.list).and (Fact.pure (p.list.length≤140737488355328))
theorem uG{f:FuncId}{args:List Value}{Pre:List Fact}{r:List Mono×Int}(hl:r.1.length≤140737488355328)(h: ∀S w,(∀b,S b→b<w.heap.size)→All Pre S w→Calls prog f args.toArray w (bEg w r)):
  cM prog f args [] Pre (fun x:Option Addr×Nat=> .tuple #[.slice x.1 r.1.length x.2,.int .i64 r.2]) (fun _=>[]) (fun x=>[kT ⟨x.1,x.2,r.1⟩]):=fun S w s k=>by
 refine(h S w (fun b hb=>(s.zone b hb).1) k).mono ?_;intro e w' hg;obtain⟨v,rfl,hb,A,c,rfl,hr⟩:=hg;refine⟨(A,c),fun b=>S b∨(w.heap.size≤b∧b<w'.heap.size),rfl,⟨oW.of_below _ hb,fun c hc=>by simp at hc,fun c hc=>by simp at hc,List.Pairwise.nil,fun b hb'=>?_⟩,All.cons ⟨?_,hl⟩ (fun g hg=>by simp at hg)⟩
 ·rcases hb' with h | h
  ·exact⟨Nat.lt_of_lt_of_le (s.zone b h).1 hb.size,.inl h⟩
  ·exact⟨h.2,.inr (.inr h.1)⟩
 ·rcases hr with hr | ⟨g,rfl,hg,hr⟩
  ·exact⟨A,c,rfl,fun k m hk=>by
    have hr:r.1=[]:=hr
    simp [hr] at hk⟩
  ·have hm:=hr.monos;obtain⟨A',c',e,h⟩:=sl_of (c:=c) hm;injection e with e1 e2 e3
   subst e1;refine⟨_,c,rfl,fun k m hk=>?_⟩;obtain⟨b,o,cs,e1,e2,e3,e4⟩:=h k m hk;injection e1 with e1
   injection e1 with e1 e5
   subst e1;exact⟨_,o,cs,by rw [e5],.inr ⟨hg,e2⟩,e3,e4⟩
theorem oB{p:List Mono}(h:cU p=true):p.length≤48:=by
 simp only [cU,Bool.and_eq_true,decide_eq_true_eq] at h;exact h.1
theorem bGx(L:List Mono):cU (iO L).1=true∧((iO L).2≠0→(iO L).1=[]):=by
 unfold iO;split
 ·rename_i h;exact⟨h,fun h=>absurd rfl h⟩
 ·exact⟨rfl,fun _=>rfl⟩
theorem rM(p q:List Mono)(s:Int):cU (bY p q s).1=true:=by
 unfold bY;split
 ·exact(bGx _).1
 ·rfl
theorem bJk(p q:List Mono):cU (nJ p q).1=true:=by
 unfold nJ;split
 ·exact(bGx _).1
 ·rfl
theorem bBi(n:Int):cU (iN n).1=true:=by
 unfold iN;split
 ·rfl
 ·split
  ·rfl
  ·rename_i h0 h1;simp only [not_or,Int.not_lt] at h1;simp [cU,iB,bAl,nU,h0,Mono.deg,h1]
theorem bCt(k:Int):cU (rC k).1=true:=by
 unfold rC;split
 ·rfl
 ·rename_i h;simp only [not_or,Int.not_lt,Int.not_le] at h
  obtain⟨n,rfl⟩: ∃n:Nat,k=n:=⟨k.toNat,n7⟩
  match n,h with
  | 0,_=>rfl
  | 1,_=>rfl
  | 2,_=>rfl
  | 3,_=>rfl
  | 4,_=>rfl
  | 5,_=>rfl
  | n+6,h=>exact absurd h.2 n7
section
variable (p q : PolV)
theorem mR{p:PolV}{S:mG}{w:World}(hS: ∀b,S b→b<w.heap.size)(h:(kT p).p S w):mI w p.addr p.list:=(monos_of hS h.1).1
theorem bAm(hp:p.list.length≤140737488355328)(hq:q.list.length≤140737488355328):cM prog 89 [.slice p.addr p.list.length p.cap,.slice q.addr q.list.length q.cap] [] [kT p,kT q] (fun x:Option Addr×Nat=> .tuple #[.slice x.1 (bY p.list q.list 1).1.length x.2,.int .i64 (bY p.list q.list 1).2]) (fun _=>[]) (fun x=>[kT ⟨x.1,x.2,(bY p.list q.list 1).1⟩]):=
 uG (Nat.le_trans (oB (rM _ _ _)) o9) fun _ w hS h=>add_any _ _ _ _ _ _ w (mR hS (h _ (.head _))) (mR hS (h _ (.tail _ (.head _)))) hp hq
theorem bQs(hp:p.list.length≤140737488355328)(hq:q.list.length≤140737488355328):cM prog 84 [.slice p.addr p.list.length p.cap,.slice q.addr q.list.length q.cap] [] [kT p,kT q] (fun x:Option Addr×Nat=> .tuple #[.slice x.1 (bY p.list q.list (-1)).1.length x.2,.int .i64 (bY p.list q.list (-1)).2]) (fun _=>[]) (fun x=>[kT ⟨x.1,x.2,(bY p.list q.list (-1)).1⟩]):=
 uG (Nat.le_trans (oB (rM _ _ _)) o9) fun _ w hS h=>sub_any _ _ _ _ _ _ w (mR hS (h _ (.head _))) (mR hS (h _ (.tail _ (.head _)))) hp hq
theorem bRi(hp:p.list.length≤140737488355328)(hq:q.list.length≤140737488355328):cM prog 81 [.slice p.addr p.list.length p.cap,.slice q.addr q.list.length q.cap] [] [kT p,kT q] (fun x:Option Addr×Nat=> .tuple #[.slice x.1 (nJ p.list q.list).1.length x.2,.int .i64 (nJ p.list q.list).2]) (fun _=>[]) (fun x=>[kT ⟨x.1,x.2,(nJ p.list q.list).1⟩]):=
 uG (Nat.le_trans (oB (bJk _ _)) o9) fun _ w hS h=>mul_any _ _ _ _ _ _ w (mR hS (h _ (.head _))) (mR hS (h _ (.tail _ (.head _)))) hp hq
theorem yZ(n:Int):cM prog 34 [.int .i64 n] [] [] (fun x:Option Addr×Nat=> .tuple #[.slice x.1 (iN n).1.length x.2,.int .i64 (iN n).2]) (fun _=>[]) (fun x=>[kT ⟨x.1,x.2,(iN n).1⟩]):=
 uG (Nat.le_trans (oB (bBi n)) o9) fun _ w _ _=>const_any n w
theorem bRp(k:Int):cM prog 18 [.int .i64 k] [] [] (fun x:Option Addr×Nat=> .tuple #[.slice x.1 (rC k).1.length x.2,.int .i64 (rC k).2]) (fun _=>[]) (fun x=>[kT ⟨x.1,x.2,(rC k).1⟩]):=
 uG (Nat.le_trans (oB (bCt k)) o9) fun _ w _ _=>var_any k w
theorem yD(hp:p.list.length≤140737488355328):cM prog 66 [.slice p.addr p.list.length p.cap] [] [kT p] (fun _:Unit=> .bool (fS p.list)) (fun _=>[]) (fun _=>[]):=
 mM fun _ w hS h=>xC _ _ _ w (mR hS (h _ (.head _))) hp
theorem vH(n:Int)(hp:p.list.length≤140737488355328):cM prog 118 [.slice p.addr p.list.length p.cap,.int .i64 n] [] [kT p] (fun _:Unit=> .bool (gA p.list n)) (fun _=>[]) (fun _=>[]):=
 mM fun _ w hS h=>covers_any _ _ _ n w (mR hS (h _ (.head _))) hp
theorem polR_spec(hp:p.list.length≤140737488355328):cM prog 107 [.slice p.addr p.list.length p.cap] [] [kT p] (fun _:Unit=> .bool (cU p.list)) (fun _=>[]) (fun _=>[]):=
 mM fun _ w hS h=>iU _ _ _ w (mR hS (h _ (.head _))) hp
end
end
section
open Go.RowKit Go.ChangeShapes Go.WideShapes Go.Proofs.Tryz
def bS:Flat PolV:=slE Mono
structure TyV where
 sides:(Sl PolV)
 known:Bool
 values:(Sl PolV)
 deriving Inhabited
def tyE:Flat TyV where
 size:=3
 cells:=fun x=>[.slice x.sides.addr x.sides.list.length x.sides.cap,.bool x.known,.slice x.values.addr x.values.list.length x.values.cap]
 len:=fun _=>rfl
 one:=fun x u hu=>by
  simp at hu
  rcases hu with rfl | rfl | rfl<;>rfl
 pos:=o9
def bSb:Flat (Sl TyV):=slE TyV
def typeT:Tab:=[(3,⟨.int .i64,1⟩),(2,⟨.int .i64,1⟩),(5,⟨.int .u8,1⟩),(9,⟨.string,1⟩),(4,⟨.bool,1⟩),(62,⟨.int .u8,1⟩),(32,⟨.int .i64,1⟩),(85,⟨.slice 2,1⟩),(69,⟨.slice 9,1⟩),(112,⟨.struct [(3,0),(3,1),(9,2),(2,3)],4⟩),(105,⟨.slice 112,1⟩),(34,⟨.struct [(3,0),(32,1)],2⟩),(76,⟨.struct [(9,0),(2,1)],2⟩),(48,⟨.slice 76,1⟩),(50,⟨.struct [(9,0),(3,1),(48,2)],3⟩),(22,⟨.slice 50,1⟩),(87,⟨.struct [(3,0),(3,1),(62,2),(9,3),(85,4)],5⟩),(52,⟨.slice 87,1⟩),(54,⟨.struct [(9,0),(3,1),(52,2)],3⟩),(23,⟨.slice 54,1⟩),(25,⟨.struct [(22,0),(23,1)],2⟩),(110,⟨.struct [(105,0),(3,1),(3,2)],3⟩),(47,⟨.slice 100,1⟩),(41,⟨.slice 47,1⟩),(43,⟨.struct [(41,0),(4,1),(41,2)],3⟩),(40,⟨.slice 43,1⟩),(37,⟨.slice 40,1⟩),(108,⟨.other,1⟩),(196,⟨.slice 1,1⟩),(1,⟨.other,1⟩),(255,⟨.int .u64,1⟩),(123,⟨.map 9 4,1⟩),(100,⟨.struct [(2,0),(98,1)],7⟩),(98,⟨.array 6 5,6⟩),(90,⟨.other,1⟩),(95,⟨.map 9 43,1⟩),(97,⟨.struct [(95,0)],1⟩),(178,⟨.other,1⟩),(235,⟨.int .u64,1⟩),(183,⟨.slice 41,1⟩)]
theorem fK:fD prog typeT:=wC.ok
 ⟨⟨by rw [underlying3];rfl,n9⟩,
  ⟨by rw [underlying2];rfl,n9⟩,
  ⟨by rw [underlying5];rfl,n9⟩,
  ⟨by rw [underlying9];rfl,n9⟩,
  ⟨by rw [underlying4];rfl,n9⟩,
  ⟨by rw [underlying62];rfl,n9⟩,
  ⟨by rw [underlying32];rfl,n9⟩,
  ⟨by rw [underlying85];rfl,n9⟩,
  ⟨by rw [underlying69];rfl,n9⟩,
  ⟨by rw [underlying112];rfl,n9⟩,
  ⟨by rw [underlying105];rfl,n9⟩,
  ⟨by rw [underlying34];rfl,n9⟩,
  ⟨by rw [underlying76];rfl,n9⟩,
  ⟨by rw [underlying48];rfl,n9⟩,
  ⟨by rw [underlying50];rfl,n9⟩,
  ⟨by rw [underlying22];rfl,n9⟩,
  ⟨by rw [underlying87];rfl,n9⟩,
  ⟨by rw [underlying52];rfl,n9⟩,
  ⟨by rw [underlying54];rfl,n9⟩,
  ⟨by rw [underlying23];rfl,n9⟩,
  ⟨by rw [underlying25];rfl,n9⟩,
  ⟨by rw [underlying110];rfl,n9⟩,
  ⟨by rw [underlying47];rfl,n9⟩,
  ⟨by rw [underlying41];rfl,n9⟩,
  ⟨by rw [underlying43];rfl,n9⟩,
  ⟨by rw [underlying40];rfl,n9⟩,
  ⟨by rw [underlying37];rfl,n9⟩,
  ⟨by rw [underlying108];rfl,n9⟩,
  ⟨by rw [underlying196];rfl,n9⟩,
  ⟨by rw [underlying1];rfl,n9⟩,
  ⟨by rw [underlying255];rfl,n9⟩,
  ⟨by rw [underlying123];rfl,n9⟩,
  ⟨by rw [underlying100];rfl,n9⟩,
  ⟨by rw [underlying98];rfl,n9⟩,
  ⟨by rw [underlying90];rfl,n9⟩,
  ⟨by rw [underlying95];rfl,n9⟩,
  ⟨by rw [underlying97];rfl,n9⟩,
  ⟨by rw [underlying178];rfl,n9⟩,
  ⟨by rw [underlying235];rfl,n9⟩,
  ⟨by rw [underlying183];rfl,n9⟩,j0⟩
theorem bAz: ∃i:TypeInfo,prog.info? 47=some i∧i.zero=some (.slice none 0 0)∧i.size=1∧i.bytes=24:=by
 have h:(prog.info? 47).map (fun i=>(i.zero,i.size,i.bytes))=some (some (.slice none 0 0),1,24):=n9
 cases hi:prog.info? 47 with
 | none=>simp [hi] at h
 | some i=>simp [hi] at h;exact⟨i,rfl,h.1,h.2.1,h.2.2⟩
theorem dA{β:dF}{n:Nat}{Γ:Env}{H:List bH}{F:List Fact}{Q:Exit→Act→World→Prop}{ops:Array Oper}{rest:List Oper}{o:Oper}{d:Nat}{x:Operand}{m:PolV}(hw:want ops Γ o=some true)(ho:o.op= .buildSlice 41 1 #[(0,x)])(hd:o.dst=some d)(hn:Nat.blt d n=true)
  (hx:Γ.ev x=some (.slice m.addr m.list.length m.cap)) (k: ∀b,At β n ((d,.slice (some ⟨b,0,none⟩) 1 1)::Γ) (.obj b (.cells (bS.all [m]).toArray 47)::H) F (wpList prog ops Q rest)):At β n Γ H F (wpList prog ops Q (o::rest)):=by
 obtain⟨i,hi,hz,hs,_⟩:=bAz;refine gG hw ho hd hn hx underlying41 hi hz n7 n7 ?_ k;rw [hs]
 kernel_rfl
theorem at_none_pols{β:dF}{n:Nat}{Γ:Env}{H:List bH}{F:List Fact}{Q:Exit→Act→World→Prop}{ops:Array Oper}{rest:List Oper}{o:Oper}{d:Nat}(hw:want ops Γ o=some true)(ho:o.op= .buildSlice 41 0 #[])(hd:o.dst=some d)(hn:Nat.blt d n=true)
  (k: ∀b,At β n ((d,.slice (some ⟨b,0,none⟩) 0 0)::Γ) (bS.row (.slice (some ⟨b,0,none⟩) 0 0) 47 []::H) F (wpList prog ops Q rest)):At β n Γ H F (wpList prog ops Q (o::rest)):=by
 obtain⟨i,hi,_⟩:=bAz;exact bWf bS hw ho hd hn underlying41 hi k
theorem fM{β:dF}{n:Nat}{Γ:Env}{H:List bH}{F:List Fact}{Q:Exit→Act→World→Prop}{ops:Array Oper}{rest:List Oper}{o:Oper}{d:Nat}{x y:Operand}{c q:Nat}{v:Value}{A:Option Addr}{xs ys:List PolV}{H':List bH}(hH:cD H (bS.row v 47 xs) H')(hr:dQ β H F bS A ys)(hg:o.guard=none)
  (ho:o.op= .call {callee:= .builtin .append,args:= #[x,y],argTypes:= #[41,41]}) (hd:o.dst=some d) (hn:Nat.blt d n=true)
  (hx:Γ.ev x=some v) (hy:Γ.ev y=some (.slice A q c)) (hq:q=ys.length) (hl:xs.length+ys.length≤5864062014805)
  (k: ∀A' cap',At β n ((d,.slice A' (xs++ys).length cap')::Γ) (bS.row (.slice A' (xs++ys).length cap') 47 (xs++ys)::H') F (wpList prog ops Q rest)):At β n Γ H F (wpList prog ops Q (o::rest)):=by
 obtain⟨i,hi,hz,hs,hb⟩:=bAz;exact dK hH hr hg ho hd hn underlying41 hi hz hs hb rfl hx hy hq n7 o9 k
theorem tyInfo: ∃i:TypeInfo,prog.info? 43=some i∧i.zero=some (.agg #[.slice none 0 0,.bool false,.slice none 0 0])∧i.size=3∧i.bytes=56:=by
 have h:(prog.info? 43).map (fun i=>(i.zero,i.size,i.bytes))=some (some (.agg #[.slice none 0 0,.bool false,.slice none 0 0]),3,56):=n9
 cases hi:prog.info? 43 with
 | none=>simp [hi] at h
 | some i=>simp [hi] at h;exact⟨i,rfl,h.1,h.2.1,h.2.2⟩
theorem bKs{β:dF}{n:Nat}{Γ:Env}{H:List bH}{F:List Fact}{Q:Exit→Act→World→Prop}{ops:Array Oper}{rest:List Oper}{o:Oper}{d:Nat}{x:Operand}{m:TyV}(hw:want ops Γ o=some true)(ho:o.op= .buildSlice 40 1 #[(0,x)])(hd:o.dst=some d)(hn:Nat.blt d n=true)
  (hx:Γ.ev x=some (.agg #[.slice m.sides.addr m.sides.list.length m.sides.cap,.bool m.known,.slice m.values.addr m.values.list.length m.values.cap])) (k: ∀b,At β n ((d,.slice (some ⟨b,0,none⟩) 1 1)::Γ) (.obj b (.cells (tyE.all [m]).toArray 43)::H) F (wpList prog ops Q rest)):At β n Γ H F (wpList prog ops Q (o::rest)):=by
 obtain⟨i,hi,hz,hs,_⟩:=tyInfo;refine gG hw ho hd hn hx underlying40 hi hz n7 n7 ?_ k;rw [hs]
 kernel_rfl
theorem bJc{β:dF}{n:Nat}{Γ:Env}{H:List bH}{F:List Fact}{Q:Exit→Act→World→Prop}{ops:Array Oper}{rest:List Oper}{o:Oper}{d:Nat}{x y:Operand}{c q:Nat}{v:Value}{A:Option Addr}{xs ys:List TyV}{H':List bH}(hH:cD H (tyE.row v 43 xs) H')(hr:dQ β H F tyE A ys)(hg:o.guard=none)
  (ho:o.op= .call {callee:= .builtin .append,args:= #[x,y],argTypes:= #[40,40]}) (hd:o.dst=some d) (hn:Nat.blt d n=true)
  (hx:Γ.ev x=some v) (hy:Γ.ev y=some (.slice A q c)) (hq:q=ys.length) (hl:xs.length+ys.length≤2513169434916)
  (k: ∀A' cap',At β n ((d,.slice A' (xs++ys).length cap')::Γ) (tyE.row (.slice A' (xs++ys).length cap') 43 (xs++ys)::H') F (wpList prog ops Q rest)):At β n Γ H F (wpList prog ops Q (o::rest)):=by
 obtain⟨i,hi,hz,hs,hb⟩:=tyInfo;exact dK hH hr hg ho hd hn underlying40 hi hz hs hb rfl hx hy hq n7 o9 k
theorem rowsInfo: ∃i:TypeInfo,prog.info? 40=some i∧i.zero=some (.slice none 0 0)∧i.size=1∧i.bytes=24:=by
 have h:(prog.info? 40).map (fun i=>(i.zero,i.size,i.bytes))=some (some (.slice none 0 0),1,24):=n9
 cases hi:prog.info? 40 with
 | none=>simp [hi] at h
 | some i=>simp [hi] at h;exact⟨i,rfl,h.1,h.2.1,h.2.2⟩
theorem at_one_rows{β:dF}{n:Nat}{Γ:Env}{H:List bH}{F:List Fact}{Q:Exit→Act→World→Prop}{ops:Array Oper}{rest:List Oper}{o:Oper}{d:Nat}{x:Operand}{m:(Sl TyV)}(hw:want ops Γ o=some true)(ho:o.op= .buildSlice 37 1 #[(0,x)])(hd:o.dst=some d)(hn:Nat.blt d n=true)
  (hx:Γ.ev x=some (.slice m.addr m.list.length m.cap)) (k: ∀b,At β n ((d,.slice (some ⟨b,0,none⟩) 1 1)::Γ) (.obj b (.cells (bSb.all [m]).toArray 40)::H) F (wpList prog ops Q rest)):At β n Γ H F (wpList prog ops Q (o::rest)):=by
 obtain⟨i,hi,hz,hs,_⟩:=rowsInfo;refine gG hw ho hd hn hx underlying37 hi hz n7 n7 ?_ k;rw [hs]
 kernel_rfl
theorem at_app_rows{β:dF}{n:Nat}{Γ:Env}{H:List bH}{F:List Fact}{Q:Exit→Act→World→Prop}{ops:Array Oper}{rest:List Oper}{o:Oper}{d:Nat}{x y:Operand}{c q:Nat}{v:Value}{A:Option Addr}{xs ys:List (Sl TyV)}{H':List bH}(hH:cD H (bSb.row v 40 xs) H')(hr:dQ β H F bSb A ys)(hg:o.guard=none)
  (ho:o.op= .call {callee:= .builtin .append,args:= #[x,y],argTypes:= #[37,37]}) (hd:o.dst=some d) (hn:Nat.blt d n=true)
  (hx:Γ.ev x=some v) (hy:Γ.ev y=some (.slice A q c)) (hq:q=ys.length) (hl:xs.length+ys.length≤5864062014805)
  (k: ∀A' cap',At β n ((d,.slice A' (xs++ys).length cap')::Γ) (bSb.row (.slice A' (xs++ys).length cap') 40 (xs++ys)::H') F (wpList prog ops Q rest)):At β n Γ H F (wpList prog ops Q (o::rest)):=by
 obtain⟨i,hi,hz,hs,hb⟩:=rowsInfo;exact dK hH hr hg ho hd hn underlying37 hi hz hs hb rfl hx hy hq n7 o9 k
end
section
open Go.RowKit Go.Proofs.Tryz
section
variable {P : Program} {β : dF} {n : Nat} {Γ : Env} {H : List bH} {F : List Fact} {o : Oper} {x : Operand} {t tt e : TypeId} {A : Option Addr} {q c : Nat}
theorem bXk(ht:P.underlying t=some (.slice e))(ho:o.op= .binOp .eql t x (.const (.slice none 0 0)) tt)(hx:Γ.ev x=some (.slice A q c)):Sti P β n Γ H F o (.bool A.isNone):=fun a w S f s k=>by
 have h1: ∀d,(Op.equalIn (d+1) t (.slice A q c) (.slice none 0 0)).run P w= .ok A.isNone w:=fun d=>by cases A<;>simp [Op.equalIn,run_underlying ht]
 unfold execOp;have e:a.eval (.const (.slice none 0 0))= .slice none 0 0:=rfl;simp only [ho,f.ev hx,e]
 have hb:(binOp .eql t (.slice A q c) (.slice none 0 0)).run P w= .ok (.bool A.isNone) w:=by
  simp only [binOp];have h2:(Op.equal t (.slice A q c) (.slice none 0 0)).run P w= .ok A.isNone w:=h1 9999;rw [Sem.run_bind,h2];rfl
 have hg:(eqGuard .eql t x (.const (.slice none 0 0)) (.slice A q c) (.slice none 0 0)).run P w= .ok () w:=by
  unfold eqGuard;simp
 rw [Sem.run_bind,Sem.run_bind,hg,Result.andThen_ok,hb];rfl
end
theorem bVl{α:Type}{E:Flat α}{F:List Fact}{A:Option Addr}{m c:Nat}{l:List α}(h:Has F (E.sl (.slice A m c) l)):Has F (Fact.pure (A.isNone=true→l=[])):=fun S w k hA=>by
 obtain⟨A',c',e,h⟩:=h S w k
 cases l with
 | nil=>rfl
 | cons x r=>
  obtain⟨b,o,cs,e1,_⟩:=h 0 x rfl;injection e with e
  subst e;subst e1;cases hA
section
variable {k x : Bs} {l : List Bs} {i : Nat} {r : Int}
theorem bSs(h:r=gF k (l.drop i) i)(hx:l[i]?=some x):(k=x→r=i)∧(k≠x→r=gF k (l.drop (i+1)) ((i+1:Nat):Int)):=by
 rw [jI hx,gF] at h;refine⟨fun e=>by rw [if_pos e.symm] at h;exact h,fun e=>by rw [if_neg (Ne.symm e)] at h;rw [h];rfl⟩
theorem idxOf_end(h:r=gF k (l.drop i) i)(hi:l.length≤i):r= -1:=by
 rw [List.drop_of_length_le hi] at h;exact h
end
theorem vJ(A:Option Addr)(c:Nat)(l:List Bs)(hl:l.length≤140737488355328)(k:Bs):cM prog 17 [.slice A l.length c,.string (bs k)] [] [nM.sl (.slice A l.length c) l] (fun(_:Unit)=> .int .i64 (gF k l 0)) (fun _=>[]) (fun _=>[]):=by
 have hT:=meanT_ok;generalize hR:gF k l 0=r;refine k6 func17 ntmps17 ?_;intro β hM;refine g14 ?_;refine cB (ι:=Nat) [(0,_),(1,_),(7,_)] ⟨rfl,rfl,rfl,j0⟩ (fun i=>[(8,.int .i64 (i:Nat))]) (fun _=>[]) (fun i=>[Fact.pure (i≤l.length∧r=gF k (l.drop i) i)]) (fun i=>l.length-i) 0 ⟨rfl,j0⟩ .nil ⟨j3 (⟨n7,hR.symm⟩),j0⟩ ?_;rintro i;refine bC d7 fun hinv2=>?_;refine g6 ?_;refine dJ (fun hc9=>?_) fun hc9=>?_
 ·refine g15 ?_;obtain⟨x1,hx2⟩:=gx l i;refine ss (ixs i) ?_;refine ss (fL hx2 0) ?_;refine g3 ?_;refine jA (fun hc16=>?_) fun hc16=>?_
  ·have hc16:k=x1:=eq_of_beq hc16;refine g12 ?_;obtain rfl:=(bSs hinv2.2 hx2).1 ‹_›;exact rs1 () trivial
  have hc16:k≠x1:=fun h=>absurd (beq_iff_eq.2 h) (by rw [show(k==x1)=false from hc16];simp);refine g5 ?_;refine inc (i+1) ?_;refine g3 ?_;exact bk2 (i+1) ⟨j3 (⟨n7,(bSs hinv2.2 hx2).2 ‹_›⟩),j0⟩
 refine g11 ?_;have hr:=idxOf_end hinv2.2 n7;subst hr;exact rs1 () trivial
end
section
open Go.RowKit Go.Shelf Go.Proofs.Tryz
attribute [local go_sem] Oper.semAt_some
def zZ (S:Nat→Prop)(W W':World):Prop:= ∀c,S c→W'.heap[c]?=W.heap[c]?
theorem zZ.refl(S:Nat→Prop)(W:World):zZ S W W:=fun _ _=>rfl
theorem zZ.trans{S:Nat→Prop}{A B C:World}(h:zZ S A B)(k:zZ S B C):zZ S A C:=fun c hc=>(k c hc).trans (h c hc)
theorem zZ.cell{S:Nat→Prop}{A B:World}(h:zZ S A B){p:Addr}(hp:S p.block):B.cell? p=A.cell? p:=World.cell?_of_block (h p.block hp)
end
section
open Go.RowKit Go.Proofs.Tryz
section
variable {P : Program} {β : dF} {n : Nat} {Γ : Env} {H : List bH} {F : List Fact} {Q : Exit → Act → World → Prop}
theorem St.drew{S:mG}{w:World}(s:St β H S w):St β H S w.drew:=⟨⟨s.kept.os,s.kept.tape,s.kept.output,s.kept.size,s.kept.block⟩,fun c hc=>bH.ok_of (s.ok c hc) fun _ _=>rfl,s.own,s.sep,s.zone⟩
end
theorem wrapTo{a z:Int}(h:a=z)(h1: -9223372036854775808≤z)(h2:z<9223372036854775808):IntKind.i64.wrap a=z:=by
 rw [h];exact bEm h1 h2
instance : DecidableEq Mono := fun a b => decidable_of_iff (a.eqB b = true) (Mono.eqB_iff a b)
def bNd (a b:Mono):Bool:=a.eqB b
theorem sti_neq_mono{β:dF}{n:Nat}{Γ:Env}{H:List bH}{F:List Fact}{o:Oper}{a b:Operand}{tt:TypeId}(x y:Mono)(ho:o.op= .binOp .neq 100 a b tt)(hx:Γ.ev a=some (.agg #[.int .i64 x.n,.int .u8 x.e0.toNat,.int .u8 x.e1.toNat,.int .u8 x.e2.toNat,.int .u8 x.e3.toNat,.int .u8 x.e4.toNat,.int .u8 x.e5.toNat]))(hy:Γ.ev b=some (.agg #[.int .i64 y.n,.int .u8 y.e0.toNat,.int .u8 y.e1.toNat,.int .u8 y.e2.toNat,.int .u8 y.e3.toNat,.int .u8 y.e4.toNat,.int .u8 y.e5.toNat])):Sti prog β n Γ H F o (.bool (!bNd x y)):=fun c w S f s k=>by
 have hq:prog.eqGuardType prog.depth 100=false:=n9
 have hg:(eqGuard .neq 100 a b (.agg #[.int .i64 x.n,.int .u8 x.e0.toNat,.int .u8 x.e1.toNat,.int .u8 x.e2.toNat,.int .u8 x.e3.toNat,.int .u8 x.e4.toNat,.int .u8 x.e5.toNat]) (.agg #[.int .i64 y.n,.int .u8 y.e0.toNat,.int .u8 y.e1.toNat,.int .u8 y.e2.toNat,.int .u8 y.e3.toNat,.int .u8 y.e4.toNat,.int .u8 y.e5.toNat])).run prog w= .ok () w:=by
  unfold eqGuard;have hp:(program:Sem Program).run prog w= .ok prog w:=rfl;simp [hp,hq]
 unfold execOp;simp only [ho,f.ev hx,f.ev hy];rw [Sem.run_bind,Sem.run_bind,hg,Result.andThen_ok,run_neq_mono];rfl
theorem mono_eq{x y:Mono}:bNd x y=true↔x=y:=Mono.eqB_iff x y
theorem mono_t{x y:Mono}(h:(!bNd x y)=true):x≠y:=fun e=>by
 rw [mono_eq.2 e] at h;cases h
theorem mono_f{x y:Mono}(h:(!bNd x y)=false):x=y:=mono_eq.1 ac1
def bJ (l:List PolV):List (List Mono):=l.map (·.list)
theorem bF(l:List PolV):(bJ l).length=l.length:=List.length_map _
theorem gD{l:List PolV}{i:Nat}{p:PolV}(h:l[i]?=some p):(bJ l)[i]?=some p.list:=by
 unfold bJ;rw [List.getElem?_map,h];rfl
theorem eqF_of{α:Type} [DecidableEq α]{a b:List α}(h:a≠b):Value.bool false= .bool (decide (a=b)):=by simp [h]
theorem eqT_of{α:Type} [DecidableEq α]{a b:List α}(h:a=b):Value.bool true= .bool (decide (a=b)):=by simp [h]
theorem qN{α:Type}{E:Flat α}{F:List Fact}:Has F (E.sl (.slice none 0 0) []):=fun _ _ _=>⟨none,0,rfl,fun k x hk=>by simp at hk⟩
def cQ (l:List PolV):Fact:=Fact.each l kT
theorem qI{F:List Fact}{p:PolV}(h:Has F (kT p)):Has F (nH.sl (.slice p.addr p.list.length p.cap) p.list):=h.left
theorem dC{F:List Fact}{p:PolV}(h:Has F (kT p)):Has F (Fact.pure (p.list.length≤140737488355328)):=h.right
theorem iP: ∀{F:List Fact},Has F (kT ⟨none,0,[]⟩):=Has.and qN (j3 o9)
def bT (n:Int):List Mono:=(iN n).1
theorem monoI: ∃i:TypeInfo,prog.info? 100=some i∧i.zero=some (.agg #[.int .i64 0,.int .u8 0,.int .u8 0,.int .u8 0,.int .u8 0,.int .u8 0,.int .u8 0])∧i.size=7∧i.bytes=16:=by
 have h:(prog.info? 100).map (fun i=>(i.zero,i.size,i.bytes))=some (some (.agg #[.int .i64 0,.int .u8 0,.int .u8 0,.int .u8 0,.int .u8 0,.int .u8 0,.int .u8 0]),7,16):=n9
 cases hi:prog.info? 100 with
 | none=>simp [hi] at h
 | some i=>simp [hi] at h;exact⟨i,rfl,h.1,h.2.1,h.2.2⟩
section
variable {β : dF} {n : Nat} {Γ : Env} {H : List bH} {F : List Fact} {Q : Exit → Act → World → Prop} {ops : Array Oper} {rest : List Oper} {o : Oper} {d : Nat}
theorem at_none_mono(hw:want ops Γ o=some true)(ho:o.op= .buildSlice 47 0 #[])(hd:o.dst=some d)(hn:Nat.blt d n=true)
  (k: ∀b,At β n ((d,.slice (some ⟨b,0,none⟩) 0 0)::Γ) (nH.row (.slice (some ⟨b,0,none⟩) 0 0) 100 []::H) F (wpList prog ops Q rest)):At β n Γ H F (wpList prog ops Q (o::rest)):=by
 obtain⟨i,hi,_⟩:=monoI;exact bWf nH hw ho hd hn underlying47 hi k
theorem at_app_mono{x y:Operand}{c q:Nat}{v:Value}{A:Option Addr}{xs ys:List Mono}{H':List bH}(hH:cD H (nH.row v 100 xs) H')(hr:dQ β H F nH A ys)(hg:o.guard=none)
  (ho:o.op= .call {callee:= .builtin .append,args:= #[x,y],argTypes:= #[47,47]}) (hd:o.dst=some d) (hn:Nat.blt d n=true)
  (hx:Γ.ev x=some v) (hy:Γ.ev y=some (.slice A q c)) (hq:q=ys.length) (hl:xs.length+ys.length≤8796093022208)
  (k: ∀A' cap',At β n ((d,.slice A' (xs++ys).length cap')::Γ) (nH.row (.slice A' (xs++ys).length cap') 100 (xs++ys)::H') F (wpList prog ops Q rest)):At β n Γ H F (wpList prog ops Q (o::rest)):=by
 obtain⟨i,hi,hz,hs,hb⟩:=monoI;exact dK hH hr hg ho hd hn underlying47 hi hz hs hb rfl hx hy hq n7 o9 k
end
def bTg {α:Type}(l cur:List α)(i:Nat):Prop:=cur.length=l.length∧ ∀q,q<l.length→cur[q]?=if q<i∨l.length≤q+i then l[l.length-1-q]? else l[q]?
section
variable {α : Type} {l cur : List α} {i : Nat} {x y : α}
theorem revG_start(l:List α):bTg l l 0:=⟨rfl,fun q hq=>by rw [if_neg n7]⟩
theorem bXj(h:bTg l cur i)(hi:i<l.length-1-i)(hx:cur[l.length-1-i]?=some x)(hy:cur[i]?=some y):bTg l ((cur.set i x).set (l.length-1-i) y) (i+1):=by
 obtain⟨h1,h2⟩:=h;refine⟨by simp [h1],fun q hq=>?_⟩;have hx':=h2 (l.length-1-i) n7;have hy':=h2 i n7;rw [if_neg n7] at hx' hy';rw [hx] at hx';rw [hy] at hy'
 by_cases e1:q=l.length-1-i
 ·subst e1;rw [List.getElem?_set_self q8,if_pos n7,show l.length-1-(l.length-1-i)=i by omega];exact hy'
 ·rw [List.getElem?_set_ne (fun e=>e1 e.symm)]
  by_cases e2:q=i
  ·subst e2;rw [List.getElem?_set_self n7,if_pos n7];exact hx'
  ·rw [List.getElem?_set_ne (fun e=>e2 e.symm),h2 q hq]
   by_cases hc:q<i∨l.length≤q+i
   ·rw [if_pos hc,if_pos n7]
   ·rw [if_neg hc,if_neg n7]
theorem revG_end(h:bTg l cur i)(hi:l.length≤2*i+1):cur=l.reverse:=by
 obtain⟨h1,h2⟩:=h;apply List.ext_getElem?;intro q
 by_cases hq:q<l.length
 ·rw [h2 q hq,List.getElem?_reverse hq]
  by_cases hc:q<i∨l.length≤q+i
  ·rw [if_pos hc]
  ·rw [if_neg hc,show l.length-1-q=q by omega]
 ·rw [List.getElem?_eq_none n7,List.getElem?_eq_none q8]
end
theorem qV:(prog.info? 43).bind (·.zero)=some (.agg #[.slice none 0 0,.bool false,.slice none 0 0]):=n9
theorem vV(a0:Option Addr)(l0 c0:Nat):prog.built 43 [(0,.slice a0 l0 c0)]=some #[.slice a0 l0 c0,.bool false,.slice none 0 0]:=n9
theorem uR(a0:Option Addr)(l0 c0:Nat)(b1:Bool)(a2:Option Addr)(l2 c2:Nat):prog.built 43 [(0,.slice a0 l0 c0),(1,.bool b1),(2,.slice a2 l2 c2)]=some #[.slice a0 l0 c0,.bool b1,.slice a2 l2 c2]:=n9
theorem equalM_spec(p q:PolV)(hl:p.list.length≤140737488355328):cM prog 121 [.slice p.addr p.list.length p.cap,.slice q.addr q.list.length q.cap] [] [nH.sl (.slice p.addr p.list.length p.cap) p.list,nH.sl (.slice q.addr q.list.length q.cap) q.list] (fun(_:Unit)=> .bool (decide (p.list=q.list))) (fun _=>[]) (fun _=>[]):=by
 have hT:=fK;refine k6 func121 ntmps121 ?_;intro β hM;refine g15 ?_;refine wG (fun hc10=>?_) fun hc10=>?_
 ·refine g7 ?_;exact rs1 () j0 (he:=eqF_of (fun e=>by have:=congrArg List.length e;omega))
 refine g11 ?_;refine cB (ι:=Nat) [(0,_),(1,_),(12,_)] ⟨rfl,rfl,rfl,j0⟩ (fun i=>[(13,.int .i64 (i:Nat))]) (fun _=>[]) (fun i=>[Fact.pure (i≤p.list.length∧p.list.take i=q.list.take i)]) (fun i=>p.list.length-i) 0 ⟨rfl,j0⟩ .nil ⟨j3 (⟨n7,rfl⟩),j0⟩ ?_;rintro i;refine bC d7 fun hinv4=>?_;refine g6 ?_;refine dJ (fun hc14=>?_) fun hc14=>?_
 ·refine g11 ?_;refine bU _ _ [(true,0),(true,1),(true,2),(true,3),(true,4),(true,5),(true,6),(true,7),(true,8)] bV o5 .nil bA.self ?_;refine g2 ?_;obtain⟨x1,hx2⟩:=gx p.list i;refine stM rfl (ixs i) ?_;refine stM rfl (lS hx2 0) ?_;refine g2 ?_;obtain⟨x3,hx4⟩:=gx q.list i;refine stM rfl (ixs i) ?_;refine stM rfl (lS hx4 0) ?_;refine stM rfl (sti_neq_mono x1 x3 rfl rfl rfl) ?_;refine g2 ?_;refine jJ (fun hc24=>?_) fun hc24=>?_
  ·refine g11 ?_;exact rs1 () j0 (he:=eqF_of (not_take hx2 hx4 (mono_t asd)))
  refine g5 ?_;refine inc (i+1) ?_;refine g3 ?_;exact bk2 (i+1) ⟨j3 (⟨n7,bVx hinv4.2 hx2 hx4 (mono_f asd)⟩),j0⟩
 refine g11 ?_;exact rs1 () j0 (he:=eqT_of (take_all hinv4.2 n7 n7))
theorem same1_spec(p q:PolV)(hl:p.list.length≤140737488355328):cM prog 120 [.slice p.addr p.list.length p.cap,.slice q.addr q.list.length q.cap] [] [nH.sl (.slice p.addr p.list.length p.cap) p.list,nH.sl (.slice q.addr q.list.length q.cap) q.list] (fun(_:Unit)=> .bool (decide (p.list=q.list))) (fun _=>[]) (fun _=>[]):=by
 have hT:=fK;refine k6 func120 ntmps120 ?_;intro β hM;refine g9 ?_;refine j5 func121 (equalM_spec p q hl) ⟨d7,d8,j0⟩ fun _=>?_;refine g4 ?_;exact rs1 () trivial
theorem equalF_spec(A B:Option Addr)(ca cb:Nat)(a b:List PolV)(hl:a.length≤140737488355328):cM prog 119 [.slice A a.length ca,.slice B b.length cb,.func (.func 120) #[] #[]] [] [bS.sl (.slice A a.length ca) a,cQ a,bS.sl (.slice B b.length cb) b,cQ b] (fun(_:Unit)=> .bool (decide (bJ a=bJ b))) (fun _=>[]) (fun _=>[]):=by
 have hT:=fK;refine k6 func119 ntmps119 ?_;intro β hM;refine g15 ?_;refine wG (fun hc14=>?_) fun hc14=>?_
 ·refine g7 ?_;exact rs1 () j0 (he:=eqF_of (fun e=>by have:=congrArg List.length e;rw [bF,bF] at this;omega))
 refine g11 ?_;refine cB (ι:=Nat) [(1,_),(2,_),(15,_),(16,_)] ⟨rfl,rfl,rfl,rfl,j0⟩ (fun i=>[(17,.int .i64 (i:Nat))]) (fun _=>[]) (fun i=>[Fact.pure (i≤a.length∧(bJ a).take i=(bJ b).take i)]) (fun i=>a.length-i) 0 ⟨rfl,j0⟩ .nil ⟨j3 (⟨n7,rfl⟩),j0⟩ ?_;rintro i;refine bC d7 fun hinv4=>?_;refine g6 ?_;refine dJ (fun hc18=>?_) fun hc18=>?_
 ·refine g7 ?_;obtain⟨x1,hx2⟩:=gx a i;refine ss (ixs i) ?_;refine ss (fL hx2 0) ?_;refine g8 ?_;obtain⟨x3,hx4⟩:=gx b i;refine ss (ixs i) ?_;refine ss (fL hx4 0) ?_;refine g8 ?_;refine bC (dC (Has.each d9 (j4 hx2))) fun hxl=>?_;refine fV (bO func120 rfl rfl) (same1_spec x1 x3 hxl) rfl rfl rfl rfl rfl rfl rfl .nil ⟨qI (Has.each d9 (j4 hx2)),qI (Has.each e7 (j4 hx4)),j0⟩ fun _=>?_;refine g3 ?_;refine jJ (fun hc30=>?_) fun hc30=>?_
  ·refine g11 ?_;exact rs1 () j0 (he:=eqF_of (not_take (gD hx2) (gD hx4) (of_decide_eq_false (by simpa using (asd:(!decide _)=true)))))
  refine g5 ?_;refine inc (i+1) ?_;refine g3 ?_;exact bk2 (i+1) ⟨j3 (⟨n7,bVx hinv4.2 (gD hx2) (gD hx4) (of_decide_eq_true (by simpa using (asd:(!decide _)=false)))⟩),j0⟩
 refine g11 ?_;exact rs1 () j0 (he:=eqT_of (take_all hinv4.2 af0 af0))
theorem uQ(A B:Option Addr)(ca cb:Nat)(a b:List PolV)(hl:a.length≤140737488355328):cM prog 88 [.slice A a.length ca,.slice B b.length cb] [] [bS.sl (.slice A a.length ca) a,cQ a,bS.sl (.slice B b.length cb) b,cQ b] (fun(_:Unit)=> .bool (decide (bJ a=bJ b))) (fun _=>[]) (fun _=>[]):=by
 have hT:=fK;refine k6 func88 ntmps88 ?_;intro β hM;refine g9 ?_;refine j5 func119 (equalF_spec A B ca cb a b hl) ⟨d7,d8,d9,e6,j0⟩ fun _=>?_;refine g4 ?_;exact rs1 () trivial
theorem bAr(A:Option Addr)(c:Nat)(l:List PolV)(hl:l.length≤5864062014805):cM prog 114 [.slice A l.length c] [] [bS.sl (.slice A l.length c) l] (fun(x:Option Addr×Nat)=> .slice x.1 l.length x.2) (fun(x:Option Addr×Nat)=>[bS.row (.slice x.1 l.length x.2) 47 l]) (fun _=>[]):=by
 have hT:=fK;refine k6 func114 ntmps114 ?_;intro β hM;refine g9 ?_;refine ss (bXk underlying41 rfl rfl) ?_;refine g2 ?_;refine jA (fun hc4=>?_) fun hc4=>?_
 ·refine cO<|bB (Fact.pure (A.isNone=true→l=[])) (bVl d7) ?_;refine bC d7 fun hnil=>?_;have hl0:=hnil asd;subst hl0;refine cK (t:=47) bS ?_;refine g6 ?_;exact rs1 (_,_) trivial
 refine g4 ?_;refine at_none_pols rfl rfl rfl rfl fun b1=>?_;refine one ?_;refine fM .head (cE d7) rfl rfl rfl rfl rfl rfl rfl q8 fun A2 c3=>?_;rw [List.nil_append];refine g4 ?_;exact rs1 (_,_) trivial
theorem bBb(A:Option Addr)(c:Nat)(l:List Mono)(hl:l.length≤8796093022208):cM prog 35 [.slice A l.length c] [] [nH.sl (.slice A l.length c) l] (fun(x:Option Addr×Nat)=> .slice x.1 l.length x.2) (fun(x:Option Addr×Nat)=>[nH.row (.slice x.1 l.length x.2) 100 l]) (fun _=>[]):=by
 have hT:=fK;refine k6 func35 ntmps35 ?_;intro β hM;refine g9 ?_;refine ss (bXk underlying47 rfl rfl) ?_;refine g2 ?_;refine jA (fun hc4=>?_) fun hc4=>?_
 ·refine cO<|bB (Fact.pure (A.isNone=true→l=[])) (bVl d7) ?_;refine bC d7 fun hnil=>?_;have hl0:=hnil asd;subst hl0;refine cK (t:=100) nH ?_;refine g6 ?_;exact rs1 (_,_) trivial
 refine g4 ?_;refine at_none_mono rfl rfl rfl rfl fun b1=>?_;refine one ?_;refine at_app_mono .head (cE d7) rfl rfl rfl rfl rfl rfl rfl q8 fun A2 c3=>?_;rw [List.nil_append];refine g4 ?_;exact rs1 (_,_) trivial
theorem bTp(A:Option Addr)(c:Nat)(l:List PolV)(hl:l.length≤140737488355328):cM prog 115 [.slice A l.length c] [bS.row (.slice A l.length c) 47 l] [] (fun(_:Unit)=> .tuple #[]) (fun(_:Unit)=>[bS.row (.slice A l.length c) 47 l.reverse]) (fun _=>[]):=by
 have hT:=fK;refine k6 func115 ntmps115 ?_;intro β hM;refine g5 ?_;refine cP (z':=(l.length:Int)-1-((0:Nat):Int)) (wrapTo n7 n7 n7) ?_;refine g5 ?_;refine cB (ι:=Nat×List PolV) [(0,_)] ⟨rfl,j0⟩ (fun⟨i,cur⟩=>[(2,.int .i64 (i:Nat)),(3,.int .i64 ((l.length:Int)-1-(i:Nat)))]) (fun⟨i,cur⟩=>[bS.row (.slice A l.length c) 47 cur]) (fun⟨i,cur⟩=>[Fact.pure (i≤l.length∧bTg l cur i)]) (fun⟨i,cur⟩=>l.length-i) (0,l) ⟨rfl,rfl,j0⟩ (.c0 .nil) ⟨j3 (⟨n7,revG_start l⟩),j0⟩ ?_;rintro⟨i,cur⟩;dsimp only;refine bC d7 fun hinv1=>?_;refine g8 ?_;refine dJ (fun hc9=>?_) fun hc9=>?_
 ·refine g4 ?_;have hlt:i<l.length-1-i:=n7
  have hcl:=hinv1.2.1;refine bCl .head n7 fun g1 hg=>?_;subst hg;have ej:((l.length:Int)-1-(i:Nat))=((l.length-1-i:Nat):Int):=n7
  rw [ej];refine mV _ _ (.fl 0 (.fl 1 (.fl 2 (.fl 3 (.fl 4 (.fl 5 (.fl 6 (.fl 8 (.fl 9 (.fl 10 (.two 7 11 (.op 11 (.fl 12 (.op 13 (.fl 14 (.op 15 .nil))))) (.op 7 (.fl 12 (.op 13 (.fl 14 (.op 15 .nil)))))))))))))))) bV o5 .nil bA.self ?_;refine g6 ?_;obtain⟨x2,hx3⟩:=gx cur (l.length-1-i) w7;refine sqT rfl (iX hT (k:=(l.length-1-i)) rfl rfl rfl rfl rfl rfl w7) ?_;refine g2 ?_;obtain⟨x4,hx5⟩:=gx cur i w7;refine sqT rfl (iX hT (k:=i) rfl rfl rfl rfl rfl rfl w7) ?_;refine jP (o:=_) (o':=_) rfl rfl ?_ ?_
  ·refine ss (fL hx3 0) ?_;refine g2 ?_;refine ss (fL hx5 0) ?_;refine one ?_;refine sqT rfl (iX hT (k:=i) rfl rfl rfl rfl rfl rfl w7) ?_;refine one ?_;refine fH hT (k:=i) (fo:=0) (y':=x2) .head rfl rfl rfl rfl rfl rfl rfl rfl rfl hx5 rfl ?_;refine one ?_;obtain⟨x6,hx7⟩:=gx (cur.set i x2) (l.length-1-i) w7;refine sqT rfl (iX hT (k:=(l.length-1-i)) rfl rfl rfl rfl rfl rfl w7) ?_;refine one ?_;refine fH hT (k:=(l.length-1-i)) (fo:=0) (y':=x4) .head rfl rfl rfl rfl rfl rfl rfl rfl rfl hx7 rfl ?_;refine g7 ?_;refine inc (i+1) ?_;refine g2 ?_;refine cP (z':=(l.length:Int)-1-((i+1:Nat):Int)) (wrapTo n7 n7 n7) ?_;refine g4 ?_;exact bk2 (i+1,_) ⟨j3 (⟨by dsimp only;omega,bXj hinv1.2 hlt asd asd⟩),j0⟩
  refine ss (fL hx5 0) ?_;refine g2 ?_;refine ss (fL hx3 0) ?_;refine one ?_;refine sqT rfl (iX hT (k:=i) rfl rfl rfl rfl rfl rfl w7) ?_;refine one ?_;refine fH hT (k:=i) (fo:=0) (y':=x2) .head rfl rfl rfl rfl rfl rfl rfl rfl rfl hx5 rfl ?_;refine one ?_;obtain⟨x8,hx9⟩:=gx (cur.set i x2) (l.length-1-i) w7;refine sqT rfl (iX hT (k:=(l.length-1-i)) rfl rfl rfl rfl rfl rfl w7) ?_;refine one ?_;refine fH hT (k:=(l.length-1-i)) (fo:=0) (y':=x4) .head rfl rfl rfl rfl rfl rfl rfl rfl rfl hx9 rfl ?_;refine g7 ?_;refine inc (i+1) ?_;refine g2 ?_;refine cP (z':=(l.length:Int)-1-((i+1:Nat):Int)) (wrapTo n7 n7 n7) ?_;refine g4 ?_;exact bk2 (i+1,_) ⟨j3 (⟨by dsimp only;omega,bXj hinv1.2 hlt asd asd⟩),j0⟩
 refine g4 ?_;have hr:=revG_end hinv1.2 n7;subst hr;exact kC () rfl (.c0 .nil) j0 (rfl)
theorem jO(n:Int):cM prog 45 [.int .i64 n] [] [] (fun(x:Option Addr×Nat)=> .slice x.1 (bT n).length x.2) (fun _=>[]) (fun(x:Option Addr×Nat)=>[kT ⟨x.1,x.2,bT n⟩]):=by
 have hT:=fK;refine k6 func45 ntmps45 ?_;intro β hM;refine g8 ?_;refine j5 func34 (yZ n) j0 fun⟨A1,c2⟩=>?_;refine g14 ?_;exact rs1 (A1,c2) ⟨d7,j0⟩
theorem dE(A:Option Addr)(n c:Nat):cM prog 46 [.slice A n c] [] [] (fun(_:Unit)=> .agg #[.slice A n c,.bool false,.slice none 0 0]) (fun _=>[]) (fun _=>[]):=by
 have hT:=fK;refine k6 func46 ntmps46 ?_;intro β hM;refine g2 ?_;refine j6 qV fun b1=>?_;refine g5 ?_;refine ss (k7 (vV _ _ _)) ?_;refine g4 ?_;exact rs1 () trivial
theorem jD(A B:Option Addr)(n m c d:Nat):cM prog 44 [.slice A n c,.slice B m d] [] [] (fun(_:Unit)=> .agg #[.slice A n c,.bool true,.slice B m d]) (fun _=>[]) (fun _=>[]):=by
 have hT:=fK;refine k6 func44 ntmps44 ?_;intro β hM;refine g2 ?_;refine j6 qV fun b1=>?_;refine g6 ?_;refine ss (k7 (uR _ _ _ _ _ _ _)) ?_;refine g4 ?_;exact rs1 () trivial
abbrev Pol:=List Mono
structure TyP where
 sides:List Pol
 known:Bool
 values:List Pol
 deriving Inhabited,DecidableEq
def TyV.t (x:TyV):TyP:=⟨bJ x.sides.list,x.known,bJ x.values.list⟩
def jC (nums:List Int):TyP:=
 if nums.any (fun n=>decide ((iN n).2≠0))=true∨4<nums.length then ⟨if 1<nums.length then [bT nums.length] else [],false,[]⟩
 else ⟨if 1<nums.length then [bT nums.length] else [],true,nums.map bT⟩
abbrev pF:=Pol→Pol→Pol×Int
def yU (op:pF):List Pol→List Pol→Option (List Pol)
 | [],_=>some []
 | _::_,[]=>none
 | p::x,q::y=>if (op p q).2≠0 then none else (yU op x y).map ((op p q).1:: ·)
def repT (x:List Pol)(n:Nat):List Pol:=(List.replicate n x).flatten
def xI (a b:TyP):List Pol:=if a.sides=[]∧b.sides≠[] then repT a.values b.values.length else a.values
def uF (a b:TyP):List Pol:=if b.sides=[]∧a.sides≠[] then repT b.values a.values.length else b.values
def lR (op:Option pF)(a b:TyP):List Pol×Bool:=
 match op with
 | none=>([],false)
 | some op=>if a.known=false∨b.known=false then ([],false) else match yU op (xI a b) (uF a b) with
  | none=>([],false)
  | some l=>(l,true)
def addO:pF:=fun p q=>bY p q 1
def bBv:pF:=fun p q=>bY p q (-1)
def lK:Pol→List Pol→Option Pol
 | p,[]=>some p
 | p,s::r=>if (nJ p s).2≠0 then none else lK (nJ p s).1 r
def fA (f:Int)(a:TyP):TyP×Int:=
 if f=32 then
  if a.sides≠[] then (a,90) else if a.known=false then (a,92) else if fS (a.values.headD [])=false then (a,93) else (⟨[a.values.headD []],false,[]⟩,0)
 else if f=33 then (⟨[bT a.sides.length],true,a.sides⟩,0)
 else if f=34 then match lK (bT 1) a.sides with
  | none=>(a,95)
  | some p=>(⟨[p],a.known,a.values⟩,0)
 else if f=35 then (if a.sides≠[] then ⟨a.sides,a.known,a.values.reverse⟩ else a,0)
 else if f=36 then (⟨a.sides.reverse,a.known,a.values⟩,0)
 else if f=1 then (a,0)
 else if f=2 then (⟨a.sides,(lR (some bBv) ⟨[],true,[[]]⟩ a).2,(lR (some bBv) ⟨[],true,[[]]⟩ a).1⟩,0)
 else (⟨a.sides,false,[]⟩,0)
def bBj (a b:TyP):TyP×Int:=
 if 1<a.sides.length then (a,90) else if a.known=false then (a,92)
 else if a.values.any (fun v=>!fS v)=true then (a,93)
 else if b.sides.any (fun s=>!gA s 1)=true then (a,94)
 else (⟨a.values,false,[]⟩,0)
def bTi (m:Mono):Mono:=⟨1,m.e0,m.e1,m.e2,m.e3,m.e4,m.e5⟩
def rO (v:Pol):Option Int:=
 match v with
 | []=>some 0
 | [m]=>if gA [bTi m] 1=false then none else some m.n
 | _=>none
def yX (take:Bool)(n:Int)(l:List Pol):List Pol:=
 if take=decide (0≤n) then l.take (if n<0 then n+l.length else n).toNat else l.drop (if n<0 then n+l.length else n).toNat
def kO (take:Bool)(a b:TyP):TyP×Int:=
 if a.sides≠[]∨b.sides=[] then (a,90) else if a.known=false then (a,92)
 else match rO (a.values.headD []) with
  | none=>(a,93)
  | some n=>
   if gA (b.sides.headD []) (max n (-n))=false then (a,93)
   else if take=true then (⟨bT (max n (-n))::b.sides.tail,b.known,if b.known=true then yX take n b.values else b.values⟩,0)
   else if (bY (b.sides.headD []) (bT (max n (-n))) (-1)).2≠0 then (a,95)
   else (⟨(bY (b.sides.headD []) (bT (max n (-n))) (-1)).1::b.sides.tail,b.known,if b.known=true then yX take n b.values else b.values⟩,0)
def cX (l:List Pol):List Pol:=if l=[] then [bT 1] else l
def bAs (a b:TyP):TyP×Int:=
 if (cX a.sides).length≠(cX b.sides).length∨(cX a.sides).tail≠(cX b.sides).tail then (a,91)
 else if (bY ((cX a.sides).headD []) ((cX b.sides).headD []) 1).2≠0 then (a,95)
 else if a.known=true∧b.known=true∧a.values.length+b.values.length≤4 then (⟨(bY ((cX a.sides).headD []) ((cX b.sides).headD []) 1).1::(cX b.sides).tail,true,a.values++b.values⟩,0)
 else (⟨(bY ((cX a.sides).headD []) ((cX b.sides).headD []) 1).1::(cX b.sides).tail,false,[]⟩,0)
def xF (f:Int):Option pF:=if f=1 then some addO else if f=2 then some bBv else if f=3 then some nJ else none
def kI (f:Int)(a b:TyP):TyP×Int:=
 if f=37 then bBj a b else if f=38 then kO true a b else if f=39 then kO false a b else if f=40 then bAs a b
 else if a.sides≠[]∧b.sides≠[]∧a.sides≠b.sides then (⟨a.sides,false,[]⟩,91)
 else (⟨if a.sides=[] then b.sides else a.sides,(lR (xF f) a b).2,(lR (xF f) a b).1⟩,0)
abbrev dT:=List (Bs×TyP)
def nA (k:Bs):dT→Option TyP
 | []=>none
 | p::r=>if k=p.1 then some p.2 else nA k r
def jL:Bs:=[108,105,110,101,32]
def nIn:Bs:=[105,110,32]
def nameT (N:dT)(s:Bs):Option TyP:=match nA (jL++s) N with
 | some t=>some t
 | none=>match nA (nIn++s) N with
  | some t=>some t
  | none=>nA s N
def dB (N:dT)(it:cT)(st:List TyP):TyP×Int:=
 if it.how=1 then (jC it.nums,0)
 else if it.how=2 then (match nameT N it.name with
  | some t=>(t,0)
  | none=>(⟨[],false,[]⟩,83))
 else if it.how=3 then fA it.fn (st.headD default)
 else if it.how=5 then (if (st.headD default).sides=[] then st.headD default else ⟨(st.headD default).sides.take ((st.headD default).sides.length-1),false,[]⟩,0)
 else if it.how=6 then (if (st.headD default).sides=[] then st.headD default else ⟨(st.headD default).sides,false,[]⟩,0)
 else if it.how=4 then kI it.fn (st.tail.headD default) (st.headD default)
 else (⟨(st.tail.headD default).sides++(st.headD default).sides,false,[]⟩,if 4<(st.tail.headD default).sides.length+(st.headD default).sides.length then 90 else 0)
def mE (N:dT):List cT→List TyP→List TyP→Except Flt (List TyP×List TyP)
 | [],st,all=> .ok (st,all)
 | it::r,st,all=>if (dB N it st).2≠0 then .error (it.at_,(dB N it st).2) else mE N r ((dB N it st).1::st.drop (dG it)) (all++[(dB N it st).1])
def kS (N:dT):List mT→List (List TyP)→List (List TyP)×Flt
 | [],out=>(out,(0,0))
 | l::r,out=>match mE N l.items [] [] with
  | .error f=>([],f)
  | .ok (st,all)=>kS ((jL++l.name,st.getLastD default)::N) r (out++[all])
def varT (k:Nat):TyP:=⟨[],true,[(rC k).1]⟩
def vR:List Bs→Nat→dT→dT
 | [],_,N=>N
 | s::r,k,N=>vR r (k+1) ((s,varT k)::N)
def bPo (vars:List Bs)(d:pN):Pol:=if 0≤gF d.name vars 0 then (rC (gF d.name vars 0)).1 else bT d.n
def inT (vars:List Bs)(x:gM):TyP:=⟨x.sides.map (bPo vars),false,[]⟩
def bOi (vars:List Bs):List gM→dT→dT
 | [],N=>N
 | x::r,N=>bOi vars r ((nIn++x.name,inT vars x)::N)
def pM (p:gN):dT:=bOi (cJ p) p.inputs (vR (cJ p) 0 [])
def fI (p:gN):List (List TyP)×Flt:=
 if (cV p).2=false then ([],(0,50))
 else match p.inputs.find? (bDv (cJ p)) with
  | some x=>([],(x.at_,80))
  | none=>kS (pM p) p.lines []
end
end Go.Proofs.YtakphiannlpnfaaGreatDoor
