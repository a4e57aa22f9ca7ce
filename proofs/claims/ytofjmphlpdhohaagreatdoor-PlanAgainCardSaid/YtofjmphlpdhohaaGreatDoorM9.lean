/- Texts of one proof, one behind the other: MixS, PlW, PlX, PlY, MapS, Ints, Full, PlF, PlZ, PlP, CoW, CoX. -/
import Derived.Test.YtofjmphlpdhohaaGreatDoorM7
import Derived.Test.YtofjmphlpdhohaaGreatDoorM8
import Derived.Test.YtofjmphlpdhohaaGreatDoorM4
import Derived.Deep.AppendSrc
import Derived.Deep.Upon
namespace Go.Proofs.YtofjmphlpdhohaaGreatDoor
open Go.RowKit
set_option maxRecDepth 100000 in
theorem wR(A:Option Addr)(n c:Nat):cX Tryz.prog 161 [.slice A n c] [] [] (fun(_:Unit)=> .int .i64 (n:Nat)) (fun _=>[]) (fun _=>[]):=by
 have hT:=fD;refine cD Tryz.func161 rfl Tryz.ntmps161 rfl ?_;intro β hM;refine sr<|sp hT ?_;refine nn<|sr<|sp3 hT ?_;refine nn<|bK ?_;exact bL () rfl (rv_tmp rfl) .nil trivial (rfl)
set_option maxRecDepth 100000 in
theorem Less_spec(A:Option Addr)(c i j:Nat)(l:List SpotV)(x y:SpotV)(hx:l[i]?=some x)(hy:l[j]?=some y):cX Tryz.prog 352 [.slice A l.length c,.int .i64 (i:Nat),.int .i64 (j:Nat)] [dN.row (.slice A l.length c) 194 l] [] (fun(_:Unit)=> .bool (decide (x.since<y.since))) (fun(_:Unit)=>[dN.row (.slice A l.length c) 194 l]) (fun _=>[]):=by
 have hT:=fD;refine cD Tryz.func352 rfl Tryz.ntmps352 rfl ?_;intro β hM;refine bF ?_;have hi:=(List.getElem?_eq_some_iff.1 hx).1;have hj:=(List.getElem?_eq_some_iff.1 hy).1;refine bD<|sp hT ?_;refine nn<|bF<|dX _ _ [(true,0),(true,1),(true,2),(true,3),(true,4),(true,5),(true,6),(true,7),(true,8),(true,9),(true,10),(true,11)] fH (by decide+kernel) (.cons .head .nil) bH.self ?_;refine puM hT ?_;refine puM hT ?_;refine stM rfl (bG hT (k:=i) (cE .head) rfl rfl rfl rfl rfl (by first | rfl | (simp only [List.length_set])) rfl (by omega)) ?_;refine puM hT ?_;refine stM rfl (bR hT (bV.knows (cE .head) (k:=i) (x:=x) hx 2) rfl rfl rfl rfl rfl) ?_;refine puM hT ?_;refine puM hT ?_;refine stM rfl (bG hT (k:=j) (cE .head) rfl rfl rfl rfl rfl (by first | rfl | (simp only [List.length_set])) rfl (by omega)) ?_;refine puM hT ?_;refine stM rfl (bR hT (bV.knows (cE .head) (k:=j) (x:=y) hy 2) rfl rfl rfl rfl rfl) ?_;refine puM hT ?_;refine puM hT ?_;refine cJ<|bE<|bK ?_;exact bL () rfl (rv_tmp rfl) (.cons .head .nil) trivial rfl
set_option maxRecDepth 100000 in
theorem Push_spec(A:Option Addr)(b c:Nat)(l:List SpotV)(x:SpotV)(hl:l.length≤100000000):cX Tryz.prog 354 [.pointer (some ⟨b,0,none⟩),.iface 194 (.agg #[.slice x.at_.addr x.at_.list.length x.at_.cap,.slice x.size.addr x.size.list.length x.size.cap,.int .i64 x.since])] [.obj b (.cells ([.slice A l.length c]:List Value).toArray 307),dN.row (.slice A l.length c) 194 l] [] (fun(_:Option Addr×Nat)=> .tuple #[]) (fun(y:Option Addr×Nat)=>[.obj b (.cells ([.slice y.1 (l++[x]).length y.2]:List Value).toArray 307),dN.row (.slice y.1 (l++[x]).length y.2) 194 (l++[x])]) (fun _=>[]):=by
 have hT:=fD;refine cD Tryz.func354 rfl Tryz.ntmps354 rfl ?_;intro β hM;refine nS 9 _ _ [(true,0),(true,1),(true,2),(true,3),(true,4),(true,5),(false,6),(false,7),(true,8)] fH (by decide+kernel) (.cons .head .nil) bH.self ?_;refine puL hT ?_;refine puL hT ?_;refine puL hT ?_;refine stL rfl (ldO hT (dC .head)) ?_;refine puL hT ?_;refine stL rfl (vG rfl Tryz.underlying194 (fun _ e=>by cases e) rfl) ?_;refine jL (o:=_) rfl ?_;refine bCb (m:=x) rfl rfl rfl rfl rfl fun b1=>?_;refine jO (.cons kT1 .nil) trivial ?_;refine jL (o:=_) rfl ?_;refine at_app_row kT2 (iE .head rfl) rfl rfl rfl rfl rfl rfl rfl (by simp only [List.length_singleton];omega) fun A2 c3=>?_;refine jO (.cons kT2 .nil) trivial ?_;refine puL hT ?_;refine iQ (o:=_) rfl ?_;refine sto hT kT2 ?_;refine kJ ?_;exact jS (A2,c3) rfl (.cons .head (.cons .head .nil)) trivial (by first | rfl | simp_all)
section
variable {P : Program} {β : fB} {n : Nat} {Γ : Env} {H : List bJ} {F : List bI} {Q : Exit → Act → World → Prop} {K : Act → World → Prop} {T : Tab} {α : Type} {E : Flat α}
theorem run_cutHM(hT:dV P T){t e sz:Nat}{ei:TI}(ht:T.get t=some ⟨.slice e,sz⟩)(he:T.get e=some ei){A:Option Addr}{l c k:Nat}(hk:k≤c)(kj kk:IntKind)(w:World):(Instr.sliceAt t (.slice A l c) none (some (.int kj (k:Nat))) (some (.int kk (k:Nat)))).run P w= .ok (.slice A k k) w:=by
 obtain⟨d,hu,hd⟩:=hT.any ht;cases d<;>simp [TD.of] at hd
 subst hd;have hel:=elem_of hu;rw [run_sliceAt_slice w t _ _ _ _ (by rw [hel];exact hu),run_slice_hm w t A l c (by rw [hel];exact hu) kj kk (k:Int) (k:Int) (by omega) (by omega) (by omega),hel,hT.size he];simp only [Result.andThen_ok,sliced,Int.toNat_natCast,Nat.zero_mul,Nat.sub_zero]
 congr 2
 split
 ·rfl
 ·cases A<;>simp [Addr.add]
theorem sti_cutHM(hT:dV P T){o:Oper}{t e sz k l cap:Nat}{ei:TI}{x i i':Operand}{kj kk:IntKind}{z z':Int}{A:Option Addr}(ho:o.op= .slice t x none (some i) (some i'))(hx:Γ.ev x=some (.slice A l cap))(hi:Γ.ev i=some (.int kj z))(hi':Γ.ev i'=some (.int kk z'))
  (ht:T.get t=some ⟨.slice e,sz⟩) (he:T.get e=some ei) (hz:z=(k:Nat)) (hz':z'=(k:Nat)) (hk:k≤cap):Sti P β n Γ H F o (.slice A k k):=fun a w S f s hF=>by
 subst hz hz';unfold execOp;simp only [ho,f.ev hx,Option.map_some,Option.map_none,f.ev hi,f.ev hi'];rw [Sem.run_bind,run_cutHM hT ht he hk];rfl
theorem at_held_cut{A:Option Addr}{m c k c':Nat}{xs:List α}{H':List bJ}(hH:dD H (E.held (.slice A m c) xs) H')(hk:k≤xs.length)(h:At β n Γ (E.held (.slice A k c') (xs.take k)::H') F K):At β n Γ H F K:=fun a w S f s hF=>by
 have s2:=s.perm hH.perm
 have hb: ∀b,(E.held (.slice A k c') (xs.take k)).blk=some b→(E.held (.slice A m c) xs).blk=some b:=fun b hb=>by
  have hb:qS (.slice A k c') (xs.take k)=some b:=hb;show qS (.slice A m c) xs=some b
  cases xs with
  | nil=>rw [List.take_nil] at hb;cases hb
  | cons x xs=>
   cases k with
   | zero=>cases hb
   | succ k=>cases A<;>exact hb
 have hok:(E.held (.slice A m c) xs).ok w:=s2.ok _ (List.mem_cons_self ..);have hsep:=List.pairwise_cons.1 s2.sep
 have hok2:(E.held (.slice A k c') (xs.take k)).ok w:=by
  refine⟨A,c',by rw [List.length_take,Nat.min_eq_left hk],?_⟩
  rcases Nat.eq_zero_or_pos k with rfl | h0
  ·exact .inl (List.take_zero ..)
  ·obtain⟨g,off,cap,cs,t,fz,e,hbk,hh,hall⟩:=oE hok (k:=0) (by omega);injection e with e1 _ _
   subst e1
   have hbk2:(E.held (.slice (some ⟨g,off,none⟩) k c') (xs.take k)).blk=some g:=by
    show qS _ (xs.take k)=some g
    cases xs with
    | nil=>simp at hk;omega
    | cons x xs=>
     cases k with
     | zero=>omega
     | succ k=>rfl
   refine .inr ⟨g,off,cs,t,fz,rfl,?_,fun j u hj=>hall j u ?_⟩
   ·show((qS (.slice (some ⟨g,off,none⟩) k c') (xs.take k)).bind fun i=>w.heap[i]?)=_;rw [show qS (.slice (some ⟨g,off,none⟩) k c') (xs.take k)=some g from hbk2];exact hh
   ·have e:E.all xs=E.all (xs.take k)++E.all (xs.drop k):=by rw [←E.all_append,List.take_append_drop]
    rw [e,List.getElem?_append_left (List.getElem?_eq_some_iff.1 hj).1];exact hj
 exact h a w S f ⟨s2.kept,fun d hd=>by
  rcases List.mem_cons.1 hd with rfl | hd
  ·exact hok2
  ·exact s2.ok d (List.mem_cons_of_mem _ hd),fun d hd b hdb=>by
  rcases List.mem_cons.1 hd with rfl | hd
  ·exact s2.own _ (List.mem_cons_self ..) b (hb b hdb)
  ·exact s2.own d (List.mem_cons_of_mem _ hd) b hdb,List.pairwise_cons.2 ⟨fun d hd b hdb=>hsep.1 d hd b (hb b hdb),hsep.2⟩,s2.zone⟩ hF
end
theorem rB:(Tryz.prog.info? 194).bind (·.zero)=some (.agg #[.slice none 0 0,.slice none 0 0,.int .i64 0]):=by kernel_rfl
set_option maxRecDepth 100000 in
theorem LessH_spec(A:Option Addr)(c i j:Nat)(l:List SpotV)(x y:SpotV)(hx:l[i]?=some x)(hy:l[j]?=some y):cX Tryz.prog 352 [.slice A l.length c,.int .i64 (i:Nat),.int .i64 (j:Nat)] [dN.held (.slice A l.length c) l] [] (fun(_:Unit)=> .bool (decide (x.since<y.since))) (fun(_:Unit)=>[dN.held (.slice A l.length c) l]) (fun _=>[]):=by
 have hT:=fD;refine cD Tryz.func352 rfl Tryz.ntmps352 rfl ?_;intro β hM;refine bF ?_;have hi:=(List.getElem?_eq_some_iff.1 hx).1;have hj:=(List.getElem?_eq_some_iff.1 hy).1;refine bD<|sp hT ?_;refine nn<|bF<|dX _ _ [(true,0),(true,1),(true,2),(true,3),(true,4),(true,5),(true,6),(true,7),(true,8),(true,9),(true,10),(true,11)] fH (by decide+kernel) (.cons .head .nil) bH.self ?_;refine puM hT ?_;refine puM hT ?_;refine stM rfl (bG hT (k:=i) (cF .head) rfl rfl rfl rfl rfl (by first | rfl | (simp only [List.length_set])) rfl (by omega)) ?_;refine puM hT ?_;refine stM rfl (bR hT (bV.knows (cF .head) (k:=i) (x:=x) hx 2) rfl rfl rfl rfl rfl) ?_;refine puM hT ?_;refine puM hT ?_;refine stM rfl (bG hT (k:=j) (cF .head) rfl rfl rfl rfl rfl (by first | rfl | (simp only [List.length_set])) rfl (by omega)) ?_;refine puM hT ?_;refine stM rfl (bR hT (bV.knows (cF .head) (k:=j) (x:=y) hy 2) rfl rfl rfl rfl rfl) ?_;refine puM hT ?_;refine puM hT ?_;refine cJ<|bE<|bK ?_;exact bL () rfl (rv_tmp rfl) (.cons .head .nil) trivial rfl
set_option maxRecDepth 100000 in
theorem SwapH_spec(A:Option Addr)(c i j:Nat)(l:List SpotV)(x y:SpotV)(hx:l[i]?=some x)(hy:l[j]?=some y):cX Tryz.prog 355 [.slice A l.length c,.int .i64 (i:Nat),.int .i64 (j:Nat)] [dN.held (.slice A l.length c) l] [] (fun(_:Unit)=> .tuple #[]) (fun(_:Unit)=>[dN.held (.slice A l.length c) ((l.set i y).set j x)]) (fun _=>[]):=by
 have hT:=fD;refine cD Tryz.func355 rfl Tryz.ntmps355 rfl ?_;intro β hM;have hi:=(List.getElem?_eq_some_iff.1 hx).1;have hj:=(List.getElem?_eq_some_iff.1 hy).1;refine at_mixT _ _ (.fl 0 (.fl 1 (.fl 2 (.fl 3 (.fl 4 (.fl 5 (.fl 8 (.fl 9 (.two 6 10 (.two 7 10 (.op 10 (.op 11 (.op 12 (.op 13 (.op 14 (.op 15 .nil)))))) (.two 7 11 (.op 11 (.op 12 (.op 13 (.op 14 (.op 15 .nil))))) (.op 7 (.op 12 (.op 13 (.op 14 (.op 15 .nil))))))) (.two 6 11 (.two 7 11 (.op 11 (.op 12 (.op 13 (.op 14 (.op 15 .nil))))) (.op 7 (.op 12 (.op 13 (.op 14 (.op 15 .nil)))))) (.op 6 (.op 7 (.op 12 (.op 13 (.op 14 (.op 15 .nil)))))))))))))))) fH (by decide+kernel) .nil bH.self ?_;refine pvT hT ?_;refine pvT hT ?_;refine pvT hT ?_;refine pvT hT ?_;refine pvT hT ?_;refine pvT hT ?_;refine pvT hT ?_;refine pvT hT ?_;refine xD (o:=_) (o':=_) rfl rfl ?_ ?_
 ·refine ss (bG hT (k:=j) (cF .head) rfl rfl rfl rfl rfl (by first | rfl | (simp only [List.length_set])) rfl (by omega)) ?_;refine dM .nil trivial ?_;refine xD (o:=_) (o':=_) rfl rfl ?_ ?_
  ·refine ss (cL hT (bV.knows (cF .head) (k:=j) (x:=y) hy 0) rfl rfl rfl rfl rfl) ?_;refine dM .nil trivial ?_;refine fO (o:=_) rfl ?_;refine ss (bG hT (k:=i) (cF .head) rfl rfl rfl rfl rfl (by first | rfl | (simp only [List.length_set])) rfl (by omega)) ?_;refine dM .nil trivial ?_;refine fO (o:=_) rfl ?_;refine ss (cL hT (bV.knows (cF .head) (k:=i) (x:=x) hx 0) rfl rfl rfl rfl rfl) ?_;refine dM .nil trivial ?_;refine fO (o:=_) rfl ?_;refine ss (bG hT (k:=i) (cF .head) rfl rfl rfl rfl rfl (by first | rfl | (simp only [List.length_set])) rfl (by omega)) ?_;refine dM .nil trivial ?_;refine fO (o:=_) rfl ?_;refine dP hT (k:=i) (fo:=0) (y':=y) .head rfl rfl rfl rfl rfl rfl rfl rfl rfl hx rfl ?_;refine dM .nil trivial ?_;refine fO (o:=_) rfl ?_
   obtain⟨x1,hx2⟩: ∃x',(l.set i y)[j]?=some x':=⟨_,List.getElem?_eq_getElem ((by simp only [List.length_set];omega))⟩
   refine ss (bG hT (k:=j) (cF .head) rfl rfl rfl rfl rfl (by first | rfl | (simp only [List.length_set])) rfl ((by simp only [List.length_set];omega))) ?_;refine dM .nil trivial ?_;refine fO (o:=_) rfl ?_;refine dP hT (k:=j) (fo:=0) (y':=x) .head rfl rfl rfl rfl rfl rfl rfl rfl rfl hx2 rfl ?_;refine dM .nil trivial ?_;refine tA ?_;exact jS () rfl (.cons .head .nil) trivial (by first | rfl | simp_all)
  refine ss (bG hT (k:=i) (cF .head) rfl rfl rfl rfl rfl (by first | rfl | (simp only [List.length_set])) rfl (by omega)) ?_;refine dM .nil trivial ?_;refine xD (o:=_) (o':=_) rfl rfl ?_ ?_
  ·refine ss (cL hT (bV.knows (cF .head) (k:=j) (x:=y) hy 0) rfl rfl rfl rfl rfl) ?_;refine dM .nil trivial ?_;refine fO (o:=_) rfl ?_;refine ss (cL hT (bV.knows (cF .head) (k:=i) (x:=x) hx 0) rfl rfl rfl rfl rfl) ?_;refine dM .nil trivial ?_;refine fO (o:=_) rfl ?_;refine ss (bG hT (k:=i) (cF .head) rfl rfl rfl rfl rfl (by first | rfl | (simp only [List.length_set])) rfl (by omega)) ?_;refine dM .nil trivial ?_;refine fO (o:=_) rfl ?_;refine dP hT (k:=i) (fo:=0) (y':=y) .head rfl rfl rfl rfl rfl rfl rfl rfl rfl hx rfl ?_;refine dM .nil trivial ?_;refine fO (o:=_) rfl ?_
   obtain⟨x3,hx4⟩: ∃x',(l.set i y)[j]?=some x':=⟨_,List.getElem?_eq_getElem ((by simp only [List.length_set];omega))⟩
   refine ss (bG hT (k:=j) (cF .head) rfl rfl rfl rfl rfl (by first | rfl | (simp only [List.length_set])) rfl ((by simp only [List.length_set];omega))) ?_;refine dM .nil trivial ?_;refine fO (o:=_) rfl ?_;refine dP hT (k:=j) (fo:=0) (y':=x) .head rfl rfl rfl rfl rfl rfl rfl rfl rfl hx4 rfl ?_;refine dM .nil trivial ?_;refine tA ?_;exact jS () rfl (.cons .head .nil) trivial (by first | rfl | simp_all)
  refine ss (cL hT (bV.knows (cF .head) (k:=i) (x:=x) hx 0) rfl rfl rfl rfl rfl) ?_;refine dM .nil trivial ?_;refine fO (o:=_) rfl ?_;refine ss (cL hT (bV.knows (cF .head) (k:=j) (x:=y) hy 0) rfl rfl rfl rfl rfl) ?_;refine dM .nil trivial ?_;refine fO (o:=_) rfl ?_;refine ss (bG hT (k:=i) (cF .head) rfl rfl rfl rfl rfl (by first | rfl | (simp only [List.length_set])) rfl (by omega)) ?_;refine dM .nil trivial ?_;refine fO (o:=_) rfl ?_;refine dP hT (k:=i) (fo:=0) (y':=y) .head rfl rfl rfl rfl rfl rfl rfl rfl rfl hx rfl ?_;refine dM .nil trivial ?_;refine fO (o:=_) rfl ?_
  obtain⟨x5,hx6⟩: ∃x',(l.set i y)[j]?=some x':=⟨_,List.getElem?_eq_getElem ((by simp only [List.length_set];omega))⟩
  refine ss (bG hT (k:=j) (cF .head) rfl rfl rfl rfl rfl (by first | rfl | (simp only [List.length_set])) rfl ((by simp only [List.length_set];omega))) ?_;refine dM .nil trivial ?_;refine fO (o:=_) rfl ?_;refine dP hT (k:=j) (fo:=0) (y':=x) .head rfl rfl rfl rfl rfl rfl rfl rfl rfl hx6 rfl ?_;refine dM .nil trivial ?_;refine tA ?_;exact jS () rfl (.cons .head .nil) trivial (by first | rfl | simp_all)
 refine ss (bG hT (k:=i) (cF .head) rfl rfl rfl rfl rfl (by first | rfl | (simp only [List.length_set])) rfl (by omega)) ?_;refine dM .nil trivial ?_;refine xD (o:=_) (o':=_) rfl rfl ?_ ?_
 ·refine ss (bG hT (k:=j) (cF .head) rfl rfl rfl rfl rfl (by first | rfl | (simp only [List.length_set])) rfl (by omega)) ?_;refine dM .nil trivial ?_;refine xD (o:=_) (o':=_) rfl rfl ?_ ?_
  ·refine ss (cL hT (bV.knows (cF .head) (k:=j) (x:=y) hy 0) rfl rfl rfl rfl rfl) ?_;refine dM .nil trivial ?_;refine fO (o:=_) rfl ?_;refine ss (cL hT (bV.knows (cF .head) (k:=i) (x:=x) hx 0) rfl rfl rfl rfl rfl) ?_;refine dM .nil trivial ?_;refine fO (o:=_) rfl ?_;refine ss (bG hT (k:=i) (cF .head) rfl rfl rfl rfl rfl (by first | rfl | (simp only [List.length_set])) rfl (by omega)) ?_;refine dM .nil trivial ?_;refine fO (o:=_) rfl ?_;refine dP hT (k:=i) (fo:=0) (y':=y) .head rfl rfl rfl rfl rfl rfl rfl rfl rfl hx rfl ?_;refine dM .nil trivial ?_;refine fO (o:=_) rfl ?_
   obtain⟨x7,hx8⟩: ∃x',(l.set i y)[j]?=some x':=⟨_,List.getElem?_eq_getElem ((by simp only [List.length_set];omega))⟩
   refine ss (bG hT (k:=j) (cF .head) rfl rfl rfl rfl rfl (by first | rfl | (simp only [List.length_set])) rfl ((by simp only [List.length_set];omega))) ?_;refine dM .nil trivial ?_;refine fO (o:=_) rfl ?_;refine dP hT (k:=j) (fo:=0) (y':=x) .head rfl rfl rfl rfl rfl rfl rfl rfl rfl hx8 rfl ?_;refine dM .nil trivial ?_;refine tA ?_;exact jS () rfl (.cons .head .nil) trivial (by first | rfl | simp_all)
  refine ss (cL hT (bV.knows (cF .head) (k:=i) (x:=x) hx 0) rfl rfl rfl rfl rfl) ?_;refine dM .nil trivial ?_;refine fO (o:=_) rfl ?_;refine ss (cL hT (bV.knows (cF .head) (k:=j) (x:=y) hy 0) rfl rfl rfl rfl rfl) ?_;refine dM .nil trivial ?_;refine fO (o:=_) rfl ?_;refine ss (bG hT (k:=i) (cF .head) rfl rfl rfl rfl rfl (by first | rfl | (simp only [List.length_set])) rfl (by omega)) ?_;refine dM .nil trivial ?_;refine fO (o:=_) rfl ?_;refine dP hT (k:=i) (fo:=0) (y':=y) .head rfl rfl rfl rfl rfl rfl rfl rfl rfl hx rfl ?_;refine dM .nil trivial ?_;refine fO (o:=_) rfl ?_
  obtain⟨x9,hx10⟩: ∃x',(l.set i y)[j]?=some x':=⟨_,List.getElem?_eq_getElem ((by simp only [List.length_set];omega))⟩
  refine ss (bG hT (k:=j) (cF .head) rfl rfl rfl rfl rfl (by first | rfl | (simp only [List.length_set])) rfl ((by simp only [List.length_set];omega))) ?_;refine dM .nil trivial ?_;refine fO (o:=_) rfl ?_;refine dP hT (k:=j) (fo:=0) (y':=x) .head rfl rfl rfl rfl rfl rfl rfl rfl rfl hx10 rfl ?_;refine dM .nil trivial ?_;refine tA ?_;exact jS () rfl (.cons .head .nil) trivial (by first | rfl | simp_all)
 refine ss (cL hT (bV.knows (cF .head) (k:=i) (x:=x) hx 0) rfl rfl rfl rfl rfl) ?_;refine dM .nil trivial ?_;refine fO (o:=_) rfl ?_;refine ss (bG hT (k:=j) (cF .head) rfl rfl rfl rfl rfl (by first | rfl | (simp only [List.length_set])) rfl (by omega)) ?_;refine dM .nil trivial ?_;refine fO (o:=_) rfl ?_;refine ss (cL hT (bV.knows (cF .head) (k:=j) (x:=y) hy 0) rfl rfl rfl rfl rfl) ?_;refine dM .nil trivial ?_;refine fO (o:=_) rfl ?_;refine ss (bG hT (k:=i) (cF .head) rfl rfl rfl rfl rfl (by first | rfl | (simp only [List.length_set])) rfl (by omega)) ?_;refine dM .nil trivial ?_;refine fO (o:=_) rfl ?_;refine dP hT (k:=i) (fo:=0) (y':=y) .head rfl rfl rfl rfl rfl rfl rfl rfl rfl hx rfl ?_;refine dM .nil trivial ?_;refine fO (o:=_) rfl ?_
 obtain⟨x11,hx12⟩: ∃x',(l.set i y)[j]?=some x':=⟨_,List.getElem?_eq_getElem ((by simp only [List.length_set];omega))⟩
 refine ss (bG hT (k:=j) (cF .head) rfl rfl rfl rfl rfl (by first | rfl | (simp only [List.length_set])) rfl ((by simp only [List.length_set];omega))) ?_;refine dM .nil trivial ?_;refine fO (o:=_) rfl ?_;refine dP hT (k:=j) (fo:=0) (y':=x) .head rfl rfl rfl rfl rfl rfl rfl rfl rfl hx12 rfl ?_;refine dM .nil trivial ?_;refine tA ?_;exact jS () rfl (.cons .head .nil) trivial (by first | rfl | simp_all)
set_option maxRecDepth 100000 in
theorem PopH_spec(A:Option Addr)(b c m:Nat)(l:List SpotV)(x:SpotV)(hlm:l.length=m+1)(hc:m+1≤c)(hx:l[m]?=some x)(hl:m≤100000000):cX Tryz.prog 353 [.pointer (some ⟨b,0,none⟩)] [.obj b (.cells ([.slice A (m+1) c]:List Value).toArray 307),dN.held (.slice A (m+1) c) l] [] (fun(_:Unit)=> .iface 194 (.agg #[.slice x.at_.addr x.at_.list.length x.at_.cap,.slice x.size.addr x.size.list.length x.size.cap,.int .i64 x.since])) (fun(_:Unit)=>[.obj b (.cells ([.slice A m m]:List Value).toArray 307),dN.held (.slice A m m) (l.take m)]) (fun _=>[]):=by
 have hT:=fD;refine cD Tryz.func353 rfl Tryz.ntmps353 rfl ?_;intro β hM;refine sr<|sp hT ?_;refine nn<|sr<|sp2 hT ?_;refine ss (ldO hT (dC .head)) ?_;refine sp2 hT ?_;refine bT (z':=((m:Nat):Int)) (by rw [show((m+1:Nat):Int)-1=(m:Nat) by omega];exact cO rfl (by omega)) ?_;refine sp hT ?_;refine nn<|sr<|sp2 hT ?_;refine ss (ldO hT (dC .head)) ?_;refine sp hT ?_;refine ss (bG hT (k:=m) (cF kT1) rfl rfl rfl rfl rfl hlm.symm (by omega) ((by omega))) ?_;refine ss (cL hT (bV.knows (cF kT1) (k:=m) (x:=x) hx 0) rfl rfl rfl rfl rfl) ?_;refine fC rfl rfl rfl rfl rB rfl fun b1=>?_;refine sto hT .head ?_;refine nn<|sr<|sp3 hT ?_;refine ss (ldO hT (dC kT1)) ?_;refine sp2 hT ?_;refine ss (sti_cutHM hT (k:=m) rfl rfl rfl rfl rfl rfl rfl rfl (by omega)) ?_;refine sp hT ?_;refine sto hT kT1 ?_;refine nn<|sr<|ss (ldN hT (dC kT1)) ?_;refine ss (xA rfl Tryz.underlying194 (fun _ e=>by cases e) rfl) ?_;refine sp hT ?_;refine nn<|bK<|at_held_cut (k:=m) (c':=m) kT2 (by omega) ?_;exact bL () rfl (rv_tmp rfl) (.cons kT1 (.cons .head .nil)) trivial rfl
theorem load_rowbox{w:World}{b n c:Nat}{A:Option Addr}(h:w.cell? ⟨b,0,none⟩=some (.slice A n c)):(loadVar 307 ⟨b,0,none⟩).run Tryz.prog w= .ok (.slice A n c) w:=by
 have ha: ∀w,(isAgg 307).run Tryz.prog w= .ok false w:=fD.agg (t:=307) (i:=⟨.slice 194,1⟩) rfl;simp only [loadVar,Sem.run_bind,Result.andThen_ok,ha,Bool.false_eq_true,if_false,run_load,h]
theorem jG{name:String}{f:FuncId}{w:World}{b n c:Nat}{A:Option Addr}(hm: ∀w b,(method (Tryz.prog.types.size+Made.depth) 252 (.pointer (some ⟨b,0,none⟩)) name).run Tryz.prog w=(do let r←loadVar 307 ⟨b,0,none⟩;pure (f,r):Sem (FuncId×Value)).run Tryz.prog w)(h:w.cell? ⟨b,0,none⟩=some (.slice A n c)):
  (method (Tryz.prog.types.size+Made.depth) 252 (.pointer (some ⟨b,0,none⟩)) name).run Tryz.prog w= .ok (f,.slice A n c) w:=by
 rw [hm,Sem.run_bind,load_rowbox h];rfl
theorem bCg(w:World)(b:Nat):(method (Tryz.prog.types.size+Made.depth) 252 (.pointer (some ⟨b,0,none⟩)) "Len").run Tryz.prog w=(do let r←loadVar 307 ⟨b,0,none⟩;pure (161,r):Sem (FuncId×Value)).run Tryz.prog w:=by kernel_rfl
theorem pU(w:World)(b:Nat):(method (Tryz.prog.types.size+Made.depth) 252 (.pointer (some ⟨b,0,none⟩)) "Less").run Tryz.prog w=(do let r←loadVar 307 ⟨b,0,none⟩;pure (352,r):Sem (FuncId×Value)).run Tryz.prog w:=by kernel_rfl
theorem tX(w:World)(b:Nat):(method (Tryz.prog.types.size+Made.depth) 252 (.pointer (some ⟨b,0,none⟩)) "Swap").run Tryz.prog w=(do let r←loadVar 307 ⟨b,0,none⟩;pure (355,r):Sem (FuncId×Value)).run Tryz.prog w:=by kernel_rfl
theorem bHq(w:World)(b:Nat):(method (Tryz.prog.types.size+Made.depth) 252 (.pointer (some ⟨b,0,none⟩)) "Push").run Tryz.prog w= .ok (354,.pointer (some ⟨b,0,none⟩)) w:=by kernel_rfl
theorem meth_pop(w:World)(b:Nat):(method (Tryz.prog.types.size+Made.depth) 252 (.pointer (some ⟨b,0,none⟩)) "Pop").run Tryz.prog w= .ok (353,.pointer (some ⟨b,0,none⟩)) w:=by kernel_rfl
open Go.ChangeMaps (setBlock)
end Go.Proofs.YtofjmphlpdhohaaGreatDoor
namespace Go.Proofs.YtofjmphlpdhohaaGreatDoor
open Go.RowKit
section
variable {P : Program} {β : fB} {n : Nat} {Γ : Env} {H : List bJ} {F : List bI} {o : Oper}
theorem sti_quoI{t tt:TypeId}{x y:Operand}{k:IntKind}{a b:Int}(ho:o.op= .binOp .quo t x y tt)(hx:Γ.ev x=some (.int k a))(hy:Γ.ev y=some (.int k b))(hb:b≠0):Sti P β n Γ H F o (.int k (k.wrap (a.tdiv b))):=fun c w S f s _=>by
 unfold execOp;simp only [ho,f.ev hx,f.ev hy];simp [eqGuard,binOp,Op.intDiv,hb]
end
section
variable {P : Program} {β : fB} {n : Nat} {Γ : Env} {H : List bJ} {F : List bI} {Q : Exit → Act → World → Prop} {K : Act → World → Prop} {T : Tab} {α : Type} {E : Flat α}
theorem bV.cells{A:Option Addr}{xs:List α}{w:World}{S:iX}(hr:bV β H F E A xs)(s:St β H S w)(hF:All F S w)(h0:0<xs.length):
  ∃b off,A=some ⟨b,off,none⟩∧ ∀j u,(E.all xs)[j]?=some u→w.cell? ((⟨b,off,none⟩:Addr).add j)=some u:=by
 obtain⟨⟨b,off,rfl⟩,_⟩:=hr w S s hF 0 _ (List.getElem?_eq_getElem h0);refine⟨b,off,rfl,fun j u hj=>?_⟩;have hlt:=(List.getElem?_eq_some_iff.1 hj).1;rw [E.all_length] at hlt;have hk:j/E.size<xs.length:=Nat.div_lt_of_lt_mul (by rwa [Nat.mul_comm] at hlt);have hm:j%E.size<E.size:=Nat.mod_lt _ E.pos;have hx':=List.getElem?_eq_getElem hk;have hu':=List.getElem?_eq_getElem (l:=E.cells xs[j/E.size]) (i:=j%E.size) (by rw [E.len];exact hm);have e:j/E.size*E.size+j%E.size=j:=by rw [Nat.mul_comm];exact Nat.div_add_mod j E.size
 have h1:=(hr w S s hF _ _ hx').2 _ _ hu';have h2:=E.all_get hx' hu';rw [e,hj] at h2;injection h2 with h2
 have h3:=h1.trans (congrArg some h2.symm);rw [Nat.add_assoc,e] at h3;rw [Addr.add_mid];exact h3
theorem bV.tail{A:Option Addr}{xs:List α}{c:bJ}(hr:bV β H F E A xs):bV β (c::H) F E A xs:=fun w S s hF=>hr w S s.tail hF
theorem yN{A:Option Addr}{xs:List α}{w:World}{S:iX}(hr:bV β H F E A xs)(s:St β H S w)(hF:All F S w)(c:Nat){size:Nat}(hs:size=E.size):(Builtin.firstCells size xs.length (.slice A xs.length c)).run P w.drew= .ok (E.all xs).toArray w.drew:=by
 subst hs
 by_cases h0:0<xs.length
 ·obtain⟨b,off,rfl,h⟩:=hr.cells s hF h0;exact run_firstCells_some w.drew E.size xs.length ⟨b,off,none⟩ xs.length c (E.all xs) (E.all_length xs) h
 ·have:xs=[]:=List.eq_nil_of_length_eq_zero (by omega);subst this
  cases A with
  | none=>exact run_firstCells_none w.drew E.size 0 0 c
  | some a=>exact run_firstCells_some w.drew E.size 0 a 0 c [] (by simp) (fun j u hj=>by simp at hj)
theorem bCl{ops:Array Oper}{rest:List Oper}{o:Oper}{d:Nat}{x y:Operand}{t e:TypeId}{i:TypeInfo}{z:Value}{by_ c q m:Nat}{A B:Option Addr}{xs ys:List α}(hr:bV β H F E A xs)(hs:bV β H F E B ys)(hw:want ops Γ o=some true)
  (ho:o.op= .call {callee:= .builtin .append,args:= #[x,y],argTypes:= #[t,t]}) (hd:o.dst=some d) (hn:Nat.blt d n=true) (hu:P.underlying t=some (.slice e)) (hi:P.info? e=some i) (hz:i.zero=some z) (hsize:i.size=E.size) (hby:i.bytes=by_) (hzs:z.cells.size=E.size)
  (hx:Γ.ev x=some (.slice A m m)) (hm:m=xs.length) (hy:Γ.ev y=some (.slice B q c)) (hq:q=ys.length) (h0:0<ys.length) (hbytes:(xs.length+ys.length)*by_≤140737488355328) (hpos:0<by_)
  (k: ∀A' cap',At β n ((d,.slice A' (xs++ys).length cap')::Γ) (E.row (.slice A' (xs++ys).length cap') e (xs++ys)::H) F (wpList P ops Q rest)):At β n Γ H F (wpList P ops Q (o::rest)):=by
 subst hm hq;refine gB (t:=e) E ?_;refine iH hw fun a w S f s hF=>?_;have hle:xs.length+ys.length≤(xs.length+ys.length)*by_:=Nat.le_mul_of_pos_right _ hpos
 have h63:xs.length+ys.length≤maxLen:=by
  simp only [maxLen];omega
 have s1:St β H S w:=s.tail;obtain⟨b,off,rfl,hb⟩:=hs.cells s1 hF h0;have hcap:=nextslicecap_le (need:=xs.length+ys.length) (old:=xs.length) (by omega)
 have hbig:Builtin.nextslicecap (xs.length+ys.length) xs.length*i.bytes≤281474976710656:=by
  have:=Nat.mul_le_mul_right i.bytes hcap;rw [hby] at this⊢;rw [Nat.mul_assoc] at this;omega
 have hfc:=yN (P:=P) hr s1 hF xs.length hsize;have hrun:=run_append_grow_src (P:=P) w t t o.type e i z hu hi hz A xs.length xs.length (E.all xs) hfc (.slice (some ⟨b,off,none⟩) ys.length c) ys.length (E.all ys)
  (Src.ofSlice w hu ⟨b,off,none⟩ ys.length c (E.all ys) (by rw [E.all_length,hsize]) hb E.all_one) (by omega) (by simp only [maxLen] at h63;omega) hbig
 have hr':(execOp a.eval o).run P w= .ok (.value (.slice (some ⟨w.heap.size,0,none⟩) (xs.length+ys.length) (grownCap w (xs.length+ys.length) xs.length e)))
   (w.drew.alloc (.cells ((E.all xs++E.all ys).toArray++Builtin.zeroCells z.cells (grownCap w (xs.length+ys.length) xs.length e-(xs.length+ys.length))) e)):=by
  unfold execOp;simp only [ho,resolve,invoke,builtin,Sem.run_bind,Sem.run_pure,Result.andThen_ok,List.map_toArray,List.map_cons,List.map_nil,f.ev hx,f.ev hy,hrun]
 have hall:E.all xs++E.all ys=E.all (xs++ys):=by simp [Flat.all]
 have hge:=grownCap_ge w (xs.length+ys.length) xs.length e;have hcm:=grownCap_le_maxLen w (xs.length+ys.length) xs.length e h63;unfold Oper.wp;rw [hr',Oper.upon_value,hd];have hK:=k (some ⟨w.heap.size,0,none⟩) (grownCap w (xs.length+ys.length) xs.length e);rw [List.length_append] at hK;refine hK _ _ S (f.put (by simpa [Nat.blt_eq] using hn) _) ?_ ?_
 ·refine s.swap_row (v':= .slice (some ⟨w.heap.size,0,none⟩) (xs.length+ys.length) (grownCap w (xs.length+ys.length) xs.length e)) (oG ⟨rfl,rfl,rfl,by simp,fun k hk _=>heap_alloc_old w.drew _ hk⟩) (.inr rfl) ?_;show World.ownsRow _ 0 e E.size _ (xs++ys).length (E.all (xs++ys));rw [List.length_append];refine⟨by rw [E.all_length,List.length_append],.inr ⟨w.heap.size,_,_,rfl,Nat.zero_le _,heap_alloc_new w.drew _,hge,hcm,?_,?_⟩⟩
  ·have e1:(E.all xs++E.all ys).length=(xs.length+ys.length)*E.size:=by rw [hall,E.all_length,List.length_append]
   simp only [Array.size_append,List.size_toArray,size_zeroCells,hzs,e1,←Nat.add_mul]
   congr 1
   omega
  ·have e1:(E.all (xs++ys)).length=(xs.length+ys.length)*E.size:=by rw [E.all_length,List.length_append]
   simp only [Array.toList_append];rw [hall,←e1];exact List.take_left
 ·exact All.mono (w:=w) (fun _ h=>h) (fun b hb=>heap_alloc_old w.drew _ (s.zone b hb).1) hF
end
def rowBox(r:RowV):bJ:= .obj r.b (.cells ([.slice r.A r.l.length r.c]:List Value).toArray 307)
def rowArr(r:RowV):bJ:=if r.full then dN.held (.slice r.A r.l.length r.c) r.l else dN.row (.slice r.A r.l.length r.c) 194 r.l
def famR (rows:List RowV):List bJ:=rows.flatMap fun r=>[rowBox r,rowArr r]
def rowG (r:RowV):bI:=(bI.cells r.b 0 [.slice r.A r.l.length r.c]).and (dN.sl (.slice r.A r.l.length r.c) r.l)
theorem bGg(r:RowV)(rows:List RowV):famR (r::rows)=rowBox r::rowArr r::famR rows:=rfl
theorem nB(a b:List RowV):famR (a++b)=famR a++famR b:=List.flatMap_append
theorem fam_out{rows:List RowV}{k:Nat}{r:RowV}(h:rows[k]?=some r)(H:List bJ):(H++famR rows).Perm (rowBox r::rowArr r::(H++famR (rows.take k++rows.drop (k+1)))):=by
 have e:famR rows=famR (rows.take k)++([rowBox r,rowArr r]++famR (rows.drop (k+1))):=by
  conv=>lhs;rw [bCt h]
  rw [nB,bGg];rfl
 rw [e,nB];have h1:(famR (rows.take k)++([rowBox r,rowArr r]++famR (rows.drop (k+1)))).Perm ([rowBox r,rowArr r]++(famR (rows.take k)++famR (rows.drop (k+1)))):=List.perm_append_comm_assoc _ _ _;exact(h1.append_left H).trans (List.perm_append_comm_assoc _ _ _)
theorem fam_back{rows:List RowV}{k:Nat}{r:RowV}(h:rows[k]?=some r)(q:RowV)(H:List bJ):(rowBox q::rowArr q::(H++famR (rows.take k++rows.drop (k+1)))).Perm (H++famR (rows.set k q)):=by
 have e:famR (rows.set k q)=famR (rows.take k)++([rowBox q,rowArr q]++famR (rows.drop (k+1))):=by
  rw [pl_set h,nB,bGg];rfl
 rw [e,nB];have h1:(famR (rows.take k)++([rowBox q,rowArr q]++famR (rows.drop (k+1)))).Perm ([rowBox q,rowArr q]++(famR (rows.take k)++famR (rows.drop (k+1)))):=List.perm_append_comm_assoc _ _ _;exact((h1.append_left H).trans (List.perm_append_comm_assoc _ _ _)).symm
theorem fam_new{rows:List RowV}(q:RowV)(H:List bJ):(rowBox q::rowArr q::(H++famR rows)).Perm (H++famR (rows++[q])):=by
 rw [nB];have h1:([rowBox q,rowArr q]++(H++famR rows)).Perm ((H++famR rows)++[rowBox q,rowArr q]):=List.perm_append_comm;rw [List.append_assoc] at h1;exact h1
theorem lends_rowArr{r:RowV}{L:List bJ}{G:List bI}(h:sF L G):sF (rowArr r::L) (dN.sl (.slice r.A r.l.length r.c) r.l::G):=by
 unfold rowArr;split
 ·exact lends_held h
 ·exact pX h
theorem bGn: ∀(rows:List RowV),sF (famR rows) [bI.each rows rowG]
 | []=>fun S w _ _=>All.cons (fun x hx=>by cases hx) (fun g hg=>by cases hg)
 | r::rows=>fun S w hok hS=>by
  have h1:=kN (b:=r.b) (cs:=[.slice r.A r.l.length r.c]) (t:=307) (lends_rowArr (r:=r) (bGn rows)) S w hok hS;have a1:=h1 _ (List.mem_cons_self ..);have a2:=h1 _ (List.mem_cons_of_mem _ (List.mem_cons_self ..));have a3:=h1 _ (List.mem_cons_of_mem _ (List.mem_cons_of_mem _ (List.mem_cons_self ..)));refine All.cons (fun x hx=>?_) (fun g hg=>by cases hg)
  rcases List.mem_cons.1 hx with rfl | hx
  ·exact⟨a1,a2⟩
  ·exact a3 x hx
theorem Split.front: ∀(L H:List bJ),Split (L++H) L H
 | [],_=> .nil
 | _::L,H=> .cons .head (Split.front L H)
section
variable {P : Program} {β : fB} {n : Nat} {Γ : Env} {H H' : List bJ} {F : List bI} {K : Act → World → Prop}
theorem at_arr_held{r:RowV}(hH:dD H (rowArr r) H')(h:At β n Γ (dN.held (.slice r.A r.l.length r.c) r.l::H') F K):At β n Γ H F K:=by
 unfold rowArr at hH;split at hH
 ·exact fun a w S f s k=>h a w S f (s.perm hH.perm) k
 ·exact wB hH h
end
theorem rowArr_full{r:RowV}(h:r.full=true):rowArr r=dN.held (.slice r.A r.l.length r.c) r.l:=by unfold rowArr;rw [if_pos h]
theorem rowArr_room{r:RowV}(h:r.full=false):rowArr r=dN.row (.slice r.A r.l.length r.c) 194 r.l:=by unfold rowArr;rw [if_neg (by simp [h])]
theorem bHd{α:Type}{l:List α}{x z:α}{N:Nat}(hl:l.length=N+1)(_hx:l[0]?=some x)(_hz:l[N]?=some z):(l.set 0 z).set N x=(l.take N).set 0 z++[x]:=by
 apply List.ext_getElem?;intro i;rw [List.getElem?_set,List.getElem?_set,List.getElem?_append];simp only [List.length_set,List.length_take,hl,List.getElem?_set,List.getElem?_take];have hm:min N (N+1)=N:=by omega
 rw [hm]
 by_cases h1:i<N
 ·rw [if_neg (by omega),if_pos h1]
  by_cases h0:0=i
  ·subst h0;rw [if_pos rfl,if_pos (by omega),if_pos rfl,if_pos (by omega)]
  ·rw [if_neg h0,if_neg h0,if_pos h1]
 ·rw [if_neg h1]
  by_cases h2:N=i
  ·subst h2;rw [if_pos rfl,if_pos (by omega),Nat.sub_self];rfl
  ·rw [if_neg h2,if_neg (by omega),List.getElem?_eq_none (by omega),List.getElem?_eq_none (by simp;omega)]
theorem swap_perm{α:Type}{l m:List α}{x z:α}{N:Nat}(hl:l.length=N+1)(hx:l[0]?=some x)(hz:l[N]?=some z)(hm:m.Perm ((l.take N).set 0 z)):l.Perm (x::m):=by
 have h1:((l.set 0 z).set N x).Perm l:=by
  have h0:0<l.length:=by omega
  have hN:N<l.length:=by omega
  have e1:l[N]=z:=by have:=List.getElem?_eq_getElem hN;rw [hz] at this;exact(Option.some.inj this).symm
  have e2:l[0]=x:=by have:=List.getElem?_eq_getElem h0;rw [hx] at this;exact(Option.some.inj this).symm
  have:((l.set 0 l[N]).set N l[0]).Perm l:=List.set_set_perm h0 hN
  rwa [e1,e2] at this
 rw [bHd hl hx hz] at h1;exact h1.symm.trans ((hm.symm.append_right [x]).trans List.perm_append_comm)
section
variable {α : Type} {m : List α} {i j k : Nat} {y z w : α}
theorem gT(h:m[k]?=some y):(m++[w])[k]?=some y:=by
 rw [List.getElem?_append_left (List.getElem?_eq_some_iff.1 h).1];exact h
theorem yM(hy:m[i]?=some y)(hz:m[j]?=some z):((m++[w]).set i z).set j y=(m.set i z).set j y++[w]:=by
 have h1:=(List.getElem?_eq_some_iff.1 hy).1;have h2:=(List.getElem?_eq_some_iff.1 hz).1;rw [List.set_append_left _ _ h1,List.set_append_left _ _ (by simpa using h2)]
theorem xX(hy:m[i]?=some y)(hz:m[j]?=some z):((m.set i z).set j y).Perm m:=by
 obtain⟨h1,e1⟩:=List.getElem?_eq_some_iff.1 hy;obtain⟨h2,e2⟩:=List.getElem?_eq_some_iff.1 hz;have:((m.set i m[j]).set j m[i]).Perm m:=List.set_set_perm h1 h2
 rwa [e1,e2] at this
end
section
variable {m : List SpotV} {i : Nat} {y y1 y2 : SpotV}
theorem child1(h1:m[2*i+1]?=some y1)(hy:y.since≤y1.since)(hm:m.length≤2*i+2): ∀(k:Nat) b,1≤k→(k-1)/2=i→m[k]?=some b→y.since≤b.since:=fun k b hk he hb=>by
 have hlt:=(List.getElem?_eq_some_iff.1 hb).1;have e:k=2*i+1:=by omega
 subst e;rw [h1] at hb;cases hb;exact hy
theorem child2(h1:m[2*i+1]?=some y1)(h2:m[2*i+1+1]?=some y2)(hy1:y.since≤y1.since)(hy2:y.since≤y2.since): ∀(k:Nat) b,1≤k→(k-1)/2=i→m[k]?=some b→y.since≤b.since:=fun k b hk he hb=>by
 have e:k=2*i+1∨k=2*i+1+1:=by omega
 rcases e with rfl | rfl
 ·rw [h1] at hb;cases hb;exact hy1
 ·rw [h2] at hb;cases hb;exact hy2
theorem sink_none(h:bEh SpotV.since m i)(hm:m.length≤2*i+1):nO SpotV.since m:=fun k a b hk ha hb=>by
 have hlt:=(List.getElem?_eq_some_iff.1 hb).1;exact h.1 k a b hk (by omega) ha hb
end
theorem lessN{A:Option Addr}{c i j n:Nat}{l:List SpotV}{x y:SpotV}(h:l.length=n)(hx:l[i]?=some x)(hy:l[j]?=some y):cX Tryz.prog 352 [.slice A n c,.int .i64 (i:Nat),.int .i64 (j:Nat)] [dN.held (.slice A n c) l] [] (fun(_:Unit)=> .bool (decide (x.since<y.since))) (fun(_:Unit)=>[dN.held (.slice A n c) l]) (fun _=>[]):=by
 subst h;exact LessH_spec A c i j l x y hx hy
theorem swapN{A:Option Addr}{c i j n:Nat}{l:List SpotV}{x y:SpotV}(h:l.length=n)(hx:l[i]?=some x)(hy:l[j]?=some y):cX Tryz.prog 355 [.slice A n c,.int .i64 (i:Nat),.int .i64 (j:Nat)] [dN.held (.slice A n c) l] [] (fun(_:Unit)=> .tuple #[]) (fun(_:Unit)=>[dN.held (.slice A n c) ((l.set i y).set j x)]) (fun _=>[]):=by
 subst h;exact SwapH_spec A c i j l x y hx hy
set_option maxRecDepth 100000 in
theorem up0_spec(A:Option Addr)(b c:Nat)(l:List SpotV):cX Tryz.prog 224 [.iface 252 (.pointer (some ⟨b,0,none⟩)),.int .i64 0] [.obj b (.cells ([.slice A l.length c]:List Value).toArray 307),dN.row (.slice A l.length c) 194 l] [] (fun(_:Unit)=> .tuple #[]) (fun(_:Unit)=>[.obj b (.cells ([.slice A l.length c]:List Value).toArray 307),dN.row (.slice A l.length c) 194 l]) (fun _=>[]):=by
 have hT:=fD;refine cD Tryz.func224 rfl Tryz.ntmps224 rfl ?_;intro β hM;refine bQ<|xY 1 ?_;refine lY ?_;refine bQ<|sr<|sp2 hT ?_;refine bT (z':=(-1:Int)) (by decide) ?_;refine ss (sti_quoI rfl rfl rfl (by omega)) ?_;refine bT (z':=((0:Nat):Int)) (by decide) ?_;refine sp hT ?_;refine nn<|bF<|sr<|sp3 hT ?_;refine dS (t':=true) (by decide) ?_;refine sp hT ?_;refine sk4 ?_;refine sk ?_;refine sp hT ?_;refine nn<|cW rfl rfl ?_;refine cS<|bZ<|xP rfl ?_;refine bZ<|cR ?_;exact jS () rfl (.cons .head (.cons .head .nil)) trivial (rfl)
set_option maxRecDepth 100000 in
theorem upS_spec(A:Option Addr)(b c m:Nat)(l:List SpotV)(x y:SpotV)(hx:l[m+1]?=some x)(hy:l[m/2]?=some y)(hle:y.since≤x.since)(hm:m≤100000000):cX Tryz.prog 224 [.iface 252 (.pointer (some ⟨b,0,none⟩)),.int .i64 ((m+1:Nat):Int)] [.obj b (.cells ([.slice A l.length c]:List Value).toArray 307),dN.row (.slice A l.length c) 194 l] [] (fun(_:Unit)=> .tuple #[]) (fun(_:Unit)=>[.obj b (.cells ([.slice A l.length c]:List Value).toArray 307),dN.row (.slice A l.length c) 194 l]) (fun _=>[]):=by
 have hT:=fD;refine cD Tryz.func224 rfl Tryz.ntmps224 rfl ?_;intro β hM;refine bQ<|xY 1 ?_;refine lY ?_;refine bQ<|sr<|sp2 hT ?_;refine bT (z':=((m:Nat):Int)) (by rw [show((m+1:Nat):Int)-1=(m:Nat) by omega];exact cO rfl (by omega)) ?_;refine ss (sti_quoI rfl rfl rfl (by omega)) ?_;refine bT (z':=((m/2:Nat):Int)) (by rw [Int.tdiv_eq_ediv_of_nonneg (by omega)];exact cO (by omega) (by omega)) ?_;refine sp hT ?_;refine nn<|bF<|sr<|sp3 hT ?_;refine dS (t':=false) (beq_eq_false_iff_ne.2 (by omega)) ?_;refine sp4 hT ?_;refine gA (bP Tryz.func352 rfl rfl) (Less_spec A c (m+1) (m/2) l x y hx hy) rfl rfl rfl rfl rfl (fun w S s k=>jG (fun w b=>pU w b) ((dC .head) w S s k 0 _ rfl)) rfl (.cons kT1 .nil) trivial fun _=>?_;refine dS (t':=false) (decide_eq_false (by omega)) ?_;refine sp2 hT ?_;refine nn<|cW rfl rfl ?_;refine cS<|bZ<|xP rfl ?_;refine bZ<|cR ?_;exact jS () rfl (.cons kT1 (.cons .head .nil)) trivial (rfl)
set_option maxRecDepth 100000 in
theorem downS_spec(A:Option Addr)(b c N:Nat)(m0:List SpotV)(z:SpotV)(hN:m0.length=N)(hs:bEh SpotV.since m0 0)(hb:N≤100000000):cX Tryz.prog 223 [.iface 252 (.pointer (some ⟨b,0,none⟩)),.int .i64 0,.int .i64 (N:Nat)] [.obj b (.cells ([.slice A (N+1) c]:List Value).toArray 307),dN.held (.slice A (N+1) c) (m0++[z])] [] (fun(x:List SpotV×Bool)=> .bool x.2) (fun(x:List SpotV×Bool)=>[.obj b (.cells ([.slice A (N+1) c]:List Value).toArray 307),dN.held (.slice A (N+1) c) (x.1++[z])]) (fun(x:List SpotV×Bool)=>[bI.pure (x.1.Perm m0∧nO SpotV.since x.1)]):=by
 have hT:=fD;refine cD Tryz.func223 rfl Tryz.ntmps223 rfl ?_;intro β hM;refine sr<|sp hT ?_;refine nn<|sr<|sp2 hT ?_;refine nn<|bF<|bQ<|dH (ι:=Nat×List SpotV) [(0,_),(1,_),(2,_)] ⟨rfl,rfl,rfl,trivial⟩ (fun⟨i,m⟩=>[(7,.int .i64 (i:Nat))]) (fun⟨i,m⟩=>[dN.held (.slice A (N+1) c) (m++[z])]) (fun⟨i,m⟩=>[bI.pure (m.length=N∧m.Perm m0∧bEh SpotV.since m i∧(i<N∨i=0))]) (fun⟨i,m⟩=>N-i) (0,m0) ⟨rfl,trivial⟩ (.cons kT1 .nil) ⟨Has.pure (⟨hN,List.Perm.refl _,hs,.inr rfl⟩),trivial⟩ ?_;rintro⟨i,m⟩;dsimp only;refine bX (Has.of mT0) fun hinv2=>?_;have hlm:=hinv2.1;have hii:=hinv2.2.2.2;have hlen:(m++[z]).length=N+1:=by simp;omega
 refine bQ<|sr<|sp2 hT ?_;refine bT (z':=(((2*i):Nat):Int)) (cO (by omega) (by omega)) ?_;refine sp hT ?_;refine bT (z':=((((2*i)+1):Nat):Int)) (cO (by omega) (by omega)) ?_;refine sp hT ?_;refine nn<|bF<|sr<|sp4 hT ?_;refine cA (fun hg18=>?_) (fun hg18=>?_)
 ·have hg18:=of_decide_eq_true hg18;refine sk2 ?_;refine sp hT ?_;refine nn<|cW rfl rfl ?_;refine cS<|bZ<|xP rfl ?_;refine bZ<|cR<|bE<|sr<|sp4 hT ?_;refine nn<|bK ?_;have hhp:nO SpotV.since m:=sink_none hinv2.2.2.1 (by omega);exact bL (m,_) rfl (rv_tmp rfl) (.cons kT1 (.cons .head .nil)) ⟨Has.pure ⟨hinv2.2.1,hhp⟩,trivial⟩ rfl
 have hg18:=Int.not_le.1 (of_decide_eq_false hg18);refine sp2 hT ?_;refine dS (t':=false) (decide_eq_false (by omega)) ?_;refine sp hT ?_;refine nn<|fM rfl rfl ?_;refine bM<|bE<|sr<|sp2 hT ?_;refine nn<|bF<|sr<|sp2 hT ?_;refine bT (z':=(((((2*i)+1)+1):Nat):Int)) (cO (by omega) (by omega)) ?_;refine sp hT ?_;refine nn<|sr<|sp4 hT ?_;refine cA (fun hg28=>?_) (fun hg28=>?_)
 ·have hg28:=of_decide_eq_true hg28;refine sp3 hT ?_
  obtain⟨y1,hy2⟩: ∃q,m[(2*i+1+1)]?=some q:=⟨_,List.getElem?_eq_getElem (by omega)⟩
  obtain⟨y3,hy4⟩: ∃q,m[(2*i+1)]?=some q:=⟨_,List.getElem?_eq_getElem (by omega)⟩
  refine gA (bP Tryz.func352 rfl rfl) (lessN hlen (gT hy2) (gT hy4)) rfl rfl rfl rfl rfl (fun w S s k=>jG (fun w b=>pU w b) ((dC kT1) w S s k 0 _ rfl)) rfl (.cons .head .nil) trivial fun _=>?_;refine sp hT ?_;refine nn<|bO rfl (fun hc33=>?_) (fun hc33=>?_)
  ·have hc33:=of_decide_eq_true hc33;refine bD<|sp2 hT ?_;refine nn<|bF<|sr<|sp3 hT ?_
   obtain⟨y5,hy6⟩: ∃q,m[i]?=some q:=⟨_,List.getElem?_eq_getElem (by omega)⟩
   refine gA (bP Tryz.func352 rfl rfl) (lessN hlen (gT hy2) (gT hy6)) rfl rfl rfl rfl rfl (fun w S s k=>jG (fun w b=>pU w b) ((dC kT1) w S s k 0 _ rfl)) rfl (.cons .head .nil) trivial fun _=>?_;refine sp hT ?_;refine nn<|bO rfl (fun hc39=>?_) (fun hc39=>?_)
   ·have hc39:=kG hc39;have hc39:=Int.not_lt.1 (of_decide_eq_false hc39);refine cS<|bZ<|xP rfl ?_;refine bZ<|cR<|bE<|sr<|sp4 hT ?_;refine nn<|bK ?_;have hhp:nO SpotV.since m:=bCc hinv2.2.2.1 hy6 fun k q h1 h2 h3=>Int.le_trans (show y5.since≤y1.since by omega) ((child2 hy4 hy2 (by omega) (by omega)) k q h1 h2 h3);exact bL (m,_) rfl (rv_tmp rfl) (.cons kT1 (.cons .head .nil)) ⟨Has.pure ⟨hinv2.2.1,hhp⟩,trivial⟩ rfl
   have hc39:=kD hc39;have hc39:=of_decide_eq_true hc39;refine bM<|bE<|sr<|sp3 hT ?_;refine gA (bP Tryz.func355 rfl rfl) (swapN hlen (gT hy6) (gT hy2)) rfl rfl rfl rfl rfl (fun w S s k=>jG (fun w b=>tX w b) ((dC kT1) w S s k 0 _ rfl)) rfl (.cons .head .nil) trivial fun _=>?_;have hsw:=yM (w:=z) hy6 hy2;rw [hsw];refine nn<|bD<|sp2 hT ?_;refine gH<|bU<|bE ?_;exact cG ((2*i+1+1),(m.set i y1).set (2*i+1+1) y5) (by dsimp only;omega) ⟨rfl,trivial⟩ ⟨rfl,rfl,rfl,trivial⟩ (.cons .head (.cons .head .nil)) ⟨Has.pure (⟨by simp only [List.length_set];omega,(xX hy6 hy2).trans hinv2.2.1,xZ hinv2.2.2.1 hy6 hy2 (by omega) (by omega) (by omega) (child2 hy4 hy2 (by omega) (by omega)),by omega⟩),trivial⟩ (bH.drop 1)
  have hc33:=Int.not_lt.1 (of_decide_eq_false hc33);refine bM<|bE<|bF<|sr<|sp3 hT ?_
  obtain⟨y7,hy8⟩: ∃q,m[i]?=some q:=⟨_,List.getElem?_eq_getElem (by omega)⟩
  refine gA (bP Tryz.func352 rfl rfl) (lessN hlen (gT hy4) (gT hy8)) rfl rfl rfl rfl rfl (fun w S s k=>jG (fun w b=>pU w b) ((dC kT1) w S s k 0 _ rfl)) rfl (.cons .head .nil) trivial fun _=>?_;refine sp hT ?_;refine nn<|bO rfl (fun hc39=>?_) (fun hc39=>?_)
  ·have hc39:=kG hc39;have hc39:=Int.not_lt.1 (of_decide_eq_false hc39);refine cS<|bZ<|xP rfl ?_;refine bZ<|cR<|bE<|sr<|sp4 hT ?_;refine nn<|bK ?_;have hhp:nO SpotV.since m:=bCc hinv2.2.2.1 hy8 fun k q h1 h2 h3=>Int.le_trans (show y7.since≤y3.since by omega) ((child2 hy4 hy2 (by omega) (by omega)) k q h1 h2 h3);exact bL (m,_) rfl (rv_tmp rfl) (.cons kT1 (.cons .head .nil)) ⟨Has.pure ⟨hinv2.2.1,hhp⟩,trivial⟩ rfl
  have hc39:=kD hc39;have hc39:=of_decide_eq_true hc39;refine bM<|bE<|sr<|sp3 hT ?_;refine gA (bP Tryz.func355 rfl rfl) (swapN hlen (gT hy8) (gT hy4)) rfl rfl rfl rfl rfl (fun w S s k=>jG (fun w b=>tX w b) ((dC kT1) w S s k 0 _ rfl)) rfl (.cons .head .nil) trivial fun _=>?_;have hsw:=yM (w:=z) hy8 hy4;rw [hsw];refine nn<|bD<|sp2 hT ?_;refine gH<|bU<|bE ?_;exact cG ((2*i+1),(m.set i y3).set (2*i+1) y7) (by dsimp only;omega) ⟨rfl,trivial⟩ ⟨rfl,rfl,rfl,trivial⟩ (.cons .head (.cons .head .nil)) ⟨Has.pure (⟨by simp only [List.length_set];omega,(xX hy8 hy4).trans hinv2.2.1,xZ hinv2.2.2.1 hy8 hy4 (by omega) (by omega) (by omega) (child2 hy4 hy2 (by omega) (by omega)),by omega⟩),trivial⟩ (bH.drop 1)
 have hg28:=Int.not_lt.1 (of_decide_eq_false hg28);refine sk4 ?_;refine sp hT ?_;refine nn<|fM rfl rfl ?_;refine bM<|bE<|bF<|sr<|sp3 hT ?_
 obtain⟨y9,hy10⟩: ∃q,m[(2*i+1)]?=some q:=⟨_,List.getElem?_eq_getElem (by omega)⟩
 obtain⟨y11,hy12⟩: ∃q,m[i]?=some q:=⟨_,List.getElem?_eq_getElem (by omega)⟩
 refine gA (bP Tryz.func352 rfl rfl) (lessN hlen (gT hy10) (gT hy12)) rfl rfl rfl rfl rfl (fun w S s k=>jG (fun w b=>pU w b) ((dC kT1) w S s k 0 _ rfl)) rfl (.cons .head .nil) trivial fun _=>?_;refine sp hT ?_;refine nn<|bO rfl (fun hc39=>?_) (fun hc39=>?_)
 ·have hc39:=kG hc39;have hc39:=Int.not_lt.1 (of_decide_eq_false hc39);refine cS<|bZ<|xP rfl ?_;refine bZ<|cR<|bE<|sr<|sp4 hT ?_;refine nn<|bK ?_;have hhp:nO SpotV.since m:=bCc hinv2.2.2.1 hy12 fun k q h1 h2 h3=>Int.le_trans (show y11.since≤y9.since by omega) ((child1 hy10 (Int.le_refl _) (by omega)) k q h1 h2 h3);exact bL (m,_) rfl (rv_tmp rfl) (.cons kT1 (.cons .head .nil)) ⟨Has.pure ⟨hinv2.2.1,hhp⟩,trivial⟩ rfl
 have hc39:=kD hc39;have hc39:=of_decide_eq_true hc39;refine bM<|bE<|sr<|sp3 hT ?_;refine gA (bP Tryz.func355 rfl rfl) (swapN hlen (gT hy12) (gT hy10)) rfl rfl rfl rfl rfl (fun w S s k=>jG (fun w b=>tX w b) ((dC kT1) w S s k 0 _ rfl)) rfl (.cons .head .nil) trivial fun _=>?_;have hsw:=yM (w:=z) hy12 hy10;rw [hsw];refine nn<|bD<|sp2 hT ?_;refine gH<|bU<|bE ?_;exact cG ((2*i+1),(m.set i y9).set (2*i+1) y11) (by dsimp only;omega) ⟨rfl,trivial⟩ ⟨rfl,rfl,rfl,trivial⟩ (.cons .head (.cons .head .nil)) ⟨Has.pure (⟨by simp only [List.length_set];omega,(xX hy12 hy10).trans hinv2.2.1,xZ hinv2.2.2.1 hy12 hy10 (by omega) (by omega) (by omega) (child1 hy10 (Int.le_refl _) (by omega)),by omega⟩),trivial⟩ (bH.drop 1)
theorem up_any(A:Option Addr)(b c:Nat)(l:List SpotV)(x:SpotV)(ha: ∀q∈l,q.since≤x.since)(hl:l.length≤100000000):cX Tryz.prog 224 [.iface 252 (.pointer (some ⟨b,0,none⟩)),.int .i64 (l.length:Nat)] [.obj b (.cells ([.slice A (l++[x]).length c]:List Value).toArray 307),dN.row (.slice A (l++[x]).length c) 194 (l++[x])] [] (fun(_:Unit)=> .tuple #[])
  (fun(_:Unit)=>[.obj b (.cells ([.slice A (l++[x]).length c]:List Value).toArray 307),dN.row (.slice A (l++[x]).length c) 194 (l++[x])]) (fun _=>[]):=by
 rcases Nat.eq_zero_or_pos l.length with h0 | h0
 ·have e:l=[]:=List.eq_nil_of_length_eq_zero h0;subst e;exact up0_spec A b c [x]
 ·obtain⟨m,hm⟩: ∃m,l.length=m+1:=⟨l.length-1,by omega⟩
  obtain⟨y,hy⟩: ∃y,l[m/2]?=some y:=⟨_,List.getElem?_eq_getElem (by omega)⟩
  have:=upS_spec A b c m (l++[x]) x y (by rw [←hm];simp) (gT hy) (ha y (List.mem_of_getElem? hy)) (by omega);rw [←hm] at this;exact this
theorem at_full_row{β:fB}{n:Nat}{Γ:Env}{H:List bJ}{F:List bI}{Q:Exit→Act→World→Prop}{ops:Array Oper}{rest:List Oper}{o:Oper}{d c q m:Nat}{x y:Operand}{A B:Option Addr}{xs ys:List SpotV}(hr:bV β H F dN A xs)(hs:bV β H F dN B ys)(hw:want ops Γ o=some true)
  (ho:o.op= .call {callee:= .builtin .append,args:= #[x,y],argTypes:= #[307,307]}) (hd:o.dst=some d) (hn:Nat.blt d n=true) (hx:Γ.ev x=some (.slice A m m)) (hm:m=xs.length) (hy:Γ.ev y=some (.slice B q c)) (hq:q=ys.length) (h0:0<ys.length) (hl:xs.length+ys.length≤2000000000)
  (k: ∀A' cap',At β n ((d,.slice A' (xs++ys).length cap')::Γ) (dN.row (.slice A' (xs++ys).length cap') 194 (xs++ys)::H) F (wpList Tryz.prog ops Q rest)):At β n Γ H F (wpList Tryz.prog ops Q (o::rest)):=by
 obtain⟨i,hi,hz,hsz,hb⟩:=rR;exact bCl (E:=dN) hr hs hw ho hd hn Tryz.underlying307 hi hz hsz hb rfl hx hm hy hq h0 (by omega) (by decide) k
set_option maxRecDepth 100000 in
theorem PushH_spec(A:Option Addr)(b:Nat)(l:List SpotV)(x:SpotV)(hl:l.length≤100000000):cX Tryz.prog 354 [.pointer (some ⟨b,0,none⟩),.iface 194 (.agg #[.slice x.at_.addr x.at_.list.length x.at_.cap,.slice x.size.addr x.size.list.length x.size.cap,.int .i64 x.since])] [.obj b (.cells ([.slice A l.length l.length]:List Value).toArray 307),dN.held (.slice A l.length l.length) l] [] (fun(_:Option Addr×Nat)=> .tuple #[]) (fun(y:Option Addr×Nat)=>[.obj b (.cells ([.slice y.1 (l++[x]).length y.2]:List Value).toArray 307),dN.row (.slice y.1 (l++[x]).length y.2) 194 (l++[x])]) (fun _=>[]):=by
 have hT:=fD;refine cD Tryz.func354 rfl Tryz.ntmps354 rfl ?_;intro β hM;refine nS 9 _ _ [(true,0),(true,1),(true,2),(true,3),(true,4),(true,5),(false,6),(false,7),(true,8)] fH (by decide+kernel) (.cons .head .nil) bH.self ?_;refine puL hT ?_;refine puL hT ?_;refine puL hT ?_;refine stL rfl (ldO hT (dC .head)) ?_;refine puL hT ?_;refine stL rfl (vG rfl Tryz.underlying194 (fun _ e=>by cases e) rfl) ?_;refine jL (o:=_) rfl ?_;refine bCb (m:=x) rfl rfl rfl rfl rfl fun b1=>?_;refine jO (.cons kT1 .nil) trivial ?_;refine jL (o:=_) rfl ?_;refine at_full_row (cF kT2) (iE .head rfl) rfl rfl rfl rfl rfl rfl rfl rfl (Nat.succ_pos _) (by simp only [List.length_singleton];omega) fun A2 c3=>?_;refine jO (.cons kT2 .nil) trivial ?_;refine puL hT ?_;refine iQ (o:=_) rfl ?_;refine sto hT kT2 ?_;refine kJ ?_;exact jS (A2,c3) rfl (.cons .head (.cons .head .nil)) trivial (by first | rfl | simp_all)
set_option maxRecDepth 100000 in
theorem HPush_spec(A:Option Addr)(b c:Nat)(l:List SpotV)(x:SpotV)(ha: ∀q∈l,q.since≤x.since)(hl:l.length≤100000000):cX Tryz.prog 164 [.iface 252 (.pointer (some ⟨b,0,none⟩)),.iface 194 (.agg #[.slice x.at_.addr x.at_.list.length x.at_.cap,.slice x.size.addr x.size.list.length x.size.cap,.int .i64 x.since])] [.obj b (.cells ([.slice A l.length c]:List Value).toArray 307),dN.row (.slice A l.length c) 194 l] [] (fun(_:Option Addr×Nat)=> .tuple #[]) (fun(y:Option Addr×Nat)=>[.obj b (.cells ([.slice y.1 (l++[x]).length y.2]:List Value).toArray 307),dN.row (.slice y.1 (l++[x]).length y.2) 194 (l++[x])]) (fun(y:Option Addr×Nat)=>[bI.pure ((l++[x]).length≤y.2)]):=by
 have hT:=fD;refine cD Tryz.func164 rfl Tryz.ntmps164 rfl ?_;intro β hM;refine sr<|sp2 hT ?_;refine gA (bP Tryz.func354 rfl rfl) (Push_spec A b c l x hl) rfl rfl rfl rfl rfl (fun w S s k=>bHq w b) rfl (.cons .head (.cons .head .nil)) trivial fun y1=>?_;refine nn<|bD<|sp2 hT ?_;refine gA (bP Tryz.func161 rfl rfl) (wR y1.1 (l++[x]).length y1.2) rfl rfl rfl rfl rfl (fun w S s k=>jG (fun w b=>bCg w b) ((dC .head) w S s k 0 _ rfl)) rfl .nil trivial fun _=>?_;refine sp hT ?_;refine bT (z':=((l.length:Nat):Int)) (by rw [List.length_append,List.length_singleton,show((l.length+1:Nat):Int)-1=(l.length:Nat) by omega];exact cO rfl (by omega)) ?_;refine cU Tryz.func224 (up_any y1.1 b y1.2 l x ha hl) rfl rfl (.cons .head (.cons .head .nil)) trivial fun _=>?_;refine gH<|bDy (E:=dN) (xs:=l++[x]) kT1 fun hcap=>?_;exact jS y1 rfl (.cons .head (.cons .head .nil)) ⟨Has.pure hcap,trivial⟩ (rfl)
set_option maxRecDepth 100000 in
theorem HPushF_spec(A:Option Addr)(b:Nat)(l:List SpotV)(x:SpotV)(ha: ∀q∈l,q.since≤x.since)(hl:l.length≤100000000):cX Tryz.prog 164 [.iface 252 (.pointer (some ⟨b,0,none⟩)),.iface 194 (.agg #[.slice x.at_.addr x.at_.list.length x.at_.cap,.slice x.size.addr x.size.list.length x.size.cap,.int .i64 x.since])] [.obj b (.cells ([.slice A l.length l.length]:List Value).toArray 307),dN.held (.slice A l.length l.length) l] [] (fun(_:Option Addr×Nat)=> .tuple #[]) (fun(y:Option Addr×Nat)=>[.obj b (.cells ([.slice y.1 (l++[x]).length y.2]:List Value).toArray 307),dN.row (.slice y.1 (l++[x]).length y.2) 194 (l++[x])]) (fun(y:Option Addr×Nat)=>[bI.pure ((l++[x]).length≤y.2)]):=by
 have hT:=fD;refine cD Tryz.func164 rfl Tryz.ntmps164 rfl ?_;intro β hM;refine sr<|sp2 hT ?_;refine gA (bP Tryz.func354 rfl rfl) (PushH_spec A b l x hl) rfl rfl rfl rfl rfl (fun w S s k=>bHq w b) rfl (.cons .head (.cons .head .nil)) trivial fun y1=>?_;refine nn<|bD<|sp2 hT ?_;refine gA (bP Tryz.func161 rfl rfl) (wR y1.1 (l++[x]).length y1.2) rfl rfl rfl rfl rfl (fun w S s k=>jG (fun w b=>bCg w b) ((dC .head) w S s k 0 _ rfl)) rfl .nil trivial fun _=>?_;refine sp hT ?_;refine bT (z':=((l.length:Nat):Int)) (by rw [List.length_append,List.length_singleton,show((l.length+1:Nat):Int)-1=(l.length:Nat) by omega];exact cO rfl (by omega)) ?_;refine cU Tryz.func224 (up_any y1.1 b y1.2 l x ha hl) rfl rfl (.cons .head (.cons .head .nil)) trivial fun _=>?_;refine gH<|bDy (E:=dN) (xs:=l++[x]) kT1 fun hcap=>?_;exact jS y1 rfl (.cons .head (.cons .head .nil)) ⟨Has.pure hcap,trivial⟩ (rfl)
set_option maxRecDepth 100000 in
theorem HPop_spec(A:Option Addr)(b c N:Nat)(l:List SpotV)(x z:SpotV)(hlm:l.length=N+1)(hc:N+1≤c)(hx:l[0]?=some x)(hz:l[N]?=some z)(hs:nO SpotV.since l)(hb:N≤100000000):cX Tryz.prog 162 [.iface 252 (.pointer (some ⟨b,0,none⟩))] [.obj b (.cells ([.slice A (N+1) c]:List Value).toArray 307),dN.held (.slice A (N+1) c) l] [] (fun(_:List SpotV)=> .iface 194 (.agg #[.slice x.at_.addr x.at_.list.length x.at_.cap,.slice x.size.addr x.size.list.length x.size.cap,.int .i64 x.since])) (fun(m:List SpotV)=>[.obj b (.cells ([.slice A N N]:List Value).toArray 307),dN.held (.slice A N N) m]) (fun(m:List SpotV)=>[bI.pure (l.Perm (x::m)∧nO SpotV.since m)]):=by
 have hT:=fD;refine cD Tryz.func162 rfl Tryz.ntmps162 rfl ?_;intro β hM;refine sr<|sp hT ?_;refine nn<|sr<|sp hT ?_;refine gA (bP Tryz.func161 rfl rfl) (wR A (N+1) c) rfl rfl rfl rfl rfl (fun w S s k=>jG (fun w b=>bCg w b) ((dC .head) w S s k 0 _ rfl)) rfl .nil trivial fun _=>?_;refine sp hT ?_;refine bT (z':=((N:Nat):Int)) (by rw [show((N+1:Nat):Int)-1=(N:Nat) by omega];exact cO rfl (by omega)) ?_;refine sp hT ?_;refine nn<|sr<|sp2 hT ?_;refine gA (bP Tryz.func355 rfl rfl) (swapN hlm hx hz) rfl rfl rfl rfl rfl (fun w S s k=>jG (fun w b=>tX w b) ((dC .head) w S s k 0 _ rfl)) rfl (.cons kT1 .nil) trivial fun _=>?_;rw [bHd hlm hx hz];refine nn<|sr<|sp2 hT ?_;refine cU Tryz.func223 (downS_spec A b c N ((l.take N).set 0 z) x (by simp;omega) (sink_start hs) hb) rfl rfl (.cons kT1 (.cons .head .nil)) trivial fun y1=>?_;refine bX (Has.of mT0) fun hdn=>?_;have hyl:y1.1.length=N:=by have:=hdn.1.length_eq;simp at this;omega
 refine nn<|sr<|sp hT ?_;refine gA (bP Tryz.func353 rfl rfl) (PopH_spec A b c N (y1.1++[x]) x (by simp;omega) hc (by rw [←hyl];simp) hb) rfl rfl rfl rfl rfl (fun w S s k=>meth_pop w b) rfl (.cons .head (.cons .head .nil)) trivial fun _=>?_;have htk:(y1.1++[x]).take N=y1.1:=by rw [←hyl];simp
 rw [htk];refine sp hT ?_;refine nn<|bK ?_;exact bL y1.1 rfl (rv_tmp rfl) (.cons .head (.cons .head .nil)) ⟨Has.pure ⟨swap_perm hlm hx hz hdn.1,hdn.2⟩,trivial⟩ (rfl)
theorem takes_le(h:Int):fJ h≤2∧ -1≤fJ h:=by
 unfold fJ
 repeat' split
 all_goals omega
def bFz (l:List OpV)(i:Nat)(m n r:Int):Prop:=wX ((sR l).drop i) m n=r
theorem pB{α:Type}{l:List α}{i:Nat}{x:α}(h:l[i]?=some x):l.drop i=x::l.drop (i+1):=by
 obtain⟨hi,e⟩:=List.getElem?_eq_some_iff.1 h;rw [←e];exact List.drop_eq_getElem_cons hi
section
variable {l : List OpV} {i : Nat} {m n r : Int} {x : OpV}
theorem dep_step(h:bFz l i m n r)(hx:l[i]?=some x):(fJ x.how<0∨n<fJ x.how→r= -1)∧(¬fJ x.how<0→ ¬n<fJ x.how→bFz l (i+1) (if n+(1-fJ x.how)>m then n+(1-fJ x.how) else m) (n+(1-fJ x.how)) r):=by
 unfold bFz at*;rw [pB (opsL_at hx),wX] at h;refine⟨fun e=>?_,fun e1 e2=>?_⟩
 ·rw [if_pos (show fJ x.c.how<0∨n<fJ x.c.how from e)] at h;exact h.symm
 ·rw [if_neg (show ¬(fJ x.c.how<0∨n<fJ x.c.how) from fun h=>h.elim e1 e2)] at h;rw [←h]
  congr 1
  show _=max m (n+(1-fJ x.how));split<;>omega
theorem dep_end(h:bFz l i m n r)(hi:l.length≤i):(n≠1→r= -1)∧(n=1→r=m):=by
 unfold bFz at h;rw [List.drop_of_length_le (by rw [zH];exact hi),wX] at h;exact⟨fun e=>by rw [if_neg e] at h;exact h.symm,fun e=>by rw [if_pos e] at h;exact h.symm⟩
end
section
variable {f : Int} {two : Bool}
theorem uO(h:f<1∨17<f):Value.bool false= .bool (kT f two):=by
 unfold kT;rw [if_pos h]
theorem wtk_b(h3:f=16):Value.bool (!two)= .bool (kT f two):=by
 unfold kT;rw [if_neg (by omega),if_pos h3]
theorem wtk_c(h1:1≤f)(h2:f≤17)(h3:f≠16)(h:two=true):Value.bool true= .bool (kT f two):=by
 unfold kT;rw [if_neg (by omega),if_neg h3,h,Bool.true_or]
theorem wtk_d(h1:1≤f)(h2:f≤17)(h3:f≠16)(h:two=false):Value.bool (decide (f≤7))= .bool (kT f two):=by
 unfold kT;rw [if_neg (by omega),if_neg h3,h,Bool.false_or]
end
theorem vM:(Tryz.prog.info? 42).bind (·.zero)=some (.agg #[.int .i64 0,.int .i64 0,.int .i64 0,.slice none 0 0,.int .u8 0]):=by kernel_rfl
set_option maxRecDepth 100000 in
theorem takes_spec(o:OpV):cX Tryz.prog 168 [.agg #[.int .i64 o.how,.int .i64 o.k,.int .i64 o.n,.slice o.p.addr o.p.list.length o.p.cap,.int .u8 o.fn]] [] [] (fun(_:Unit)=> .int .i64 (fJ o.how)) (fun _=>[]) (fun _=>[]):=by
 have hT:=dW;refine cD Tryz.func168 rfl Tryz.ntmps168 rfl ?_;intro β hM;refine sr<|iL rfl rfl rfl rfl rfl rfl fun b1=>?_;refine sp hT ?_;refine nn<|bF<|sr<|sp hT ?_;refine ss (ldO hT (dC .head)) ?_;refine nn<|bQ<|bF<|sr<|sp2 hT ?_;refine nn<|bO rfl (fun hc5=>?_) (fun hc5=>?_)
 ·have hc5_r:=hc5;have hc5:=eq_of_beq hc5;refine bM<|bE<|cW rfl hc5_r ?_;refine sr<|sp hT ?_;refine nn<|bK<|bW<|bN ?_;exact bL () rfl (rv_tmp rfl) .nil trivial (by simp [fJ, *])
 have hc5_r:=hc5;have hc5:=beq_eq_false_iff_ne.1 hc5;refine sr<|sp2 hT ?_;refine nn<|bO rfl (fun hc5_2=>?_) (fun hc5_2=>?_)
 ·have hc5_2_r:=hc5_2;have hc5_2:=eq_of_beq hc5_2;refine bM<|bE<|cW rfl hc5_2_r ?_;refine sr<|sp hT ?_;refine nn<|bK<|bW<|bN ?_;exact bL () rfl (rv_tmp rfl) .nil trivial (by simp [fJ, *])
 have hc5_2_r:=hc5_2;have hc5_2:=beq_eq_false_iff_ne.1 hc5_2;refine bD<|sp2 hT ?_;refine nn<|bO rfl (fun hc5_3=>?_) (fun hc5_3=>?_)
 ·have hc5_3_r:=hc5_3;have hc5_3:=eq_of_beq hc5_3;refine sr<|sp hT ?_;refine nn<|bK<|bW<|bN ?_;exact bL () rfl (rv_tmp rfl) .nil trivial (by simp [fJ, *])
 have hc5_3_r:=hc5_3;have hc5_3:=beq_eq_false_iff_ne.1 hc5_3;refine bF<|sr<|sp2 hT ?_;refine nn<|bO rfl (fun hc9=>?_) (fun hc9=>?_)
 ·have hc9_r:=hc9;have hc9:=eq_of_beq hc9;refine bM<|bE<|cW rfl hc9_r ?_;refine sr<|sp hT ?_;refine nn<|bK<|bW<|bN ?_;exact bL () rfl (rv_tmp rfl) .nil trivial (by simp [fJ, *])
 have hc9_r:=hc9;have hc9:=beq_eq_false_iff_ne.1 hc9;refine bD<|sp2 hT ?_;refine nn<|bO rfl (fun hc9_4=>?_) (fun hc9_4=>?_)
 ·have hc9_4_r:=hc9_4;have hc9_4:=eq_of_beq hc9_4;refine sr<|sp hT ?_;refine nn<|bK<|bW<|bN ?_;exact bL () rfl (rv_tmp rfl) .nil trivial (by simp [fJ, *])
 have hc9_4_r:=hc9_4;have hc9_4:=beq_eq_false_iff_ne.1 hc9_4;refine sr<|sp2 hT ?_;refine nn<|bO rfl (fun hc12=>?_) (fun hc12=>?_)
 ·have hc12_r:=hc12;have hc12:=eq_of_beq hc12;refine sr<|sp hT ?_;refine nn<|bK<|bW<|bN ?_;exact bL () rfl (rv_tmp rfl) .nil trivial (by simp [fJ, *])
 have hc12_r:=hc12;have hc12:=beq_eq_false_iff_ne.1 hc12;refine bM<|bU<|bE<|sr<|sp hT ?_;refine nn<|bK ?_;exact bL () rfl (rv_tmp rfl) .nil trivial (by simp [fJ, *])
set_option maxRecDepth 100000 in
theorem Depth_spec(A:Option Addr)(c:Nat)(l:List OpV)(hl:l.length≤140737488355328):cX Tryz.prog 109 [.slice A l.length c] [] [opE.sl (.slice A l.length c) l,bI.each l opF] (fun(_:Unit)=> .int .i64 (xU (sR l))) (fun _=>[]) (fun _=>[]):=by
 have hT:=dW;generalize hR:xU (sR l)=r;refine cD Tryz.func109 rfl Tryz.ntmps109 rfl ?_;intro β hM;refine sr<|sp hT ?_;refine nn<|sr<|sp2 hT ?_;refine nn<|bF<|sr<|sp3 hT ?_;refine nn<|bQ<|dH (ι:=Nat×Int×Int) [(8,_),(9,_)] ⟨rfl,rfl,trivial⟩ (fun⟨i,m,n⟩=>[(3,.int .i64 m),(4,.int .i64 n),(10,.int .i64 (i:Nat))]) (fun _=>[]) (fun⟨i,m,n⟩=>[bI.pure (i≤l.length∧bFz l i m n r∧0≤n∧n≤i)]) (fun⟨i,m,n⟩=>l.length-i) (0,0,0) ⟨rfl,rfl,rfl,trivial⟩ .nil ⟨Has.pure (⟨by omega,hR,by omega,by omega⟩),trivial⟩ ?_;rintro⟨i,m,n⟩;dsimp only;refine bX (Has.of mT0) fun hinv3=>?_;refine sr<|sp hT ?_;refine nn<|bF<|bO rfl (fun hc11=>?_) (fun hc11=>?_)
 ·have hc11:=of_decide_eq_true hc11;refine bM<|bE<|bF<|bQ<|sr ?_
  obtain⟨x1,hx2⟩: ∃x',l[i]?=some x':=⟨_,List.getElem?_eq_getElem (by omega)⟩
  refine ss (bG hT (k:=i) (bC (Has.of mT1)) rfl rfl rfl rfl rfl rfl rfl (by omega)) ?_;refine ss (cL hT (bV.knows (bC (Has.of mT1)) (k:=i) (x:=x1) hx2 0) rfl rfl rfl rfl rfl) ?_;refine fC rfl rfl rfl rfl vM rfl fun b3=>?_;refine sto hT .head ?_;refine nn<|bF ?_;have htk:=takes_le x1.how
  have hd0:=(dep_step hinv3.2.1 hx2)
  refine bD<|ss (ldN hT (dC .head)) ?_;refine cU Tryz.func168 (takes_spec x1) rfl rfl .nil trivial fun _=>?_;refine sp hT ?_;refine nn<|bF<|sr<|sp3 hT ?_;refine cA (fun hg18=>?_) (fun hg18=>?_)
  ·have hg18:=of_decide_eq_true hg18;refine sk3 ?_;refine sp hT ?_;refine nn<|cW rfl rfl ?_;refine sr<|sp hT ?_;refine nn<|bK<|bN<|bW<|bN<|bN<|bW<|bN ?_;have hr:=hd0.1 (by omega);subst hr;exact bL () rfl (rv_tmp rfl) .nil trivial rfl
  have hg18:=Int.not_lt.1 (of_decide_eq_false hg18);refine sp4 hT ?_;refine nn<|bO rfl (fun hc22=>?_) (fun hc22=>?_)
  ·have hc22:=of_decide_eq_true hc22;refine sr<|sp hT ?_;refine nn<|bK<|bN<|bW<|bN<|bN<|bW<|bN ?_;have hr:=hd0.1 (by omega);subst hr;exact bL () rfl (rv_tmp rfl) .nil trivial rfl
  have hc22:=Int.not_lt.1 (of_decide_eq_false hc22);refine bM<|bE<|sr<|sp3 hT ?_;refine bT (uJ (by omega) (by omega)) ?_;refine sp hT ?_;refine bT (uJ (by omega) (by omega)) ?_;refine sp hT ?_;refine nn<|bD<|sp4 hT ?_;refine gH<|bU<|bE<|bD<|sp hT ?_;refine bT (z':=(((i+1):Nat):Int)) (cO (by omega) (by omega)) ?_;refine sp hT ?_;refine nn ?_;exact cG (i+1,_,_) (by dsimp only;omega) ⟨rfl,rfl,rfl,trivial⟩ ⟨rfl,rfl,trivial⟩ .nil ⟨Has.pure (⟨by dsimp only;omega,hd0.2 (by omega) (by omega),by dsimp only;omega,by dsimp only;omega⟩),trivial⟩ (bH.drop 1)
 have hc11:=Int.not_lt.1 (of_decide_eq_false hc11);refine cS<|bZ<|bZ<|cR<|bE<|bF<|sr<|sp2 hT ?_;refine nn<|bO rfl (fun hc32=>?_) (fun hc32=>?_)
 ·have hc32:=bne_iff_ne.1 hc32;refine sr<|sp hT ?_;refine nn<|bK<|bN ?_;have hr:=(dep_end hinv3.2.1 (by omega)).1 ‹_›;subst hr;exact bL () rfl (rv_tmp rfl) .nil trivial rfl
 have hc32:=bne_eq_false_iff_eq.1 hc32;refine bM<|bE<|sr<|sp2 hT ?_;refine nn<|bK ?_;have hr:=(dep_end hinv3.2.1 (by omega)).2 ‹_›;subst hr;exact bL () rfl (rv_tmp rfl) .nil trivial rfl
set_option maxRecDepth 100000 in
theorem oY(f:Int)(two:Bool):cX Tryz.prog 110 [.int .u8 f,.bool two] [] [] (fun(_:Unit)=> .bool (kT f two)) (fun _=>[]) (fun _=>[]):=by
 have hT:=dW;refine cD Tryz.func110 rfl Tryz.ntmps110 rfl ?_;intro β hM;refine sr<|sp hT ?_;refine nn<|bF<|bQ<|sr<|sp3 hT ?_;refine cA (fun hg8=>?_) (fun hg8=>?_)
 ·have hg8:=of_decide_eq_true hg8;refine sk2 ?_;refine sp2 hT ?_;refine nn<|cW rfl rfl ?_;refine sr<|sp hT ?_;refine nn<|bK<|bW<|bN ?_;exact bL () rfl (rv_tmp rfl) .nil trivial (by first | exact uO (.inl (by omega)) | exact uO (.inr (by omega)) | exact wtk_b (by omega) | exact wtk_c (by omega) (by omega) (by omega) ‹_› | exact wtk_d (by omega) (by omega) (by omega) ‹_›)
 have hg8:=Int.not_lt.1 (of_decide_eq_false hg8);refine sp4 hT ?_;refine nn<|bO rfl (fun hc5=>?_) (fun hc5=>?_)
 ·have hc5:=of_decide_eq_true hc5;refine sr<|sp hT ?_;refine nn<|bK<|bW<|bN ?_;exact bL () rfl (rv_tmp rfl) .nil trivial (by first | exact uO (.inl (by omega)) | exact uO (.inr (by omega)) | exact wtk_b (by omega) | exact wtk_c (by omega) (by omega) (by omega) ‹_› | exact wtk_d (by omega) (by omega) (by omega) ‹_›)
 have hc5:=Int.not_lt.1 (of_decide_eq_false hc5);refine sr<|sp3 hT ?_;refine nn<|bO rfl (fun hc12=>?_) (fun hc12=>?_)
 ·have hc12:=eq_of_beq hc12;refine sr<|sp3 hT ?_;refine nn<|bK<|bW<|bN ?_;exact bL () rfl (rv_tmp rfl) .nil trivial (by first | exact uO (.inl (by omega)) | exact uO (.inr (by omega)) | exact wtk_b (by omega) | exact wtk_c (by omega) (by omega) (by omega) ‹_› | exact wtk_d (by omega) (by omega) (by omega) ‹_›)
 have hc12:=beq_eq_false_iff_ne.1 hc12;refine bM<|bU<|bE<|sr<|sp2 hT ?_;refine cA (fun hg18=>?_) (fun hg18=>?_)
 ·refine sk2 ?_;refine sp2 hT ?_;refine nn<|bK ?_;exact bL () rfl (rv_tmp rfl) .nil trivial (by first | exact uO (.inl (by omega)) | exact uO (.inr (by omega)) | exact wtk_b (by omega) | exact wtk_c (by omega) (by omega) (by omega) ‹_› | exact wtk_d (by omega) (by omega) (by omega) ‹_›)
 refine sp4 hT ?_;refine nn<|bK ?_;exact bL () rfl (rv_tmp rfl) .nil trivial (by first | exact uO (.inl (by omega)) | exact uO (.inr (by omega)) | exact wtk_b (by omega) | exact wtk_c (by omega) (by omega) (by omega) ‹_› | exact wtk_d (by omega) (by omega) (by omega) ‹_›)
theorem mono_zero:(Tryz.prog.info? 45).bind (·.zero)=some (.agg #[.int .i64 0,.int .u8 0,.int .u8 0,.int .u8 0,.int .u8 0,.int .u8 0,.int .u8 0]):=by kernel_rfl
def EI (m:Mono):List Int:=[m.e0.toNat,m.e1.toNat,m.e2.toNat,m.e3.toNat,m.e4.toNat,m.e5.toNat]
def u8I:Flat Int where
 size:=1
 cells:=fun x=>[.int .u8 x]
 len:=fun _=>rfl
 one:=fun x u hu=>by simp at hu;subst hu;rfl
 pos:=by decide
theorem clamp_le(vars:Int):clampK vars≤6:=by unfold clampK;omega
theorem clamp_eq(vars:Int):(if (6:Int)<(if (0:Int)>vars then 0 else vars) then 6 else (if (0:Int)>vars then 0 else vars))=((clampK vars:Nat):Int):=by
 unfold clampK;split<;>split<;>omega
theorem ei_len(m:Mono)(vars:Int):((EI m).drop (clampK vars)).length=6-clampK vars:=by
 rw [List.length_drop];rfl
theorem bGl{β:fB}{H H':List bJ}{F:List bI}{b:Nat}{t:TypeId}{m:Mono}{k:Nat}(hH:dD H (.obj b (.cells m.cells.toArray t)) H'):bV β H F u8I (some ⟨b,if 6=k then 1 else 1+k*1,none⟩) ((EI m).drop k):=fun w S s hF j x hx=>by
 refine⟨⟨b,_,rfl⟩,fun q u hq=>?_⟩;have hj:=(List.getElem?_eq_some_iff.1 hx).1;rw [List.length_drop] at hj;have hj:j<6-k:=hj;rw [List.getElem?_drop] at hx
 have h0:=mL (β:=β) (F:=F) (off:=0) hH w S s hF (1+k+j) (.int .u8 x) (by
  show m.cells[1+k+j]?=_;have e:m.cells= .int .i64 m.n::(EI m).map (fun z=>Value.int .u8 z):=rfl;rw [e,show 1+k+j=(k+j)+1 by omega,List.getElem?_cons_succ,List.getElem?_map,hx]
  rfl)
 have hq0:q=0:=by
  have:=(List.getElem?_eq_some_iff.1 hq).1;simp [u8I] at this;exact this
 subst hq0;cases hq;show w.cell? ⟨b,(if 6=k then 1 else 1+k*1)+j*1+0,none⟩=_;rw [if_neg (by omega)];rw [show 1+k*1+j*1+0=0+(1+k+j) by omega];exact h0
def okM (k:Nat)(m:Mono):Bool:=(m.E.drop k).all (fun e=>e==0)
theorem okM_eq(k:Nat)(m:Mono):okM k m=((EI m).drop k).all (fun e=>e==0):=by
 have e:EI m=m.E.map fun e=>((e.toNat:Nat):Int):=rfl;unfold okM;rw [e,←List.map_drop,List.all_map]
 congr 1
 funext u
 rw [Bool.eq_iff_iff];simp [←UInt8.toNat_inj]
theorem yK{α:Type}{p:α→Bool}{l:List α}{i:Nat}{x:α}(h:(l.take i).all p=true)(hx:l[i]?=some x)(k:p x=true):(l.take (i+1)).all p=true:=by
 obtain⟨hi,e⟩:=List.getElem?_eq_some_iff.1 hx;rw [List.take_succ_eq_append_getElem hi,e,List.all_append,h];simp [k]
theorem bEf{α:Type}{p:α→Bool}{l:List α}{i:Nat}(h:(l.take i).all p=true)(hi:l.length≤i):l.all p=true:=by
 rwa [List.take_of_length_le hi] at h
theorem all_bad{α:Type}{p:α→Bool}{l:List α}{i:Nat}{x:α}(hx:l[i]?=some x)(k:p x=false):l.all p=false:=List.all_eq_false.2 ⟨x,List.mem_of_getElem? hx,by simp [k]⟩
theorem okM_end{k j:Nat}{m:Mono}(h:(((EI m).drop k).take j).all (fun e=>e==0)=true)(hj:((EI m).drop k).length≤j):okM k m=true:=by
 rw [okM_eq];exact bEf h hj
theorem okM_bad{k j:Nat}{m:Mono}{e:Int}(hx:((EI m).drop k)[j]?=some e)(h:e≠0):okM k m=false:=by
 rw [okM_eq];exact all_bad hx (by simp [h])
theorem ei_ge{k j:Nat}{m:Mono}{e:Int}(hx:((EI m).drop k)[j]?=some e):0≤e:=by
 have:=List.mem_of_mem_drop (List.mem_of_getElem? hx);simp [EI] at this;omega
theorem le_zero{e:Int}(h:e≤0)(k:0≤e):e=0:=by omega
theorem of_bad{p:List Mono}{vars:Int}{i:Nat}{m:Mono}(hx:p[i]?=some m)(h:okM (clampK vars) m=false):Value.bool false= .bool (ofB p vars):=by
 unfold ofB;rw [show p.all (fun m=>(m.E.drop (clampK vars)).all (fun e=>e==0))=false from all_bad hx h];rfl
theorem of_end{p:List Mono}{vars:Int}(h:p.all (okM (clampK vars))=true):Value.bool (cH p)= .bool (ofB p vars):=by
 unfold ofB;rw [show p.all (fun m=>(m.E.drop (clampK vars)).all (fun e=>e==0))=true from h];rfl
theorem grow_bad{l:List (List Mono)}{vars:Int}{i:Nat}{p:List Mono}(hx:l[i]?=some p)(h:(ofB p vars&&mF p)=false):Value.bool false= .bool (lN l vars):=by
 unfold lN;rw [all_bad hx h];rfl
theorem grow_end{l:List PolV}{vars:Int}(h:(polsL l).all (fun p=>ofB p vars&&mF p)=true):Value.bool (decide ((l.length:Int)≤4))= .bool (lN (polsL l) vars):=by
 unfold lN;rw [h,dF,Bool.true_and]
 congr 1
 rw [decide_eq_decide];omega
set_option maxRecDepth 100000 in
theorem of_spec(p:PolV)(vars:Int):cX Tryz.prog 107 [.slice p.addr p.list.length p.cap,.int .i64 vars] [] [fG p] (fun(_:Unit)=> .bool (ofB p.list vars)) (fun _=>[]) (fun _=>[]):=by
 have hT:=dW;refine cD Tryz.func107 rfl Tryz.ntmps107 rfl ?_;intro β hM;refine bF<|bX (fQ (Has.of mT0)) fun hp=>?_;refine cC (dY.sl (.slice p.addr p.list.length p.cap) p.list) (mD (Has.of mT0)) ?_;refine bD<|sp hT ?_;refine nn<|bF<|sr<|sp3 hT ?_;refine nn<|bQ<|dH (ι:=Nat) [(0,_),(1,_),(9,_),(10,_)] ⟨rfl,rfl,rfl,rfl,trivial⟩ (fun i=>[(11,.int .i64 (i:Nat))]) (fun _=>[]) (fun i=>[bI.pure (i≤p.list.length∧(p.list.take i).all (okM (clampK vars))=true)]) (fun i=>p.list.length-i) 0 ⟨rfl,trivial⟩ .nil ⟨Has.pure (⟨by omega,rfl⟩),trivial⟩ ?_;rintro i;refine bX (Has.of mT0) fun hinv2=>?_;refine sr<|sp hT ?_;refine nn<|bF<|bO rfl (fun hc12=>?_) (fun hc12=>?_)
 ·have hc12:=of_decide_eq_true hc12;refine bM<|bE<|bF<|bQ<|sr ?_
  obtain⟨x1,hx2⟩: ∃x',p.list[i]?=some x':=⟨_,List.getElem?_eq_getElem (by omega)⟩
  refine ss (bG hT (k:=i) (bC (Has.of mT1)) rfl rfl rfl rfl rfl rfl rfl (by omega)) ?_;refine ss (cL hT (bV.knows (bC (Has.of mT1)) (k:=i) (x:=x1) hx2 0) rfl rfl rfl rfl rfl) ?_;refine fC rfl rfl rfl rfl mono_zero rfl fun b3=>?_;refine sto hT .head ?_;refine nn<|sr<|sp4 hT ?_;refine bT (z':=((clampK vars:Nat):Int)) (clamp_eq vars) ?_;have hcl:=clamp_le vars;refine ss (sti_arrFrom hT (k:=clampK vars) rfl rfl rfl rfl rfl rfl (clamp_le vars)) ?_;refine sp hT ?_;refine bT (z':=(((6-clampK vars):Nat):Int)) (rfl) ?_;refine sp hT ?_;refine nn<|bQ<|dH (ι:=Nat) [(0,_),(1,_),(9,_),(10,_),(11,_),(19,_),(20,_)] ⟨rfl,rfl,rfl,rfl,rfl,rfl,rfl,trivial⟩ (fun j=>[(21,.int .i64 (j:Nat))]) (fun _=>[]) (fun j=>[bI.pure (j≤6-clampK vars∧(((EI x1).drop (clampK vars)).take j).all (fun e=>e==0)=true)]) (fun j=>6-clampK vars-j) 0 ⟨rfl,trivial⟩ .nil ⟨Has.pure (⟨by omega,rfl⟩),trivial⟩ ?_;rintro j;refine bX (Has.of mT0) fun hinv5=>?_;refine sr<|sp hT ?_;refine nn<|bF<|bO rfl (fun hc22=>?_) (fun hc22=>?_)
  ·have hc22:=of_decide_eq_true hc22;refine bM<|bE<|bF<|bQ<|sr ?_
   obtain⟨x4,hx5⟩: ∃x',((EI x1).drop (clampK vars))[j]?=some x':=⟨_,List.getElem?_eq_getElem (by rw [ei_len];omega)⟩
   refine ss (bG hT (k:=j) (bGl .head) rfl rfl rfl rfl rfl (ei_len x1 vars).symm rfl (by rw [ei_len];omega)) ?_;refine ss (bR hT (bV.knows (bGl .head) (k:=j) (x:=x4) hx5 0) rfl rfl rfl rfl rfl) ?_;refine sp hT ?_;refine nn<|sr<|sp2 hT ?_;refine nn<|bO rfl (fun hc26=>?_) (fun hc26=>?_)
   ·have hc26:=of_decide_eq_true hc26;refine sr<|sp hT ?_;refine nn<|bK<|bW<|bN<|bN<|bW<|bW<|bN<|bN<|bW<|bN ?_;exact bL () rfl (rv_tmp rfl) .nil trivial (of_bad hx2 (okM_bad hx5 (by omega)))
   have hc26:=Int.not_lt.1 (of_decide_eq_false hc26);refine bM<|bU<|bE<|bD<|sp hT ?_;refine bT (z':=(((j+1):Nat):Int)) (cO (by omega) (by omega)) ?_;refine sp hT ?_;refine nn ?_;exact cG (j+1) (by omega) ⟨rfl,trivial⟩ ⟨rfl,rfl,rfl,rfl,rfl,rfl,rfl,trivial⟩ (.cons .head .nil) ⟨Has.pure (⟨by omega,yK hinv5.2 hx5 (beq_iff_eq.2 (le_zero ‹_› (ei_ge hx5)))⟩),trivial⟩ (bH.drop 1)
  have hc22:=Int.not_lt.1 (of_decide_eq_false hc22);refine cS<|bZ<|bZ<|cR<|bU<|bE<|bD<|sp hT ?_;refine bT (z':=(((i+1):Nat):Int)) (cO (by omega) (by omega)) ?_;refine sp hT ?_;refine nn ?_;exact cG (i+1) (by omega) ⟨rfl,trivial⟩ ⟨rfl,rfl,rfl,rfl,trivial⟩ .nil ⟨Has.pure (⟨by omega,yK hinv2.2 hx2 (okM_end hinv5.2 (by rw [ei_len];omega))⟩),trivial⟩ (bH.drop 2)
 have hc12:=Int.not_lt.1 (of_decide_eq_false hc12);refine cS<|bZ<|bZ<|cR<|bE<|sr<|sp hT ?_;refine cU Tryz.func61 (polR_spec p hp) rfl rfl .nil ⟨(Has.of mT2),trivial⟩ fun _=>?_;refine sp hT ?_;refine nn<|bK ?_;exact bL () rfl (rv_tmp rfl) .nil trivial (of_end (bEf hinv2.2 (by omega)))
set_option maxRecDepth 100000 in
theorem bGt(l:Sl PolV)(vars:Int):cX Tryz.prog 52 [.slice l.addr l.list.length l.cap,.int .i64 vars] [] [mX l] (fun(_:Unit)=> .bool (lN (polsL l.list) vars)) (fun _=>[]) (fun _=>[]):=by
 have hT:=dW;refine cD Tryz.func52 rfl Tryz.ntmps52 rfl ?_;intro β hM;refine bF<|bX (tQ (Has.of mT0)) fun hlz=>?_;have hlz2:=hlz.2;refine cC (jT.sl (.slice l.addr l.list.length l.cap) l.list) (tM (Has.of mT0)) ?_;refine bD<|sp hT ?_;refine nn<|bF<|sr<|sp3 hT ?_;refine nn<|bQ<|dH (ι:=Nat) [(0,_),(1,_),(7,_),(8,_)] ⟨rfl,rfl,rfl,rfl,trivial⟩ (fun i=>[(9,.int .i64 (i:Nat))]) (fun _=>[]) (fun i=>[bI.pure (i≤l.list.length∧((polsL l.list).take i).all (fun p=>ofB p vars&&mF p)=true)]) (fun i=>l.list.length-i) 0 ⟨rfl,trivial⟩ .nil ⟨Has.pure (⟨by omega,rfl⟩),trivial⟩ ?_;rintro i;refine bX (Has.of mT0) fun hinv2=>?_;refine sr<|sp hT ?_;refine nn<|bF<|bO rfl (fun hc10=>?_) (fun hc10=>?_)
 ·have hc10:=of_decide_eq_true hc10;refine bM<|bE<|bF<|bQ<|sr ?_
  obtain⟨x1,hx2⟩: ∃x',l.list[i]?=some x':=⟨_,List.getElem?_eq_getElem (by omega)⟩
  refine ss (bG hT (k:=i) (bC (Has.of mT1)) rfl rfl rfl rfl rfl rfl rfl (by omega)) ?_;refine ss (bR hT (bV.knows (bC (Has.of mT1)) (k:=i) (x:=x1) hx2 0) rfl rfl rfl rfl rfl) ?_;refine sp hT ?_;refine nn<|bF<|cC (fG x1) (Has.each (tH (Has.of mT2)) (List.mem_of_getElem? hx2)) ?_;refine bX (fQ (Has.of mT0)) fun hpx1=>?_;refine bD<|sp2 hT ?_;refine cU Tryz.func107 (of_spec x1 vars) rfl rfl .nil ⟨(Has.of mT0),trivial⟩ fun _=>?_;refine sp2 hT ?_;refine cA (fun hg17=>?_) (fun hg17=>?_)
  ·have hg17:=kG hg17;refine sk3 ?_;refine sp hT ?_;refine nn<|cW rfl rfl ?_;refine sr<|sp hT ?_;refine nn<|bK<|bW<|bN<|bN<|bW<|bN ?_;exact bL () rfl (rv_tmp rfl) .nil trivial (grow_bad (fW hx2) (by simp_all))
  have hg17:=kD hg17;refine sp hT ?_;refine cU Tryz.func108 (bEq x1 hpx1) rfl rfl .nil ⟨(Has.of mT0),trivial⟩ fun _=>?_;refine sp2 hT ?_;refine nn<|bO rfl (fun hc21=>?_) (fun hc21=>?_)
  ·have hc21:=kG hc21;refine sr<|sp hT ?_;refine nn<|bK<|bW<|bN<|bN<|bW<|bN ?_;exact bL () rfl (rv_tmp rfl) .nil trivial (grow_bad (fW hx2) (by simp_all))
  have hc21:=kD hc21;refine bM<|bU<|bE<|bD<|sp hT ?_;refine bT (z':=(((i+1):Nat):Int)) (cO (by omega) (by omega)) ?_;refine sp hT ?_;refine nn ?_;exact cG (i+1) (by omega) ⟨rfl,trivial⟩ ⟨rfl,rfl,rfl,rfl,trivial⟩ .nil ⟨Has.pure (⟨by omega,yK hinv2.2 (fW hx2) (by simp_all)⟩),trivial⟩ (bH.drop 2)
 have hc10:=Int.not_lt.1 (of_decide_eq_false hc10);refine cS<|bZ<|bZ<|cR<|bE<|sr<|sp4 hT ?_;refine nn<|bK ?_;exact bL () rfl (rv_tmp rfl) .nil trivial (grow_end (bEf hinv2.2 (by rw [dF];omega)))
end Go.Proofs.YtofjmphlpdhohaaGreatDoor
