/- Texts of one proof, one behind the other: FuH, FullK, FullL, FullM, PlU. -/
import Derived.Test.YtofjmphlpdhohaaGreatDoorM15
import Derived.Test.YtofjmphlpdhohaaGreatDoorM9
import Derived.Test.YtofjmphlpdhohaaGreatDoorM12
import Derived.Test.YtofjmphlpdhohaaGreatDoorM13
namespace Go.Proofs.YtofjmphlpdhohaaGreatDoor
open Go.RowKit
set_option maxRecDepth 100000 in
theorem cloneM_spec(l:PolV)(hl:l.list.length≤8796093022208):cX Tryz.prog 49 [.slice l.addr l.list.length l.cap] [] [dY.sl (.slice l.addr l.list.length l.cap) l.list] (fun(x:Option Addr×Nat)=> .slice x.1 l.list.length x.2) (fun _=>[]) (fun(x:Option Addr×Nat)=>[fG ⟨x.1,x.2,l.list⟩]):=by
 have hT:=fuseT_ok;refine cD Tryz.func49 rfl Tryz.ntmps49 rfl ?_;intro β hM;refine sr<|sp hT ?_;refine nn<|bF<|sr<|sp hT ?_;refine ss (sti_isnilS Tryz.underlying35 rfl rfl) ?_;refine nn<|bO rfl (fun hc4=>?_) (fun hc4=>?_)
 ·refine bF<|cC (bI.pure (l.addr.isNone=true→l.list=[])) (has_isnil (Has.of mT0)) ?_;refine bX (Has.of mT0) fun hnil=>?_;have hl0:=hnil ‹_›;refine gB (t:=45) dY ?_;refine bD<|sp hT ?_;refine nn<|bK<|bN ?_;obtain⟨la,lc,ll⟩:=l;obtain rfl:ll=[]:=hl0;refine bDy .head fun hc=>?_;refine jJ .head ?_;exact bL (_,_) rfl (rv_tmp rfl) .nil ⟨Has.and (Has.of mT0) (Has.pure (by dsimp only;first | omega | (simp;done))),trivial⟩ rfl
 refine bM<|bE<|sr<|at_none_mono rfl rfl rfl rfl fun b1=>?_;refine sp hT ?_;refine at_app_mono .head (bC (Has.of mT0)) rfl rfl rfl rfl rfl rfl rfl (by simp;omega) fun A2 c3=>?_;rw [List.nil_append];refine sp hT ?_;refine nn<|bK<|bDy .head fun hc=>?_;refine jJ .head ?_;exact bL (_,_) rfl (rv_tmp rfl) .nil ⟨Has.and (Has.of mT0) (Has.pure (by dsimp only;first | omega | (simp;done))),trivial⟩ rfl
theorem yU{vars:Int}{bufs:List kZ}: ∀{r:List dU} {made:List Bool},lH vars bufs r made=true→ ∀x∈r,∃m,nF vars m x=true
 | [],_,_,x,hx=>by cases hx
 | y::r,made,h,x,hx=>by
  rw [lH,Bool.and_eq_true,Bool.and_eq_true,Bool.and_eq_true] at h;obtain⟨_,h2,h3⟩:=h
  rcases List.mem_cons.1 hx with rfl | hx
  ·exact⟨made,h2⟩
  ·exact yU h3 x hx
section
variable {c : iF} {i b n m k : Nat} {x : gQ} {ub : jV} {wh w T : Bool} {A B : List (List Mono)} {p q : List Mono}
theorem right_ne(h:dE c.c=true)(hx:c.steps.list[i]?=some x)(e:x.how=2):x.loops.list.length≠0:=by
 obtain⟨_,_,h3,_⟩:=jX h;obtain⟨mk,h4⟩:=yU h3 x.c (List.mem_of_getElem? (gS hx));unfold nF at h4;simp only [Bool.and_eq_true] at h4;have h5:=h4.2.2.2.2.1;have h5:(if x.how=1 then x.fn==0 else if x.how=2∨x.how=3 then !x.c.loops.isEmpty&&kT x.fn true else false)=true:=h5;rw [if_neg (by omega),if_pos (.inl e),Bool.and_eq_true] at h5;intro e0;have:x.loops.list=[]:=List.eq_nil_of_length_eq_zero e0;have h6:(!(polsL x.loops.list).isEmpty)=true:=h5.1;rw [this] at h6;cases h6
theorem polsF_take{F:List bI}{xs:List PolV}(n:Nat)(h:Has F (xI xs)):Has F (xI (xs.take n)):=fun S w k p hp=>h S w k p (List.mem_of_mem_take hp)
theorem take_snoc'{α:Type}{l:List α}{i:Nat}{x:α}(hx:l[i]?=some x):l.take (i+1)=l.take i++[x]:=by
 rw [List.take_add_one,hx];rfl
theorem polsL_take(l:List PolV)(n:Nat):polsL (l.take n)=(polsL l).take n:=List.map_take
theorem wholeA(e:x.how=2):wholeS x.c ub.c.sides=(decide (x.at_.list.length=0)&&decide (polsL (x.loops.list.take (x.loops.list.length-1))=polsL ub.sides.list)):=by
 unfold wholeS;show(x.at_.list.isEmpty&&decide ((if x.how=2 then (polsL x.loops.list).dropLast else polsL x.loops.list)=polsL ub.sides.list))=_;rw [if_pos e,polsL_take,List.dropLast_eq_take,dF]
 congr 1
 cases x.at_.list<;>rfl
theorem wholeB(e:x.how≠2):wholeS x.c ub.c.sides=(decide (x.at_.list.length=0)&&decide (polsL x.loops.list=polsL ub.sides.list)):=by
 unfold wholeS;show(x.at_.list.isEmpty&&decide ((if x.how=2 then (polsL x.loops.list).dropLast else polsL x.loops.list)=polsL ub.sides.list))=_;rw [if_neg e]
 congr 1
 cases x.at_.list<;>rfl
end
def bAc (c:iF):List Bool:=if dE c.c=true then fullC c.c else []
theorem oD{c:fL}:(fullC c).length=c.bufs.length:=List.length_mapIdx
theorem at_makeInts{β:fB}{n:Nat}{Γ:Env}{H:List bJ}{F:List bI}{Q:Exit→Act→World→Prop}{ops:Array Oper}{rest:List Oper}{o:Oper}{d:Nat}{m:Nat}{x y:Operand}(hw:want ops Γ o=some true)(ho:o.op= .makeSlice 24 x y)(hd:o.dst=some d)(hn:Nat.blt d n=true)
  (hx:Γ.ev x=some (.int .i64 (m:Nat))) (hy:Γ.ev y=some (.int .i64 (m:Nat))) (hm:m≤1000000)
  (k: ∀b,At β n ((d,.slice (some ⟨b,0,none⟩) m m)::Γ) (gC.row (.slice (some ⟨b,0,none⟩) m m) 3 (List.replicate m (0:Int))::H) F (wpList Tryz.prog ops Q rest)):At β n Γ H F (wpList Tryz.prog ops Q (o::rest)):=by
 obtain⟨i,hi,hz,hs,hb⟩:=intInfo;refine bAl (E:=gC) hw ho hd hn hx hy Tryz.underlying24 hi hz hs (by rw [hb];omega) (by simp [maxLen];omega) ?_ (by simp) k
 have e: ∀m,gC.all (List.replicate m (0:Int))=List.replicate m (.int .i64 0):=fun m=>by
  induction m with
  | zero=>rfl
  | succ m ih=>rw [List.replicate_succ,List.replicate_succ,←ih];rfl
 rw [e];unfold madeCells;apply List.ext_getElem
 ·simp [gC]
 ·intro i h1 h2;simp [Value.cells,Nat.mod_one]
theorem fY{P:Program}{β:fB}{n:Nat}{Γ:Env}{H Hk:List bJ}{F F0:List bI}{Q:Exit→Act→World→Prop}{ops:Array Oper}{r:List (Bool×Nat)}{o:Oper}{l k d:Nat}(hk:ops[k]?=some o)(hw:want ops Γ o=some false)(hd:o.dst=some d)(hn:Nat.blt d n=true)
  (K:At β n ((d,undef)::Γ) H F (kH P ops (StF β Hk F0) Q l r)):At β n Γ H F (kH P ops (StF β Hk F0) Q l ((true,k)::r)):=fun a w S f s hF=>by
 refine⟨o,undef,hk,.inr ⟨f.want hw,rfl⟩,?_⟩;rw [hd];exact K _ _ S (f.put (by simpa [Nat.blt_eq] using hn) undef) s hF
section
variable {c : iF} {i b : Nat} {mn : List Int} {fl : List Bool} {x : gQ} {ub : jV} {z : Int} {V : Bool}
def bGs (c:fL)(i:Nat)(mn:List Int)(fl:List Bool):Prop:=mn.length=c.bufs.length∧fl.length=c.bufs.length∧ ∀b u,c.bufs[b]?=some u→mn[b]?=some ((uP (c.steps.take i) b:Nat):Int)∧fl[b]?=some (uY (c.steps.take i) b u)
theorem fullS_start{c:fL}:bGs c 0 (List.replicate c.bufs.length 0) (List.replicate c.bufs.length false):=by
 refine⟨List.length_replicate,List.length_replicate,fun b u hb=>?_⟩;have:=(List.getElem?_eq_some_iff.1 hb).1;rw [List.getElem?_replicate,List.getElem?_replicate,if_pos this,if_pos this];exact⟨rfl,rfl⟩
theorem zR(h:bGs c.c i mn fl)(hu:c.bufs.list[b]?=some ub)(hz:mn[b]?=some z):0≤z∧z≤i:=by
 have h1:=(h.2.2 b ub.c (dG hu)).1;rw [hz] at h1;injection h1 with h1
 have:uP (c.c.steps.take i) b≤i:=by
  unfold uP;exact Nat.le_trans (List.length_filter_le ..) (List.length_take_le ..)
 omega
theorem mS(h:bGs c.c i mn fl)(hx:c.steps.list[i]?=some x)(h0:0≤x.buf)(hu:c.bufs.list[x.buf.toNat]?=some ub)(hz:mn[x.buf.toNat]?=some z)(hV:V=(decide (z+1=1)&&wholeS x.c ub.c.sides)):bGs c.c (i+1) (mn.set x.buf.toNat (z+1)) (fl.set x.buf.toNat V):=by
 obtain⟨h1,h2,h3⟩:=h;refine⟨by rw [List.length_set];exact h1,by rw [List.length_set];exact h2,fun b u hb=>?_⟩;obtain⟨k1,k2⟩:=h3 b u hb;have hlt:=(List.getElem?_eq_some_iff.1 hb).1;rw [show c.c.steps.take (i+1)=c.c.steps.take i++[x.c] from take_snoc' (gS hx),cntMk_snoc]
 by_cases e:x.buf.toNat=b
 ·subst e;have hb':x.c.buf=((x.buf.toNat:Nat):Int):=by show x.buf=_;omega
  rw [hz] at k1;injection k1 with k1
  have hu':u=ub.c:=by
   have:=(dG hu).symm.trans hb;injection this with this
   exact this.symm
  rw [List.getElem?_set_self (by omega),List.getElem?_set_self (by omega),if_pos hb',fullAt_here hb',hV,k1,hu'];refine⟨by rw [Int.natCast_add];rfl,?_⟩
  have:decide (((uP (c.c.steps.take i) x.buf.toNat:Nat):Int)+1=1)=decide (uP (c.c.steps.take i) x.buf.toNat+1=1):=by
   rw [Bool.eq_iff_iff];simp only [decide_eq_true_eq];omega
  rw [this]
 ·have hb':x.c.buf≠(b:Int):=by show x.buf≠_;omega
  rw [List.getElem?_set_ne e,List.getElem?_set_ne e,if_neg hb',fullAt_other hb'];exact⟨k1,k2⟩
theorem fullS_end(h:bGs c.c i mn fl)(hi:c.steps.list.length≤i):fl=fullC c.c:=by
 obtain⟨h1,h2,h3⟩:=h;rw [List.take_of_length_le (show c.c.steps.length≤i by rw [show c.c.steps.length=c.steps.list.length from iJ _];exact hi)] at h3;apply List.ext_getElem?;intro b;unfold fullC;rw [List.getElem?_mapIdx]
 cases hb:c.c.bufs[b]? with
 | none=>rw [List.getElem?_eq_none (by rw [h2];exact List.getElem?_eq_none_iff.1 hb)];rfl
 | some u=>rw [(h3 b u hb).2];rfl
end
set_option maxRecDepth 100000 in
theorem bCs(c:iF)(hr:dE c.c=true):cX Tryz.prog 45 [.agg #[.int .i64 c.vars,.slice c.bufs.addr c.bufs.list.length c.bufs.cap,.slice c.steps.addr c.steps.list.length c.steps.cap,.slice c.outs.addr c.outs.list.length c.outs.cap]] [] [oT c] (fun(x:Option Addr×Nat)=> .slice x.1 c.bufs.list.length x.2) (fun(x:Option Addr×Nat)=>[iO.row (.slice x.1 c.bufs.list.length x.2) 4 (fullC c.c)]) (fun _=>[]):=by
 have hT:=dW;generalize hV:fullC c.c=V;obtain⟨hbz,hst,hou⟩:=rS hr;have hnb:c.c.bufs.length=c.bufs.list.length:=cT _;have hns:c.c.steps.length=c.steps.list.length:=iJ _;refine cD Tryz.func45 rfl Tryz.ntmps45 rfl ?_;intro β hM;refine bF<|cC (bAf.sl (.slice c.bufs.addr c.bufs.list.length c.bufs.cap) c.bufs.list) (oW (jR (Has.of mT0))) ?_;refine cC (zQ.sl (.slice c.steps.addr c.steps.list.length c.steps.cap) c.steps.list) (wN (qU (Has.of mT1))) ?_;refine bD<|iL rfl rfl rfl rfl rfl rfl fun b1=>?_;refine sp hT ?_;refine nn<|sr<|sp hT ?_;refine ss (ldO hT (fF .head)) ?_;refine sp hT ?_;refine at_makeInts (m:=c.bufs.list.length) rfl rfl rfl rfl rfl rfl (by omega) fun b2=>?_;refine sp hT ?_;refine nn<|sr<|sp hT ?_;refine ss (ldO hT (fF kT1)) ?_;refine sp hT ?_;refine wD (m:=c.bufs.list.length) rfl rfl rfl rfl rfl rfl (by omega) fun b3=>?_;refine sp hT ?_;refine nn<|bF<|sr<|sp hT ?_;refine ss (ldO hT (yQ kT2)) ?_;refine sp2 hT ?_;refine nn<|bQ<|dH (ι:=Nat×List Int×List Bool) [(1,_),(3,_),(4,_),(18,_),(19,_)] ⟨rfl,rfl,rfl,rfl,rfl,trivial⟩ (fun⟨i,mn,fl⟩=>[(20,.int .i64 (i:Nat))]) (fun⟨i,mn,fl⟩=>[gC.row (.slice (some ⟨b2,0,none⟩) c.bufs.list.length c.bufs.list.length) 3 mn,iO.row (.slice (some ⟨b3,0,none⟩) c.bufs.list.length c.bufs.list.length) 4 fl]) (fun⟨i,mn,fl⟩=>[bI.pure (i≤c.steps.list.length∧bGs c.c i mn fl)]) (fun⟨i,mn,fl⟩=>c.steps.list.length-i) (0,List.replicate c.bufs.list.length 0,List.replicate c.bufs.list.length false) ⟨rfl,trivial⟩ (.cons kT1 (.cons .head .nil)) ⟨Has.pure (⟨by omega,by rw [←hnb];exact fullS_start⟩),trivial⟩ ?_;rintro⟨i,mn,fl⟩;dsimp only;refine bX (Has.of mT0) fun hinv4=>?_;have hml:mn.length=c.bufs.list.length:=by rw [hinv4.2.1];exact hnb
 have hfl:fl.length=c.bufs.list.length:=by rw [hinv4.2.2.1];exact hnb
 refine sr<|sp hT ?_;refine nn<|bF<|bO rfl (fun hc21=>?_) (fun hc21=>?_)
 ·have hc21:=of_decide_eq_true hc21;refine bM<|bE<|bF<|bQ<|sr ?_
  obtain⟨x4,hx5⟩: ∃x',c.steps.list[i]?=some x':=⟨_,List.getElem?_eq_getElem (by omega)⟩
  refine ss (bG hT (k:=i) (bC (Has.of mT1)) rfl rfl rfl rfl rfl rfl rfl (by omega)) ?_;refine ss (cL hT (bV.knows (bC (Has.of mT1)) (k:=i) (x:=x4) hx5 0) rfl rfl rfl rfl rfl) ?_;refine fC rfl rfl rfl rfl qH rfl fun b6=>?_;refine sto hT .head ?_;refine nn<|bF<|cC (sC x4) (Has.each (bCw (qU (Has.of mT3))) (List.mem_of_getElem? hx5)) ?_;obtain⟨hb0,hb1,_⟩:=hst x4.c (List.mem_of_getElem? (gS hx5))
  replace hb0:0≤x4.buf:=hb0
  replace hb1:x4.buf<(c.c.bufs.length:Nat):=hb1
  obtain⟨ub7,hub8⟩: ∃x',c.bufs.list[x4.buf.toNat]?=some x':=⟨_,List.getElem?_eq_getElem (by omega)⟩
  refine cC (bufF ub7) (Has.each (tC (jR (Has.of mT4))) (List.mem_of_getElem? hub8)) ?_;refine cC (jT.sl (.slice ub7.sides.addr ub7.sides.list.length ub7.sides.cap) ub7.sides.list) (tM (Has.of mT0)) ?_;refine bX (tQ (Has.of mT1)) fun hz9=>?_;refine cC (xI ub7.sides.list) (tH (Has.of mT1)) ?_;refine cC (jT.sl (.slice x4.loops.addr x4.loops.list.length x4.loops.cap) x4.loops.list) (tM (bAv (Has.of mT3))) ?_;refine bX (tQ (bAv (Has.of mT4))) fun hz10=>?_;have hzl:=hz10.1;have hzm:=hz10.2;refine cC (dY.sl (.slice x4.at_.addr x4.at_.list.length x4.at_.cap) x4.at_.list) (mD (stepF_a (Has.of mT4))) ?_;refine cC (xI x4.loops.list) (tH (bAv (Has.of mT5))) ?_;refine bD<|sp hT ?_;refine ss (ldO hT (nY .head)) ?_;refine sp hT ?_;refine nn<|bF<|sr<|sp hT ?_;refine ss (ldO hT (dC .head)) ?_;refine sp hT ?_;refine nn<|bO rfl (fun hc28=>?_) (fun hc28=>?_)
  ·have hc28:=eq_of_beq hc28;refine bD<|sp4 hT ?_;refine bT (uJ (by omega) (by omega)) ?_;have hne0:=right_ne hr hx5 ‹_›;refine bT (z':=((x4.loops.list.length-1:Nat):Int)) (by omega) ?_;have hne:=right_ne hr hx5 ‹_›;refine ss (bIc hT (k:=(x4.loops.list.length-1)) rfl rfl rfl rfl rfl (by omega) (by omega)) ?_;refine cC (jT.sl (.slice x4.loops.addr (x4.loops.list.length-1) x4.loops.cap) (x4.loops.list.take (x4.loops.list.length-1))) (has_take (Has.of mT2) (by omega)) ?_;refine cC (xI (x4.loops.list.take (x4.loops.list.length-1))) (polsF_take _ (Has.of mT1)) ?_;refine sp hT ?_;refine nn<|bF ?_;have hTw:=wholeA (ub:=ub7) (x:=x4) ‹_›;refine bD<|sp2 hT ?_;refine ss (ldO hT (fF .head)) ?_
   obtain⟨x12,hx13⟩: ∃x',mn[x4.buf.toNat]?=some x':=⟨_,List.getElem?_eq_getElem (by first | omega | (simp only [List.length_set];omega))⟩
   refine ss (bG hT (k:=x4.buf.toNat) (cE kT1) rfl rfl rfl rfl rfl hml.symm (by omega) (by first | omega | (simp only [List.length_set];omega))) ?_;have hzb:=zR hinv4.2 hub8 hx13;refine ss (bR hT (bV.knows (cE kT1) (k:=x4.buf.toNat) (x:=x12) hx13 0) rfl rfl rfl rfl rfl) ?_;refine sp hT ?_;refine bT (uJ (by omega) (by omega)) ?_;refine ss (bG hT (k:=x4.buf.toNat) (cE kT1) rfl rfl rfl rfl rfl hml.symm (by omega) (by first | omega | (simp only [List.length_set];omega))) ?_;refine cK hT (k:=x4.buf.toNat) (fo:=0) (y':=(x12+1:Int)) kT1 rfl rfl rfl rfl rfl rfl rfl rfl rfl hx13 rfl ?_;refine nn<|sr<|sp2 hT ?_;refine ss (ldO hT (fF kT3)) ?_;refine sp hT ?_;refine ss (ldO hT (fF kT1)) ?_;refine ss (bG hT (k:=x4.buf.toNat) (bC (Has.of mT11)) rfl rfl rfl rfl rfl rfl (by omega) (by omega)) ?_;refine sp hT ?_;refine ss (bR hT (bV.knows (bC (Has.of mT11)) (k:=x4.buf.toNat) (x:=ub7) hub8 0) rfl rfl rfl rfl rfl) ?_;have es:=zU x4.loops.addr ub7.sides.addr x4.loops.cap ub7.sides.cap (x4.loops.list.take (x4.loops.list.length-1)) ub7.sides.list (by first | omega | (rw [List.length_take];omega));rw [show(x4.loops.list.take (x4.loops.list.length-1)).length=(x4.loops.list.length-1) by rw [List.length_take];omega] at es;refine cU Tryz.func98 es rfl rfl .nil ⟨(Has.of mT1),(Has.of mT0),(Has.of mT6),(Has.of mT5),trivial⟩ fun _=>?_;refine sp hT ?_;refine nn<|nS 19 _ _ [(true,0),(true,1),(true,2),(true,3),(true,4),(true,5),(true,6),(true,7),(true,8),(true,9),(true,10),(true,11),(true,12),(true,13),(true,14),(true,15),(true,16),(true,17),(false,18)] fH (by decide+kernel) (.cons .head (.cons .head (.cons kT1 .nil))) bH.self ?_;refine puL hT ?_;refine puL hT ?_;refine stL rfl (ldO hT (fF kT1)) ?_;refine puL hT ?_;refine puL hT ?_;refine stL rfl (ldO hT (fF kT1)) ?_;refine stL rfl (bG hT (k:=x4.buf.toNat) (cE .head) rfl rfl rfl rfl rfl (by simp only [List.length_set];omega) (by omega) (by first | omega | (simp only [List.length_set];omega))) ?_;refine stL rfl (bR hT (bV.knows (cE .head) (k:=x4.buf.toNat) (x:=(x12+1:Int)) (List.getElem?_set_self (by first | omega | (simp only [List.length_set];omega))) 0) rfl rfl rfl rfl rfl) ?_;refine puL hT ?_;refine puL hT ?_;refine cA (fun hg59=>?_) (fun hg59=>?_)
   ·have hg59:=eq_of_beq hg59;refine puL hT ?_;refine stL rfl (ldO hT (yQ kT1)) ?_;refine puL hT ?_;refine puL hT ?_;refine puL hT ?_;refine puL hT ?_;refine cA (fun hg65=>?_) (fun hg65=>?_)
    ·have hg65:=eq_of_beq hg65;refine puL hT ?_;refine puL hT ?_;refine jL (o:=_) rfl ?_
     obtain⟨x14,hx15⟩: ∃x',fl[x4.buf.toNat]?=some x':=⟨_,List.getElem?_eq_getElem (by first | omega | (simp only [List.length_set];omega))⟩
     refine ss (bG hT (k:=x4.buf.toNat) (cE kT2) rfl rfl rfl rfl rfl hfl.symm (by omega) (by first | omega | (simp only [List.length_set];omega))) ?_;refine jO (.cons .head (.cons .head (.cons kT1 .nil))) (bH.drop 0) ?_;refine iQ (o:=_) rfl ?_;refine cK hT (k:=x4.buf.toNat) (fo:=0) (y':=(decide (polsL (x4.loops.list.take (x4.loops.list.length-1))=polsL ub7.sides.list))) kT2 rfl rfl rfl rfl rfl rfl rfl rfl rfl hx15 rfl ?_;refine kJ<|bU<|bE<|bD<|sp hT ?_;refine bT (z':=(((i+1):Nat):Int)) (cO (by omega) (by omega)) ?_;refine sp hT ?_;refine nn ?_;exact cG (i+1,(mn.set x4.buf.toNat (x12+1:Int)),(fl.set x4.buf.toNat (decide (polsL (x4.loops.list.take (x4.loops.list.length-1))=polsL ub7.sides.list)))) (by dsimp only;omega) ⟨rfl,trivial⟩ ⟨rfl,rfl,rfl,rfl,rfl,trivial⟩ (.cons kT1 (.cons .head (.cons kT1 .nil))) ⟨Has.pure (⟨by dsimp only;omega,mS hinv4.2 hx5 hb0 hub8 hx13 (by rw [hTw,decide_eq_true (show x12+1=1 by omega),decide_eq_true (show x4.at_.list.length=0 by omega)];simp)⟩),trivial⟩ (bH.drop 10)
    have hg65:=beq_eq_false_iff_ne.1 hg65;refine fY rfl rfl rfl rfl ?_;refine puL hT ?_;refine jL (o:=_) rfl ?_
    obtain⟨x16,hx17⟩: ∃x',fl[x4.buf.toNat]?=some x':=⟨_,List.getElem?_eq_getElem (by first | omega | (simp only [List.length_set];omega))⟩
    refine ss (bG hT (k:=x4.buf.toNat) (cE kT2) rfl rfl rfl rfl rfl hfl.symm (by omega) (by first | omega | (simp only [List.length_set];omega))) ?_;refine jO (.cons .head (.cons .head (.cons kT1 .nil))) (bH.drop 0) ?_;refine iQ (o:=_) rfl ?_;refine cK hT (k:=x4.buf.toNat) (fo:=0) (y':=(false)) kT2 rfl rfl rfl rfl rfl rfl rfl rfl rfl hx17 rfl ?_;refine kJ<|bU<|bE<|bD<|sp hT ?_;refine bT (z':=(((i+1):Nat):Int)) (cO (by omega) (by omega)) ?_;refine sp hT ?_;refine nn ?_;exact cG (i+1,(mn.set x4.buf.toNat (x12+1:Int)),(fl.set x4.buf.toNat (false))) (by dsimp only;omega) ⟨rfl,trivial⟩ ⟨rfl,rfl,rfl,rfl,rfl,trivial⟩ (.cons kT1 (.cons .head (.cons kT1 .nil))) ⟨Has.pure (⟨by dsimp only;omega,mS hinv4.2 hx5 hb0 hub8 hx13 (by rw [hTw,decide_eq_false (show ¬x4.at_.list.length=0 by omega)];simp)⟩),trivial⟩ (bH.drop 10)
   have hg59:=beq_eq_false_iff_ne.1 hg59;refine fY rfl rfl rfl rfl ?_;refine fY rfl rfl rfl rfl ?_;refine fY rfl rfl rfl rfl ?_;refine fY rfl rfl rfl rfl ?_;refine puL hT ?_;refine puL hT ?_;refine fY rfl rfl rfl rfl ?_;refine puL hT ?_;refine jL (o:=_) rfl ?_
   obtain⟨x18,hx19⟩: ∃x',fl[x4.buf.toNat]?=some x':=⟨_,List.getElem?_eq_getElem (by first | omega | (simp only [List.length_set];omega))⟩
   refine ss (bG hT (k:=x4.buf.toNat) (cE kT2) rfl rfl rfl rfl rfl hfl.symm (by omega) (by first | omega | (simp only [List.length_set];omega))) ?_;refine jO (.cons .head (.cons .head (.cons kT1 .nil))) (bH.drop 0) ?_;refine iQ (o:=_) rfl ?_;refine cK hT (k:=x4.buf.toNat) (fo:=0) (y':=(false)) kT2 rfl rfl rfl rfl rfl rfl rfl rfl rfl hx19 rfl ?_;refine kJ<|bU<|bE<|bD<|sp hT ?_;refine bT (z':=(((i+1):Nat):Int)) (cO (by omega) (by omega)) ?_;refine sp hT ?_;refine nn ?_;exact cG (i+1,(mn.set x4.buf.toNat (x12+1:Int)),(fl.set x4.buf.toNat (false))) (by dsimp only;omega) ⟨rfl,trivial⟩ ⟨rfl,rfl,rfl,rfl,rfl,trivial⟩ (.cons kT1 (.cons .head (.cons kT1 .nil))) ⟨Has.pure (⟨by dsimp only;omega,mS hinv4.2 hx5 hb0 hub8 hx13 (by rw [decide_eq_false (show ¬x12+1=1 by omega)];rfl)⟩),trivial⟩ (bH.drop 10)
  have hc28:=beq_eq_false_iff_ne.1 hc28;refine bM<|bE<|bF ?_;have hTw:=wholeB (ub:=ub7) (x:=x4) ‹_›;refine bD<|sp2 hT ?_;refine ss (ldO hT (fF .head)) ?_
  obtain⟨x20,hx21⟩: ∃x',mn[x4.buf.toNat]?=some x':=⟨_,List.getElem?_eq_getElem (by first | omega | (simp only [List.length_set];omega))⟩
  refine ss (bG hT (k:=x4.buf.toNat) (cE kT1) rfl rfl rfl rfl rfl hml.symm (by omega) (by first | omega | (simp only [List.length_set];omega))) ?_;have hzb:=zR hinv4.2 hub8 hx21;refine ss (bR hT (bV.knows (cE kT1) (k:=x4.buf.toNat) (x:=x20) hx21 0) rfl rfl rfl rfl rfl) ?_;refine sp hT ?_;refine bT (uJ (by omega) (by omega)) ?_;refine ss (bG hT (k:=x4.buf.toNat) (cE kT1) rfl rfl rfl rfl rfl hml.symm (by omega) (by first | omega | (simp only [List.length_set];omega))) ?_;refine cK hT (k:=x4.buf.toNat) (fo:=0) (y':=(x20+1:Int)) kT1 rfl rfl rfl rfl rfl rfl rfl rfl rfl hx21 rfl ?_;refine nn<|sr<|sp2 hT ?_;refine ss (ldO hT (fF kT3)) ?_;refine sp hT ?_;refine ss (ldO hT (fF kT1)) ?_;refine ss (bG hT (k:=x4.buf.toNat) (bC (Has.of mT9)) rfl rfl rfl rfl rfl rfl (by omega) (by omega)) ?_;refine sp hT ?_;refine ss (bR hT (bV.knows (bC (Has.of mT9)) (k:=x4.buf.toNat) (x:=ub7) hub8 0) rfl rfl rfl rfl rfl) ?_;have es:=zU x4.loops.addr ub7.sides.addr x4.loops.cap ub7.sides.cap x4.loops.list ub7.sides.list (by first | omega | (rw [List.length_take];omega));refine cU Tryz.func98 es rfl rfl .nil ⟨(Has.of mT2),(Has.of mT0),(Has.of mT4),(Has.of mT3),trivial⟩ fun _=>?_;refine sp hT ?_;refine nn<|nS 19 _ _ [(true,0),(true,1),(true,2),(true,3),(true,4),(true,5),(true,6),(true,7),(true,8),(true,9),(true,10),(true,11),(true,12),(true,13),(true,14),(true,15),(true,16),(true,17),(false,18)] fH (by decide+kernel) (.cons .head (.cons .head (.cons kT1 .nil))) bH.self ?_;refine puL hT ?_;refine puL hT ?_;refine stL rfl (ldO hT (fF kT1)) ?_;refine puL hT ?_;refine puL hT ?_;refine stL rfl (ldO hT (fF kT1)) ?_;refine stL rfl (bG hT (k:=x4.buf.toNat) (cE .head) rfl rfl rfl rfl rfl (by simp only [List.length_set];omega) (by omega) (by first | omega | (simp only [List.length_set];omega))) ?_;refine stL rfl (bR hT (bV.knows (cE .head) (k:=x4.buf.toNat) (x:=(x20+1:Int)) (List.getElem?_set_self (by first | omega | (simp only [List.length_set];omega))) 0) rfl rfl rfl rfl rfl) ?_;refine puL hT ?_;refine puL hT ?_;refine cA (fun hg59=>?_) (fun hg59=>?_)
  ·have hg59:=eq_of_beq hg59;refine puL hT ?_;refine stL rfl (ldO hT (yQ kT1)) ?_;refine puL hT ?_;refine puL hT ?_;refine puL hT ?_;refine puL hT ?_;refine cA (fun hg65=>?_) (fun hg65=>?_)
   ·have hg65:=eq_of_beq hg65;refine puL hT ?_;refine puL hT ?_;refine jL (o:=_) rfl ?_
    obtain⟨x22,hx23⟩: ∃x',fl[x4.buf.toNat]?=some x':=⟨_,List.getElem?_eq_getElem (by first | omega | (simp only [List.length_set];omega))⟩
    refine ss (bG hT (k:=x4.buf.toNat) (cE kT2) rfl rfl rfl rfl rfl hfl.symm (by omega) (by first | omega | (simp only [List.length_set];omega))) ?_;refine jO (.cons .head (.cons .head (.cons kT1 .nil))) (bH.drop 0) ?_;refine iQ (o:=_) rfl ?_;refine cK hT (k:=x4.buf.toNat) (fo:=0) (y':=(decide (polsL x4.loops.list=polsL ub7.sides.list))) kT2 rfl rfl rfl rfl rfl rfl rfl rfl rfl hx23 rfl ?_;refine kJ<|bU<|bE<|bD<|sp hT ?_;refine bT (z':=(((i+1):Nat):Int)) (cO (by omega) (by omega)) ?_;refine sp hT ?_;refine nn ?_;exact cG (i+1,(mn.set x4.buf.toNat (x20+1:Int)),(fl.set x4.buf.toNat (decide (polsL x4.loops.list=polsL ub7.sides.list)))) (by dsimp only;omega) ⟨rfl,trivial⟩ ⟨rfl,rfl,rfl,rfl,rfl,trivial⟩ (.cons kT1 (.cons .head (.cons kT1 .nil))) ⟨Has.pure (⟨by dsimp only;omega,mS hinv4.2 hx5 hb0 hub8 hx21 (by rw [hTw,decide_eq_true (show x20+1=1 by omega),decide_eq_true (show x4.at_.list.length=0 by omega)];simp)⟩),trivial⟩ (bH.drop 8)
   have hg65:=beq_eq_false_iff_ne.1 hg65;refine fY rfl rfl rfl rfl ?_;refine puL hT ?_;refine jL (o:=_) rfl ?_
   obtain⟨x24,hx25⟩: ∃x',fl[x4.buf.toNat]?=some x':=⟨_,List.getElem?_eq_getElem (by first | omega | (simp only [List.length_set];omega))⟩
   refine ss (bG hT (k:=x4.buf.toNat) (cE kT2) rfl rfl rfl rfl rfl hfl.symm (by omega) (by first | omega | (simp only [List.length_set];omega))) ?_;refine jO (.cons .head (.cons .head (.cons kT1 .nil))) (bH.drop 0) ?_;refine iQ (o:=_) rfl ?_;refine cK hT (k:=x4.buf.toNat) (fo:=0) (y':=(false)) kT2 rfl rfl rfl rfl rfl rfl rfl rfl rfl hx25 rfl ?_;refine kJ<|bU<|bE<|bD<|sp hT ?_;refine bT (z':=(((i+1):Nat):Int)) (cO (by omega) (by omega)) ?_;refine sp hT ?_;refine nn ?_;exact cG (i+1,(mn.set x4.buf.toNat (x20+1:Int)),(fl.set x4.buf.toNat (false))) (by dsimp only;omega) ⟨rfl,trivial⟩ ⟨rfl,rfl,rfl,rfl,rfl,trivial⟩ (.cons kT1 (.cons .head (.cons kT1 .nil))) ⟨Has.pure (⟨by dsimp only;omega,mS hinv4.2 hx5 hb0 hub8 hx21 (by rw [hTw,decide_eq_false (show ¬x4.at_.list.length=0 by omega)];simp)⟩),trivial⟩ (bH.drop 8)
  have hg59:=beq_eq_false_iff_ne.1 hg59;refine fY rfl rfl rfl rfl ?_;refine fY rfl rfl rfl rfl ?_;refine fY rfl rfl rfl rfl ?_;refine fY rfl rfl rfl rfl ?_;refine puL hT ?_;refine puL hT ?_;refine fY rfl rfl rfl rfl ?_;refine puL hT ?_;refine jL (o:=_) rfl ?_
  obtain⟨x26,hx27⟩: ∃x',fl[x4.buf.toNat]?=some x':=⟨_,List.getElem?_eq_getElem (by first | omega | (simp only [List.length_set];omega))⟩
  refine ss (bG hT (k:=x4.buf.toNat) (cE kT2) rfl rfl rfl rfl rfl hfl.symm (by omega) (by first | omega | (simp only [List.length_set];omega))) ?_;refine jO (.cons .head (.cons .head (.cons kT1 .nil))) (bH.drop 0) ?_;refine iQ (o:=_) rfl ?_;refine cK hT (k:=x4.buf.toNat) (fo:=0) (y':=(false)) kT2 rfl rfl rfl rfl rfl rfl rfl rfl rfl hx27 rfl ?_;refine kJ<|bU<|bE<|bD<|sp hT ?_;refine bT (z':=(((i+1):Nat):Int)) (cO (by omega) (by omega)) ?_;refine sp hT ?_;refine nn ?_;exact cG (i+1,(mn.set x4.buf.toNat (x20+1:Int)),(fl.set x4.buf.toNat (false))) (by dsimp only;omega) ⟨rfl,trivial⟩ ⟨rfl,rfl,rfl,rfl,rfl,trivial⟩ (.cons kT1 (.cons .head (.cons kT1 .nil))) ⟨Has.pure (⟨by dsimp only;omega,mS hinv4.2 hx5 hb0 hub8 hx21 (by rw [decide_eq_false (show ¬x20+1=1 by omega)];rfl)⟩),trivial⟩ (bH.drop 8)
 have hc21:=Int.not_lt.1 (of_decide_eq_false hc21);refine cS<|bZ<|bZ<|cR<|bE<|sr<|sp2 hT ?_;refine nn<|bK ?_;have hfe:=fullS_end hinv4.2 (by omega);obtain rfl:fl=V:=hfe.trans hV;exact bL (_,_) rfl (rv_tmp rfl) (.cons kT1 .nil) trivial rfl
section
variable {c : fL} {r : Option (List (List Mono) × List Mono)} {n b i : Nat} {s s' : PlC} {u : kZ} {y : LifeC} {x : dU} {t : Bool}
def endC (o:Option PlC):Option (List (List Mono)×List Mono):=o.map fun s=>(s.ats,s.end_)
def bCu (c:fL)(o:Option PlC):Option (List (List Mono)×List Mono):=match o with
 | none=>none
 | some s=>endC (goC c (livesC c) (fullC c) c.steps 0 s)
theorem plan_begin(c:fL):rG c=bCu c (lJ c.bufs (livesC c) c.bufs.length 0 (qR c.bufs.length)):=by
 unfold rG bCu endC
 cases lJ c.bufs (livesC c) c.bufs.length 0 (qR c.bufs.length) with
 | none=>rfl
 | some s=>
  simp only;cases goC c (livesC c) (fullC c) c.steps 0 s<;>rfl
theorem rF{m:Nat}(h:r=bCu c (lJ c.bufs (livesC c) m b s))(hm:m=n+1)(hu:c.bufs[b]?=some u)(hy:(livesC c)[b]?=some y):
  (¬y.from_<0→r=bCu c (lJ c.bufs (livesC c) n (b+1) s))∧(y.from_<0→(∀s',layC u.sides b false s=some s'→r=bCu c (lJ c.bufs (livesC c) n (b+1) s'))∧(layC u.sides b false s=none→r=none)):=by
 subst hm;rw [lJ,hu,hy] at h;simp only at h;refine⟨fun h1=>by rw [h,if_neg h1],fun h1=>⟨fun s' hs=>by rw [h,if_pos h1,hs],fun hs=>by rw [h,if_pos h1,hs];rfl⟩⟩
theorem begin_end(h:r=bCu c (lJ c.bufs (livesC c) 0 b s)):r=endC (goC c (livesC c) (fullC c) c.steps 0 s):=h
theorem go_step{ls:List dU}(h:r=endC (goC c (livesC c) (fullC c) (ls.drop i) i s))(hx:ls[i]?=some x)(hu:c.bufs[x.buf.toNat]?=some u)(hy:(livesC c)[x.buf.toNat]?=some y)(ht:(fullC c)[x.buf.toNat]?=some t):
  (¬y.from_=(i:Int)→r=endC (goC c (livesC c) (fullC c) (ls.drop (i+1)) (i+1) s))∧(y.from_=(i:Int)→(∀s',layC u.sides x.buf.toNat t (relC i (livesC c) s)=some s'→r=endC (goC c (livesC c) (fullC c) (ls.drop (i+1)) (i+1) s'))∧(layC u.sides x.buf.toNat t (relC i (livesC c) s)=none→r=none)):=by
 obtain⟨hlt,e⟩:=List.getElem?_eq_some_iff.1 hx;rw [←List.getElem_cons_drop hlt,e,goC,hu,hy,ht] at h;simp only at h;refine⟨fun h1=>by rw [h,if_neg h1],fun h1=>⟨fun s' hs=>by rw [h,if_pos h1,hs],fun hs=>by rw [h,if_pos h1,hs];rfl⟩⟩
theorem go_end{ls:List dU}(h:r=endC (goC c (livesC c) (fullC c) (ls.drop i) i s))(hi:ls.length≤i):r=some (s.ats,s.end_):=by
 rw [h,List.drop_of_length_le hi,goC];rfl
end
def vF:PolV:=⟨none,0,[]⟩
theorem madePols(m:Nat):(madeCells (Value.slice none 0 0).cells (m*1)).toList=jT.all (List.replicate m vF):=by
 have e: ∀m,jT.all (List.replicate m vF)=List.replicate m (.slice none 0 0):=fun m=>by
  induction m with
  | zero=>rfl
  | succ m ih=>rw [List.replicate_succ,List.replicate_succ,←ih];rfl
 rw [e];unfold madeCells;apply List.ext_getElem
 ·simp
 ·intro i h1 h2;simp [Value.cells,Nat.mod_one]
section
variable {β : fB} {n : Nat} {Γ : Env} {H : List bJ} {F : List bI} {Q : Exit → Act → World → Prop} {ops : Array Oper} {rest : List Oper} {o : Oper} {d : Nat}
theorem at_makePols{m:Nat}{x y:Operand}(hw:want ops Γ o=some true)(ho:o.op= .makeSlice 36 x y)(hd:o.dst=some d)(hn:Nat.blt d n=true)
  (hx:Γ.ev x=some (.int .i64 (m:Nat))) (hy:Γ.ev y=some (.int .i64 (m:Nat))) (hm:m≤1000000)
  (k: ∀b,At β n ((d,.slice (some ⟨b,0,none⟩) m m)::Γ) (jT.row (.slice (some ⟨b,0,none⟩) m m) 35 (List.replicate m vF)::H) F (wpList Tryz.prog ops Q rest)):At β n Γ H F (wpList Tryz.prog ops Q (o::rest)):=by
 obtain⟨i,hi,hz,hs,hb⟩:=polsInfo;exact bAl (E:=jT) hw ho hd hn hx hy Tryz.underlying36 hi hz hs (by rw [hb];omega) (by simp [maxLen];omega) (madePols m) (by simp) k
end
theorem vV(d:Nat)(x y:dJ)(w:World):(Op.equalIn (d+2) 55 (.agg #[.int .i64 x.from_,.int .i64 x.to_]) (.agg #[.int .i64 y.from_,.int .i64 y.to_])).run Tryz.prog w= .ok (x.from_==y.from_&&x.to_==y.to_) w:=by
 have hS:Tryz.prog.underlying 55=some (.struct (Tryz.prog.fieldsOf 55)):=by kernel_rfl
 have hp:Tryz.prog.stoodInHeld 55=false:=by kernel_rfl
 have hF:(Tryz.prog.fieldsOf 55).toList=[⟨ "From",3,0,false, "", "",0⟩,⟨ "To",3,1,false, "", "",8⟩]:=by kernel_rfl
 have p0: ∀z:dJ,(part 3 #[.int .i64 z.from_,.int .i64 z.to_] 0).run Tryz.prog w= .ok (.int .i64 z.from_) w:=fun z=>by kernel_rfl
 have p1: ∀z:dJ,(part 3 #[.int .i64 z.from_,.int .i64 z.to_] 1).run Tryz.prog w= .ok (.int .i64 z.to_) w:=fun z=>by kernel_rfl
 rw [run_equalIn_agg w (d+1) 55 _ _ hS hp,hF];simp only [Op.eqFields,Sem.run_bind,Sem.run_ite,Sem.run_pure,p0,p1,Result.andThen_ok,run_equalIn_int w d 3 .i64 .i64 _ _ Tryz.underlying3]
 by_cases h1:x.from_=y.from_<;>by_cases h2:x.to_=y.to_<;>simp [h1,h2]
theorem bFn{β:fB}{n:Nat}{Γ:Env}{H:List bJ}{F:List bI}{o:Oper}{a b:Operand}{tt:TypeId}(x y:dJ)(ho:o.op= .binOp .neq 55 a b tt)(hx:Γ.ev a=some (.agg #[.int .i64 x.from_,.int .i64 x.to_]))(hy:Γ.ev b=some (.agg #[.int .i64 y.from_,.int .i64 y.to_])):Sti Tryz.prog β n Γ H F o (.bool (!(x.from_==y.from_&&x.to_==y.to_))):=fun c w S f s k=>by
 have hq:Tryz.prog.eqGuardType Tryz.prog.depth 55=false:=by kernel_rfl
 have hg:(eqGuard .neq 55 a b (.agg #[.int .i64 x.from_,.int .i64 x.to_]) (.agg #[.int .i64 y.from_,.int .i64 y.to_])).run Tryz.prog w= .ok () w:=by
  unfold eqGuard;have hp:(program:Sem Program).run Tryz.prog w= .ok Tryz.prog w:=rfl;simp [hp,hq]
 have hr:(binOp .neq 55 (.agg #[.int .i64 x.from_,.int .i64 x.to_]) (.agg #[.int .i64 y.from_,.int .i64 y.to_])).run Tryz.prog w= .ok (.bool (!(x.from_==y.from_&&x.to_==y.to_))) w:=by
  rw [run_neq_struct,vV 9998 x y w];rfl
 unfold execOp;simp only [ho,f.ev hx,f.ev hy];rw [Sem.run_bind,Sem.run_bind,hg,Result.andThen_ok,hr];rfl
theorem lay_len{sides:List (List Mono)}{b:Nat}{again:Bool}{s s':PlC}(h:layC sides b again s=some s'):s'.laid.length=s.laid.length:=by
 unfold layC at h;split at h
 ·cases h
 ·split at h
  ·cases h;simp
  ·split at h
   ·cases h;simp
   ·cases h
theorem rel_len(i:Int)(l:List LifeC)(s:PlC):(relC i l s).laid.length=s.laid.length:=tD i l s.laid
theorem lc_lv(l:List LifeC):lc (lv l)=l:=by
 unfold lc lv;rw [List.map_map];exact List.map_id' l
theorem bFr(pb mb:Nat)(st:PSt)(pool fs:List SpotV)(s:PlC)(M:Nat)(h:fX st pool s fs M)(LA:Option Addr)(lcap n:Nat)(ls:List LifeC)(hl:ls.length=n)(hM:M+3*n≤70000000)(hn:n=s.laid.length)(stp:Int):cX Tryz.prog 50 [.pointer (some ⟨pb,0,none⟩),.slice LA n lcap,.int .i64 stp] (plH pb mb st) [fG st.end_,bI.each pool jY,iP.sl (.slice LA n lcap) (lv ls)] (fun _:PSt×List SpotV×List SpotV=> .tuple #[]) (fun x=>plH pb mb x.1)
  (fun x=>[fG x.1.end_,bI.each x.2.1 jY,bI.pure (fX x.1 x.2.1 (relC stp ls s) x.2.2 (M+3*n))]):=by
 have hl2:(lv ls).length=n:=by rw [sW,hl]
 subst hl2;have:=release_spec pb mb st pool fs s M h LA lcap (lv ls) hM hn stp;rw [lc_lv] at this;exact this
set_option maxRecDepth 100000 in
theorem tB(bp bc bo:Nat)(c:iF)(OA:Option Addr)(oc N:Nat)(ats:List PolV)(hN:ats.length=N)(pb mb:Nat)(st:PSt)(pool fs:List SpotV)(s:PlC)(M:Nat)(h:fX st pool s fs M)(hM:M≤60000000)(b:Nat)(z:Int)(hz:z=(b:Nat))(u:jV)(hu:c.bufs.list[b]?=some u)(hb:b<s.laid.length)(hba:b<N)(ha:s.ats=ats.map (·.list))(again:Bool):cX Tryz.prog 47 [.int .i64 z,.bool again,.pointer (some ⟨bp,0,none⟩),.pointer (some ⟨bc,0,none⟩),.pointer (some ⟨bo,0,none⟩)] (.obj bp (.cells ([.pointer (some ⟨pb,0,none⟩)]:List Value).toArray 98):: .obj bc (.cells ([.int .i64 c.vars,.slice c.bufs.addr c.bufs.list.length c.bufs.cap,.slice c.steps.addr c.steps.list.length c.steps.cap,.slice c.outs.addr c.outs.list.length c.outs.cap]:List Value).toArray 26):: .obj bo (.cells ([.slice OA N oc,.slice none 0 0]:List Value).toArray 57)::jT.row (.slice OA N oc) 35 ats::plH pb mb st) [oT c,fG st.end_,bI.each pool jY] (fun(_:PSt×List SpotV×List SpotV×PolV)=> .int .i64 (if (layC (polsL u.sides.list) b again s).isSome then 0 else 140)) (fun(x:PSt×List SpotV×List SpotV×PolV)=>(.obj bp (.cells ([.pointer (some ⟨pb,0,none⟩)]:List Value).toArray 98):: .obj bc (.cells ([.int .i64 c.vars,.slice c.bufs.addr c.bufs.list.length c.bufs.cap,.slice c.steps.addr c.steps.list.length c.steps.cap,.slice c.outs.addr c.outs.list.length c.outs.cap]:List Value).toArray 26):: .obj bo (.cells ([.slice OA N oc,.slice none 0 0]:List Value).toArray 57)::jT.row (.slice OA N oc) 35 (ats.set b x.2.2.2)::plH pb mb x.1)) (fun(x:PSt×List SpotV×List SpotV×PolV)=>[fG x.1.end_,bI.each x.2.1 jY,fG x.2.2.2,bI.pure (∀s',layC (polsL u.sides.list) b again s=some s'→fX x.1 x.2.1 s' x.2.2.1 (M+2)∧s'.ats=(ats.set b x.2.2.2).map (·.list))]):=by
 have hT:=fD;subst hz;have hbl:=(List.getElem?_eq_some_iff.1 hu).1
 obtain⟨y0,hy0⟩: ∃y,ats[b]?=some y:=⟨_,List.getElem?_eq_getElem (by omega)⟩
 refine cD Tryz.func47 rfl Tryz.ntmps47 rfl ?_;intro β hM;refine bF<|cC (bAf.sl (.slice c.bufs.addr c.bufs.list.length c.bufs.cap) c.bufs.list) (oW (jR (Has.of mT0))) ?_;refine bD<|sp hT ?_;refine nn<|bF<|dX _ _ [(true,0),(true,1),(true,2),(true,3),(true,4),(true,5),(true,6),(true,7),(true,8),(false,9),(true,10),(true,11),(true,12),(true,13),(true,14)] fH (by decide+kernel) (.cons .head (.cons .head (.cons .head (.cons .head .nil)))) bH.self ?_;refine stM rfl (ldO hT (dC .head)) ?_;refine puM hT ?_;refine puM hT ?_;refine stM rfl (ldO hT (fF kT1)) ?_;refine puM hT ?_;refine stM rfl (bG hT (k:=b) (bC (Has.of mT0)) rfl rfl rfl rfl rfl rfl rfl (by omega)) ?_;refine puM hT ?_;refine stM rfl (bR hT (bV.knows (bC (Has.of mT0)) (k:=b) (x:=u) hu 0) rfl rfl rfl rfl rfl) ?_;refine puM hT ?_;refine dA (o:=_) rfl ?_;refine cC (mX u.sides) (Has.each (tC (jR (Has.of mT1))) (List.mem_of_getElem? hu)) ?_;refine dR (List.perm_append_comm (l₁:=[_,_,_,_])) ?_;refine cU Tryz.func48 (lay_spec pb mb st pool fs s M h (by omega) b hb u.sides again) rfl rfl (Split.front _ _) ⟨Has.of mT3,Has.of mT4,Has.of mT0,trivial⟩ fun y1=>?_;refine dR List.perm_append_comm ?_;refine bX (Has.of mT3) fun hla=>?_;refine dB (.cons .head (.cons .head (.cons .head (.cons .head .nil)))) (bH.drop 5) ?_;refine puM hT ?_;refine puM hT ?_;refine puM hT ?_;refine puM hT ?_;refine puM hT ?_;refine cJ<|bE<|bF<|dX _ _ [(true,0),(true,1),(true,2),(true,3),(false,4),(false,5),(false,6)] fH (by decide+kernel) (.cons .head (.cons .head (.cons .head (.cons kT1 (.cons kT1 (.cons kT1 (Sel.skip Sel.self))))))) bH.self ?_;refine puM hT ?_;refine stM rfl (ldO hT (dC kT2)) ?_;refine puM hT ?_;refine puM hT ?_;refine dA (o:=_) rfl ?_;refine bX (bEz (Has.of mT2)) fun hcl=>?_;refine cU Tryz.func49 (cloneM_spec y1.2.2.2 hcl) rfl rfl .nil ⟨mD (Has.of mT2),trivial⟩ fun y2=>?_;refine dB (.cons .head (.cons .head (.cons .head (.cons kT1 (.cons kT1 (.cons kT1 (Sel.skip Sel.self))))))) (bH.drop 1) ?_;refine dA (o:=_) rfl ?_;refine ss (bG hT (k:=b) (cE kT3) rfl rfl rfl rfl rfl hN.symm rfl (by omega)) ?_;refine dB (.cons .head (.cons .head (.cons .head (.cons kT1 (.cons kT1 (.cons kT1 (Sel.skip Sel.self))))))) (bH.drop 1) ?_;refine dA (o:=_) rfl ?_;refine cK hT (k:=b) (fo:=0) (y':=(⟨y2.1,y2.2,y1.2.2.2.list⟩:PolV)) kT3 rfl rfl rfl rfl rfl rfl rfl rfl rfl hy0 rfl ?_;refine dB (.cons kT1 (.cons kT1 (.cons kT1 (.cons kT1 (.cons kT1 (.cons kT1 (Sel.skip Sel.self))))))) (bH.drop 1) ?_;refine cJ<|bE<|sr<|sp2 hT ?_;refine nn<|bK ?_;exact bL (y1.1,y1.2.1,y1.2.2.1,(⟨y2.1,y2.2,y1.2.2.2.list⟩:PolV)) rfl (rv_tmp rfl) (.cons kT1 (.cons kT1 (.cons kT1 (.cons .head (.cons .head (.cons .head (.cons .head Sel.self))))))) ⟨Has.of mT1,Has.of mT2,Has.of mT0,Has.pure (fun s' hs'=>⟨(hla s' hs').1,by rw [(hla s' hs').2,ha,List.map_set]⟩),trivial⟩ (rfl)
end Go.Proofs.YtofjmphlpdhohaaGreatDoor
