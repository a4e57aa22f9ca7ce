/- Texts of one proof, one behind the other: PlV, KBase, KPut, KWhole, KTog, Alg, KPlus, KAdd, MakR, MkA. -/
import Derived.Test.YtofjmphlpdhohaaGreatDoorM16
import Derived.Test.YtofjmphlpdhohaaGreatDoorM12
import Derived.Test.YtofjmphlpdhohaaGreatDoorM1
import Derived.Test.YtofjmphlpdhohaaGreatDoorM6
import Derived.Test.YtofjmphlpdhohaaGreatDoorM10
import Derived.Test.YtofjmphlpdhohaaGreatDoorM13
import Derived.Test.YtofjmphlpdhohaaGreatDoorM15
import Derived.Test.YtofjmphlpdhohaaGreatDoorM8
namespace Go.Proofs.YtofjmphlpdhohaaGreatDoor
open Go.RowKit
def rH (c:fL):(List (List Mono)×List Mono)×Int:=if dE c=true then match rG c with
 | some r=>(r,0)
 | none=>(([],[]),140)
 else (([],[]),100)
section
variable {c : fL}
theorem planW_no(h:dE c=false):rH c=(([],[]),100):=by unfold rH;rw [if_neg (by simp [h])]
theorem zP(h:dE c=true)(hp:rG c=none):rH c=(([],[]),140):=by unfold rH;rw [if_pos h,hp]
theorem planW_ok{r:List (List Mono)×List Mono}(h:dE c=true)(hp:rG c=some r):rH c=(r,0):=by unfold rH;rw [if_pos h,hp]
end
abbrev st0:PSt:=⟨⟨none,0,[]⟩,none,0,[],0,[]⟩
theorem rel_start(n:Nat):fX st0 [] (qR n) [] 0 where
 end_:=rfl
 free:=rfl
 flat:=List.Perm.refl _
 rise:=List.Pairwise.nil
 top:=fun _ h=>by cases h
 apart:=fun i _ r _ h=>by simp at h
 ok:=fun k r h=>by simp at h
 keys:=List.nodup_nil
 laid:=fun b=>by
  show none=((List.replicate n (none:Option SpC))[b]?).bind id;rw [List.getElem?_replicate];split<;>rfl
 poolR:=fun _ h=>by cases h
 poolL:=fun _ h=>by cases h
 low:=Int.le_refl _
 high:=Int.le_refl _
 many:=Nat.le_refl _
 len:=Nat.le_refl _
theorem vA{l:List LifeC}{k:Nat}{x:dJ}(h:(lv l)[k]?=some x):l[k]?=some x.c:=by
 have h1:=lc_at h;rw [lc_lv] at h1;exact h1
theorem life_none0{x:dJ}(h:(!(x.from_==0&&x.to_== -1))=false): ¬x.c.from_<0:=by
 show ¬x.from_<0
 simp at h;omega
theorem bFo(mb:Nat):Tryz.prog.built 102 [(3,.map (some mb))]=some #[.slice none 0 0,.slice none 0 0,.int .i64 0,.map (some mb)]:=by kernel_rfl
theorem zero_pp:(Tryz.prog.info? 98).bind (·.zero)=some (.pointer none):=by kernel_rfl
theorem each_repl(n:Nat){F:List bI}:Has F (bI.each (List.replicate n vF) fG):=fun S w k x hx=>by
 have:=List.eq_of_mem_replicate hx;subst this;exact polF_nil S w k
theorem pols_len{A:Option Addr}{n c:Nat}{l:List PolV}{F:List bI}(h:Has F (jT.sl (.slice A n c) l))(hl:l.length=n):Has F (jT.sl (.slice A l.length c) l):=by rw [hl];exact h
theorem yD{F:List bI}:Has F (jT.sl (.slice none 0 0) []):=fun _ _ _=>⟨none,0,rfl,fun k x h=>by simp at h⟩
theorem lL:(Tryz.prog.info? 57).bind (·.zero)=some (.agg #[.slice none 0 0,.slice none 0 0]):=by kernel_rfl
theorem hZ:Tryz.prog.built 57 []=some #[.slice none 0 0,.slice none 0 0]:=by kernel_rfl
theorem oK(a0:Option Addr)(l0 c0:Nat):Tryz.prog.built 57 [(0,.slice a0 l0 c0)]=some #[.slice a0 l0 c0,.slice none 0 0]:=by kernel_rfl
set_option maxRecDepth 100000 in
theorem PlanF_spec(c:iF):cX Tryz.prog 22 [.agg #[.int .i64 c.vars,.slice c.bufs.addr c.bufs.list.length c.bufs.cap,.slice c.steps.addr c.steps.list.length c.steps.cap,.slice c.outs.addr c.outs.list.length c.outs.cap]] [] [oT c,bI.cells 0 0 [.int .i64 0,.int .i64 (-1)]] (fun(x:LayV)=> .tuple #[.agg #[.slice x.at_.addr x.at_.list.length x.at_.cap,.slice x.size.addr x.size.list.length x.size.cap],.int .i64 (rH c.c).2]) (fun _=>[]) (fun(x:LayV)=>[jT.sl (.slice x.at_.addr x.at_.list.length x.at_.cap) x.at_.list,bI.each x.at_.list fG,fG x.size,bI.pure ((polsL x.at_.list,x.size.list)=(rH c.c).1)]):=by
 have hT:=fD;generalize hR:rG c.c=R;refine cD Tryz.func22 rfl Tryz.ntmps22 rfl ?_;intro β hM;refine sr<|iL rfl rfl rfl rfl rfl rfl fun b1=>?_;refine fC rfl rfl rfl rfl lL rfl fun b2=>?_;refine sp hT ?_;refine nn<|bF<|sr<|ss (ldN hT (dC kT1)) ?_;refine cU Tryz.func25 (qT c) rfl rfl .nil ⟨(Has.of mT0),trivial⟩ fun _=>?_;refine sp hT ?_;refine nn<|bO rfl (fun hc16=>?_) (fun hc16=>?_)
 ·have hc16:=kG hc16;refine sr<|ss (iV rfl rfl (hZ)) ?_;refine sto hT .head ?_;refine sp hT ?_;refine nn<|bK<|bN ?_;have hW:=planW_no (c:=c.c) (by simpa using hc16);exact dO (⟨⟨none,0,[]⟩,⟨none,0,[]⟩⟩:LayV) rfl (tN hT (dC .head) rfl rfl rfl rfl) (rv_tmp rfl) .nil ⟨yD,Has.each_nil,polF_nil,Has.pure (by rw [hW];rfl),trivial⟩ (by rw [hW];rfl)
 have hc16:=kD hc16;refine bM<|bE<|bF ?_;have hr:dE c.c=true:=by simpa using hc16
 obtain⟨hbz,hst,hou⟩:=rS hr;have hnb:c.c.bufs.length=c.bufs.list.length:=cT _;have hns:c.c.steps.length=c.steps.list.length:=iJ _;refine cC (bAf.sl (.slice c.bufs.addr c.bufs.list.length c.bufs.cap) c.bufs.list) (oW (jR (Has.of mT0))) ?_;refine dX _ _ [(true,0),(true,2),(false,1),(false,3),(true,4),(true,5)] fH (by decide+kernel) (.cons .head (.cons .head .nil)) bH.self ?_;refine stM rfl (ldN hT (dC kT1)) ?_;refine stM rfl (ldN hT (dC kT1)) ?_;refine dA (o:=_) rfl ?_;refine cU Tryz.func43 (bEp c hr) rfl rfl .nil ⟨(Has.of mT1),(Has.of mT2),trivial⟩ fun⟨LA,lcp⟩=>?_;refine jJ (E:=iP) .head ?_;refine dB (.cons .head (.cons .head .nil)) (bH.drop 1) ?_;refine dA (o:=_) rfl ?_;refine cU Tryz.func45 (bCs c hr) rfl rfl .nil ⟨(Has.of mT2),trivial⟩ fun⟨FA,fcp⟩=>?_;refine jJ (E:=iO) .head ?_;refine dB (.cons .head (.cons .head .nil)) (bH.drop 2) ?_;refine puM hT ?_;refine puM hT ?_;refine cJ<|bE<|sr<|at_makeMap .i64 rfl rfl rfl rfl fun mb=>?_;refine ss (iV rfl rfl (bFo mb)) ?_;refine iL rfl rfl rfl rfl rfl rfl fun b3=>?_;refine gB (t:=252) nE ?_;refine fC rfl rfl rfl rfl zero_pp rfl fun b4=>?_;refine sto hT .head ?_;refine nn<|sr<|sp hT ?_;refine ss (ldO hT (fF kT5)) ?_;refine sp hT ?_;refine at_makePols (m:=c.bufs.list.length) rfl rfl rfl rfl rfl rfl (by omega) fun b5=>?_;refine ss (iV rfl rfl (oK _ _ _)) ?_;refine fC rfl rfl rfl rfl lL rfl fun b6=>?_;refine sto hT .head ?_;refine nn<|sr<|sp2 hT ?_;refine nn<|bF<|bF<|cC (fG st0.end_) (polF_nil) ?_;refine cC (bI.each ([]:List SpotV) jY) (Has.each_nil) ?_;refine cC (bI.each (List.replicate c.bufs.list.length vF) fG) (each_repl _) ?_;refine bD<|sp hT ?_;refine ss (ldO hT (fF kT7)) ?_;refine sp2 hT ?_;refine nn<|bQ<|mJ (.cons kT6 (.cons kT2 (.cons kT5 (.cons .head (.cons .head (.cons kT1 (.cons .head (.cons .head Sel.self)))))))) ?_;refine bEb (ι:=PSt×List SpotV×List SpotV×List PolV×PlC×Nat) [(1,_),(2,_),(4,_),(5,_),(6,_),(7,_),(8,_),(33,_)] ⟨rfl,rfl,rfl,rfl,rfl,rfl,rfl,rfl,trivial⟩ (fun⟨st,pool,fs,ats,s,b⟩=>[(34,.int .i64 (b:Nat))]) (fun⟨st,pool,fs,ats,s,b⟩=>(.obj b2 (.cells ([.slice none 0 0,.slice none 0 0]:List Value).toArray 57):: .obj b4 (.cells ([.pointer (some ⟨b3,0,none⟩)]:List Value).toArray 98):: .obj b1 (.cells ([.int .i64 c.vars,.slice c.bufs.addr c.bufs.list.length c.bufs.cap,.slice c.steps.addr c.steps.list.length c.steps.cap,.slice c.outs.addr c.outs.list.length c.outs.cap]:List Value).toArray 26):: .obj b6 (.cells ([.slice (some ⟨b5,0,none⟩) c.bufs.list.length c.bufs.list.length,.slice none 0 0]:List Value).toArray 57)::jT.row (.slice (some ⟨b5,0,none⟩) c.bufs.list.length c.bufs.list.length) 35 ats::plH b3 mb st)) (fun⟨st,pool,fs,ats,s,b⟩=>[bI.pure (b≤c.bufs.list.length∧fX st pool s fs (2*b)∧s.ats=ats.map (·.list)∧ats.length=c.bufs.list.length∧s.laid.length=c.bufs.list.length∧R=bCu c.c (lJ c.c.bufs (livesC c.c) (c.bufs.list.length-b) b s)),fG st.end_,bI.each pool jY,bI.each ats fG]) (fun⟨st,pool,fs,ats,s,b⟩=>c.bufs.list.length-b) (st0,[],[],List.replicate c.bufs.list.length vF,qR c.bufs.list.length,0) ⟨rfl,trivial⟩ (List.Perm.refl _) ⟨Has.pure (⟨by omega,rel_start _,by simp [qR,vF],List.length_replicate,by simp [qR],by rw [←hR,plan_begin,hnb];rfl⟩),Has.of mT2,Has.of mT1,Has.of mT0,trivial⟩ ?_;rintro⟨st,pool,fs,ats,s,b⟩;dsimp only;refine bX (Has.of mT0) fun hinv8=>?_;have h:=hinv8.2.1;have ha:=hinv8.2.2.1;have hal:=hinv8.2.2.2.1;have hsl:=hinv8.2.2.2.2.1;refine sr<|sp hT ?_;refine nn<|bF<|bO rfl (fun hc35=>?_) (fun hc35=>?_)
 ·have hc35:=of_decide_eq_true hc35;refine bM<|bE<|bF<|bQ<|sr<|sp2 hT ?_;refine nn<|bF ?_;have hmn:c.bufs.list.length-b=(c.bufs.list.length-(b+1))+1:=by omega
  obtain⟨u,hu⟩: ∃u,c.bufs.list[b]?=some u:=⟨_,List.getElem?_eq_getElem (by omega)⟩
  obtain⟨y,hy⟩: ∃y,(lv (livesC c.c))[b]?=some y:=⟨_,List.getElem?_eq_getElem (by rw [sW,jC,hnb];omega)⟩
  refine dX _ _ [(true,0),(true,1),(true,2),(true,3),(true,4),(true,5),(true,6),(true,7),(true,8),(true,9),(true,10),(true,11),(true,12),(true,13)] fH (by decide+kernel) (.cons .head (.cons .head (.cons .head (.cons .head (.cons .head (.cons .head (.cons .head (.cons .head Sel.self)))))))) bH.self ?_;refine puM hT ?_;refine puM hT ?_;refine stM rfl (bG hT (k:=b) (bC (Has.of mT8)) rfl rfl rfl rfl rfl (by rw [sW,jC,hnb]) rfl ((List.getElem?_eq_some_iff.1 hy).1)) ?_;refine stM rfl (cL hT (bV.knows (bC (Has.of mT8)) (k:=b) (x:=y) hy 0) rfl rfl rfl rfl rfl) ?_;refine stM rfl (cL hT (fE (off:=0) (Has.of mT11)) rfl rfl rfl rfl rfl) ?_;refine stM rfl (bFn y ⟨0,-1⟩ rfl rfl rfl) ?_;refine puM hT ?_;refine cA (fun hg43=>?_) (fun hg43=>?_)
  ·refine puM hT ?_;refine puM hT ?_;refine stM rfl (bG hT (k:=b) (bC (Has.of mT8)) rfl rfl rfl rfl rfl (by rw [sW,jC,hnb]) rfl ((List.getElem?_eq_some_iff.1 hy).1)) ?_;refine puM hT ?_;refine stM rfl (bR hT (bV.knows (bC (Has.of mT8)) (k:=b) (x:=y) hy 0) rfl rfl rfl rfl rfl) ?_;refine puM hT ?_;refine puM hT ?_;refine cJ<|bE<|bO rfl (fun hc50=>?_) (fun hc50=>?_)
   ·have hc50:=of_decide_eq_true hc50;refine bF ?_
    rcases hly:layC (polsL u.sides.list) b false s with _ | s'
    ·refine bD<|sp2 hT ?_;refine dR (List.perm_append_comm (l₁:=[_])) ?_;refine mA (bP Tryz.func47 rfl rfl) (tB b4 b1 b6 c (some ⟨b5,0,none⟩) c.bufs.list.length c.bufs.list.length ats hal b3 mb st pool fs s (2*b) h (by omega) b (b:Nat) rfl u hu (by omega) (by omega) ha false) rfl rfl rfl rfl rfl rfl rfl (Split.front _ _) ⟨Has.of mT10,Has.of mT1,Has.of mT2,trivial⟩ fun y7=>?_;refine dR List.perm_append_comm ?_;refine bX (Has.of mT3) fun hpu=>?_;refine bT (z':=140) (by rw [hly];rfl) ?_;refine sp hT ?_;refine nn<|sr<|sp2 hT ?_;refine dS (t':=true) (by decide) ?_;refine nn<|cW rfl rfl ?_;refine sr<|ss (iV rfl rfl (hZ)) ?_;refine sp hT ?_;refine sto hT .head ?_;refine sp hT ?_;refine nn<|bK<|bW<|bN<|bN<|bW<|bN ?_;have hW:=zP hr (hR.trans (((rF hinv8.2.2.2.2.2 hmn (dG hu) (vA hy)).2 ‹_›).2 hly));exact dO (⟨⟨none,0,[]⟩,⟨none,0,[]⟩⟩:LayV) rfl (tN hT (dC .head) rfl rfl rfl rfl) (rv_tmp rfl) .nil ⟨yD,Has.each_nil,polF_nil,Has.pure (by rw [hW];rfl),trivial⟩ (by rw [hW];rfl)
    refine bD<|sp2 hT ?_;refine dR (List.perm_append_comm (l₁:=[_])) ?_;refine mA (bP Tryz.func47 rfl rfl) (tB b4 b1 b6 c (some ⟨b5,0,none⟩) c.bufs.list.length c.bufs.list.length ats hal b3 mb st pool fs s (2*b) h (by omega) b (b:Nat) rfl u hu (by omega) (by omega) ha false) rfl rfl rfl rfl rfl rfl rfl (Split.front _ _) ⟨Has.of mT10,Has.of mT1,Has.of mT2,trivial⟩ fun y8=>?_;refine dR List.perm_append_comm ?_;refine bX (Has.of mT3) fun hpu=>?_;refine bT (z':=0) (by rw [hly];rfl) ?_;refine cC (bI.each (ats.set b y8.2.2.2) fG) (each_set (Has.of mT7) (Has.of mT2)) ?_;refine sp hT ?_;refine nn<|sr<|sp2 hT ?_;refine dS (t':=false) (by decide) ?_;refine nn<|fM rfl rfl ?_;refine bM<|bU<|bE<|bD<|sp hT ?_;refine bT (z':=(((b+1):Nat):Int)) (cO (by omega) (by omega)) ?_;refine sp hT ?_;refine nn ?_;exact lX (y8.1,y8.2.1,y8.2.2.1,ats.set b y8.2.2.2,s',b+1) (by dsimp only;omega) ⟨rfl,trivial⟩ ⟨rfl,rfl,rfl,rfl,rfl,rfl,rfl,rfl,trivial⟩ (List.Perm.refl _) ⟨Has.pure (⟨by dsimp only;omega,(hpu s' hly).1.more (by dsimp only;omega),(hpu s' hly).2,by rw [List.length_set];exact hal,by rw [lay_len hly];exact hsl,((rF hinv8.2.2.2.2.2 hmn (dG hu) (vA hy)).2 ‹_›).1 s' hly⟩),Has.of mT1,Has.of mT2,Has.of mT0,trivial⟩ (bH.drop 9)
   have hc50:=Int.not_lt.1 (of_decide_eq_false hc50);refine bM<|bU<|bE<|bD<|sp hT ?_;refine bT (z':=(((b+1):Nat):Int)) (cO (by omega) (by omega)) ?_;refine sp hT ?_;refine nn ?_;exact lX (st,pool,fs,ats,s,b+1) (by dsimp only;omega) ⟨rfl,trivial⟩ ⟨rfl,rfl,rfl,rfl,rfl,rfl,rfl,rfl,trivial⟩ (List.Perm.refl _) ⟨Has.pure (⟨by dsimp only;omega,h.more (by dsimp only;omega),ha,hal,hsl,(rF hinv8.2.2.2.2.2 hmn (dG hu) (vA hy)).1 (by show ¬dJ.from_ _<0;omega)⟩),Has.of mT1,Has.of mT2,Has.of mT3,trivial⟩ (bH.drop 4)
  refine bA rfl rfl rfl rfl ?_;refine bA rfl rfl rfl rfl ?_;refine bA rfl rfl rfl rfl ?_;refine bA rfl rfl rfl rfl ?_;refine bA rfl rfl rfl rfl ?_;refine bA rfl rfl rfl rfl ?_;refine puM hT ?_;refine cJ<|bE<|fM rfl rfl ?_;refine bM<|bU<|bE<|bD<|sp hT ?_;refine bT (z':=(((b+1):Nat):Int)) (cO (by omega) (by omega)) ?_;refine sp hT ?_;refine nn ?_;exact lX (st,pool,fs,ats,s,b+1) (by dsimp only;omega) ⟨rfl,trivial⟩ ⟨rfl,rfl,rfl,rfl,rfl,rfl,rfl,rfl,trivial⟩ (List.Perm.refl _) ⟨Has.pure (⟨by dsimp only;omega,h.more (by dsimp only;omega),ha,hal,hsl,(rF hinv8.2.2.2.2.2 hmn (dG hu) (vA hy)).1 (life_none0 hg43)⟩),Has.of mT1,Has.of mT2,Has.of mT3,trivial⟩ (bH.drop 4)
 have hc35:=Int.not_lt.1 (of_decide_eq_false hc35);refine cS<|bZ<|bZ<|cR<|bE<|bF<|sr<|sp hT ?_;refine ss (ldO hT (yQ kT2)) ?_;refine sp2 hT ?_;refine nn<|bQ<|bEb (ι:=PSt×List SpotV×List SpotV×List PolV×PlC×Nat) [(2,_),(4,_),(5,_),(6,_),(7,_),(8,_),(60,_),(61,_)] ⟨rfl,rfl,rfl,rfl,rfl,rfl,rfl,rfl,trivial⟩ (fun⟨st,pool,fs,ats,s,i⟩=>[(62,.int .i64 (i:Nat))]) (fun⟨st,pool,fs,ats,s,i⟩=>(.obj b2 (.cells ([.slice none 0 0,.slice none 0 0]:List Value).toArray 57):: .obj b4 (.cells ([.pointer (some ⟨b3,0,none⟩)]:List Value).toArray 98):: .obj b1 (.cells ([.int .i64 c.vars,.slice c.bufs.addr c.bufs.list.length c.bufs.cap,.slice c.steps.addr c.steps.list.length c.steps.cap,.slice c.outs.addr c.outs.list.length c.outs.cap]:List Value).toArray 26):: .obj b6 (.cells ([.slice (some ⟨b5,0,none⟩) c.bufs.list.length c.bufs.list.length,.slice none 0 0]:List Value).toArray 57)::jT.row (.slice (some ⟨b5,0,none⟩) c.bufs.list.length c.bufs.list.length) 35 ats::plH b3 mb st)) (fun⟨st,pool,fs,ats,s,i⟩=>[bI.pure (i≤c.steps.list.length∧fX st pool s fs (2048+3100*i)∧s.ats=ats.map (·.list)∧ats.length=c.bufs.list.length∧s.laid.length=c.bufs.list.length∧R=endC (goC c.c (livesC c.c) (fullC c.c) (c.c.steps.drop i) i s)),fG st.end_,bI.each pool jY,bI.each ats fG]) (fun⟨st,pool,fs,ats,s,i⟩=>c.steps.list.length-i) (st,pool,fs,ats,s,0) ⟨rfl,trivial⟩ (List.Perm.refl _) ⟨Has.pure (⟨by omega,h.more (by omega),ha,hal,hsl,begin_end (b:=b) (by have hb0:=hinv8.2.2.2.2.2;rwa [show c.bufs.list.length-b=0 by omega] at hb0)⟩),Has.of mT1,Has.of mT2,Has.of mT3,trivial⟩ ?_;rintro⟨st,pool,fs,ats,s,i⟩;dsimp only;refine bX (Has.of mT0) fun hinv16=>?_;have h:=hinv16.2.1;have ha:=hinv16.2.2.1;have hal:=hinv16.2.2.2.1;have hsl:=hinv16.2.2.2.2.1;refine sr<|sp hT ?_;refine nn<|bF<|bO rfl (fun hc63=>?_) (fun hc63=>?_)
 ·have hc63:=of_decide_eq_true hc63;refine bM<|bE<|bF<|bQ<|bF<|cC (zQ.sl (.slice c.steps.addr c.steps.list.length c.steps.cap) c.steps.list) (wN (qU (Has.of mT14))) ?_
  obtain⟨x,hx⟩: ∃x',c.steps.list[i]?=some x':=⟨_,List.getElem?_eq_getElem (by omega)⟩
  obtain⟨hb0,hb1,_⟩:=hst x.c (List.mem_of_getElem? (gS hx))
  replace hb0:0≤x.buf:=hb0
  replace hb1:x.buf<(c.c.bufs.length:Nat):=hb1
  have hbz2:x.buf.toNat<c.bufs.list.length:=by omega
  obtain⟨u,hu⟩: ∃u,c.bufs.list[x.buf.toNat]?=some u:=⟨_,List.getElem?_eq_getElem hbz2⟩
  obtain⟨y,hy⟩: ∃y,(lv (livesC c.c))[x.buf.toNat]?=some y:=⟨_,List.getElem?_eq_getElem (by rw [sW,jC,hnb];omega)⟩
  obtain⟨t,ht⟩: ∃t,(fullC c.c)[x.buf.toNat]?=some t:=⟨_,List.getElem?_eq_getElem (by rw [oD,hnb];omega)⟩
  have hgo:=go_step hinv16.2.2.2.2.2 (gS hx) (dG hu) (vA hy) ht;refine bD<|sp hT ?_;refine ss (bG hT (k:=i) (bC (Has.of mT0)) rfl rfl rfl rfl rfl rfl rfl (by omega)) ?_;refine ss (cL hT (bV.knows (bC (Has.of mT0)) (k:=i) (x:=x) hx 0) rfl rfl rfl rfl rfl) ?_;refine fC rfl rfl rfl rfl qH rfl fun b9=>?_;refine sp hT ?_;refine sto hT .head ?_;refine nn<|bF<|sr<|sp2 hT ?_;refine ss (ldO hT (fF .head)) ?_;refine ss (bG hT (k:=x.buf.toNat) (bC (Has.of mT13)) rfl rfl rfl rfl rfl (by rw [sW,jC,hnb]) (by omega) ((List.getElem?_eq_some_iff.1 hy).1)) ?_;refine sp hT ?_;refine ss (bR hT (bV.knows (bC (Has.of mT13)) (k:=x.buf.toNat) (x:=y) hy 0) rfl rfl rfl rfl rfl) ?_;refine sp2 hT ?_;refine nn<|bO rfl (fun hc74=>?_) (fun hc74=>?_)
  ·have hc74:=bne_iff_ne.1 hc74;refine cS<|bZ<|cR<|bE<|bD<|sp hT ?_;refine bT (z':=(((i+1):Nat):Int)) (cO (by omega) (by omega)) ?_;refine sp hT ?_;refine nn<|mJ (.cons kT1 (.cons kT1 (.cons kT1 (.cons kT1 (.cons kT1 (.cons kT1 (.cons kT1 (.cons kT1 (Sel.skip Sel.self))))))))) ?_;exact lX (st,pool,fs,ats,s,i+1) (by dsimp only;omega) ⟨rfl,trivial⟩ ⟨rfl,rfl,rfl,rfl,rfl,rfl,rfl,rfl,trivial⟩ (List.Perm.refl _) ⟨Has.pure (⟨by dsimp only;omega,h.more (by dsimp only;omega),ha,hal,hsl,hgo.1 ‹_›⟩),Has.of mT2,Has.of mT3,Has.of mT4,trivial⟩ (bH.drop 5)
  have hc74:=bne_eq_false_iff_eq.1 hc74;refine bM<|bE<|sr<|ss (ldO hT (dC kT2)) ?_;refine sp2 hT ?_;refine dR (List.perm_append_comm (l₁:=[_,_,_,_,_,_])) ?_;refine cU Tryz.func50 (bFr b3 mb st pool fs s (2048+3100*i) h LA lcp c.bufs.list.length (livesC c.c) (by rw [jC,hnb]) (by omega) hsl.symm (i:Nat)) rfl rfl (Split.front _ _) ⟨Has.of mT2,Has.of mT3,Has.of mT13,trivial⟩ fun y10=>?_;refine dR List.perm_append_comm ?_;refine bX (Has.of mT2) fun hrl=>?_;refine nn<|bF ?_
  rcases hly:layC (polsL u.sides.list) x.buf.toNat t (relC (i:Nat) (livesC c.c) s) with _ | s'
  ·refine dX _ _ [(true,0),(true,1),(true,2),(true,3),(true,4),(true,5),(true,6),(true,7),(false,8),(true,9)] fH (by decide+kernel) (.cons .head (.cons .head (.cons .head (.cons .head (.cons .head .nil))))) bH.self ?_;refine puM hT ?_;refine puM hT ?_;refine stM rfl (ldO hT (fF .head)) ?_;refine puM hT ?_;refine puM hT ?_;refine stM rfl (ldO hT (fF .head)) ?_;refine stM rfl (bG hT (k:=x.buf.toNat) (bC (Has.of (.tail _ (.tail _ (.tail _ (.tail _ (.tail _ (.tail _ (.tail _ (.tail _ (.tail _ (.tail _ (.tail _ (.tail _ (.tail _ (.tail _ (.tail _ mT0))))))))))))))))) rfl rfl rfl rfl rfl (by rw [oD,hnb]) (by omega) ((List.getElem?_eq_some_iff.1 ht).1)) ?_;refine stM rfl (bR hT (bV.knows (bC (Has.of (.tail _ (.tail _ (.tail _ (.tail _ (.tail _ (.tail _ (.tail _ (.tail _ (.tail _ (.tail _ (.tail _ (.tail _ (.tail _ (.tail _ (.tail _ mT0))))))))))))))))) (k:=x.buf.toNat) (x:=t) ht 0) rfl rfl rfl rfl rfl) ?_;refine dA (o:=_) rfl ?_;refine mJ (.cons kT1 (.cons .head (.cons .head (.cons .head (.cons .head (.cons .head (.cons .head (.cons .head (.cons .head Sel.self))))))))) ?_;refine dR (List.perm_append_comm (l₁:=[_,_])) ?_;refine mA (bP Tryz.func47 rfl rfl) (tB b4 b1 b6 c (some ⟨b5,0,none⟩) c.bufs.list.length c.bufs.list.length ats hal b3 mb y10.1 y10.2.1 y10.2.2 (relC (i:Nat) (livesC c.c) s) (2048+3100*i+3*c.bufs.list.length) hrl (by omega) x.buf.toNat x.buf (by omega) u hu (by rw [rel_len,hsl];exact hbz2) (by omega) ha t) rfl rfl rfl rfl rfl rfl rfl (Split.front _ _) ⟨Has.of (.tail _ (.tail _ (.tail _ (.tail _ (.tail _ (.tail _ (.tail _ (.tail _ (.tail _ (.tail _ (.tail _ (.tail _ (.tail _ (.tail _ (.tail _ (.tail _ (.tail _ (.tail _ mT0)))))))))))))))))),Has.of mT0,Has.of mT1,trivial⟩ fun y11=>?_;refine dR List.perm_append_comm ?_;refine bX (Has.of mT3) fun hpu=>?_;refine bT (z':=140) (by rw [hly];rfl) ?_;refine dB (.cons kT1 (.cons .head (.cons .head (.cons .head (.cons .head .nil))))) (bH.drop 4) ?_;refine puM hT ?_;refine cJ<|bE<|sr<|sp2 hT ?_;refine dS (t':=true) (by decide) ?_;refine nn<|cW rfl rfl ?_;refine sr<|ss (iV rfl rfl (hZ)) ?_;refine sp hT ?_;refine sto hT .head ?_;refine sp hT ?_;refine nn<|bK<|bW<|bN<|bN<|bW<|bN ?_;have hW:=zP hr (hR.trans ((hgo.2 ‹_›).2 hly));exact dO (⟨⟨none,0,[]⟩,⟨none,0,[]⟩⟩:LayV) rfl (tN hT (dC .head) rfl rfl rfl rfl) (rv_tmp rfl) .nil ⟨yD,Has.each_nil,polF_nil,Has.pure (by rw [hW];rfl),trivial⟩ (by rw [hW];rfl)
  refine dX _ _ [(true,0),(true,1),(true,2),(true,3),(true,4),(true,5),(true,6),(true,7),(false,8),(true,9)] fH (by decide+kernel) (.cons .head (.cons .head (.cons .head (.cons .head (.cons .head .nil))))) bH.self ?_;refine puM hT ?_;refine puM hT ?_;refine stM rfl (ldO hT (fF .head)) ?_;refine puM hT ?_;refine puM hT ?_;refine stM rfl (ldO hT (fF .head)) ?_;refine stM rfl (bG hT (k:=x.buf.toNat) (bC (Has.of (.tail _ (.tail _ (.tail _ (.tail _ (.tail _ (.tail _ (.tail _ (.tail _ (.tail _ (.tail _ (.tail _ (.tail _ (.tail _ (.tail _ (.tail _ mT0))))))))))))))))) rfl rfl rfl rfl rfl (by rw [oD,hnb]) (by omega) ((List.getElem?_eq_some_iff.1 ht).1)) ?_;refine stM rfl (bR hT (bV.knows (bC (Has.of (.tail _ (.tail _ (.tail _ (.tail _ (.tail _ (.tail _ (.tail _ (.tail _ (.tail _ (.tail _ (.tail _ (.tail _ (.tail _ (.tail _ (.tail _ mT0))))))))))))))))) (k:=x.buf.toNat) (x:=t) ht 0) rfl rfl rfl rfl rfl) ?_;refine dA (o:=_) rfl ?_;refine mJ (.cons kT1 (.cons .head (.cons .head (.cons .head (.cons .head (.cons .head (.cons .head (.cons .head (.cons .head Sel.self))))))))) ?_;refine dR (List.perm_append_comm (l₁:=[_,_])) ?_;refine mA (bP Tryz.func47 rfl rfl) (tB b4 b1 b6 c (some ⟨b5,0,none⟩) c.bufs.list.length c.bufs.list.length ats hal b3 mb y10.1 y10.2.1 y10.2.2 (relC (i:Nat) (livesC c.c) s) (2048+3100*i+3*c.bufs.list.length) hrl (by omega) x.buf.toNat x.buf (by omega) u hu (by rw [rel_len,hsl];exact hbz2) (by omega) ha t) rfl rfl rfl rfl rfl rfl rfl (Split.front _ _) ⟨Has.of (.tail _ (.tail _ (.tail _ (.tail _ (.tail _ (.tail _ (.tail _ (.tail _ (.tail _ (.tail _ (.tail _ (.tail _ (.tail _ (.tail _ (.tail _ (.tail _ (.tail _ (.tail _ mT0)))))))))))))))))),Has.of mT0,Has.of mT1,trivial⟩ fun y12=>?_;refine dR List.perm_append_comm ?_;refine bX (Has.of mT3) fun hpu=>?_;refine bT (z':=0) (by rw [hly];rfl) ?_;refine cC (bI.each (ats.set x.buf.toNat y12.2.2.2) fG) (each_set (Has.of mT11) (Has.of mT2)) ?_;refine dB (.cons kT1 (.cons .head (.cons .head (.cons .head (.cons .head .nil))))) (bH.drop 5) ?_;refine puM hT ?_;refine cJ<|bE<|sr<|sp2 hT ?_;refine dS (t':=false) (by decide) ?_;refine nn<|fM rfl rfl ?_;refine bM<|bU<|bE<|bD<|sp hT ?_;refine bT (z':=(((i+1):Nat):Int)) (cO (by omega) (by omega)) ?_;refine sp hT ?_;refine nn<|mJ (.cons .head (.cons kT1 (.cons kT1 (.cons kT1 (.cons kT1 (.cons kT1 (.cons kT1 (.cons kT1 (Sel.skip Sel.self))))))))) ?_;exact lX (y12.1,y12.2.1,y12.2.2.1,ats.set x.buf.toNat y12.2.2.2,s',i+1) (by dsimp only;omega) ⟨rfl,trivial⟩ ⟨rfl,rfl,rfl,rfl,rfl,rfl,rfl,rfl,trivial⟩ (List.Perm.refl _) ⟨Has.pure (⟨by dsimp only;omega,(hpu s' hly).1.more (by dsimp only;omega),(hpu s' hly).2,by rw [List.length_set];exact hal,by rw [lay_len hly,rel_len];exact hsl,(hgo.2 ‹_›).1 s' hly⟩),Has.of mT1,Has.of mT2,Has.of mT0,trivial⟩ (bH.drop 13)
 have hc63:=Int.not_lt.1 (of_decide_eq_false hc63);refine cS<|bZ<|bZ<|cR<|bE<|sr<|ss (ldO hT (dC kT1)) ?_;refine sp2 hT ?_;refine ss (ldO hT (dC kT5)) ?_;refine sp hT ?_;refine sto hT kT3 ?_;refine nn<|sr<|ss (ldN hT (dC .head)) ?_;refine sto hT kT1 ?_;refine sp hT ?_;refine nn<|bK ?_;have hW:=planW_ok hr (hR.trans (go_end hinv16.2.2.2.2.2 (by show c.c.steps.length≤i;rw [hns];omega)));refine jJ (E:=jT) kT4 ?_;exact dO (⟨⟨(some ⟨b5,0,none⟩),c.bufs.list.length,ats⟩,st.end_⟩:LayV) rfl (tN hT (dC .head) rfl rfl rfl rfl) (rv_tmp rfl) .nil ⟨pols_len (Has.of mT0) hal,Has.of mT4,Has.of mT2,Has.pure (by rw [hW,ha,←h.end_];rfl),trivial⟩ (by rw [hW];dsimp only;rw [hal])
theorem wrap_eq(z:Int):IntKind.i64.wrap z=wrap64 z:=by
 unfold wrap64;simp only [IntKind.wrap,IntKind.signed,IntKind.bits];simp;omega
theorem tV(a b:UInt8):IntKind.u8.wrap ((a.toNat:Int)+(b.toNat:Int))=((a+b).toNat:Int):=by
 rw [UInt8.toNat_add];simp only [IntKind.wrap,IntKind.signed,IntKind.bits];simp
def polyT:Tab:=[(2,⟨.int .i64,1⟩),(3,⟨.int .i64,1⟩),(5,⟨.int .u8,1⟩),(4,⟨.bool,1⟩),(45,⟨.struct [(2,0),(43,1)],7⟩),(35,⟨.slice 45,1⟩),
 (43,⟨.array 6 5,6⟩),(63,⟨.slice 2,1⟩)]
theorem bBg:dV Tryz.prog polyT:=pL.ok
 ⟨⟨by rw [Tryz.underlying2];rfl,by kernel_rfl⟩,⟨by rw [Tryz.underlying3];rfl,by kernel_rfl⟩,⟨by rw [Tryz.underlying5];rfl,by kernel_rfl⟩,⟨by rw [Tryz.underlying4];rfl,by kernel_rfl⟩,⟨by rw [Tryz.underlying45];rfl,by kernel_rfl⟩,
  ⟨by rw [Tryz.underlying35];rfl,by kernel_rfl⟩,⟨by rw [Tryz.underlying43];rfl,by kernel_rfl⟩,⟨by rw [Tryz.underlying63];rfl,by kernel_rfl⟩,trivial⟩
theorem monoZero:(Tryz.prog.info? 45).bind (·.zero)=some (.agg #[.int .i64 0,.int .u8 0,.int .u8 0,.int .u8 0,.int .u8 0,.int .u8 0,.int .u8 0]):=by
 obtain⟨i,h,hz,_⟩:=sB;rw [h];exact hz
theorem built_n(z:Int):Tryz.prog.built 45 [(0,.int .i64 z)]=some #[.int .i64 z,.int .u8 0,.int .u8 0,.int .u8 0,.int .u8 0,.int .u8 0,.int .u8 0]:=by kernel_rfl
section
variable {β : fB} {n : Nat} {Γ : Env} {H : List bJ} {F : List bI} {Q : Exit → Act → World → Prop}
theorem at_one{ops:Array Oper}{rest:List Oper}{o:Oper}{d:Nat}{x:Operand}{m:Mono}(hw:want ops Γ o=some true)(ho:o.op= .buildSlice 35 1 #[(0,x)])(hd:o.dst=some d)(hn:Nat.blt d n=true)
  (hx:Γ.ev x=some (.agg #[.int .i64 m.n,.int .u8 m.e0.toNat,.int .u8 m.e1.toNat,.int .u8 m.e2.toNat,.int .u8 m.e3.toNat,.int .u8 m.e4.toNat,.int .u8 m.e5.toNat])) (k: ∀b,At β n ((d,.slice (some ⟨b,0,none⟩) 1 1)::Γ) (.obj b (.cells (dY.all [m]).toArray 45)::H) F (wpList Tryz.prog ops Q rest)):At β n Γ H F (wpList Tryz.prog ops Q (o::rest)):=by
 obtain⟨i,hi,hz,hs,_⟩:=sB;refine mH hw ho hd hn hx Tryz.underlying35 hi hz (by omega) (by omega) ?_ k;rw [hs]
 kernel_rfl
theorem at_app{ops:Array Oper}{rest:List Oper}{o:Oper}{d:Nat}{x y:Operand}{c q:Nat}{v:Value}{A:Option Addr}{xs ys:List Mono}{H':List bJ}(hH:dD H (dY.row v 45 xs) H')(hr:bV β H F dY A ys)(hg:o.guard=none)
  (ho:o.op= .call {callee:= .builtin .append,args:= #[x,y],argTypes:= #[35,35]}) (hd:o.dst=some d) (hn:Nat.blt d n=true)
  (hx:Γ.ev x=some v) (hy:Γ.ev y=some (.slice A q c)) (hq:q=ys.length) (hne:0<ys.length) (hl:xs.length+ys.length≤8796093022208)
  (k: ∀A' cap',At β n ((d,.slice A' (xs++ys).length cap')::Γ) (dY.row (.slice A' (xs++ys).length cap') 45 (xs++ys)::H') F (wpList Tryz.prog ops Q rest)):At β n Γ H F (wpList Tryz.prog ops Q (o::rest)):=by
 obtain⟨i,hi,hz,hs,hb⟩:=sB;exact rL hH hr hg ho hd hn Tryz.underlying35 hi hz hs hb rfl hx hy hq hne (by omega) (by decide) k
end
theorem bBv(a b:Mono):cX Tryz.prog 185 [.agg #[.int .i64 a.n,.int .u8 a.e0.toNat,.int .u8 a.e1.toNat,.int .u8 a.e2.toNat,.int .u8 a.e3.toNat,.int .u8 a.e4.toNat,.int .u8 a.e5.toNat],.agg #[.int .i64 b.n,.int .u8 b.e0.toNat,.int .u8 b.e1.toNat,.int .u8 b.e2.toNat,.int .u8 b.e3.toNat,.int .u8 b.e4.toNat,.int .u8 b.e5.toNat]] [] [] (fun _:Unit=> .int .i64 (uF a b)) (fun _=>[]) (fun _=>[]):=lG fun _ w _ _=>bHr a b w
theorem pM(A:Option Addr)(c:Nat)(l:List Mono)(hl:l.length≤140737488355328):cX Tryz.prog 123 [.slice A l.length c] [] [dY.sl (.slice A l.length c) l] (fun _:Unit=> .bool (cH l)) (fun _=>[]) (fun _=>[]):=
 lG fun _ w hS h=>nR A c l w (monos_of hS (h _ (List.mem_cons_self ..))).1 hl
def lA (m:Mono):List Mono→List Mono
 | []=>[m]
 | a::l=>if m.key<a.key then a::lA m l else if a.key=m.key then ⟨wrap64 (a.n+m.n),a.e0,a.e1,a.e2,a.e3,a.e4,a.e5⟩::l else m::a::l
theorem bHc{a b:Mono}:uF a b=1↔b.key<a.key:=by
 rw [bId]
 by_cases h:b.key<a.key
 ·simp [h]
 ·by_cases h2:a.key<b.key<;>simp [h,h2]
theorem bHy{a b:Mono}:uF a b=0↔a.key=b.key:=by
 rw [bId]
 by_cases h:b.key<a.key
 ·simp [h];omega
 ·by_cases h2:a.key<b.key
  ·simp [h,h2];omega
  ·simp [h,h2];omega
theorem take_more{l:List Mono}{m x:Mono}{i:Nat}(hx:l[i]?=some x)(h: ∀y∈l.take i,m.key<y.key)(hk:m.key<x.key): ∀y∈l.take (i+1),m.key<y.key:=fun y hy=>by
 rw [List.take_add_one,hx,Option.toList_some] at hy
 rcases List.mem_append.1 hy with hy | hy
 ·exact h y hy
 ·rw [List.mem_singleton.1 hy];exact hk
theorem put_eq{m x:Mono}: ∀{l:List Mono} {i:Nat},l[i]?=some x→(∀y∈l.take i,m.key<y.key)→x.key=m.key→lA m l=l.set i ⟨IntKind.i64.wrap (x.n+m.n),x.e0,x.e1,x.e2,x.e3,x.e4,x.e5⟩
 | [],i,h,_,_=>by simp at h
 | a::l,0,h,_,hk=>by
  simp at h;subst h;rw [lA,if_neg (by omega),if_pos hk,wrap_eq];rfl
 | a::l,i+1,h,ht,hk=>by
  rw [lA,if_pos (ht a (by simp)),put_eq (l:=l) (i:=i) (by simpa using h) (fun y hy=>ht y (by simp [hy])) hk];rfl
theorem put_ins{m:Mono}: ∀{l:List Mono} {i:Nat},(∀y∈l.take i,m.key<y.key)→i≤l.length→(∀x,l[i]?=some x→x.key<m.key)→lA m l=l.take i++m::l.drop i
 | [],i,_,hi,_=>by
  have:i=0:=by simpa using hi
  subst this;rfl
 | a::l,0,_,_,hx=>by
  have:=hx a rfl;rw [lA,if_neg (by omega),if_neg (by omega)];rfl
 | a::l,i+1,ht,hi,hx=>by
  rw [lA,if_pos (ht a (by simp)),put_ins (l:=l) (i:=i) (fun y hy=>ht y (by simp [hy])) (by simpa using hi) (fun x h=>hx x (by simpa using h))];rfl
theorem bBl{l cur:List Mono}{i:Nat}(hi:i≤l.length)(h: ∃z,cur=l.take i++z::l.drop i)(m:Mono):cur.set i m=l.take i++m::l.drop i:=by
 obtain⟨z,rfl⟩:=h;rw [List.set_append_right _ _ (by simp;omega),show i-(l.take i).length=0 from by simp;omega];rfl
theorem bIl{l cur:List Mono}{k:Nat}{x:Mono}(hk:k≤l.length)(h0:0<k)(h: ∃z,cur=l.take k++z::l.drop k)(hx:cur[k-1]?=some x): ∃z,cur.set k x=l.take (k-1)++z::l.drop (k-1):=by
 obtain⟨z,hz⟩:=h;refine⟨x,?_⟩;rw [bBl hk ⟨z,hz⟩ x]
 obtain⟨j,rfl⟩: ∃j,k=j+1:=⟨k-1,by omega⟩
 rw [Nat.add_sub_cancel] at hx⊢
 have hj:l[j]?=some x:=by
  rw [hz,List.getElem?_append_left (by simp;omega),List.getElem?_take_of_lt (by omega)] at hx;exact hx
 have hd:l.drop j=x::l.drop (j+1):=by
  have hlt:j<l.length:=by omega
  rw [List.drop_eq_getElem_cons hlt]
  congr 1
  exact(List.getElem?_eq_some_iff.1 hj).2
 rw [List.take_add_one,hj,hd];simp
set_option maxRecDepth 100000 in
theorem put_spec(A:Option Addr)(cap:Nat)(l:List Mono)(m:Mono)(hl:l.length≤1000000):cX Tryz.prog 182 [.slice A l.length cap,.agg #[.int .i64 m.n,.int .u8 m.e0.toNat,.int .u8 m.e1.toNat,.int .u8 m.e2.toNat,.int .u8 m.e3.toNat,.int .u8 m.e4.toNat,.int .u8 m.e5.toNat]] [dY.row (.slice A l.length cap) 45 l] [] (fun(x:Option Addr×Nat)=> .slice x.1 (lA m l).length x.2) (fun(x:Option Addr×Nat)=>[dY.row (.slice x.1 (lA m l).length x.2) 45 (lA m l)]) (fun _=>[]):=by
 have hT:=bBg;refine cD Tryz.func182 rfl Tryz.ntmps182 rfl ?_;intro β hM;refine sr<|iL rfl rfl rfl rfl rfl rfl fun b1=>?_;refine sp hT ?_;refine nn<|sr<|sp hT ?_;refine nn<|bF<|bQ<|pH (ι:=Nat) (fun i=>[(0,.slice A l.length cap),(3,.pointer (some ⟨b1,0,none⟩)),(5,.int .i64 (i:Nat))]) (fun i=>[.obj b1 (.cells m.cells.toArray 45),dY.row (.slice A l.length cap) 45 l]) (fun i=>[bI.pure (i≤l.length∧ ∀x∈l.take i,m.key<x.key)]) (fun i=>l.length-i) 0 ⟨rfl,rfl,rfl,trivial⟩ (.cons .head (.cons .head .nil)) ⟨Has.pure (by simp),trivial⟩ ?_;rintro i;refine bX (Has.of mT0) fun hinv2=>?_;refine bF<|bF<|dX _ _ [(true,0),(true,1),(true,2),(true,3),(true,4),(true,5),(true,6),(true,7),(true,8),(true,9),(false,10),(true,11),(true,12)] fH (by decide+kernel) (.cons .head (.cons .head .nil)) bH.self ?_;refine puM hT ?_;refine puM hT ?_;refine puM hT ?_;refine puM hT ?_;refine puM hT ?_;refine cA (fun hg11=>?_) (fun hg11=>?_)
 ·have hg11:=of_decide_eq_true hg11;refine puM hT ?_;refine puM hT ?_
  obtain⟨x2,hx3⟩: ∃x,l[i]?=some x:=⟨_,List.getElem?_eq_getElem (by omega)⟩
  refine stM rfl (bG hT (k:=i) (cE kT1) rfl rfl rfl rfl rfl rfl rfl (by omega)) ?_;refine stM rfl (cL hT (bV.knows (cE kT1) hx3 0) rfl rfl rfl rfl rfl) ?_;refine stM rfl (ldN hT (dC .head)) ?_;refine dA (o:=_) rfl ?_;refine fP (bP Tryz.func185 rfl rfl) (bBv _ _) rfl rfl rfl rfl rfl .nil .nil iW trivial (fun _=>True) (fun _ _ _ _=>trivial) fun _ _=>?_;refine dB (.cons .head (.cons .head .nil)) ⟨Has.of mT0,trivial⟩ ?_;refine puM hT ?_;refine puM hT ?_;refine cJ<|bE<|bO rfl (fun hc19=>?_) (fun hc19=>?_)
  ·have hc19:=eq_of_beq hc19;have hc19:=bHc.1 hc19;refine bM<|bE<|bQ<|bD<|sp2 hT ?_;refine bT (z':=(((i+1):Nat):Int)) (cO (by omega) (by omega)) ?_;refine sp hT ?_;refine gH<|bU<|bE ?_;exact nZ (i+1) (by omega) ⟨rfl,rfl,rfl,trivial⟩ (.cons .head (.cons .head .nil)) ⟨Has.pure (⟨by omega,take_more ‹l[i]?=some _› hinv2.2 hc19⟩),trivial⟩
  have hc19:=beq_eq_false_iff_ne.1 hc19;have hc19:=mt bHc.2 hc19;refine cS<|bZ<|bZ<|cR<|bE<|bF<|bF<|dX _ _ [(true,0),(true,1),(true,2),(true,3),(true,4),(true,5),(true,6),(true,7),(true,8),(true,9),(false,10),(true,11),(true,12)] fH (by decide+kernel) (.cons .head (.cons .head .nil)) bH.self ?_;refine puM hT ?_;refine puM hT ?_;refine puM hT ?_;refine puM hT ?_;refine puM hT ?_;refine cA (fun hg26=>?_) (fun hg26=>?_)
  ·have hg26:=of_decide_eq_true hg26;refine puM hT ?_;refine puM hT ?_;refine stM rfl (bG hT (k:=i) (cE kT1) rfl rfl rfl rfl rfl rfl rfl (by omega)) ?_;refine stM rfl (cL hT (bV.knows (cE kT1) hx3 0) rfl rfl rfl rfl rfl) ?_;refine stM rfl (ldN hT (dC .head)) ?_;refine dA (o:=_) rfl ?_;refine fP (bP Tryz.func185 rfl rfl) (bBv _ _) rfl rfl rfl rfl rfl .nil .nil iW trivial (fun _=>True) (fun _ _ _ _=>trivial) fun _ _=>?_;refine dB (.cons .head (.cons .head .nil)) ⟨Has.of mT0,trivial⟩ ?_;refine puM hT ?_;refine puM hT ?_;refine cJ<|bE<|bO rfl (fun hc34=>?_) (fun hc34=>?_)
   ·have hc34:=eq_of_beq hc34;have hc34:=bHy.1 hc34;refine bF<|at_rowg kT1 (by omega) fun g hg=>?_;subst hg;refine dX _ _ [(true,0),(true,1),(true,2),(true,3),(true,4),(true,5),(true,7),(true,8),(false,6),(true,9),(true,10),(true,11),(false,12)] fH (by decide+kernel) (.cons .head .nil) bH.self ?_;refine puM hT ?_;refine puM hT ?_;refine puM hT ?_;refine puM hT ?_;refine stM rfl (iI hT (k:=i) rfl rfl rfl rfl rfl rfl (by omega)) ?_;refine puM hT ?_;refine puM hT ?_;refine stM rfl (ldO hT (dC .head)) ?_;refine dA (o:=_) rfl ?_;refine ss (bR hT (bV.knows (cE kT1) hx3 0) rfl rfl rfl rfl rfl) ?_;refine dB (.cons .head .nil) ⟨Has.of mT0,trivial⟩ ?_;refine puM hT ?_;refine stM rfl (iI hT (k:=i) rfl rfl rfl rfl rfl rfl (by omega)) ?_;refine puM hT ?_;refine dA (o:=_) rfl ?_;refine cK hT (k:=i) (fo:=0) (y':=⟨_,_,_,_,_,_,_⟩) kT1 rfl rfl rfl rfl rfl rfl rfl rfl rfl hx3 rfl ?_;refine dB (.cons kT1 .nil) ⟨Has.of mT0,trivial⟩ ?_;refine cJ<|bE<|sr<|sp2 hT ?_;refine nn<|bK<|bN ?_;rw [put_eq hx3 hinv2.2 hc34,List.length_set];exact bEo (some ⟨g,0,none⟩,cap) rfl rfl rfl (.cons .head .nil) trivial
   have hc34:=beq_eq_false_iff_ne.1 hc34;have hc34:=mt bHy.2 hc34;refine bM<|bE<|bF ?_;have hlast: ∀x,l[i]?=some x→x.key<m.key:=fun x hx=>by rw [hx3] at hx;cases hx;omega
   refine bD<|sp hT ?_;refine ss (ldN hT (dC .head)) ?_;refine at_one (m:=m) rfl rfl rfl rfl rfl fun b4=>?_;refine at_app kT2 (iE .head rfl) rfl rfl rfl rfl rfl rfl rfl (by simp) (by simp only [List.length_singleton];omega) fun A5 c6=>?_;refine sp hT ?_;refine nn<|bF<|bF<|at_rowg .head (by simp) fun g7 hg=>?_;subst hg;have hN:(l++[m]).length=l.length+1:=by simp
   refine bD<|sp3 hT ?_;refine bT (z':=((((l++[m]).length-1):Nat):Int)) (cO (by omega) (by omega)) ?_;refine sp hT ?_;refine nn<|bQ<|pH (ι:=Nat×List Mono) (fun⟨k,cur⟩=>[(0,.slice (some ⟨g7,0,none⟩) (l++[m]).length c6),(3,.pointer (some ⟨b1,0,none⟩)),(5,.int .i64 (i:Nat)),(6,.int .i64 (k:Nat))]) (fun⟨k,cur⟩=>[dY.row (.slice (some ⟨g7,0,none⟩) (l++[m]).length c6) 45 cur,.obj b1 (.cells m.cells.toArray 45)]) (fun⟨k,cur⟩=>[bI.pure (i≤k∧k≤l.length∧ ∃z,cur=l.take k++z::l.drop k)]) (fun⟨k,cur⟩=>k) ((l++[m]).length-1,l++[m]) ⟨rfl,rfl,rfl,rfl,trivial⟩ (.cons .head (.cons kT1 .nil)) ⟨Has.pure (⟨by omega,by omega,m,by simp⟩),trivial⟩ ?_;rintro⟨k,cur⟩;dsimp only;refine bX (Has.of mT0) fun hinv9=>?_;have hcl:cur.length=l.length+1:=by obtain⟨z,hz⟩:=hinv9.2.2;rw [hz];simp;omega
   refine bF<|sr<|sp3 hT ?_;refine nn<|bO rfl (fun hc57=>?_) (fun hc57=>?_)
   ·have hc57:=of_decide_eq_true hc57;refine bM<|bE<|bF<|bQ<|bD<|sp4 hT ?_;refine sp hT ?_;refine bT (z':=(((k-1):Nat):Int)) (cO (by omega) (by omega)) ?_
    obtain⟨x8,hx9⟩: ∃x,cur[(k-1)]?=some x:=⟨_,List.getElem?_eq_getElem (by omega)⟩
    refine ss (iI hT (k:=(k-1)) rfl rfl rfl rfl rfl rfl (by omega)) ?_;refine ss (cL hT (bV.knows (cE .head) hx9 0) rfl rfl rfl rfl rfl) ?_
    obtain⟨x10,hx11⟩: ∃x,cur[k]?=some x:=⟨_,List.getElem?_eq_getElem (by omega)⟩
    refine ss (iI hT (k:=k) rfl rfl rfl rfl rfl rfl (by omega)) ?_;refine cK hT (k:=k) (fo:=0) (y':=x8) .head rfl rfl rfl rfl rfl rfl rfl rfl rfl hx11 rfl ?_;refine gH<|bU<|bE<|bD<|sp2 hT ?_;refine bT (z':=(((k-1):Nat):Int)) (cO (by omega) (by omega)) ?_;refine sp hT ?_;refine nn ?_;exact nZ (k-1,_) (by dsimp only;omega) ⟨rfl,rfl,rfl,rfl,trivial⟩ (.cons .head (.cons .head .nil)) ⟨Has.pure (by refine⟨by omega,by omega,?_⟩;exact bIl hinv9.2.1 (by omega) hinv9.2.2 ‹cur[k-1]?=some _›),trivial⟩
   have hc57:=Int.not_lt.1 (of_decide_eq_false hc57);refine cS<|bZ<|bZ<|cR<|bE<|sr<|sp2 hT ?_;refine ss (ldN hT (dC kT1)) ?_
   obtain⟨x12,hx13⟩: ∃x,cur[i]?=some x:=⟨_,List.getElem?_eq_getElem (by omega)⟩
   refine ss (iI hT (k:=i) rfl rfl rfl rfl rfl rfl (by omega)) ?_;refine cK hT (k:=i) (fo:=0) (y':=m) .head rfl rfl rfl rfl rfl rfl rfl rfl rfl hx13 rfl ?_;refine nn<|sr<|sp2 hT ?_;refine nn<|bK ?_;have hk:k=i:=by omega
   subst hk;have e:lA m l=cur.set k m:=(put_ins hinv2.2 hinv2.1 hlast).trans (bBl hinv2.1 hinv9.2.2 m).symm;have e2:(cur.set k m).length=(l++[m]).length:=by rw [List.length_set];omega
   rw [e,e2];exact bEo (some ⟨g7,0,none⟩,c6) rfl rfl rfl (.cons .head .nil) trivial
  have hg26:=Int.not_lt.1 (of_decide_eq_false hg26);omega
 have hg11:=Int.not_lt.1 (of_decide_eq_false hg11);refine bA rfl rfl rfl rfl ?_;refine bA rfl rfl rfl rfl ?_;refine bA rfl rfl rfl rfl ?_;refine bA rfl rfl rfl rfl ?_;refine bA rfl rfl rfl rfl ?_;refine dA (o:=_) rfl ?_;refine sk ?_;refine dB (.cons .head (.cons .head .nil)) ⟨Has.of mT0,trivial⟩ ?_;refine bA rfl rfl rfl rfl ?_;refine puM hT ?_;refine cJ<|bE<|fM rfl rfl ?_;refine cS<|bZ<|bZ<|cR<|bE<|bF<|bF<|dX _ _ [(true,0),(true,1),(true,2),(true,3),(true,4),(true,5),(true,6),(true,7),(true,8),(true,9),(false,10),(true,11),(true,12)] fH (by decide+kernel) (.cons .head (.cons .head .nil)) bH.self ?_;refine puM hT ?_;refine puM hT ?_;refine puM hT ?_;refine puM hT ?_;refine puM hT ?_;refine cA (fun hg26=>?_) (fun hg26=>?_)
 ·have hg26:=of_decide_eq_true hg26;omega
 have hg26:=Int.not_lt.1 (of_decide_eq_false hg26);refine bA rfl rfl rfl rfl ?_;refine bA rfl rfl rfl rfl ?_;refine bA rfl rfl rfl rfl ?_;refine bA rfl rfl rfl rfl ?_;refine bA rfl rfl rfl rfl ?_;refine dA (o:=_) rfl ?_;refine sk ?_;refine dB (.cons .head (.cons .head .nil)) ⟨Has.of mT0,trivial⟩ ?_;refine bA rfl rfl rfl rfl ?_;refine puM hT ?_;refine cJ<|bE<|fM rfl rfl ?_;refine bM<|bE<|bF ?_;have hlast: ∀x,l[i]?=some x→x.key<m.key:=fun x hx=>by rw [List.getElem?_eq_none (by omega)] at hx;cases hx
 refine bD<|sp hT ?_;refine ss (ldN hT (dC .head)) ?_;refine at_one (m:=m) rfl rfl rfl rfl rfl fun b14=>?_;refine at_app kT2 (iE .head rfl) rfl rfl rfl rfl rfl rfl rfl (by simp) (by simp only [List.length_singleton];omega) fun A15 c16=>?_;refine sp hT ?_;refine nn<|bF<|bF<|at_rowg .head (by simp) fun g17 hg=>?_;subst hg;have hN:(l++[m]).length=l.length+1:=by simp
 refine bD<|sp3 hT ?_;refine bT (z':=((((l++[m]).length-1):Nat):Int)) (cO (by omega) (by omega)) ?_;refine sp hT ?_;refine nn<|bQ<|pH (ι:=Nat×List Mono) (fun⟨k,cur⟩=>[(0,.slice (some ⟨g17,0,none⟩) (l++[m]).length c16),(3,.pointer (some ⟨b1,0,none⟩)),(5,.int .i64 (i:Nat)),(6,.int .i64 (k:Nat))]) (fun⟨k,cur⟩=>[dY.row (.slice (some ⟨g17,0,none⟩) (l++[m]).length c16) 45 cur,.obj b1 (.cells m.cells.toArray 45)]) (fun⟨k,cur⟩=>[bI.pure (i≤k∧k≤l.length∧ ∃z,cur=l.take k++z::l.drop k)]) (fun⟨k,cur⟩=>k) ((l++[m]).length-1,l++[m]) ⟨rfl,rfl,rfl,rfl,trivial⟩ (.cons .head (.cons kT1 .nil)) ⟨Has.pure (⟨by omega,by omega,m,by simp⟩),trivial⟩ ?_;rintro⟨k,cur⟩;dsimp only;refine bX (Has.of mT0) fun hinv9=>?_;have hcl:cur.length=l.length+1:=by obtain⟨z,hz⟩:=hinv9.2.2;rw [hz];simp;omega
 refine bF<|sr<|sp3 hT ?_;refine nn<|bO rfl (fun hc57=>?_) (fun hc57=>?_)
 ·have hc57:=of_decide_eq_true hc57;refine bM<|bE<|bF<|bQ<|bD<|sp4 hT ?_;refine sp hT ?_;refine bT (z':=(((k-1):Nat):Int)) (cO (by omega) (by omega)) ?_
  obtain⟨x18,hx19⟩: ∃x,cur[(k-1)]?=some x:=⟨_,List.getElem?_eq_getElem (by omega)⟩
  refine ss (iI hT (k:=(k-1)) rfl rfl rfl rfl rfl rfl (by omega)) ?_;refine ss (cL hT (bV.knows (cE .head) hx19 0) rfl rfl rfl rfl rfl) ?_
  obtain⟨x20,hx21⟩: ∃x,cur[k]?=some x:=⟨_,List.getElem?_eq_getElem (by omega)⟩
  refine ss (iI hT (k:=k) rfl rfl rfl rfl rfl rfl (by omega)) ?_;refine cK hT (k:=k) (fo:=0) (y':=x18) .head rfl rfl rfl rfl rfl rfl rfl rfl rfl hx21 rfl ?_;refine gH<|bU<|bE<|bD<|sp2 hT ?_;refine bT (z':=(((k-1):Nat):Int)) (cO (by omega) (by omega)) ?_;refine sp hT ?_;refine nn ?_;exact nZ (k-1,_) (by dsimp only;omega) ⟨rfl,rfl,rfl,rfl,trivial⟩ (.cons .head (.cons .head .nil)) ⟨Has.pure (by refine⟨by omega,by omega,?_⟩;exact bIl hinv9.2.1 (by omega) hinv9.2.2 ‹cur[k-1]?=some _›),trivial⟩
 have hc57:=Int.not_lt.1 (of_decide_eq_false hc57);refine cS<|bZ<|bZ<|cR<|bE<|sr<|sp2 hT ?_;refine ss (ldN hT (dC kT1)) ?_
 obtain⟨x22,hx23⟩: ∃x,cur[i]?=some x:=⟨_,List.getElem?_eq_getElem (by omega)⟩
 refine ss (iI hT (k:=i) rfl rfl rfl rfl rfl rfl (by omega)) ?_;refine cK hT (k:=i) (fo:=0) (y':=m) .head rfl rfl rfl rfl rfl rfl rfl rfl rfl hx23 rfl ?_;refine nn<|sr<|sp2 hT ?_;refine nn<|bK ?_;have hk:k=i:=by omega
 subst hk;have e:lA m l=cur.set k m:=(put_ins hinv2.2 hinv2.1 hlast).trans (bBl hinv2.1 hinv9.2.2 m).symm;have e2:(cur.set k m).length=(l++[m]).length:=by rw [List.length_set];omega
 rw [e,e2];exact bEo (some ⟨g17,0,none⟩,c16) rfl rfl rfl (.cons .head .nil) trivial
def nJ (l:List Mono):List Mono×Int:=if cH (l.filter nz) then (l.filter nz,0) else ([],21)
theorem bCi(x:Mono):[x].filter nz=if x.n=0 then [] else [x]:=by
 by_cases h:x.n=0<;>simp [List.filter_cons,nz,h]
set_option maxRecDepth 100000 in
theorem whole_spec(A:Option Addr)(c:Nat)(l:List Mono)(hl:l.length≤1000000):cX Tryz.prog 183 [.slice A l.length c] [] [dY.sl (.slice A l.length c) l] (fun(x:Option Addr×Nat)=> .tuple #[.slice x.1 (nJ l).1.length x.2,.int .i64 (nJ l).2]) (fun(x:Option Addr×Nat)=>[dY.row (.slice x.1 (nJ l).1.length x.2) 45 (nJ l).1]) (fun _=>[]):=by
 have hT:=bBg;refine cD Tryz.func183 rfl Tryz.ntmps183 rfl ?_;intro β hM;refine sr<|sp2 hT ?_;refine nn<|sr<|sp hT ?_;refine nn<|bF<|bF<|gB (t:=45) dY ?_;refine bD<|sp hT ?_;refine nn<|bQ<|pH (ι:=Nat×List Mono×Option Addr×Nat) (fun⟨i,out,B,cb⟩=>[(0,.slice A l.length c),(4,.slice B out.length cb),(5,.int .i64 (i:Nat))]) (fun⟨i,out,B,cb⟩=>[dY.row (.slice B out.length cb) 45 out]) (fun⟨i,out,B,cb⟩=>[bI.pure (i≤l.length∧out=(l.take i).filter nz),dY.sl (.slice A l.length c) l]) (fun⟨i,out,B,cb⟩=>l.length-i) (0,[],none,0) ⟨rfl,rfl,rfl,trivial⟩ (.cons .head .nil) ⟨Has.pure (by simp),Has.of mT0,trivial⟩ ?_;rintro⟨i,out,B,cb⟩;dsimp only;refine bX (Has.of mT0) fun hinv3=>?_;have hol:out.length≤l.length:=by rw [hinv3.2];exact Nat.le_trans (List.length_filter_le _ _) (by simp;omega)
 refine bF<|sr<|sp4 hT ?_;refine nn<|bO rfl (fun hc9=>?_) (fun hc9=>?_)
 ·have hc9:=of_decide_eq_true hc9;refine bM<|bE<|bF<|bQ<|sr<|sp2 hT ?_
  obtain⟨x1,hx2⟩: ∃x,l[i]?=some x:=⟨_,List.getElem?_eq_getElem (by omega)⟩
  refine ss (bG hT (k:=i) (bC (Has.of mT1)) rfl rfl rfl rfl rfl rfl rfl (by omega)) ?_;refine sp hT ?_;refine ss (bR hT (bV.knows (bC (Has.of mT1)) hx2 0) rfl rfl rfl rfl rfl) ?_;refine sp hT ?_;refine nn<|bO rfl (fun hc17=>?_) (fun hc17=>?_)
  ·have hc17:=bne_iff_ne.1 hc17;refine bD<|sp3 hT ?_;refine ss (bG hT (k:=i) (bC (Has.of mT1)) rfl rfl rfl rfl rfl rfl rfl (by omega)) ?_;refine ss (cL hT (bV.knows (bC (Has.of mT1)) hx2 0) rfl rfl rfl rfl rfl) ?_;refine at_one (m:=x1) rfl rfl rfl rfl rfl fun b3=>?_;refine at_app kT1 (iE .head rfl) rfl rfl rfl rfl rfl rfl rfl (by simp) (by simp only [List.length_singleton];omega) fun A4 c5=>?_;refine sp hT ?_;refine gH<|bU<|bE<|bD<|sp2 hT ?_;refine bT (z':=(((i+1):Nat):Int)) (cO (by omega) (by omega)) ?_;refine sp hT ?_;refine nn ?_;exact nZ (i+1,_,_,_) (by dsimp only;omega) ⟨rfl,rfl,rfl,trivial⟩ (.cons .head .nil) ⟨Has.pure (by refine⟨by omega,?_⟩;rw [List.take_add_one,hx2,List.filter_append,←hinv3.2,Option.toList_some,bCi];simp [hc17]),Has.of mT1,trivial⟩
  have hc17:=bne_eq_false_iff_eq.1 hc17;refine bM<|bU<|bE<|bD<|sp2 hT ?_;refine bT (z':=(((i+1):Nat):Int)) (cO (by omega) (by omega)) ?_;refine sp hT ?_;refine nn ?_;exact nZ (i+1,_,_,_) (by dsimp only;omega) ⟨rfl,rfl,rfl,trivial⟩ (.cons .head .nil) ⟨Has.pure (by refine⟨by omega,?_⟩;rw [List.take_add_one,hx2,List.filter_append,←hinv3.2,Option.toList_some,bCi];simp [hc17]),Has.of mT1,trivial⟩
 have hc9:=Int.not_lt.1 (of_decide_eq_false hc9);refine cS<|bZ<|bZ<|cR<|bE<|bF<|sr<|sp hT ?_;refine fP (bP Tryz.func123 rfl rfl) (pM _ _ out (by omega)) rfl rfl rfl rfl rfl .nil (.cons .head .nil) (pX iW) ⟨Has.of mT0,trivial⟩ (fun _=>True) (fun _ _ _ _=>trivial) fun _ _=>?_;refine sp hT ?_;refine nn<|bO rfl (fun hc27=>?_) (fun hc27=>?_)
 ·have hc27:=kG hc27;refine sr<|sp2 hT ?_;refine nn<|bK<|bN ?_
  have hw:nJ l=([],21):=by
   have e:out=l.filter nz:=by rw [hinv3.2,List.take_of_length_le (by omega)]
   unfold nJ;rw [←e,hc27];rfl
  rw [hw];refine gB (t:=45) dY ?_;exact rU (none,0) rfl rfl rfl rfl (.cons .head .nil) trivial
 have hc27:=kD hc27;refine bM<|bE<|sr<|sp3 hT ?_;refine nn<|bK ?_
 have hw:nJ l=(out,0):=by
  have e:out=l.filter nz:=by rw [hinv3.2,List.take_of_length_le (by omega)]
  unfold nJ;rw [←e,hc27];rfl
 rw [hw];exact rU (B,cb) rfl rfl rfl rfl (.cons .head .nil) trivial
def kU (acc:List Mono)(l:List Mono):List Mono:=l.foldl (fun a m=>lA m a) acc
theorem putP_len(m:Mono): ∀l:List Mono,(lA m l).length≤l.length+1
 | []=>by simp [lA]
 | a::l=>by
  have:=putP_len m l;rw [lA];split
  ·simp;omega
  ·split<;>simp
theorem vN: ∀(l acc:List Mono),(kU acc l).length≤acc.length+l.length
 | [],acc=>by simp [kU]
 | m::l,acc=>by
  have h1:=vN l (lA m acc);have h2:=putP_len m acc;have e:kU acc (m::l)=kU (lA m acc) l:=rfl;rw [e,List.length_cons];omega
theorem uL(acc l k:List Mono):kU acc (l++k)=kU (kU acc l) k:=List.foldl_append
theorem putAll_snoc(acc l:List Mono)(m:Mono):kU acc (l++[m])=lA m (kU acc l):=by rw [uL];rfl
def lE (p q:List Mono):List Mono×Int:=if cH p&&cH q then nJ (kU [] (p.flatMap fun a=>q.map (mulM a))) else ([],20)
theorem flat_len(q:List Mono): ∀l:List Mono,(l.flatMap fun a=>q.map (mulM a)).length=l.length*q.length
 | []=>by simp
 | a::l=>by
  rw [List.flatMap_cons,List.length_append,flat_len q l,List.length_map,List.length_cons,Nat.add_mul,Nat.one_mul,Nat.add_comm]
theorem refMul_len{p q:List Mono}{i:Nat}(hi:i≤p.length):(kU [] ((p.take i).flatMap fun a=>q.map (mulM a))).length≤i*q.length:=by
 refine Nat.le_trans (vN _ _) ?_;rw [flat_len,List.length_take,Nat.min_eq_left hi];simp
theorem bEu{p:List Mono}(h:cH p=true):p.length≤48:=by
 unfold cH at h;simp at h;exact h.1
set_option maxRecDepth 100000 in
theorem refMul_spec(A B:Option Addr)(c d:Nat)(p q:List Mono)(hpl:p.length≤140737488355328)(hql:q.length≤140737488355328):cX Tryz.prog 122 [.slice A p.length c,.slice B q.length d] [] [dY.sl (.slice A p.length c) p,dY.sl (.slice B q.length d) q] (fun(x:Option Addr×Nat)=> .tuple #[.slice x.1 (lE p q).1.length x.2,.int .i64 (lE p q).2]) (fun(x:Option Addr×Nat)=>[dY.row (.slice x.1 (lE p q).1.length x.2) 45 (lE p q).1]) (fun _=>[]):=by
 have hT:=bBg;refine cD Tryz.func122 rfl Tryz.ntmps122 rfl ?_;intro β hM;refine sr<|sp2 hT ?_;refine nn<|bF<|sr<|sp hT ?_;refine fP (bP Tryz.func123 rfl rfl) (pM _ _ p (by omega)) rfl rfl rfl rfl rfl .nil .nil iW ⟨Has.of mT0,trivial⟩ (fun _=>True) (fun _ _ _ _=>trivial) fun _ _=>?_;refine sp2 hT ?_;refine cA (fun hg14=>?_) (fun hg14=>?_)
 ·have hg14:=kG hg14;have hrp:=hg14;refine sk3 ?_;refine sp hT ?_;refine nn<|cW rfl rfl ?_;refine sr<|sp2 hT ?_;refine nn<|bK<|bN ?_;have hw:lE p q=([],20):=by unfold lE;simp [hrp]
  rw [hw];refine gB (t:=45) dY ?_;exact rU (none,0) rfl rfl rfl rfl (.cons .head .nil) trivial
 have hg14:=kD hg14;have hrp:=hg14;refine sp hT ?_;refine fP (bP Tryz.func123 rfl rfl) (pM _ _ q (by omega)) rfl rfl rfl rfl rfl .nil .nil iW ⟨Has.of mT1,trivial⟩ (fun _=>True) (fun _ _ _ _=>trivial) fun _ _=>?_;refine sp2 hT ?_;refine nn<|bO rfl (fun hc18=>?_) (fun hc18=>?_)
 ·have hc18:=kG hc18;have hrq:=hc18;refine sr<|sp2 hT ?_;refine nn<|bK<|bN ?_;have hw:lE p q=([],20):=by unfold lE;simp [hrp,hrq]
  rw [hw];refine gB (t:=45) dY ?_;exact rU (none,0) rfl rfl rfl rfl (.cons .head .nil) trivial
 have hc18:=kD hc18;have hrq:=hc18;have hp:=bEu hrp;have hq:=bEu hrq;refine bM<|bE<|sr<|sp hT ?_;refine nn<|bF<|bF<|gB (t:=45) dY ?_;refine bD<|sp hT ?_;refine nn<|bQ<|pH (ι:=Nat×List Mono×Option Addr×Nat) (fun⟨i,cur,C,e⟩=>[(0,.slice A p.length c),(1,.slice B q.length d),(6,.slice C cur.length e),(7,.int .i64 (i:Nat))]) (fun⟨i,cur,C,e⟩=>[dY.row (.slice C cur.length e) 45 cur]) (fun⟨i,cur,C,e⟩=>[bI.pure (i≤p.length∧cur=kU [] ((p.take i).flatMap fun a=>q.map (mulM a))),dY.sl (.slice A p.length c) p,dY.sl (.slice B q.length d) q]) (fun⟨i,cur,C,e⟩=>p.length-i) (0,[],none,0) ⟨rfl,rfl,rfl,rfl,trivial⟩ (.cons .head .nil) ⟨Has.pure (⟨by omega,by rfl⟩),Has.of mT0,Has.of mT1,trivial⟩ ?_;rintro⟨i,cur,C,e⟩;dsimp only;refine bX (Has.of mT0) fun hinv5=>?_;have hcl:cur.length≤i*q.length:=by rw [hinv5.2];exact refMul_len (by omega)
 have hiq:i*q.length≤48*48:=Nat.mul_le_mul (by omega) hq;refine bF<|sr<|sp4 hT ?_;refine nn<|bO rfl (fun hc22=>?_) (fun hc22=>?_)
 ·have hc22:=of_decide_eq_true hc22;refine bM<|bE<|bF<|bQ<|bF ?_
  obtain⟨y,hy⟩: ∃x,p[i]?=some x:=⟨_,List.getElem?_eq_getElem (by omega)⟩
  refine bD<|sp hT ?_;refine nn<|bQ<|pH (ι:=Nat×List Mono×Option Addr×Nat) (fun⟨k,cur',C',e'⟩=>[(0,.slice A p.length c),(1,.slice B q.length d),(6,.slice C' cur'.length e'),(7,.int .i64 (i:Nat)),(8,.int .i64 (k:Nat))]) (fun⟨k,cur',C',e'⟩=>[dY.row (.slice C' cur'.length e') 45 cur']) (fun⟨k,cur',C',e'⟩=>[bI.pure (k≤q.length∧cur'=kU cur ((q.take k).map (mulM y))),dY.sl (.slice A p.length c) p,dY.sl (.slice B q.length d) q]) (fun⟨k,cur',C',e'⟩=>q.length-k) (0,cur,C,e) ⟨rfl,rfl,rfl,rfl,rfl,trivial⟩ (.cons .head .nil) ⟨Has.pure (⟨by omega,by rfl⟩),Has.of mT1,Has.of mT2,trivial⟩ ?_;rintro⟨k,cur',C',e'⟩;dsimp only;refine bX (Has.of mT0) fun hinv8=>?_;have hcl':cur'.length≤cur.length+k:=by rw [hinv8.2];refine Nat.le_trans (vN _ _) (by simp;omega)
  refine bF<|sr<|sp4 hT ?_;refine nn<|bO rfl (fun hc28=>?_) (fun hc28=>?_)
  ·have hc28:=of_decide_eq_true hc28;refine bM<|bE<|bF<|bQ<|bF<|dX _ _ [(true,0),(true,1),(true,2),(true,3),(true,4),(true,5),(true,6),(true,7),(true,8),(true,9),(true,10),(true,11),(false,12),(false,13)] fH (by decide+kernel) (.cons .head .nil) bH.self ?_;refine puM hT ?_;refine puM hT ?_;refine stM rfl (bG hT (k:=i) (bC (Has.of mT1)) rfl rfl rfl rfl rfl rfl rfl (by omega)) ?_;refine puM hT ?_;refine stM rfl (bR hT (bV.knows (bC (Has.of mT1)) hy 0) rfl rfl rfl rfl rfl) ?_;refine puM hT ?_;refine puM hT ?_
   obtain⟨x1,hx2⟩: ∃x,q[k]?=some x:=⟨_,List.getElem?_eq_getElem (by omega)⟩
   refine stM rfl (bG hT (k:=k) (bC (Has.of mT2)) rfl rfl rfl rfl rfl rfl rfl (by omega)) ?_;refine puM hT ?_;refine stM rfl (bR hT (bV.knows (bC (Has.of mT2)) hx2 0) rfl rfl rfl rfl rfl) ?_;refine puM hT ?_;refine stM rfl (iV rfl rfl (built_n _)) ?_;refine dA (o:=_) rfl ?_;refine fC rfl rfl rfl rfl monoZero rfl fun b3=>?_;refine dB (.cons kT1 .nil) ⟨Has.of mT0,Has.of mT1,Has.of mT2,trivial⟩ ?_;refine dA (o:=_) rfl ?_;refine sto hT .head ?_;refine dB (.cons kT1 .nil) ⟨Has.of mT0,Has.of mT1,Has.of mT2,trivial⟩ ?_;refine cJ<|bE<|bF<|sr<|sp hT ?_;refine nn<|bQ<|xY 7 ?_;refine lY ?_;refine bF<|sr<|sp2 hT ?_;refine nn<|cW rfl (by decide) ?_;refine bM<|bE<|bF<|bQ<|dX _ _ [(true,0),(true,1),(true,2),(true,3),(true,4),(true,5),(true,6),(true,7),(true,8),(true,9),(true,10),(true,11),(true,12),(true,13),(true,14),(true,15),(true,16),(true,17),(false,18)] fH (by decide+kernel) (.cons kT1 .nil) bH.self ?_;refine puM hT ?_;refine puM hT ?_;refine puM hT ?_;refine puM hT ?_;refine stM rfl (bG hT (k:=i) (bC (Has.of mT1)) rfl rfl rfl rfl rfl rfl rfl (by omega)) ?_;refine puM hT ?_;refine stM rfl (cQ hT (k:=0) rfl rfl rfl rfl rfl rfl (by omega)) ?_;refine stM rfl (bR hT (bV.knows (bC (Has.of mT1)) hy 1) rfl rfl rfl rfl rfl) ?_;refine puM hT ?_;refine puM hT ?_;refine puM hT ?_;refine stM rfl (bG hT (k:=k) (bC (Has.of mT2)) rfl rfl rfl rfl rfl rfl rfl (by omega)) ?_;refine puM hT ?_;refine stM rfl (cQ hT (k:=0) rfl rfl rfl rfl rfl rfl (by omega)) ?_;refine stM rfl (bR hT (bV.knows (bC (Has.of mT2)) hx2 1) rfl rfl rfl rfl rfl) ?_;refine puM hT ?_;refine bT (tV _ _) ?_;refine puM hT ?_;refine stM rfl (cQ hT (k:=0) rfl rfl rfl rfl rfl rfl (by omega)) ?_;refine dA (o:=_) rfl ?_;refine sto hT .head ?_;refine dB (.cons kT1 .nil) ⟨Has.of mT0,Has.of mT1,Has.of mT2,trivial⟩ ?_;refine cJ<|bU<|bE<|bD<|sp2 hT ?_;refine bT (z':=((1:Nat):Int)) (cO (by omega) (by omega)) ?_;refine sp hT ?_;refine nn<|lY ?_;refine bF<|sr<|sp2 hT ?_;refine nn<|cW rfl (by decide) ?_;refine bM<|bE<|bF<|bQ<|dX _ _ [(true,0),(true,1),(true,2),(true,3),(true,4),(true,5),(true,6),(true,7),(true,8),(true,9),(true,10),(true,11),(true,12),(true,13),(true,14),(true,15),(true,16),(true,17),(false,18)] fH (by decide+kernel) (.cons kT1 .nil) bH.self ?_;refine puM hT ?_;refine puM hT ?_;refine puM hT ?_;refine puM hT ?_;refine stM rfl (bG hT (k:=i) (bC (Has.of mT1)) rfl rfl rfl rfl rfl rfl rfl (by omega)) ?_;refine puM hT ?_;refine stM rfl (cQ hT (k:=1) rfl rfl rfl rfl rfl rfl (by omega)) ?_;refine stM rfl (bR hT (bV.knows (bC (Has.of mT1)) hy 2) rfl rfl rfl rfl rfl) ?_;refine puM hT ?_;refine puM hT ?_;refine puM hT ?_;refine stM rfl (bG hT (k:=k) (bC (Has.of mT2)) rfl rfl rfl rfl rfl rfl rfl (by omega)) ?_;refine puM hT ?_;refine stM rfl (cQ hT (k:=1) rfl rfl rfl rfl rfl rfl (by omega)) ?_;refine stM rfl (bR hT (bV.knows (bC (Has.of mT2)) hx2 2) rfl rfl rfl rfl rfl) ?_;refine puM hT ?_;refine bT (tV _ _) ?_;refine puM hT ?_;refine stM rfl (cQ hT (k:=1) rfl rfl rfl rfl rfl rfl (by omega)) ?_;refine dA (o:=_) rfl ?_;refine sto hT .head ?_;refine dB (.cons kT1 .nil) ⟨Has.of mT0,Has.of mT1,Has.of mT2,trivial⟩ ?_;refine cJ<|bU<|bE<|bD<|sp2 hT ?_;refine bT (z':=((2:Nat):Int)) (cO (by omega) (by omega)) ?_;refine sp hT ?_;refine nn<|lY ?_;refine bF<|sr<|sp2 hT ?_;refine nn<|cW rfl (by decide) ?_;refine bM<|bE<|bF<|bQ<|dX _ _ [(true,0),(true,1),(true,2),(true,3),(true,4),(true,5),(true,6),(true,7),(true,8),(true,9),(true,10),(true,11),(true,12),(true,13),(true,14),(true,15),(true,16),(true,17),(false,18)] fH (by decide+kernel) (.cons kT1 .nil) bH.self ?_;refine puM hT ?_;refine puM hT ?_;refine puM hT ?_;refine puM hT ?_;refine stM rfl (bG hT (k:=i) (bC (Has.of mT1)) rfl rfl rfl rfl rfl rfl rfl (by omega)) ?_;refine puM hT ?_;refine stM rfl (cQ hT (k:=2) rfl rfl rfl rfl rfl rfl (by omega)) ?_;refine stM rfl (bR hT (bV.knows (bC (Has.of mT1)) hy 3) rfl rfl rfl rfl rfl) ?_;refine puM hT ?_;refine puM hT ?_;refine puM hT ?_;refine stM rfl (bG hT (k:=k) (bC (Has.of mT2)) rfl rfl rfl rfl rfl rfl rfl (by omega)) ?_;refine puM hT ?_;refine stM rfl (cQ hT (k:=2) rfl rfl rfl rfl rfl rfl (by omega)) ?_;refine stM rfl (bR hT (bV.knows (bC (Has.of mT2)) hx2 3) rfl rfl rfl rfl rfl) ?_;refine puM hT ?_;refine bT (tV _ _) ?_;refine puM hT ?_;refine stM rfl (cQ hT (k:=2) rfl rfl rfl rfl rfl rfl (by omega)) ?_;refine dA (o:=_) rfl ?_;refine sto hT .head ?_;refine dB (.cons kT1 .nil) ⟨Has.of mT0,Has.of mT1,Has.of mT2,trivial⟩ ?_;refine cJ<|bU<|bE<|bD<|sp2 hT ?_;refine bT (z':=((3:Nat):Int)) (cO (by omega) (by omega)) ?_;refine sp hT ?_;refine nn<|lY ?_;refine bF<|sr<|sp2 hT ?_;refine nn<|cW rfl (by decide) ?_;refine bM<|bE<|bF<|bQ<|dX _ _ [(true,0),(true,1),(true,2),(true,3),(true,4),(true,5),(true,6),(true,7),(true,8),(true,9),(true,10),(true,11),(true,12),(true,13),(true,14),(true,15),(true,16),(true,17),(false,18)] fH (by decide+kernel) (.cons kT1 .nil) bH.self ?_;refine puM hT ?_;refine puM hT ?_;refine puM hT ?_;refine puM hT ?_;refine stM rfl (bG hT (k:=i) (bC (Has.of mT1)) rfl rfl rfl rfl rfl rfl rfl (by omega)) ?_;refine puM hT ?_;refine stM rfl (cQ hT (k:=3) rfl rfl rfl rfl rfl rfl (by omega)) ?_;refine stM rfl (bR hT (bV.knows (bC (Has.of mT1)) hy 4) rfl rfl rfl rfl rfl) ?_;refine puM hT ?_;refine puM hT ?_;refine puM hT ?_;refine stM rfl (bG hT (k:=k) (bC (Has.of mT2)) rfl rfl rfl rfl rfl rfl rfl (by omega)) ?_;refine puM hT ?_;refine stM rfl (cQ hT (k:=3) rfl rfl rfl rfl rfl rfl (by omega)) ?_;refine stM rfl (bR hT (bV.knows (bC (Has.of mT2)) hx2 4) rfl rfl rfl rfl rfl) ?_;refine puM hT ?_;refine bT (tV _ _) ?_;refine puM hT ?_;refine stM rfl (cQ hT (k:=3) rfl rfl rfl rfl rfl rfl (by omega)) ?_;refine dA (o:=_) rfl ?_;refine sto hT .head ?_;refine dB (.cons kT1 .nil) ⟨Has.of mT0,Has.of mT1,Has.of mT2,trivial⟩ ?_;refine cJ<|bU<|bE<|bD<|sp2 hT ?_;refine bT (z':=((4:Nat):Int)) (cO (by omega) (by omega)) ?_;refine sp hT ?_;refine nn<|lY ?_;refine bF<|sr<|sp2 hT ?_;refine nn<|cW rfl (by decide) ?_;refine bM<|bE<|bF<|bQ<|dX _ _ [(true,0),(true,1),(true,2),(true,3),(true,4),(true,5),(true,6),(true,7),(true,8),(true,9),(true,10),(true,11),(true,12),(true,13),(true,14),(true,15),(true,16),(true,17),(false,18)] fH (by decide+kernel) (.cons kT1 .nil) bH.self ?_;refine puM hT ?_;refine puM hT ?_;refine puM hT ?_;refine puM hT ?_;refine stM rfl (bG hT (k:=i) (bC (Has.of mT1)) rfl rfl rfl rfl rfl rfl rfl (by omega)) ?_;refine puM hT ?_;refine stM rfl (cQ hT (k:=4) rfl rfl rfl rfl rfl rfl (by omega)) ?_;refine stM rfl (bR hT (bV.knows (bC (Has.of mT1)) hy 5) rfl rfl rfl rfl rfl) ?_;refine puM hT ?_;refine puM hT ?_;refine puM hT ?_;refine stM rfl (bG hT (k:=k) (bC (Has.of mT2)) rfl rfl rfl rfl rfl rfl rfl (by omega)) ?_;refine puM hT ?_;refine stM rfl (cQ hT (k:=4) rfl rfl rfl rfl rfl rfl (by omega)) ?_;refine stM rfl (bR hT (bV.knows (bC (Has.of mT2)) hx2 5) rfl rfl rfl rfl rfl) ?_;refine puM hT ?_;refine bT (tV _ _) ?_;refine puM hT ?_;refine stM rfl (cQ hT (k:=4) rfl rfl rfl rfl rfl rfl (by omega)) ?_;refine dA (o:=_) rfl ?_;refine sto hT .head ?_;refine dB (.cons kT1 .nil) ⟨Has.of mT0,Has.of mT1,Has.of mT2,trivial⟩ ?_;refine cJ<|bU<|bE<|bD<|sp2 hT ?_;refine bT (z':=((5:Nat):Int)) (cO (by omega) (by omega)) ?_;refine sp hT ?_;refine nn<|lY ?_;refine bF<|sr<|sp2 hT ?_;refine nn<|cW rfl (by decide) ?_;refine bM<|bE<|bF<|bQ<|dX _ _ [(true,0),(true,1),(true,2),(true,3),(true,4),(true,5),(true,6),(true,7),(true,8),(true,9),(true,10),(true,11),(true,12),(true,13),(true,14),(true,15),(true,16),(true,17),(false,18)] fH (by decide+kernel) (.cons kT1 .nil) bH.self ?_;refine puM hT ?_;refine puM hT ?_;refine puM hT ?_;refine puM hT ?_;refine stM rfl (bG hT (k:=i) (bC (Has.of mT1)) rfl rfl rfl rfl rfl rfl rfl (by omega)) ?_;refine puM hT ?_;refine stM rfl (cQ hT (k:=5) rfl rfl rfl rfl rfl rfl (by omega)) ?_;refine stM rfl (bR hT (bV.knows (bC (Has.of mT1)) hy 6) rfl rfl rfl rfl rfl) ?_;refine puM hT ?_;refine puM hT ?_;refine puM hT ?_;refine stM rfl (bG hT (k:=k) (bC (Has.of mT2)) rfl rfl rfl rfl rfl rfl rfl (by omega)) ?_;refine puM hT ?_;refine stM rfl (cQ hT (k:=5) rfl rfl rfl rfl rfl rfl (by omega)) ?_;refine stM rfl (bR hT (bV.knows (bC (Has.of mT2)) hx2 6) rfl rfl rfl rfl rfl) ?_;refine puM hT ?_;refine bT (tV _ _) ?_;refine puM hT ?_;refine stM rfl (cQ hT (k:=5) rfl rfl rfl rfl rfl rfl (by omega)) ?_;refine dA (o:=_) rfl ?_;refine sto hT .head ?_;refine dB (.cons kT1 .nil) ⟨Has.of mT0,Has.of mT1,Has.of mT2,trivial⟩ ?_;refine cJ<|bU<|bE<|bD<|sp2 hT ?_;refine bT (z':=((6:Nat):Int)) (cO (by omega) (by omega)) ?_;refine sp hT ?_;refine nn<|lY ?_;refine bF<|sr<|sp2 hT ?_;refine nn<|fM rfl (by decide) ?_;refine cS<|bZ<|bZ<|cR<|bE<|bD<|sp hT ?_;refine ss (ldN hT (dC .head)) ?_;refine cU Tryz.func182 (put_spec _ _ cur' ⟨_,_,_,_,_,_,_⟩ (by omega)) rfl rfl (.cons kT1 .nil) trivial fun⟨B4,c5⟩=>?_;refine sp hT ?_;refine gH<|bU<|bE<|bD<|sp2 hT ?_;refine bT (z':=(((k+1):Nat):Int)) (cO (by omega) (by omega)) ?_;refine sp hT ?_;refine nn ?_;exact nZ (k+1,_,_,_) (by dsimp only;omega) ⟨rfl,rfl,rfl,rfl,rfl,trivial⟩ (.cons .head .nil) ⟨Has.pure (by refine⟨by omega,?_⟩;rw [List.take_add_one,‹q[k]?=some _›,Option.toList_some,List.map_append,List.map_singleton,putAll_snoc,←hinv8.2,mulM,←wrap_eq];rfl),Has.of mT1,Has.of mT2,trivial⟩
  have hc28:=Int.not_lt.1 (of_decide_eq_false hc28);refine cS<|bZ<|bZ<|cR<|bU<|bE<|bD<|sp2 hT ?_;refine bT (z':=(((i+1):Nat):Int)) (cO (by omega) (by omega)) ?_;refine sp hT ?_;refine nn ?_;exact nZ (i+1,_,_,_) (by dsimp only;omega) ⟨rfl,rfl,rfl,rfl,trivial⟩ (.cons .head .nil) ⟨Has.pure (by refine⟨by omega,?_⟩;rw [List.take_add_one,hy,Option.toList_some,List.flatMap_append,List.flatMap_singleton,uL,←hinv5.2,hinv8.2,List.take_of_length_le (by omega)]),Has.of mT1,Has.of mT2,trivial⟩
 have hc22:=Int.not_lt.1 (of_decide_eq_false hc22);refine cS<|bZ<|bZ<|cR<|bE<|sr<|sp hT ?_;refine fP (bP Tryz.func183 rfl rfl) (whole_spec _ _ cur (by omega)) rfl rfl rfl rfl rfl .nil (.cons .head .nil) (pX iW) ⟨Has.of mT0,trivial⟩ (fun _=>True) (fun _ _ _ _=>trivial) fun⟨B6,c7⟩ _=>?_;refine sp4 hT ?_;refine nn<|bK ?_;have hw:lE p q=nJ cur:=by unfold lE;rw [hrp,hrq,hinv5.2,List.take_of_length_le (by omega)];rfl
 rw [hw];exact rU (B6,c7) rfl rfl rfl rfl (.cons .head .nil) trivial
end Go.Proofs.YtofjmphlpdhohaaGreatDoor
namespace Go.Proofs.YtofjmphlpdhohaaGreatDoor
open Go.RowKit Go.Sort
def dQ (a b:Int):Prop:=(18446744073709551616:Int)∣a-b
theorem dQ.refl(a:Int):dQ a a:=by unfold dQ;omega
theorem dQ.of_eq{a b:Int}(h:a=b):dQ a b:=by unfold dQ;omega
theorem dQ.symm{a b:Int}(h:dQ a b):dQ b a:=by unfold dQ at*;omega
theorem dQ.trans{a b c:Int}(h:dQ a b)(h2:dQ b c):dQ a c:=by unfold dQ at*;omega
theorem dQ.add{a b c d:Int}(h:dQ a b)(h2:dQ c d):dQ (a+c) (b+d):=by unfold dQ at*;omega
theorem dQ.sub{a b c d:Int}(h:dQ a b)(h2:dQ c d):dQ (a-c) (b-d):=by unfold dQ at*;omega
theorem dQ.mul{a b:Int}(h:dQ a b)(c:Int):dQ (a*c) (b*c):=by
 unfold dQ at*;rw [←Int.sub_mul];exact Int.dvd_trans h (Int.dvd_mul_right _ _)
theorem pS(a:Int):dQ (wrap64 a) a:=by unfold dQ wrap64;omega
theorem vL(a:Int): -9223372036854775808≤wrap64 a∧wrap64 a<9223372036854775808:=by unfold wrap64;omega
theorem dQ.eq{a b:Int}(h:dQ a b)(h1: -9223372036854775808≤a∧a<9223372036854775808)(h2: -9223372036854775808≤b∧b<9223372036854775808):a=b:=by
 unfold dQ at h;omega
def Ext (F:Mono→Int):Prop:= ∀a b:Mono,a.key=b.key→F a=F b
def cY (f:Mono→Int):List Mono→Int
 | []=>0
 | m::l=>f m+cY f l
def lin (F:Mono→Int)(L:List Mono):Int:=cY (fun m=>m.n*F m) L
theorem sumOf_perm(f:Mono→Int){l m:List Mono}(h:l.Perm m):cY f l=cY f m:=by
 induction h with
 | nil=>rfl
 | cons x _ ih=>simp only [cY,ih]
 | swap x y l=>simp only [cY];omega
 | trans _ _ ih1 ih2=>rw [ih1,ih2]
theorem bHi(f g:Mono→Int): ∀l,cY (fun m=>f m+g m) l=cY f l+cY g l
 | []=>rfl
 | m::l=>by simp only [cY,bHi f g l];omega
theorem bDd: ∀l,cY (fun _=>0) l=0
 | []=>rfl
 | m::l=>by simp only [cY,bDd l];omega
theorem tY(f:Mono→Int)(c:Int): ∀l,cY (fun m=>f m*c) l=cY f l*c
 | []=>by simp [cY]
 | m::l=>by simp only [cY,tY f c l,Int.add_mul]
theorem bDj(f:Mono→Mono→Int)(q:List Mono): ∀p,cY (fun a=>cY (fun b=>f a b) q) p=cY (fun b=>cY (fun a=>f a b) p) q
 | []=>by simp only [cY,bDd]
 | a::p=>by simp only [cY,bDj f q p,bHi]
theorem mZ{f g:Mono→Int}: ∀{l:List Mono},(∀m∈l,f m=g m)→cY f l=cY g l
 | [],_=>rfl
 | m::l,h=>by simp only [cY];rw [h m (by simp),mZ fun x hx=>h x (by simp [hx])]
theorem bDv{f g:Mono→Int}: ∀{l:List Mono},(∀m∈l,dQ (f m) (g m))→dQ (cY f l) (cY g l)
 | [],_=>dQ.refl _
 | m::l,h=>(h m (by simp)).add (bDv fun x hx=>h x (by simp [hx]))
theorem bHf(F:Mono→Int)(L:List Mono):lin F (iY L)=lin F L:=by
 unfold lin iY;rw [sumOf_perm _ (List.mergeSort_perm _ _)]
 induction L with
 | nil=>rfl
 | cons m l ih=>
  by_cases h:m.n=0
  ·rw [List.filter_cons_of_neg (by simp [h]),ih];simp [cY,h]
  ·rw [List.filter_cons_of_pos (by simp [h])];simp only [cY,ih]
theorem yA{F:Mono→Int}(hF:Ext F)(k:Mono)(x:Int): ∀L,lin F (setTo k x L)=lin F L+(x-lS k L)*F k
 | []=>by
  have:F {k with n:=x}=F k:=hF _ _ rfl;simp only [lin,setTo,lS,cY,this];simp
 | m::L=>by
  have hk:F {k with n:=x}=F k:=hF _ _ rfl;have ih:=yA hF k x L;unfold lin at ih;unfold setTo lS lin
  by_cases h:k.sameE m=true
  ·have h2:F m=F k:=hF _ _ (sameE_E.1 h).symm;simp only [if_pos h,cY,hk,h2,Int.sub_mul];omega
  ·simp only [if_neg h,cY,ih];omega
theorem bGy{F:Mono→Int}(hF:Ext F)(m:Mono)(v:Int)(L:List Mono):dQ (lin F (oM m v L)) (lin F L+v*F m):=by
 unfold oM;rw [yA hF];refine(dQ.refl _).add (dQ.mul ?_ _);have:=pS (lS m L+v);unfold dQ at*;omega
theorem vQ{F:Mono→Int}(hF:Ext F)(g:Mono→Int): ∀(p L:List Mono),dQ (lin F (fN g L p)) (lin F L+cY (fun m=>g m*F m) p)
 | [],L=>by simp only [fN,cY,Int.add_zero];exact dQ.refl _
 | m::p,L=>by
  refine(vQ hF g p (oM m (g m) L)).trans ?_;refine((bGy hF m (g m) L).add (dQ.refl _)).trans (dQ.of_eq ?_);simp only [cY];omega
theorem bDh{F:Mono→Int}(hF:Ext F)(a:Mono): ∀(q L:List Mono),dQ (lin F (jD a L q)) (lin F L+cY (fun b=>a.n*b.n*F (mulM a b)) q)
 | [],L=>by simp only [jD,cY,Int.add_zero];exact dQ.refl _
 | b::q,L=>by
  refine(bDh hF a q _).trans ?_;refine(((bGy hF (mulM a b) _ L).trans ((dQ.refl _).add ((pS _).mul _))).add (dQ.refl _)).trans (dQ.of_eq ?_);simp only [cY];omega
theorem bEv{F:Mono→Int}(hF:Ext F)(q:List Mono): ∀(p L:List Mono),dQ (lin F (gE q L p)) (lin F L+cY (fun a=>cY (fun b=>a.n*b.n*F (mulM a b)) q) p)
 | [],L=>by simp only [gE,cY,Int.add_zero];exact dQ.refl _
 | a::p,L=>by
  refine(bEv hF q p _).trans ?_;refine((bDh hF a q L).add (dQ.refl _)).trans (dQ.of_eq ?_);simp only [cY];omega
def Fit (L:List Mono):Prop:= ∀m∈L,-9223372036854775808≤m.n∧m.n<9223372036854775808
theorem bGi(m:Mono)(v:Int){L:List Mono}(h:Fit L):Fit (oM m v L):=fun y hy=>by
 rcases uA hy with rfl | hy
 ·exact vL _
 ·exact h y hy
theorem vC(g:Mono→Int): ∀(p:List Mono) {L:List Mono},Fit L→Fit (fN g L p)
 | [],_,h=>h
 | _::p,_,h=>vC g p (bGi _ _ h)
theorem bDm(a:Mono): ∀(q:List Mono) {L:List Mono},Fit L→Fit (jD a L q)
 | [],_,h=>h
 | _::q,_,h=>bDm a q (bGi _ _ h)
theorem bCd(q:List Mono): ∀(p:List Mono) {L:List Mono},Fit L→Fit (gE q L p)
 | [],_,h=>h
 | a::p,_,h=>bCd q p (bDm a q h)
theorem fit_nil:Fit []:=fun _ h=>by simp at h
def ind (k:Nat)(m:Mono):Int:=if m.key=k then 1 else 0
theorem ext_ind(k:Nat):Ext (ind k):=fun a b h=>by unfold ind;rw [h]
theorem gK(F:Mono→Int)(m:Mono)(L:List Mono):lin F (m::L)=m.n*F m+lin F L:=rfl
theorem ind_ne{k:Nat}{m:Mono}(h:m.key≠k):ind k m=0:=if_neg h
theorem ind_self(m:Mono):ind m.key m=1:=if_pos rfl
theorem qI{k:Nat}: ∀{L:List Mono},(∀y∈L,y.key≠k)→lin (ind k) L=0
 | [],_=>rfl
 | m::L,h=>by
  rw [gK,qI (L:=L) (k:=k) fun y hy=>h y (by simp [hy]),ind_ne (h m (by simp))];simp
theorem wZ{x:Mono}: ∀{L:List Mono},gP L→x∈L→lin (ind x.key) L=x.n
 | [],_,h=>by simp at h
 | m::L,hA,h=>by
  obtain⟨h1,h2⟩:=List.pairwise_cons.1 hA;rw [gK]
  rcases List.mem_cons.1 h with rfl | h
  ·rw [qI (L:=L) (k:=x.key) fun y hy=>Ne.symm (h1 y hy),ind_self];simp
  ·rw [wZ h2 h,ind_ne (h1 x h)];simp
theorem bGh{L L':List Mono}(hA:gP L)(hf:Fit L)(hA':gP L')(hf':Fit L')(h: ∀F,Ext F→dQ (lin F L) (lin F L')){x:Mono}(hx:x∈iY L):x∈iY L':=by
 obtain⟨hx,h0⟩:=yS.1 hx;have e:=h _ (ext_ind x.key);rw [wZ hA hx] at e;have hfx:=hf x hx
 by_cases hy: ∃y∈L',y.key=x.key
 ·obtain⟨y,hy,hk⟩:=hy;rw [←hk,wZ hA' hy] at e;have hn:=e.eq hfx (hf' y hy);rw [eq_of_key hk.symm hn] at h0⊢;exact yS.2 ⟨hy,h0⟩
 ·rw [qI fun y h1 h2=>hy ⟨y,h1,h2⟩] at e;exact absurd (e.eq hfx (by omega)) h0
theorem vP{L L':List Mono}(hA:gP L)(hf:Fit L)(hA':gP L')(hf':Fit L')(h: ∀F,Ext F→dQ (lin F L) (lin F L')):iY L=iY L':=
 lK.ext (rV hA) (rV hA') fun _=>⟨bGh hA hf hA' hf' h,bGh hA' hf' hA hf fun F hF=>(h F hF).symm⟩
theorem pJ: ∀{l:List Mono} {o:Option Mono},dL o l=true→lK l∧(∀a,o=some a→ ∀m∈l,m.key<a.key)∧(∀m∈l,fZ m=true)
 | [],_,_=>⟨by simp [lK],by simp,by simp⟩
 | m::l,none,h=>by
  rw [dL,Bool.and_eq_true] at h;obtain⟨h1,h2,h3⟩:=pJ h.2;refine⟨List.pairwise_cons.2 ⟨fun b hb=>h2 m rfl b hb,h1⟩,by simp,?_⟩;intro x hx
  rcases List.mem_cons.1 hx with rfl | hx
  ·exact h.1
  ·exact h3 x hx
 | m::l,some a,h=>by
  rw [dL,Bool.and_eq_true,Bool.and_eq_true,decide_eq_true_eq] at h;obtain⟨h1,h2,h3⟩:=pJ h.2.2;have hk:=(ord_lt _ _).1 h.2.1;refine⟨List.pairwise_cons.2 ⟨fun b hb=>h2 m rfl b hb,h1⟩,?_,?_⟩
  ·intro a' ha x hx;obtain rfl:a=a':=Option.some.inj ha
   rcases List.mem_cons.1 hx with rfl | hx
   ·exact hk
   ·exact Nat.lt_trans (h2 m rfl x hx) hk
  ·intro x hx
   rcases List.mem_cons.1 hx with rfl | hx
   ·exact h.1
   ·exact h3 x hx
theorem mN{p:List Mono}(h:cH p=true):lK p∧(∀m∈p,fZ m=true)∧p.length≤48:=by
 simp only [cH,Bool.and_eq_true,decide_eq_true_eq] at h;exact⟨(pJ h.2).1,(pJ h.2).2.2,h.1⟩
theorem zS{p:List Mono}(h:cH p=true):gP p:=(mN h).1.apart
def zD (p q:List Mono)(s:Int):List Mono:=fN (fun m=>wrap64 (s*m.n)) (fN Mono.n [] p) q
theorem bHz:gP []:=by simp [gP]
theorem zY(p q:List Mono)(s:Int):gP (zD p q s):=jA _ _ (jA _ _ bHz)
theorem bHo(p q:List Mono)(s:Int):Fit (zD p q s):=vC _ _ (vC _ _ fit_nil)
theorem bIg{F:Mono→Int}(hF:Ext F)(p q:List Mono)(s:Int):dQ (lin F (zD p q s)) (lin F p+s*lin F q):=by
 refine(vQ hF _ q _).trans ?_;refine dQ.add ((vQ hF _ p _).trans (dQ.of_eq ?_)) ?_
 ·simp only [lin,cY,Int.zero_add]
 ·unfold lin;rw [Int.mul_comm,←tY];refine bDv fun m _=>((pS _).mul _).trans (dQ.of_eq ?_);rw [Int.mul_comm s,Int.mul_assoc,Int.mul_comm s,Int.mul_assoc]
theorem bBn{F:Mono→Int}(hF:Ext F)(p q:List Mono):dQ (lin F (gE q [] p)) (cY (fun a=>cY (fun b=>a.n*b.n*F (mulM a b)) q) p):=by
 refine(bEv hF q p []).trans (dQ.of_eq ?_);simp only [lin,cY,Int.zero_add]
theorem vB(p q:List Mono):gP (gE q [] p):=nT _ _ bHz
theorem bEt(p q:List Mono):Fit (gE q [] p):=bCd _ _ fit_nil
theorem mulM_comm(a b:Mono):mulM a b=mulM b a:=by
 simp only [mulM,Int.mul_comm a.n,UInt8.add_comm a.e0,UInt8.add_comm a.e1,UInt8.add_comm a.e2,UInt8.add_comm a.e3,UInt8.add_comm a.e4,UInt8.add_comm a.e5]
theorem bothP_L(p q:List Mono)(s:Int):bothP p q s=if cH p&&cH q then fS (zD p q s) else ([],20):=rfl
theorem add_comm(p q:List Mono):bothP p q 1=bothP q p 1:=by
 have h:iY (zD p q 1)=iY (zD q p 1):=vP (zY _ _ _) (bHo _ _ _) (zY _ _ _) (bHo _ _ _) fun F hF=>
  (bIg hF p q 1).trans ((dQ.of_eq (by omega)).trans (bIg hF q p 1).symm)
 rw [bothP_L,bothP_L,Bool.and_comm];unfold fS;rw [h]
theorem mul_comm(p q:List Mono):jN p q=jN q p:=by
 have h:iY (gE q [] p)=iY (gE p [] q):=vP (vB _ _) (bEt _ _) (vB _ _) (bEt _ _) fun F hF=>
  (bBn hF p q).trans ((dQ.of_eq (by
   rw [bDj];refine mZ fun b _=>mZ fun a _=>?_
   rw [mulM_comm,Int.mul_comm a.n])).trans (bBn hF q p).symm)
 unfold jN;rw [Bool.and_comm];unfold fS;rw [h]
theorem both_ok{p q a:List Mono}{s:Int}(h:bothP p q s=(a,0)):cH p=true∧cH q=true∧a=iY (zD p q s)∧cH a=true:=by
 unfold bothP fS at h;split at h
 ·rename_i h1;simp only [Bool.and_eq_true] at h1;split at h
  ·rename_i h2;injection h with h _
   refine⟨h1.1,h1.2,h.symm,?_⟩;rw [←h];exact h2
  ·simp at h
 ·simp at h
theorem mul_ok{p q a:List Mono}(h:jN p q=(a,0)):cH p=true∧cH q=true∧a=iY (gE q [] p)∧cH a=true:=by
 unfold jN fS at h;split at h
 ·rename_i h1;simp only [Bool.and_eq_true] at h1;split at h
  ·rename_i h2;injection h with h _
   refine⟨h1.1,h1.2,h.symm,?_⟩;rw [←h];exact h2
  ·simp at h
 ·simp at h
end Go.Proofs.YtofjmphlpdhohaaGreatDoor
namespace Go.Proofs.YtofjmphlpdhohaaGreatDoor
open Go.RowKit
theorem lin_put{F:Mono→Int}(hF:Ext F)(m:Mono): ∀l:List Mono,dQ (lin F (lA m l)) (lin F l+m.n*F m)
 | []=>dQ.of_eq (by rw [lA,gK];show _=(0:Int)+_;have:lin F []=0:=rfl;omega)
 | a::l=>by
  have ih:=lin_put hF m l;rw [lA];split
  ·rw [gK,gK];exact((dQ.refl (a.n*F a)).add ih).trans (dQ.of_eq (by omega))
  ·split
   ·rename_i hk;have e1:F ⟨wrap64 (a.n+m.n),a.e0,a.e1,a.e2,a.e3,a.e4,a.e5⟩=F a:=hF _ _ rfl;rw [gK,gK,e1,←hF a m hk];have h:=((pS (a.n+m.n)).mul (F a)).add (dQ.refl (lin F l));have e:(a.n+m.n)*F a+lin F l=a.n*F a+lin F l+m.n*F a:=by rw [Int.add_mul];omega
    exact e▸h
   ·rw [gK];exact dQ.of_eq (by omega)
theorem bAz{F:Mono→Int}(hF:Ext F): ∀(l acc:List Mono),dQ (lin F (kU acc l)) (lin F acc+lin F l)
 | [],acc=>dQ.of_eq (by show lin F acc=_;have:lin F []=0:=rfl;omega)
 | m::l,acc=>by
  have h:=bAz hF l (lA m acc);have h2:=(lin_put hF m acc).add (dQ.refl (lin F l));rw [gK];exact h.trans (h2.trans (dQ.of_eq (by omega)))
theorem bHm(m:Mono): ∀{l:List Mono},lK l→lK (lA m l)∧ ∀k,m.key<k→(∀y∈l,y.key<k)→ ∀y∈lA m l,y.key<k
 | [],_=>by simp [lA,lK]
 | a::l,h=>by
  obtain⟨h1,h2⟩:=List.pairwise_cons.1 h;obtain⟨i1,i2⟩:=bHm m h2
  have key: ∀y∈lA m (a::l),y.key≤m.key∨y.key≤a.key:=fun y hy=>by
   rw [lA] at hy;split at hy
   ·rename_i hk
    rcases List.mem_cons.1 hy with rfl | hy
    ·exact .inr (Nat.le_refl _)
    ·exact .inr (Nat.le_of_lt (i2 a.key hk h1 y hy))
   ·split at hy
    ·rcases List.mem_cons.1 hy with rfl | hy
     ·exact .inr (Nat.le_refl _)
     ·exact .inr (Nat.le_of_lt (h1 y hy))
    ·rcases List.mem_cons.1 hy with rfl | hy
     ·exact .inl (Nat.le_refl _)
     ·rcases List.mem_cons.1 hy with rfl | hy
      ·exact .inr (Nat.le_refl _)
      ·exact .inr (Nat.le_of_lt (h1 y hy))
  refine⟨?_,fun k hk hl y hy=>?_⟩
  ·rw [lA];split
   ·rename_i hk;exact List.pairwise_cons.2 ⟨fun y hy=>i2 a.key hk h1 y hy,i1⟩
   ·split
    ·exact List.pairwise_cons.2 ⟨fun y hy=>h1 y hy,h2⟩
    ·refine List.pairwise_cons.2 ⟨fun y hy=>?_,h⟩
     rcases List.mem_cons.1 hy with rfl | hy
     ·omega
     ·have:=h1 y hy;omega
  ·have ha:=hl a (List.mem_cons_self ..)
   rcases key y hy with h | h<;>omega
theorem wQ: ∀(l:List Mono) {acc:List Mono},lK acc→lK (kU acc l)
 | [],_,h=>h
 | m::l,_,h=>wQ l (bHm m h).1
theorem fit_put{m:Mono}(hm: -9223372036854775808≤m.n∧m.n<9223372036854775808): ∀{l:List Mono},Fit l→Fit (lA m l)
 | [],_=>fun y hy=>by
  rw [lA] at hy;rw [List.mem_singleton.1 hy];exact hm
 | a::l,h=>fun y hy=>by
  have hl:Fit l:=fun x hx=>h x (List.mem_cons_of_mem _ hx);rw [lA] at hy;split at hy
  ·rcases List.mem_cons.1 hy with rfl | hy
   ·exact h _ (List.mem_cons_self ..)
   ·exact fit_put hm hl y hy
  ·split at hy
   ·rcases List.mem_cons.1 hy with rfl | hy
    ·exact vL _
    ·exact hl y hy
   ·rcases List.mem_cons.1 hy with rfl | hy
    ·exact hm
    ·exact h y hy
theorem bCq: ∀(l:List Mono) {acc:List Mono},Fit l→Fit acc→Fit (kU acc l)
 | [],_,_,h=>h
 | m::l,_,hl,h=>bCq l (fun x hx=>hl x (List.mem_cons_of_mem _ hx)) (fit_put (hl m (List.mem_cons_self ..)) h)
theorem bDr{l:List Mono}(h:lK l):iY l=l.filter nz:=by
 unfold iY;have e:(l.filter fun m=>m.n !=0)=l.filter nz:=rfl;rw [e];refine List.mergeSort_of_pairwise ?_;refine List.Pairwise.imp (fun{a b} hab=>?_) (h.filter nz);exact decide_eq_true (Nat.le_of_lt hab)
theorem whole_listed{l L:List Mono}(hf:lK l)(hfit:Fit l)(hA:gP L)(hL:Fit L)(h: ∀F,Ext F→dQ (lin F l) (lin F L)):nJ l=fS L:=by
 have e:l.filter nz=iY L:=by rw [←bDr hf];exact vP hf.apart hfit hA hL h
 unfold nJ fS;rw [e]
theorem lin_row{F:Mono→Int}(a:Mono): ∀q:List Mono,dQ (lin F (q.map (mulM a))) (cY (fun b=>a.n*b.n*F (mulM a b)) q)
 | []=>dQ.refl _
 | b::q=>(((pS (a.n*b.n)).mul (F (mulM a b))).add (lin_row a q))
theorem lin_app(F:Mono→Int): ∀l k:List Mono,lin F (l++k)=lin F l+lin F k
 | [],k=>by show lin F k=(0:Int)+_;omega
 | m::l,k=>by rw [List.cons_append,gK,gK,lin_app F l k];omega
theorem lin_flat{F:Mono→Int}(q:List Mono): ∀p:List Mono,dQ (lin F (p.flatMap fun a=>q.map (mulM a))) (cY (fun a=>cY (fun b=>a.n*b.n*F (mulM a b)) q) p)
 | []=>dQ.refl _
 | a::p=>by
  rw [List.flatMap_cons,lin_app];exact(lin_row a q).add (lin_flat q p)
theorem refMul_mul(p q:List Mono):lE p q=jN p q:=by
 unfold lE jN
 cases hp:cH p with
 | false=>rfl
 | true=>
  cases hq:cH q with
  | false=>rfl
  | true=>
   refine whole_listed (wQ _ List.Pairwise.nil) (bCq _ (fun y hy=>?_) fit_nil) (vB p q) (bEt p q) fun F hF=>?_
   ·obtain⟨a,_,hy⟩:=List.mem_flatMap.1 hy;obtain⟨x,_,rfl⟩:=List.mem_map.1 hy;exact vL _
   ·have h1:=bAz hF (p.flatMap fun a=>q.map (mulM a)) [];have h0:lin F []=0:=rfl;exact h1.trans (((dQ.of_eq (by omega)).trans (lin_flat q p)).trans (bBn hF p q).symm)
def makT:Tab:=[(3,⟨.int .i64,1⟩),(2,⟨.int .i64,1⟩),(5,⟨.int .u8,1⟩),(4,⟨.bool,1⟩),(37,⟨.int .u8,1⟩),(31,⟨.int .i64,1⟩),(35,⟨.slice 45,1⟩),(36,⟨.slice 35,1⟩),(42,⟨.struct [(3,0),(3,1),(2,2),(35,3),(37,4)],5⟩),(38,⟨.slice 42,1⟩),(47,⟨.struct [(36,0),(3,1)],2⟩),(22,⟨.slice 47,1⟩),(40,⟨.struct [(3,0),(3,1),(35,2),(36,3),(37,4),(38,5)],6⟩),(23,⟨.slice 40,1⟩),(24,⟨.slice 3,1⟩),(51,⟨.slice 4,1⟩),(26,⟨.struct [(3,0),(22,1),(23,2),(24,3)],4⟩),(55,⟨.struct [(3,0),(3,1)],2⟩),(48,⟨.slice 55,1⟩),(115,⟨.struct [(3,0),(3,1),(3,2),(51,3)],4⟩),(194,⟨.struct [(35,0),(35,1),(3,2)],3⟩),(306,⟨.slice 194,1⟩),(57,⟨.struct [(36,0),(35,1)],2⟩),(112,⟨.array 64 4,64⟩),(45,⟨.struct [(2,0),(43,1)],7⟩),(43,⟨.array 6 5,6⟩),(258,⟨.slice 5,1⟩),(206,⟨.int .u64,1⟩),(113,⟨.other,1⟩),(202,⟨.other,1⟩),(119,⟨.other,1⟩),(99,⟨.map 3 194,1⟩),(307,⟨.slice 194,1⟩),(252,⟨.other,1⟩),(100,⟨.slice 252,1⟩),(98,⟨.other,1⟩),(110,⟨.struct [(26,0),(48,4),(36,5),(51,6),(24,7),(57,8)],10⟩),(108,⟨.other,1⟩)]
theorem bAs:dV Tryz.prog makT:=pL.ok
 ⟨⟨by rw [Tryz.underlying3];rfl,by kernel_rfl⟩,
  ⟨by rw [Tryz.underlying2];rfl,by kernel_rfl⟩,
  ⟨by rw [Tryz.underlying5];rfl,by kernel_rfl⟩,
  ⟨by rw [Tryz.underlying4];rfl,by kernel_rfl⟩,
  ⟨by rw [Tryz.underlying37];rfl,by kernel_rfl⟩,
  ⟨by rw [Tryz.underlying31];rfl,by kernel_rfl⟩,
  ⟨by rw [Tryz.underlying35];rfl,by kernel_rfl⟩,
  ⟨by rw [Tryz.underlying36];rfl,by kernel_rfl⟩,
  ⟨by rw [Tryz.underlying42];rfl,by kernel_rfl⟩,
  ⟨by rw [Tryz.underlying38];rfl,by kernel_rfl⟩,
  ⟨by rw [Tryz.underlying47];rfl,by kernel_rfl⟩,
  ⟨by rw [Tryz.underlying22];rfl,by kernel_rfl⟩,
  ⟨by rw [Tryz.underlying40];rfl,by kernel_rfl⟩,
  ⟨by rw [Tryz.underlying23];rfl,by kernel_rfl⟩,
  ⟨by rw [Tryz.underlying24];rfl,by kernel_rfl⟩,
  ⟨by rw [Tryz.underlying51];rfl,by kernel_rfl⟩,
  ⟨by rw [Tryz.underlying26];rfl,by kernel_rfl⟩,
  ⟨by rw [Tryz.underlying55];rfl,by kernel_rfl⟩,
  ⟨by rw [Tryz.underlying48];rfl,by kernel_rfl⟩,
  ⟨by rw [Tryz.underlying115];rfl,by kernel_rfl⟩,
  ⟨by rw [Tryz.underlying194];rfl,by kernel_rfl⟩,
  ⟨by rw [Tryz.underlying306];rfl,by kernel_rfl⟩,
  ⟨by rw [Tryz.underlying57];rfl,by kernel_rfl⟩,
  ⟨by rw [Tryz.underlying112];rfl,by kernel_rfl⟩,
  ⟨by rw [Tryz.underlying45];rfl,by kernel_rfl⟩,
  ⟨by rw [Tryz.underlying43];rfl,by kernel_rfl⟩,
  ⟨by rw [Tryz.underlying258];rfl,by kernel_rfl⟩,
  ⟨by rw [Tryz.underlying206];rfl,by kernel_rfl⟩,
  ⟨by rw [Tryz.underlying113];rfl,by kernel_rfl⟩,
  ⟨by rw [Tryz.underlying202];rfl,by kernel_rfl⟩,
  ⟨by rw [Tryz.underlying119];rfl,by kernel_rfl⟩,
  ⟨by rw [Tryz.underlying99];rfl,by kernel_rfl⟩,
  ⟨by rw [Tryz.underlying307];rfl,by kernel_rfl⟩,
  ⟨by rw [Tryz.underlying252];rfl,by kernel_rfl⟩,
  ⟨by rw [Tryz.underlying100];rfl,by kernel_rfl⟩,
  ⟨by rw [Tryz.underlying98];rfl,by kernel_rfl⟩,
  ⟨by rw [Tryz.underlying110];rfl,by kernel_rfl⟩,
  ⟨by rw [Tryz.underlying108];rfl,by kernel_rfl⟩,trivial⟩
theorem const1:(iC 1).1=[bFd 1]:=by decide
def pT (sides:List (List Mono)):List Mono:=(sizeC sides).getD []
theorem mulP_len9(p q:List Mono):(jN p q).1.length≤8796093022208:=by
 have:=tK (bGo p q);omega
set_option maxRecDepth 100000 in
theorem const02_spec:cX Tryz.prog 121 [.int .i64 1] [] [] (fun(x:Option Addr×Nat)=> .tuple #[.slice x.1 (iC 1).1.length x.2,.int .i64 0]) (fun _=>[]) (fun(x:Option Addr×Nat)=>[fG ⟨x.1,x.2,(iC 1).1⟩]):=by
 have hT:=bAs;refine cD Tryz.func121 rfl Tryz.ntmps121 rfl ?_;intro β hM;refine sr<|sp2 hT ?_;refine nn<|bF<|sr<|sp2 hT ?_;refine dS (t':=false) (by decide) ?_;refine dS (t':=false) (by decide) ?_;refine sp3 hT ?_;refine dS (t':=false) (by decide) ?_;refine sp hT ?_;refine nn<|fM rfl rfl ?_;refine bM<|bE<|bF<|sr<|sp2 hT ?_;refine dS (t':=false) (by decide) ?_;refine dS (t':=false) (by decide) ?_;refine nn<|fM rfl rfl ?_;refine bM<|bE<|sr<|sp hT ?_;refine ss (iV rfl rfl (built_n 1)) ?_;refine at_one (m:=bFd 1) rfl rfl rfl rfl rfl fun b1=>?_;refine sN (E:=dY) (xs:=[bFd 1]) .head ?_;refine nM .head ?_;refine sp2 hT ?_;refine nn<|bK ?_;exact dO (some ⟨b1,0,none⟩,1) rfl (rv_tmp rfl) (rv_tmp rfl) .nil ⟨by rw [const1];exact Has.and (Has.of mT0) (Has.pure (show([bFd 1]:List Mono).length≤8796093022208 from by decide)),trivial⟩ (by rw [const1];rfl)
set_option maxRecDepth 100000 in
theorem size15_spec(u:jV):cX Tryz.prog 63 [.agg #[.slice u.sides.addr u.sides.list.length u.sides.cap,.int .i64 u.input]] [] [mX u.sides] (fun(x:Option Addr×Nat)=> .tuple #[.slice x.1 (pT (polsL u.sides.list)).length x.2,.bool (sizeC (polsL u.sides.list)).isSome]) (fun _=>[]) (fun(x:Option Addr×Nat)=>[fG ⟨x.1,x.2,pT (polsL u.sides.list)⟩]):=by
 have hT:=bAs
 obtain⟨R,hR⟩: ∃R,sizeC (polsL u.sides.list)=R:=⟨_,rfl⟩
 refine cD Tryz.func63 rfl Tryz.ntmps63 rfl ?_;intro β hM;refine bF<|cC (jT.sl (.slice u.sides.addr u.sides.list.length u.sides.cap) u.sides.list) (tM (Has.of mT0)) ?_;refine bX (tQ (Has.of mT1)) fun hsc=>?_;have hsc1:=hsc.1;have hsc2:=hsc.2;refine bD<|iL rfl rfl rfl rfl rfl rfl fun b1=>?_;refine sp2 hT ?_;refine nn<|sr<|cU Tryz.func121 const02_spec rfl rfl .nil trivial fun y2=>?_;refine sp4 hT ?_;refine sp hT ?_;refine nn<|bF<|sr<|sp hT ?_;refine nn<|bQ<|dH (ι:=PolV×Nat) [(1,_)] ⟨rfl,trivial⟩ (fun⟨cur,i⟩=>[(4,.slice cur.addr cur.list.length cur.cap),(6,.int .i64 (i:Nat))]) (fun _=>[]) (fun⟨cur,i⟩=>[bI.pure (i≤u.sides.list.length∧R=mK ((polsL u.sides.list).drop i) cur.list),fG cur]) (fun⟨cur,i⟩=>u.sides.list.length-i) (⟨y2.1,y2.2,(iC 1).1⟩,0) ⟨rfl,rfl,trivial⟩ .nil ⟨Has.pure (⟨by omega,by rw [←hR];rfl⟩),Has.of mT0,trivial⟩ ?_;rintro⟨cur,i⟩;dsimp only;refine bX (Has.of mT0) fun hinv3=>?_;refine bF<|sr<|sp2 hT ?_;refine ss (ldO hT (dC .head)) ?_;refine sp2 hT ?_;refine nn<|bO rfl (fun hc17=>?_) (fun hc17=>?_)
 ·have hc17:=of_decide_eq_true hc17;refine bM<|bE<|bF<|bQ<|bF ?_
  obtain⟨x,hx⟩: ∃x',u.sides.list[i]?=some x':=⟨_,List.getElem?_eq_getElem (by omega)⟩
  refine cC (fG x) (Has.each (tH (Has.of mT4)) (List.mem_of_getElem? hx)) ?_;refine bD<|sp2 hT ?_;refine ss (ldO hT (dC .head)) ?_;refine sp hT ?_;refine ss (bG hT (k:=i) (bC (Has.of mT4)) rfl rfl rfl rfl rfl rfl rfl (by omega)) ?_;refine ss (bR hT (bV.knows (bC (Has.of mT4)) (k:=i) (x:=x) hx 0) rfl rfl rfl rfl rfl) ?_;refine bX (fQ (Has.of mT2)) fun hcl=>?_;refine bX (fQ (Has.of mT0)) fun hxl=>?_;refine cU Tryz.func122 (refMul_spec cur.addr x.addr cur.cap x.cap cur.list x.list hcl hxl) rfl rfl .nil ⟨mD (Has.of mT2),mD (Has.of mT0),trivial⟩ fun y3=>?_;rw [refMul_mul];refine jJ (E:=dY) .head ?_;refine cC (fG ⟨y3.1,y3.2,(jN cur.list x.list).1⟩) (Has.and (Has.of mT0) (Has.pure (mulP_len9 _ _))) ?_;refine sp4 hT ?_;refine sp hT ?_;refine nn<|bF<|sr<|sp2 hT ?_;refine nn<|bO rfl (fun hc31=>?_) (fun hc31=>?_)
  ·have hc31:=bne_iff_ne.1 hc31;refine sr<|sp2 hT ?_;refine nn<|bK<|bN<|bW<|bN<|bN<|bW<|bN ?_;have hz:sizeC (polsL u.sides.list)=none:=hR.trans (bIr hinv3.2 (fW hx) ‹_›);exact dO (none,0) rfl (rv_tmp rfl) (rv_tmp rfl) .nil ⟨by unfold pT;rw [hz];exact polF_nil,trivial⟩ (by unfold pT;rw [hz];rfl)
  have hc31:=bne_eq_false_iff_eq.1 hc31;refine bM<|bE<|bD<|sp2 hT ?_;refine gH<|bU<|bE<|bD<|sp2 hT ?_;refine bT (z':=(((i+1):Nat):Int)) (cO (by omega) (by omega)) ?_;refine sp hT ?_;refine nn ?_;exact cG (⟨y3.1,y3.2,(jN cur.list x.list).1⟩,i+1) (by dsimp only;omega) ⟨rfl,rfl,trivial⟩ ⟨rfl,trivial⟩ (.cons .head .nil) ⟨Has.pure (⟨by dsimp only;omega,size_ok' hinv3.2 (fW hx) ‹_›⟩),Has.of mT0,trivial⟩ (bH.drop 5)
 have hc17:=Int.not_lt.1 (of_decide_eq_false hc17);refine cS<|bZ<|bZ<|cR<|bE<|sr<|sp3 hT ?_;refine nn<|bK ?_;have hz:sizeC (polsL u.sides.list)=some cur.list:=hR.trans (oB hinv3.2 (by rw [dF];omega));exact dO (cur.addr,cur.cap) rfl (rv_tmp rfl) (rv_tmp rfl) .nil ⟨by unfold pT;rw [hz];exact Has.of mT1,trivial⟩ (by unfold pT;rw [hz];rfl)
end Go.Proofs.YtofjmphlpdhohaaGreatDoor
