/- Texts of one proof, one behind the other: PlV, KBase, KPut, KWhole, KTog, Alg, KPlus, KAdd, MakR, MkA. -/
import Derived.Test.YtofjmphlpdhohaaGreatDoorM16
import Derived.Test.YtofjmphlpdhohaaGreatDoorM12
import Derived.Test.YtofjmphlpdhohaaGreatDoorM1
import Derived.Test.YtofjmphlpdhohaaGreatDoorM6
import Derived.Test.YtofjmphlpdhohaaGreatDoorM10
import Derived.Test.YtofjmphlpdhohaaGreatDoorM13
import Derived.Test.YtofjmphlpdhohaaGreatDoorM15
import Derived.Test.YtofjmphlpdhohaaGreatDoorM8
namespace Go.Proofs.YtofjmphlpdhohaaGreatDoor
open Go.RowKit
def tF (c:gF):(List (List Mono)×List Mono)×Int:=if gH c=true then match bAr c with
 | some r=>(r,0)
 | none=>(([],[]),140)
 else (([],[]),100)
section
variable {c : gF}
theorem planW_no(h:gH c=false):tF c=(([],[]),100):=by unfold tF;rw [if_neg (by simp [h])]
theorem mA(h:gH c=true)(hp:bAr c=none):tF c=(([],[]),140):=by unfold tF;rw [if_pos h,hp]
theorem bFn{r:List (List Mono)×List Mono}(h:gH c=true)(hp:bAr c=some r):tF c=(r,0):=by unfold tF;rw [if_pos h,hp]
end
abbrev st0:PSt:=⟨⟨none,0,[]⟩,none,0,[],0,[]⟩
theorem rel_start(n:Nat):gK st0 [] (nB n) [] 0 where
 end_:=rfl
 free:=rfl
 flat:=List.Perm.refl _
 rise:=List.Pairwise.nil
 top:=fun _ h=>by cases h
 apart:=fun i _ r _ h=>by simp at h
 ok:=fun k r h=>by simp at h
 keys:=List.nodup_nil
 laid:=fun b=>by
  show none=((List.replicate n (none:Option SpC))[b]?).bind id;rw [List.getElem?_replicate];split<;>rfl
 poolR:=fun _ h=>by cases h
 poolL:=fun _ h=>by cases h
 low:=Int.le_refl _
 high:=Int.le_refl _
 many:=Nat.le_refl _
 len:=Nat.le_refl _
theorem gB{l:List LifeC}{k:Nat}{x:dN}(h:(lv l)[k]?=some x):l[k]?=some x.c:=by
 have h1:=lc_at h;rw [lc_lv] at h1;exact h1
theorem life_none0{x:dN}(h:(!(x.from_==0&&x.to_== -1))=false): ¬x.c.from_<0:=by
 show ¬x.from_<0
 simp at h;omega
theorem bHn(mb:Nat):Tryz.prog.built 102 [(3,.map (some mb))]=some #[.slice none 0 0,.slice none 0 0,.int .i64 0,.map (some mb)]:=by kernel_rfl
theorem zero_pp:(Tryz.prog.info? 98).bind (·.zero)=some (.pointer none):=by kernel_rfl
theorem rR(n:Nat){F:List bP}:Has F (bP.each (List.replicate n lU) cY):=fun S w k x hx=>by
 have:=List.eq_of_mem_replicate hx;subst this;exact polF_nil S w k
theorem bCr{A:Option Addr}{n c:Nat}{l:List PolV}{F:List bP}(h:Has F (fM.sl (.slice A n c) l))(hl:l.length=n):Has F (fM.sl (.slice A l.length c) l):=by rw [hl];exact h
theorem mF{F:List bP}:Has F (fM.sl (.slice none 0 0) []):=fun _ _ _=>⟨none,0,rfl,fun k x h=>by simp at h⟩
theorem mB:(Tryz.prog.info? 57).bind (·.zero)=some (.agg #[.slice none 0 0,.slice none 0 0]):=by kernel_rfl
theorem iP:Tryz.prog.built 57 []=some #[.slice none 0 0,.slice none 0 0]:=by kernel_rfl
theorem qD(a0:Option Addr)(l0 c0:Nat):Tryz.prog.built 57 [(0,.slice a0 l0 c0)]=some #[.slice a0 l0 c0,.slice none 0 0]:=by kernel_rfl
set_option maxRecDepth 100000 in
theorem PlanF_spec(c:gL):dD Tryz.prog 22 [.agg #[.int .i64 c.vars,.slice c.bufs.addr c.bufs.list.length c.bufs.cap,.slice c.steps.addr c.steps.list.length c.steps.cap,.slice c.outs.addr c.outs.list.length c.outs.cap]] [] [mE c,bP.cells 0 0 [.int .i64 0,.int .i64 (-1)]] (fun(x:LayV)=> .tuple #[.agg #[.slice x.at_.addr x.at_.list.length x.at_.cap,.slice x.size.addr x.size.list.length x.size.cap],.int .i64 (tF c.c).2]) (fun _=>[]) (fun(x:LayV)=>[fM.sl (.slice x.at_.addr x.at_.list.length x.at_.cap) x.at_.list,bP.each x.at_.list cY,cY x.size,bP.pure ((polsL x.at_.list,x.size.list)=(tF c.c).1)]):=by
 have hT:=fS;generalize hR:bAr c.c=R;refine cI Tryz.func22 rfl Tryz.ntmps22 rfl ?_;intro β hM;refine sr<|gC rfl rfl rfl rfl rfl rfl fun b1=>?_;refine fG rfl rfl rfl rfl mB rfl fun b2=>?_;refine sp hT ?_;refine nn<|bF<|sr<|ss (ldN hT (cU kT1)) ?_;refine cQ Tryz.func25 (Right_spec c) rfl rfl .nil ⟨(Has.of mT0),trivial⟩ fun _=>?_;refine sp hT ?_;refine nn<|bM rfl (fun hc16=>?_) (fun hc16=>?_)
 ·have hc16:=gR hc16;refine sr<|ss (dO rfl rfl (iP)) ?_;refine sto hT .head ?_;refine sp hT ?_;refine nn<|bK<|bJ ?_;have hW:=planW_no (c:=c.c) (by simpa using hc16);exact gD (⟨⟨none,0,[]⟩,⟨none,0,[]⟩⟩:LayV) rfl (hQ hT (cU .head) rfl rfl rfl rfl) (rv_tmp rfl) .nil ⟨mF,Has.each_nil,polF_nil,Has.pure (by rw [hW];rfl),trivial⟩ (by rw [hW];rfl)
 have hc16:=gQ hc16;refine bL<|bD<|bF ?_;have hr:gH c.c=true:=by simpa using hc16
 obtain⟨hbz,hst,hou⟩:=oN hr;have hnb:c.c.bufs.length=c.bufs.list.length:=dJ _;have hns:c.c.steps.length=c.steps.list.length:=dV _;refine cB (sX.sl (.slice c.bufs.addr c.bufs.list.length c.bufs.cap) c.bufs.list) (jR (gO (Has.of mT0))) ?_;refine dR _ _ [(true,0),(true,2),(false,1),(false,3),(true,4),(true,5)] dP (by decide+kernel) (.cons .head (.cons .head .nil)) bI.self ?_;refine stM rfl (ldN hT (cU kT1)) ?_;refine stM rfl (ldN hT (cU kT1)) ?_;refine dB (o:=_) rfl ?_;refine cQ Tryz.func43 (lives_spec c hr) rfl rfl .nil ⟨(Has.of mT1),(Has.of mT2),trivial⟩ fun⟨LA,lcp⟩=>?_;refine hI (E:=iN) .head ?_;refine dA (.cons .head (.cons .head .nil)) (bI.drop 1) ?_;refine dB (o:=_) rfl ?_;refine cQ Tryz.func45 (fullP_spec c hr) rfl rfl .nil ⟨(Has.of mT2),trivial⟩ fun⟨FA,fcp⟩=>?_;refine hI (E:=gA) .head ?_;refine dA (.cons .head (.cons .head .nil)) (bI.drop 2) ?_;refine puM hT ?_;refine puM hT ?_;refine cN<|bD<|sr<|at_makeMap .i64 rfl rfl rfl rfl fun mb=>?_;refine ss (dO rfl rfl (bHn mb)) ?_;refine gC rfl rfl rfl rfl rfl rfl fun b3=>?_;refine fV (t:=252) oI ?_;refine fG rfl rfl rfl rfl zero_pp rfl fun b4=>?_;refine sto hT .head ?_;refine nn<|sr<|sp hT ?_;refine ss (ldO hT (dE kT5)) ?_;refine sp hT ?_;refine oL (m:=c.bufs.list.length) rfl rfl rfl rfl rfl rfl (by omega) fun b5=>?_;refine ss (dO rfl rfl (qD _ _ _)) ?_;refine fG rfl rfl rfl rfl mB rfl fun b6=>?_;refine sto hT .head ?_;refine nn<|sr<|sp2 hT ?_;refine nn<|bF<|bF<|cB (cY st0.end_) (polF_nil) ?_;refine cB (bP.each ([]:List SpotV) kQ) (Has.each_nil) ?_;refine cB (bP.each (List.replicate c.bufs.list.length lU) cY) (rR _) ?_;refine bB<|sp hT ?_;refine ss (ldO hT (dE kT7)) ?_;refine sp2 hT ?_;refine nn<|bO<|nU (.cons kT6 (.cons kT2 (.cons kT5 (.cons .head (.cons .head (.cons kT1 (.cons .head (.cons .head Sel.self)))))))) ?_;refine bEq (ι:=PSt×List SpotV×List SpotV×List PolV×PlC×Nat) [(1,_),(2,_),(4,_),(5,_),(6,_),(7,_),(8,_),(33,_)] ⟨rfl,rfl,rfl,rfl,rfl,rfl,rfl,rfl,trivial⟩ (fun⟨st,pool,fs,ats,s,b⟩=>[(34,.int .i64 (b:Nat))]) (fun⟨st,pool,fs,ats,s,b⟩=>(.obj b2 (.cells ([.slice none 0 0,.slice none 0 0]:List Value).toArray 57):: .obj b4 (.cells ([.pointer (some ⟨b3,0,none⟩)]:List Value).toArray 98):: .obj b1 (.cells ([.int .i64 c.vars,.slice c.bufs.addr c.bufs.list.length c.bufs.cap,.slice c.steps.addr c.steps.list.length c.steps.cap,.slice c.outs.addr c.outs.list.length c.outs.cap]:List Value).toArray 26):: .obj b6 (.cells ([.slice (some ⟨b5,0,none⟩) c.bufs.list.length c.bufs.list.length,.slice none 0 0]:List Value).toArray 57)::fM.row (.slice (some ⟨b5,0,none⟩) c.bufs.list.length c.bufs.list.length) 35 ats::plH b3 mb st)) (fun⟨st,pool,fs,ats,s,b⟩=>[bP.pure (b≤c.bufs.list.length∧gK st pool s fs (2*b)∧s.ats=ats.map (·.list)∧ats.length=c.bufs.list.length∧s.laid.length=c.bufs.list.length∧R=yO c.c (lW c.c.bufs (livesC c.c) (c.bufs.list.length-b) b s)),cY st.end_,bP.each pool kQ,bP.each ats cY]) (fun⟨st,pool,fs,ats,s,b⟩=>c.bufs.list.length-b) (st0,[],[],List.replicate c.bufs.list.length lU,nB c.bufs.list.length,0) ⟨rfl,trivial⟩ (List.Perm.refl _) ⟨Has.pure (⟨by omega,rel_start _,by simp [nB,lU],List.length_replicate,by simp [nB],by rw [←hR,wP,hnb];rfl⟩),Has.of mT2,Has.of mT1,Has.of mT0,trivial⟩ ?_;rintro⟨st,pool,fs,ats,s,b⟩;dsimp only;refine bV (Has.of mT0) fun hinv8=>?_;have h:=hinv8.2.1;have ha:=hinv8.2.2.1;have hal:=hinv8.2.2.2.1;have hsl:=hinv8.2.2.2.2.1;refine sr<|sp hT ?_;refine nn<|bF<|bM rfl (fun hc35=>?_) (fun hc35=>?_)
 ·have hc35:=of_decide_eq_true hc35;refine bL<|bD<|bF<|bO<|sr<|sp2 hT ?_;refine nn<|bF ?_;have hmn:c.bufs.list.length-b=(c.bufs.list.length-(b+1))+1:=by omega
  obtain⟨u,hu⟩: ∃u,c.bufs.list[b]?=some u:=⟨_,List.getElem?_eq_getElem (by omega)⟩
  obtain⟨y,hy⟩: ∃y,(lv (livesC c.c))[b]?=some y:=⟨_,List.getElem?_eq_getElem (by rw [tX,iK,hnb];omega)⟩
  refine dR _ _ [(true,0),(true,1),(true,2),(true,3),(true,4),(true,5),(true,6),(true,7),(true,8),(true,9),(true,10),(true,11),(true,12),(true,13)] dP (by decide+kernel) (.cons .head (.cons .head (.cons .head (.cons .head (.cons .head (.cons .head (.cons .head (.cons .head Sel.self)))))))) bI.self ?_;refine puM hT ?_;refine puM hT ?_;refine stM rfl (bG hT (k:=b) (bA (Has.of mT8)) rfl rfl rfl rfl rfl (by rw [tX,iK,hnb]) rfl ((List.getElem?_eq_some_iff.1 hy).1)) ?_;refine stM rfl (cL hT (bY.knows (bA (Has.of mT8)) (k:=b) (x:=y) hy 0) rfl rfl rfl rfl rfl) ?_;refine stM rfl (cL hT (fW (off:=0) (Has.of mT11)) rfl rfl rfl rfl rfl) ?_;refine stM rfl (bGx y ⟨0,-1⟩ rfl rfl rfl) ?_;refine puM hT ?_;refine bW (fun hg43=>?_) (fun hg43=>?_)
  ·refine puM hT ?_;refine puM hT ?_;refine stM rfl (bG hT (k:=b) (bA (Has.of mT8)) rfl rfl rfl rfl rfl (by rw [tX,iK,hnb]) rfl ((List.getElem?_eq_some_iff.1 hy).1)) ?_;refine puM hT ?_;refine stM rfl (bN hT (bY.knows (bA (Has.of mT8)) (k:=b) (x:=y) hy 0) rfl rfl rfl rfl rfl) ?_;refine puM hT ?_;refine puM hT ?_;refine cN<|bD<|bM rfl (fun hc50=>?_) (fun hc50=>?_)
   ·have hc50:=of_decide_eq_true hc50;refine bF ?_
    rcases hly:layC (polsL u.sides.list) b false s with _ | s'
    ·refine bB<|sp2 hT ?_;refine fJ (List.perm_append_comm (l₁:=[_])) ?_;refine oA (cA Tryz.func47 rfl rfl) (vO b4 b1 b6 c (some ⟨b5,0,none⟩) c.bufs.list.length c.bufs.list.length ats hal b3 mb st pool fs s (2*b) h (by omega) b (b:Nat) rfl u hu (by omega) (by omega) ha false) rfl rfl rfl rfl rfl rfl rfl (Split.front _ _) ⟨Has.of zY,Has.of mT1,Has.of mT2,trivial⟩ fun y7=>?_;refine fJ List.perm_append_comm ?_;refine bV (Has.of mT3) fun hpu=>?_;refine bS (z':=140) (by rw [hly];rfl) ?_;refine sp hT ?_;refine nn<|sr<|sp2 hT ?_;refine dH (t':=true) (by decide) ?_;refine nn<|cJ rfl rfl ?_;refine sr<|ss (dO rfl rfl (iP)) ?_;refine sp hT ?_;refine sto hT .head ?_;refine sp hT ?_;refine nn<|bK<|bQ<|bJ<|bJ<|bQ<|bJ ?_;have hW:=mA hr (hR.trans (((iB hinv8.2.2.2.2.2 hmn (cV hu) (gB hy)).2 ‹_›).2 hly));exact gD (⟨⟨none,0,[]⟩,⟨none,0,[]⟩⟩:LayV) rfl (hQ hT (cU .head) rfl rfl rfl rfl) (rv_tmp rfl) .nil ⟨mF,Has.each_nil,polF_nil,Has.pure (by rw [hW];rfl),trivial⟩ (by rw [hW];rfl)
    refine bB<|sp2 hT ?_;refine fJ (List.perm_append_comm (l₁:=[_])) ?_;refine oA (cA Tryz.func47 rfl rfl) (vO b4 b1 b6 c (some ⟨b5,0,none⟩) c.bufs.list.length c.bufs.list.length ats hal b3 mb st pool fs s (2*b) h (by omega) b (b:Nat) rfl u hu (by omega) (by omega) ha false) rfl rfl rfl rfl rfl rfl rfl (Split.front _ _) ⟨Has.of zY,Has.of mT1,Has.of mT2,trivial⟩ fun y8=>?_;refine fJ List.perm_append_comm ?_;refine bV (Has.of mT3) fun hpu=>?_;refine bS (z':=0) (by rw [hly];rfl) ?_;refine cB (bP.each (ats.set b y8.2.2.2) cY) (lM (Has.of mT7) (Has.of mT2)) ?_;refine sp hT ?_;refine nn<|sr<|sp2 hT ?_;refine dH (t':=false) (by decide) ?_;refine nn<|cR rfl rfl ?_;refine bL<|bT<|bD<|bB<|sp hT ?_;refine bS (z':=(((b+1):Nat):Int)) (cG (by omega) (by omega)) ?_;refine sp hT ?_;refine nn ?_;exact mU (y8.1,y8.2.1,y8.2.2.1,ats.set b y8.2.2.2,s',b+1) (by dsimp only;omega) ⟨rfl,trivial⟩ ⟨rfl,rfl,rfl,rfl,rfl,rfl,rfl,rfl,trivial⟩ (List.Perm.refl _) ⟨Has.pure (⟨by dsimp only;omega,(hpu s' hly).1.more (by dsimp only;omega),(hpu s' hly).2,by rw [List.length_set];exact hal,by rw [lay_len hly];exact hsl,((iB hinv8.2.2.2.2.2 hmn (cV hu) (gB hy)).2 ‹_›).1 s' hly⟩),Has.of mT1,Has.of mT2,Has.of mT0,trivial⟩ (bI.drop 9)
   have hc50:=Int.not_lt.1 (of_decide_eq_false hc50);refine bL<|bT<|bD<|bB<|sp hT ?_;refine bS (z':=(((b+1):Nat):Int)) (cG (by omega) (by omega)) ?_;refine sp hT ?_;refine nn ?_;exact mU (st,pool,fs,ats,s,b+1) (by dsimp only;omega) ⟨rfl,trivial⟩ ⟨rfl,rfl,rfl,rfl,rfl,rfl,rfl,rfl,trivial⟩ (List.Perm.refl _) ⟨Has.pure (⟨by dsimp only;omega,h.more (by dsimp only;omega),ha,hal,hsl,(iB hinv8.2.2.2.2.2 hmn (cV hu) (gB hy)).1 (by show ¬dN.from_ _<0;omega)⟩),Has.of mT1,Has.of mT2,Has.of mT3,trivial⟩ (bI.drop 4)
  refine bC rfl rfl rfl rfl ?_;refine bC rfl rfl rfl rfl ?_;refine bC rfl rfl rfl rfl ?_;refine bC rfl rfl rfl rfl ?_;refine bC rfl rfl rfl rfl ?_;refine bC rfl rfl rfl rfl ?_;refine puM hT ?_;refine cN<|bD<|cR rfl rfl ?_;refine bL<|bT<|bD<|bB<|sp hT ?_;refine bS (z':=(((b+1):Nat):Int)) (cG (by omega) (by omega)) ?_;refine sp hT ?_;refine nn ?_;exact mU (st,pool,fs,ats,s,b+1) (by dsimp only;omega) ⟨rfl,trivial⟩ ⟨rfl,rfl,rfl,rfl,rfl,rfl,rfl,rfl,trivial⟩ (List.Perm.refl _) ⟨Has.pure (⟨by dsimp only;omega,h.more (by dsimp only;omega),ha,hal,hsl,(iB hinv8.2.2.2.2.2 hmn (cV hu) (gB hy)).1 (life_none0 hg43)⟩),Has.of mT1,Has.of mT2,Has.of mT3,trivial⟩ (bI.drop 4)
 have hc35:=Int.not_lt.1 (of_decide_eq_false hc35);refine cD<|bX<|bX<|cE<|bD<|bF<|sr<|sp hT ?_;refine ss (ldO hT (jV kT2)) ?_;refine sp2 hT ?_;refine nn<|bO<|bEq (ι:=PSt×List SpotV×List SpotV×List PolV×PlC×Nat) [(2,_),(4,_),(5,_),(6,_),(7,_),(8,_),(60,_),(61,_)] ⟨rfl,rfl,rfl,rfl,rfl,rfl,rfl,rfl,trivial⟩ (fun⟨st,pool,fs,ats,s,i⟩=>[(62,.int .i64 (i:Nat))]) (fun⟨st,pool,fs,ats,s,i⟩=>(.obj b2 (.cells ([.slice none 0 0,.slice none 0 0]:List Value).toArray 57):: .obj b4 (.cells ([.pointer (some ⟨b3,0,none⟩)]:List Value).toArray 98):: .obj b1 (.cells ([.int .i64 c.vars,.slice c.bufs.addr c.bufs.list.length c.bufs.cap,.slice c.steps.addr c.steps.list.length c.steps.cap,.slice c.outs.addr c.outs.list.length c.outs.cap]:List Value).toArray 26):: .obj b6 (.cells ([.slice (some ⟨b5,0,none⟩) c.bufs.list.length c.bufs.list.length,.slice none 0 0]:List Value).toArray 57)::fM.row (.slice (some ⟨b5,0,none⟩) c.bufs.list.length c.bufs.list.length) 35 ats::plH b3 mb st)) (fun⟨st,pool,fs,ats,s,i⟩=>[bP.pure (i≤c.steps.list.length∧gK st pool s fs (2048+3100*i)∧s.ats=ats.map (·.list)∧ats.length=c.bufs.list.length∧s.laid.length=c.bufs.list.length∧R=bHc (goC c.c (livesC c.c) (fullC c.c) (c.c.steps.drop i) i s)),cY st.end_,bP.each pool kQ,bP.each ats cY]) (fun⟨st,pool,fs,ats,s,i⟩=>c.steps.list.length-i) (st,pool,fs,ats,s,0) ⟨rfl,trivial⟩ (List.Perm.refl _) ⟨Has.pure (⟨by omega,h.more (by omega),ha,hal,hsl,bAh (b:=b) (by have hb0:=hinv8.2.2.2.2.2;rwa [show c.bufs.list.length-b=0 by omega] at hb0)⟩),Has.of mT1,Has.of mT2,Has.of mT3,trivial⟩ ?_;rintro⟨st,pool,fs,ats,s,i⟩;dsimp only;refine bV (Has.of mT0) fun hinv16=>?_;have h:=hinv16.2.1;have ha:=hinv16.2.2.1;have hal:=hinv16.2.2.2.1;have hsl:=hinv16.2.2.2.2.1;refine sr<|sp hT ?_;refine nn<|bF<|bM rfl (fun hc63=>?_) (fun hc63=>?_)
 ·have hc63:=of_decide_eq_true hc63;refine bL<|bD<|bF<|bO<|bF<|cB (rP.sl (.slice c.steps.addr c.steps.list.length c.steps.cap) c.steps.list) (mV (jQ (Has.of mT14))) ?_
  obtain⟨x,hx⟩: ∃x',c.steps.list[i]?=some x':=⟨_,List.getElem?_eq_getElem (by omega)⟩
  obtain⟨hb0,hb1,_⟩:=hst x.c (List.mem_of_getElem? (dL hx))
  replace hb0:0≤x.buf:=hb0
  replace hb1:x.buf<(c.c.bufs.length:Nat):=hb1
  have hbz2:x.buf.toNat<c.bufs.list.length:=by omega
  obtain⟨u,hu⟩: ∃u,c.bufs.list[x.buf.toNat]?=some u:=⟨_,List.getElem?_eq_getElem hbz2⟩
  obtain⟨y,hy⟩: ∃y,(lv (livesC c.c))[x.buf.toNat]?=some y:=⟨_,List.getElem?_eq_getElem (by rw [tX,iK,hnb];omega)⟩
  obtain⟨t,ht⟩: ∃t,(fullC c.c)[x.buf.toNat]?=some t:=⟨_,List.getElem?_eq_getElem (by rw [rN,hnb];omega)⟩
  have hgo:=go_step hinv16.2.2.2.2.2 (dL hx) (cV hu) (gB hy) ht;refine bB<|sp hT ?_;refine ss (bG hT (k:=i) (bA (Has.of mT0)) rfl rfl rfl rfl rfl rfl rfl (by omega)) ?_;refine ss (cL hT (bY.knows (bA (Has.of mT0)) (k:=i) (x:=x) hx 0) rfl rfl rfl rfl rfl) ?_;refine fG rfl rfl rfl rfl rV rfl fun b9=>?_;refine sp hT ?_;refine sto hT .head ?_;refine nn<|bF<|sr<|sp2 hT ?_;refine ss (ldO hT (dE .head)) ?_;refine ss (bG hT (k:=x.buf.toNat) (bA (Has.of mT13)) rfl rfl rfl rfl rfl (by rw [tX,iK,hnb]) (by omega) ((List.getElem?_eq_some_iff.1 hy).1)) ?_;refine sp hT ?_;refine ss (bN hT (bY.knows (bA (Has.of mT13)) (k:=x.buf.toNat) (x:=y) hy 0) rfl rfl rfl rfl rfl) ?_;refine sp2 hT ?_;refine nn<|bM rfl (fun hc74=>?_) (fun hc74=>?_)
  ·have hc74:=bne_iff_ne.1 hc74;refine cD<|bX<|cE<|bD<|bB<|sp hT ?_;refine bS (z':=(((i+1):Nat):Int)) (cG (by omega) (by omega)) ?_;refine sp hT ?_;refine nn<|nU (.cons kT1 (.cons kT1 (.cons kT1 (.cons kT1 (.cons kT1 (.cons kT1 (.cons kT1 (.cons kT1 (Sel.skip Sel.self))))))))) ?_;exact mU (st,pool,fs,ats,s,i+1) (by dsimp only;omega) ⟨rfl,trivial⟩ ⟨rfl,rfl,rfl,rfl,rfl,rfl,rfl,rfl,trivial⟩ (List.Perm.refl _) ⟨Has.pure (⟨by dsimp only;omega,h.more (by dsimp only;omega),ha,hal,hsl,hgo.1 ‹_›⟩),Has.of mT2,Has.of mT3,Has.of mT4,trivial⟩ (bI.drop 5)
  have hc74:=bne_eq_false_iff_eq.1 hc74;refine bL<|bD<|sr<|ss (ldO hT (cU kT2)) ?_;refine sp2 hT ?_;refine fJ (List.perm_append_comm (l₁:=[_,_,_,_,_,_])) ?_;refine cQ Tryz.func50 (bGv b3 mb st pool fs s (2048+3100*i) h LA lcp c.bufs.list.length (livesC c.c) (by rw [iK,hnb]) (by omega) hsl.symm (i:Nat)) rfl rfl (Split.front _ _) ⟨Has.of mT2,Has.of mT3,Has.of mT13,trivial⟩ fun y10=>?_;refine fJ List.perm_append_comm ?_;refine bV (Has.of mT2) fun hrl=>?_;refine nn<|bF ?_
  rcases hly:layC (polsL u.sides.list) x.buf.toNat t (relC (i:Nat) (livesC c.c) s) with _ | s'
  ·refine dR _ _ [(true,0),(true,1),(true,2),(true,3),(true,4),(true,5),(true,6),(true,7),(false,8),(true,9)] dP (by decide+kernel) (.cons .head (.cons .head (.cons .head (.cons .head (.cons .head .nil))))) bI.self ?_;refine puM hT ?_;refine puM hT ?_;refine stM rfl (ldO hT (dE .head)) ?_;refine puM hT ?_;refine puM hT ?_;refine stM rfl (ldO hT (dE .head)) ?_;refine stM rfl (bG hT (k:=x.buf.toNat) (bA (Has.of (.tail _ (.tail _ (.tail _ (.tail _ (.tail _ (.tail _ (.tail _ (.tail _ (.tail _ (.tail _ (.tail _ (.tail _ (.tail _ (.tail _ (.tail _ mT0))))))))))))))))) rfl rfl rfl rfl rfl (by rw [rN,hnb]) (by omega) ((List.getElem?_eq_some_iff.1 ht).1)) ?_;refine stM rfl (bN hT (bY.knows (bA (Has.of (.tail _ (.tail _ (.tail _ (.tail _ (.tail _ (.tail _ (.tail _ (.tail _ (.tail _ (.tail _ (.tail _ (.tail _ (.tail _ (.tail _ (.tail _ mT0))))))))))))))))) (k:=x.buf.toNat) (x:=t) ht 0) rfl rfl rfl rfl rfl) ?_;refine dB (o:=_) rfl ?_;refine nU (.cons kT1 (.cons .head (.cons .head (.cons .head (.cons .head (.cons .head (.cons .head (.cons .head (.cons .head Sel.self))))))))) ?_;refine fJ (List.perm_append_comm (l₁:=[_,_])) ?_;refine oA (cA Tryz.func47 rfl rfl) (vO b4 b1 b6 c (some ⟨b5,0,none⟩) c.bufs.list.length c.bufs.list.length ats hal b3 mb y10.1 y10.2.1 y10.2.2 (relC (i:Nat) (livesC c.c) s) (2048+3100*i+3*c.bufs.list.length) hrl (by omega) x.buf.toNat x.buf (by omega) u hu (by rw [rel_len,hsl];exact hbz2) (by omega) ha t) rfl rfl rfl rfl rfl rfl rfl (Split.front _ _) ⟨Has.of (.tail _ (.tail _ (.tail _ (.tail _ (.tail _ (.tail _ (.tail _ (.tail _ (.tail _ (.tail _ (.tail _ (.tail _ (.tail _ (.tail _ (.tail _ (.tail _ (.tail _ (.tail _ mT0)))))))))))))))))),Has.of mT0,Has.of mT1,trivial⟩ fun y11=>?_;refine fJ List.perm_append_comm ?_;refine bV (Has.of mT3) fun hpu=>?_;refine bS (z':=140) (by rw [hly];rfl) ?_;refine dA (.cons kT1 (.cons .head (.cons .head (.cons .head (.cons .head .nil))))) (bI.drop 4) ?_;refine puM hT ?_;refine cN<|bD<|sr<|sp2 hT ?_;refine dH (t':=true) (by decide) ?_;refine nn<|cJ rfl rfl ?_;refine sr<|ss (dO rfl rfl (iP)) ?_;refine sp hT ?_;refine sto hT .head ?_;refine sp hT ?_;refine nn<|bK<|bQ<|bJ<|bJ<|bQ<|bJ ?_;have hW:=mA hr (hR.trans ((hgo.2 ‹_›).2 hly));exact gD (⟨⟨none,0,[]⟩,⟨none,0,[]⟩⟩:LayV) rfl (hQ hT (cU .head) rfl rfl rfl rfl) (rv_tmp rfl) .nil ⟨mF,Has.each_nil,polF_nil,Has.pure (by rw [hW];rfl),trivial⟩ (by rw [hW];rfl)
  refine dR _ _ [(true,0),(true,1),(true,2),(true,3),(true,4),(true,5),(true,6),(true,7),(false,8),(true,9)] dP (by decide+kernel) (.cons .head (.cons .head (.cons .head (.cons .head (.cons .head .nil))))) bI.self ?_;refine puM hT ?_;refine puM hT ?_;refine stM rfl (ldO hT (dE .head)) ?_;refine puM hT ?_;refine puM hT ?_;refine stM rfl (ldO hT (dE .head)) ?_;refine stM rfl (bG hT (k:=x.buf.toNat) (bA (Has.of (.tail _ (.tail _ (.tail _ (.tail _ (.tail _ (.tail _ (.tail _ (.tail _ (.tail _ (.tail _ (.tail _ (.tail _ (.tail _ (.tail _ (.tail _ mT0))))))))))))))))) rfl rfl rfl rfl rfl (by rw [rN,hnb]) (by omega) ((List.getElem?_eq_some_iff.1 ht).1)) ?_;refine stM rfl (bN hT (bY.knows (bA (Has.of (.tail _ (.tail _ (.tail _ (.tail _ (.tail _ (.tail _ (.tail _ (.tail _ (.tail _ (.tail _ (.tail _ (.tail _ (.tail _ (.tail _ (.tail _ mT0))))))))))))))))) (k:=x.buf.toNat) (x:=t) ht 0) rfl rfl rfl rfl rfl) ?_;refine dB (o:=_) rfl ?_;refine nU (.cons kT1 (.cons .head (.cons .head (.cons .head (.cons .head (.cons .head (.cons .head (.cons .head (.cons .head Sel.self))))))))) ?_;refine fJ (List.perm_append_comm (l₁:=[_,_])) ?_;refine oA (cA Tryz.func47 rfl rfl) (vO b4 b1 b6 c (some ⟨b5,0,none⟩) c.bufs.list.length c.bufs.list.length ats hal b3 mb y10.1 y10.2.1 y10.2.2 (relC (i:Nat) (livesC c.c) s) (2048+3100*i+3*c.bufs.list.length) hrl (by omega) x.buf.toNat x.buf (by omega) u hu (by rw [rel_len,hsl];exact hbz2) (by omega) ha t) rfl rfl rfl rfl rfl rfl rfl (Split.front _ _) ⟨Has.of (.tail _ (.tail _ (.tail _ (.tail _ (.tail _ (.tail _ (.tail _ (.tail _ (.tail _ (.tail _ (.tail _ (.tail _ (.tail _ (.tail _ (.tail _ (.tail _ (.tail _ (.tail _ mT0)))))))))))))))))),Has.of mT0,Has.of mT1,trivial⟩ fun y12=>?_;refine fJ List.perm_append_comm ?_;refine bV (Has.of mT3) fun hpu=>?_;refine bS (z':=0) (by rw [hly];rfl) ?_;refine cB (bP.each (ats.set x.buf.toNat y12.2.2.2) cY) (lM (Has.of mT11) (Has.of mT2)) ?_;refine dA (.cons kT1 (.cons .head (.cons .head (.cons .head (.cons .head .nil))))) (bI.drop 5) ?_;refine puM hT ?_;refine cN<|bD<|sr<|sp2 hT ?_;refine dH (t':=false) (by decide) ?_;refine nn<|cR rfl rfl ?_;refine bL<|bT<|bD<|bB<|sp hT ?_;refine bS (z':=(((i+1):Nat):Int)) (cG (by omega) (by omega)) ?_;refine sp hT ?_;refine nn<|nU (.cons .head (.cons kT1 (.cons kT1 (.cons kT1 (.cons kT1 (.cons kT1 (.cons kT1 (.cons kT1 (Sel.skip Sel.self))))))))) ?_;exact mU (y12.1,y12.2.1,y12.2.2.1,ats.set x.buf.toNat y12.2.2.2,s',i+1) (by dsimp only;omega) ⟨rfl,trivial⟩ ⟨rfl,rfl,rfl,rfl,rfl,rfl,rfl,rfl,trivial⟩ (List.Perm.refl _) ⟨Has.pure (⟨by dsimp only;omega,(hpu s' hly).1.more (by dsimp only;omega),(hpu s' hly).2,by rw [List.length_set];exact hal,by rw [lay_len hly,rel_len];exact hsl,(hgo.2 ‹_›).1 s' hly⟩),Has.of mT1,Has.of mT2,Has.of mT0,trivial⟩ (bI.drop 13)
 have hc63:=Int.not_lt.1 (of_decide_eq_false hc63);refine cD<|bX<|bX<|cE<|bD<|sr<|ss (ldO hT (cU kT1)) ?_;refine sp2 hT ?_;refine ss (ldO hT (cU kT5)) ?_;refine sp hT ?_;refine sto hT kT3 ?_;refine nn<|sr<|ss (ldN hT (cU .head)) ?_;refine sto hT kT1 ?_;refine sp hT ?_;refine nn<|bK ?_;have hW:=bFn hr (hR.trans (go_end hinv16.2.2.2.2.2 (by show c.c.steps.length≤i;rw [hns];omega)));refine hI (E:=fM) kT4 ?_;exact gD (⟨⟨(some ⟨b5,0,none⟩),c.bufs.list.length,ats⟩,st.end_⟩:LayV) rfl (hQ hT (cU .head) rfl rfl rfl rfl) (rv_tmp rfl) .nil ⟨bCr (Has.of mT0) hal,Has.of mT4,Has.of mT2,Has.pure (by rw [hW,ha,←h.end_];rfl),trivial⟩ (by rw [hW];dsimp only;rw [hal])
theorem wrap_eq(z:Int):IntKind.i64.wrap z=wrap64 z:=by
 unfold wrap64;simp only [IntKind.wrap,IntKind.signed,IntKind.bits];simp;omega
theorem vQ(a b:UInt8):IntKind.u8.wrap ((a.toNat:Int)+(b.toNat:Int))=((a+b).toNat:Int):=by
 rw [UInt8.toNat_add];simp only [IntKind.wrap,IntKind.signed,IntKind.bits];simp
def polyT:Tab:=[(2,⟨.int .i64,1⟩),(3,⟨.int .i64,1⟩),(5,⟨.int .u8,1⟩),(4,⟨.bool,1⟩),(45,⟨.struct [(2,0),(43,1)],7⟩),(35,⟨.slice 45,1⟩),
 (43,⟨.array 6 5,6⟩),(63,⟨.slice 2,1⟩)]
theorem tU:fO Tryz.prog polyT:=sS.ok
 ⟨⟨by rw [Tryz.underlying2];rfl,by kernel_rfl⟩,⟨by rw [Tryz.underlying3];rfl,by kernel_rfl⟩,⟨by rw [Tryz.underlying5];rfl,by kernel_rfl⟩,⟨by rw [Tryz.underlying4];rfl,by kernel_rfl⟩,⟨by rw [Tryz.underlying45];rfl,by kernel_rfl⟩,
  ⟨by rw [Tryz.underlying35];rfl,by kernel_rfl⟩,⟨by rw [Tryz.underlying43];rfl,by kernel_rfl⟩,⟨by rw [Tryz.underlying63];rfl,by kernel_rfl⟩,trivial⟩
theorem monoZero:(Tryz.prog.info? 45).bind (·.zero)=some (.agg #[.int .i64 0,.int .u8 0,.int .u8 0,.int .u8 0,.int .u8 0,.int .u8 0,.int .u8 0]):=by
 obtain⟨i,h,hz,_⟩:=uT;rw [h];exact hz
theorem built_n(z:Int):Tryz.prog.built 45 [(0,.int .i64 z)]=some #[.int .i64 z,.int .u8 0,.int .u8 0,.int .u8 0,.int .u8 0,.int .u8 0,.int .u8 0]:=by kernel_rfl
theorem built_ne(z:Int)(a b c d e f:Value):Tryz.prog.built 45 [(0,.int .i64 z),(1,.agg #[a,b,c,d,e,f])]=some #[.int .i64 z,a,b,c,d,e,f]:=by kernel_rfl
section
variable {β : fR} {n : Nat} {Γ : Env} {H : List bR} {F : List bP} {Q : Exit → Act → World → Prop}
theorem at_one{ops:Array Oper}{rest:List Oper}{o:Oper}{d:Nat}{x:Operand}{m:Mono}(hw:want ops Γ o=some true)(ho:o.op= .buildSlice 35 1 #[(0,x)])(hd:o.dst=some d)(hn:Nat.blt d n=true)
  (hx:Γ.ev x=some (.agg #[.int .i64 m.n,.int .u8 m.e0.toNat,.int .u8 m.e1.toNat,.int .u8 m.e2.toNat,.int .u8 m.e3.toNat,.int .u8 m.e4.toNat,.int .u8 m.e5.toNat])) (k: ∀b,At β n ((d,.slice (some ⟨b,0,none⟩) 1 1)::Γ) (.obj b (.cells (dG.all [m]).toArray 45)::H) F (wpList Tryz.prog ops Q rest)):At β n Γ H F (wpList Tryz.prog ops Q (o::rest)):=by
 obtain⟨i,hi,hz,hs,_⟩:=uT;refine nJ hw ho hd hn hx Tryz.underlying35 hi hz (by omega) (by omega) ?_ k;rw [hs]
 kernel_rfl
theorem at_app{ops:Array Oper}{rest:List Oper}{o:Oper}{d:Nat}{x y:Operand}{c q:Nat}{v:Value}{A:Option Addr}{xs ys:List Mono}{H':List bR}(hH:dQ H (dG.row v 45 xs) H')(hr:bY β H F dG A ys)(hg:o.guard=none)
  (ho:o.op= .call {callee:= .builtin .append,args:= #[x,y],argTypes:= #[35,35]}) (hd:o.dst=some d) (hn:Nat.blt d n=true)
  (hx:Γ.ev x=some v) (hy:Γ.ev y=some (.slice A q c)) (hq:q=ys.length) (hne:0<ys.length) (hl:xs.length+ys.length≤8796093022208)
  (k: ∀A' cap',At β n ((d,.slice A' (xs++ys).length cap')::Γ) (dG.row (.slice A' (xs++ys).length cap') 45 (xs++ys)::H') F (wpList Tryz.prog ops Q rest)):At β n Γ H F (wpList Tryz.prog ops Q (o::rest)):=by
 obtain⟨i,hi,hz,hs,hb⟩:=uT;exact tD hH hr hg ho hd hn Tryz.underlying35 hi hz hs hb rfl hx hy hq hne (by omega) (by decide) k
end
theorem bCw(a b:Mono):dD Tryz.prog 185 [.agg #[.int .i64 a.n,.int .u8 a.e0.toNat,.int .u8 a.e1.toNat,.int .u8 a.e2.toNat,.int .u8 a.e3.toNat,.int .u8 a.e4.toNat,.int .u8 a.e5.toNat],.agg #[.int .i64 b.n,.int .u8 b.e0.toNat,.int .u8 b.e1.toNat,.int .u8 b.e2.toNat,.int .u8 b.e3.toNat,.int .u8 b.e4.toNat,.int .u8 b.e5.toNat]] [] [] (fun _:Unit=> .int .i64 (wE a b)) (fun _=>[]) (fun _=>[]):=lS fun _ w _ _=>bJg a b w
theorem lJ(A:Option Addr)(c:Nat)(l:List Mono)(hl:l.length≤140737488355328):dD Tryz.prog 123 [.slice A l.length c] [] [dG.sl (.slice A l.length c) l] (fun _:Unit=> .bool (cT l)) (fun _=>[]) (fun _=>[]):=
 lS fun _ w hS h=>sU A c l w (monos_of hS (h _ (List.mem_cons_self ..))).1 hl
def lO (m:Mono):List Mono→List Mono
 | []=>[m]
 | a::l=>if m.key<a.key then a::lO m l else if a.key=m.key then ⟨wrap64 (a.n+m.n),a.e0,a.e1,a.e2,a.e3,a.e4,a.e5⟩::l else m::a::l
theorem bJp{a b:Mono}:wE a b=1↔b.key<a.key:=by
 rw [bJj]
 by_cases h:b.key<a.key
 ·simp [h]
 ·by_cases h2:a.key<b.key<;>simp [h,h2]
theorem bIu{a b:Mono}:wE a b=0↔a.key=b.key:=by
 rw [bJj]
 by_cases h:b.key<a.key
 ·simp [h];omega
 ·by_cases h2:a.key<b.key
  ·simp [h,h2];omega
  ·simp [h,h2];omega
theorem take_more{l:List Mono}{m x:Mono}{i:Nat}(hx:l[i]?=some x)(h: ∀y∈l.take i,m.key<y.key)(hk:m.key<x.key): ∀y∈l.take (i+1),m.key<y.key:=fun y hy=>by
 rw [List.take_add_one,hx,Option.toList_some] at hy
 rcases List.mem_append.1 hy with hy | hy
 ·exact h y hy
 ·rw [List.mem_singleton.1 hy];exact hk
theorem put_eq{m x:Mono}: ∀{l:List Mono} {i:Nat},l[i]?=some x→(∀y∈l.take i,m.key<y.key)→x.key=m.key→lO m l=l.set i ⟨IntKind.i64.wrap (x.n+m.n),x.e0,x.e1,x.e2,x.e3,x.e4,x.e5⟩
 | [],i,h,_,_=>by simp at h
 | a::l,0,h,_,hk=>by
  simp at h;subst h;rw [lO,if_neg (by omega),if_pos hk,wrap_eq];rfl
 | a::l,i+1,h,ht,hk=>by
  rw [lO,if_pos (ht a (by simp)),put_eq (l:=l) (i:=i) (by simpa using h) (fun y hy=>ht y (by simp [hy])) hk];rfl
theorem put_ins{m:Mono}: ∀{l:List Mono} {i:Nat},(∀y∈l.take i,m.key<y.key)→i≤l.length→(∀x,l[i]?=some x→x.key<m.key)→lO m l=l.take i++m::l.drop i
 | [],i,_,hi,_=>by
  have:i=0:=by simpa using hi
  subst this;rfl
 | a::l,0,_,_,hx=>by
  have:=hx a rfl;rw [lO,if_neg (by omega),if_neg (by omega)];rfl
 | a::l,i+1,ht,hi,hx=>by
  rw [lO,if_pos (ht a (by simp)),put_ins (l:=l) (i:=i) (fun y hy=>ht y (by simp [hy])) (by simpa using hi) (fun x h=>hx x (by simpa using h))];rfl
theorem bDm{l cur:List Mono}{i:Nat}(hi:i≤l.length)(h: ∃z,cur=l.take i++z::l.drop i)(m:Mono):cur.set i m=l.take i++m::l.drop i:=by
 obtain⟨z,rfl⟩:=h;rw [List.set_append_right _ _ (by simp;omega),show i-(l.take i).length=0 from by simp;omega];rfl
theorem bJz{l cur:List Mono}{k:Nat}{x:Mono}(hk:k≤l.length)(h0:0<k)(h: ∃z,cur=l.take k++z::l.drop k)(hx:cur[k-1]?=some x): ∃z,cur.set k x=l.take (k-1)++z::l.drop (k-1):=by
 obtain⟨z,hz⟩:=h;refine⟨x,?_⟩;rw [bDm hk ⟨z,hz⟩ x]
 obtain⟨j,rfl⟩: ∃j,k=j+1:=⟨k-1,by omega⟩
 rw [Nat.add_sub_cancel] at hx⊢
 have hj:l[j]?=some x:=by
  rw [hz,List.getElem?_append_left (by simp;omega),List.getElem?_take_of_lt (by omega)] at hx;exact hx
 have hd:l.drop j=x::l.drop (j+1):=by
  have hlt:j<l.length:=by omega
  rw [List.drop_eq_getElem_cons hlt]
  congr 1
  exact(List.getElem?_eq_some_iff.1 hj).2
 rw [List.take_add_one,hj,hd];simp
set_option maxRecDepth 100000 in
theorem bDo(A:Option Addr)(cap:Nat)(l:List Mono)(m:Mono)(hl:l.length≤1000000):dD Tryz.prog 182 [.slice A l.length cap,.agg #[.int .i64 m.n,.int .u8 m.e0.toNat,.int .u8 m.e1.toNat,.int .u8 m.e2.toNat,.int .u8 m.e3.toNat,.int .u8 m.e4.toNat,.int .u8 m.e5.toNat]] [dG.row (.slice A l.length cap) 45 l] [] (fun(x:Option Addr×Nat)=> .slice x.1 (lO m l).length x.2) (fun(x:Option Addr×Nat)=>[dG.row (.slice x.1 (lO m l).length x.2) 45 (lO m l)]) (fun _=>[]):=by
 have hT:=tU;refine cI Tryz.func182 rfl Tryz.ntmps182 rfl ?_;intro β hM;refine sr<|gC rfl rfl rfl rfl rfl rfl fun b1=>?_;refine sp hT ?_;refine nn<|sr<|sp hT ?_;refine nn<|bF<|bO<|nZ (ι:=Nat) (fun i=>[(0,.slice A l.length cap),(3,.pointer (some ⟨b1,0,none⟩)),(5,.int .i64 (i:Nat))]) (fun i=>[.obj b1 (.cells m.cells.toArray 45),dG.row (.slice A l.length cap) 45 l]) (fun i=>[bP.pure (i≤l.length∧ ∀x∈l.take i,m.key<x.key)]) (fun i=>l.length-i) 0 ⟨rfl,rfl,rfl,trivial⟩ (.cons .head (.cons .head .nil)) ⟨Has.pure (by simp),trivial⟩ ?_;rintro i;refine bV (Has.of mT0) fun hinv2=>?_;refine bF<|bF<|dR _ _ [(true,0),(true,1),(true,2),(true,3),(true,4),(true,5),(true,6),(true,7),(true,8),(true,9),(false,10),(true,11),(true,12)] dP (by decide+kernel) (.cons .head (.cons .head .nil)) bI.self ?_;refine puM hT ?_;refine puM hT ?_;refine puM hT ?_;refine puM hT ?_;refine puM hT ?_;refine bW (fun hg11=>?_) (fun hg11=>?_)
 ·have hg11:=of_decide_eq_true hg11;refine puM hT ?_;refine puM hT ?_
  obtain⟨x2,hx3⟩: ∃x,l[i]?=some x:=⟨_,List.getElem?_eq_getElem (by omega)⟩
  refine stM rfl (bG hT (k:=i) (bU kT1) rfl rfl rfl rfl rfl rfl rfl (by omega)) ?_;refine stM rfl (cL hT (bY.knows (bU kT1) hx3 0) rfl rfl rfl rfl rfl) ?_;refine stM rfl (ldN hT (cU .head)) ?_;refine dB (o:=_) rfl ?_;refine fF (cA Tryz.func185 rfl rfl) (bCw _ _) rfl rfl rfl rfl rfl .nil .nil gV trivial (fun _=>True) (fun _ _ _ _=>trivial) fun _ _=>?_;refine dA (.cons .head (.cons .head .nil)) ⟨Has.of mT0,trivial⟩ ?_;refine puM hT ?_;refine puM hT ?_;refine cN<|bD<|bM rfl (fun hc19=>?_) (fun hc19=>?_)
  ·have hc19:=eq_of_beq hc19;have hc19:=bJp.1 hc19;refine bL<|bD<|bO<|bB<|sp2 hT ?_;refine bS (z':=(((i+1):Nat):Int)) (cG (by omega) (by omega)) ?_;refine sp hT ?_;refine fZ<|bT<|bD ?_;exact mM (i+1) (by omega) ⟨rfl,rfl,rfl,trivial⟩ (.cons .head (.cons .head .nil)) ⟨Has.pure (⟨by omega,take_more ‹l[i]?=some _› hinv2.2 hc19⟩),trivial⟩
  have hc19:=beq_eq_false_iff_ne.1 hc19;have hc19:=mt bJp.2 hc19;refine cD<|bX<|bX<|cE<|bD<|bF<|bF<|dR _ _ [(true,0),(true,1),(true,2),(true,3),(true,4),(true,5),(true,6),(true,7),(true,8),(true,9),(false,10),(true,11),(true,12)] dP (by decide+kernel) (.cons .head (.cons .head .nil)) bI.self ?_;refine puM hT ?_;refine puM hT ?_;refine puM hT ?_;refine puM hT ?_;refine puM hT ?_;refine bW (fun hg26=>?_) (fun hg26=>?_)
  ·have hg26:=of_decide_eq_true hg26;refine puM hT ?_;refine puM hT ?_;refine stM rfl (bG hT (k:=i) (bU kT1) rfl rfl rfl rfl rfl rfl rfl (by omega)) ?_;refine stM rfl (cL hT (bY.knows (bU kT1) hx3 0) rfl rfl rfl rfl rfl) ?_;refine stM rfl (ldN hT (cU .head)) ?_;refine dB (o:=_) rfl ?_;refine fF (cA Tryz.func185 rfl rfl) (bCw _ _) rfl rfl rfl rfl rfl .nil .nil gV trivial (fun _=>True) (fun _ _ _ _=>trivial) fun _ _=>?_;refine dA (.cons .head (.cons .head .nil)) ⟨Has.of mT0,trivial⟩ ?_;refine puM hT ?_;refine puM hT ?_;refine cN<|bD<|bM rfl (fun hc34=>?_) (fun hc34=>?_)
   ·have hc34:=eq_of_beq hc34;have hc34:=bIu.1 hc34;refine bF<|at_rowg kT1 (by omega) fun g hg=>?_;subst hg;refine dR _ _ [(true,0),(true,1),(true,2),(true,3),(true,4),(true,5),(true,7),(true,8),(false,6),(true,9),(true,10),(true,11),(false,12)] dP (by decide+kernel) (.cons .head .nil) bI.self ?_;refine puM hT ?_;refine puM hT ?_;refine puM hT ?_;refine puM hT ?_;refine stM rfl (iU hT (k:=i) rfl rfl rfl rfl rfl rfl (by omega)) ?_;refine puM hT ?_;refine puM hT ?_;refine stM rfl (ldO hT (cU .head)) ?_;refine dB (o:=_) rfl ?_;refine ss (bN hT (bY.knows (bU kT1) hx3 0) rfl rfl rfl rfl rfl) ?_;refine dA (.cons .head .nil) ⟨Has.of mT0,trivial⟩ ?_;refine puM hT ?_;refine stM rfl (iU hT (k:=i) rfl rfl rfl rfl rfl rfl (by omega)) ?_;refine puM hT ?_;refine dB (o:=_) rfl ?_;refine cF hT (k:=i) (fo:=0) (y':=⟨_,_,_,_,_,_,_⟩) kT1 rfl rfl rfl rfl rfl rfl rfl rfl rfl hx3 rfl ?_;refine dA (.cons kT1 .nil) ⟨Has.of mT0,trivial⟩ ?_;refine cN<|bD<|sr<|sp2 hT ?_;refine nn<|bK<|bJ ?_;rw [put_eq hx3 hinv2.2 hc34,List.length_set];exact bGk (some ⟨g,0,none⟩,cap) rfl rfl rfl (.cons .head .nil) trivial
   have hc34:=beq_eq_false_iff_ne.1 hc34;have hc34:=mt bIu.2 hc34;refine bL<|bD<|bF ?_;have hlast: ∀x,l[i]?=some x→x.key<m.key:=fun x hx=>by rw [hx3] at hx;cases hx;omega
   refine bB<|sp hT ?_;refine ss (ldN hT (cU .head)) ?_;refine at_one (m:=m) rfl rfl rfl rfl rfl fun b4=>?_;refine at_app kT2 (gU .head rfl) rfl rfl rfl rfl rfl rfl rfl (by simp) (by simp only [List.length_singleton];omega) fun A5 c6=>?_;refine sp hT ?_;refine nn<|bF<|bF<|at_rowg .head (by simp) fun g7 hg=>?_;subst hg;have hN:(l++[m]).length=l.length+1:=by simp
   refine bB<|sp3 hT ?_;refine bS (z':=((((l++[m]).length-1):Nat):Int)) (cG (by omega) (by omega)) ?_;refine sp hT ?_;refine nn<|bO<|nZ (ι:=Nat×List Mono) (fun⟨k,cur⟩=>[(0,.slice (some ⟨g7,0,none⟩) (l++[m]).length c6),(3,.pointer (some ⟨b1,0,none⟩)),(5,.int .i64 (i:Nat)),(6,.int .i64 (k:Nat))]) (fun⟨k,cur⟩=>[dG.row (.slice (some ⟨g7,0,none⟩) (l++[m]).length c6) 45 cur,.obj b1 (.cells m.cells.toArray 45)]) (fun⟨k,cur⟩=>[bP.pure (i≤k∧k≤l.length∧ ∃z,cur=l.take k++z::l.drop k)]) (fun⟨k,cur⟩=>k) ((l++[m]).length-1,l++[m]) ⟨rfl,rfl,rfl,rfl,trivial⟩ (.cons .head (.cons kT1 .nil)) ⟨Has.pure (⟨by omega,by omega,m,by simp⟩),trivial⟩ ?_;rintro⟨k,cur⟩;dsimp only;refine bV (Has.of mT0) fun hinv9=>?_;have hcl:cur.length=l.length+1:=by obtain⟨z,hz⟩:=hinv9.2.2;rw [hz];simp;omega
   refine bF<|sr<|sp3 hT ?_;refine nn<|bM rfl (fun hc57=>?_) (fun hc57=>?_)
   ·have hc57:=of_decide_eq_true hc57;refine bL<|bD<|bF<|bO<|bB<|sp4 hT ?_;refine sp hT ?_;refine bS (z':=(((k-1):Nat):Int)) (cG (by omega) (by omega)) ?_
    obtain⟨x8,hx9⟩: ∃x,cur[(k-1)]?=some x:=⟨_,List.getElem?_eq_getElem (by omega)⟩
    refine ss (iU hT (k:=(k-1)) rfl rfl rfl rfl rfl rfl (by omega)) ?_;refine ss (cL hT (bY.knows (bU .head) hx9 0) rfl rfl rfl rfl rfl) ?_
    obtain⟨x10,hx11⟩: ∃x,cur[k]?=some x:=⟨_,List.getElem?_eq_getElem (by omega)⟩
    refine ss (iU hT (k:=k) rfl rfl rfl rfl rfl rfl (by omega)) ?_;refine cF hT (k:=k) (fo:=0) (y':=x8) .head rfl rfl rfl rfl rfl rfl rfl rfl rfl hx11 rfl ?_;refine fZ<|bT<|bD<|bB<|sp2 hT ?_;refine bS (z':=(((k-1):Nat):Int)) (cG (by omega) (by omega)) ?_;refine sp hT ?_;refine nn ?_;exact mM (k-1,_) (by dsimp only;omega) ⟨rfl,rfl,rfl,rfl,trivial⟩ (.cons .head (.cons .head .nil)) ⟨Has.pure (by refine⟨by omega,by omega,?_⟩;exact bJz hinv9.2.1 (by omega) hinv9.2.2 ‹cur[k-1]?=some _›),trivial⟩
   have hc57:=Int.not_lt.1 (of_decide_eq_false hc57);refine cD<|bX<|bX<|cE<|bD<|sr<|sp2 hT ?_;refine ss (ldN hT (cU kT1)) ?_
   obtain⟨x12,hx13⟩: ∃x,cur[i]?=some x:=⟨_,List.getElem?_eq_getElem (by omega)⟩
   refine ss (iU hT (k:=i) rfl rfl rfl rfl rfl rfl (by omega)) ?_;refine cF hT (k:=i) (fo:=0) (y':=m) .head rfl rfl rfl rfl rfl rfl rfl rfl rfl hx13 rfl ?_;refine nn<|sr<|sp2 hT ?_;refine nn<|bK ?_;have hk:k=i:=by omega
   subst hk;have e:lO m l=cur.set k m:=(put_ins hinv2.2 hinv2.1 hlast).trans (bDm hinv2.1 hinv9.2.2 m).symm;have e2:(cur.set k m).length=(l++[m]).length:=by rw [List.length_set];omega
   rw [e,e2];exact bGk (some ⟨g7,0,none⟩,c6) rfl rfl rfl (.cons .head .nil) trivial
  have hg26:=Int.not_lt.1 (of_decide_eq_false hg26);omega
 have hg11:=Int.not_lt.1 (of_decide_eq_false hg11);refine bC rfl rfl rfl rfl ?_;refine bC rfl rfl rfl rfl ?_;refine bC rfl rfl rfl rfl ?_;refine bC rfl rfl rfl rfl ?_;refine bC rfl rfl rfl rfl ?_;refine dB (o:=_) rfl ?_;refine sk ?_;refine dA (.cons .head (.cons .head .nil)) ⟨Has.of mT0,trivial⟩ ?_;refine bC rfl rfl rfl rfl ?_;refine puM hT ?_;refine cN<|bD<|cR rfl rfl ?_;refine cD<|bX<|bX<|cE<|bD<|bF<|bF<|dR _ _ [(true,0),(true,1),(true,2),(true,3),(true,4),(true,5),(true,6),(true,7),(true,8),(true,9),(false,10),(true,11),(true,12)] dP (by decide+kernel) (.cons .head (.cons .head .nil)) bI.self ?_;refine puM hT ?_;refine puM hT ?_;refine puM hT ?_;refine puM hT ?_;refine puM hT ?_;refine bW (fun hg26=>?_) (fun hg26=>?_)
 ·have hg26:=of_decide_eq_true hg26;omega
 have hg26:=Int.not_lt.1 (of_decide_eq_false hg26);refine bC rfl rfl rfl rfl ?_;refine bC rfl rfl rfl rfl ?_;refine bC rfl rfl rfl rfl ?_;refine bC rfl rfl rfl rfl ?_;refine bC rfl rfl rfl rfl ?_;refine dB (o:=_) rfl ?_;refine sk ?_;refine dA (.cons .head (.cons .head .nil)) ⟨Has.of mT0,trivial⟩ ?_;refine bC rfl rfl rfl rfl ?_;refine puM hT ?_;refine cN<|bD<|cR rfl rfl ?_;refine bL<|bD<|bF ?_;have hlast: ∀x,l[i]?=some x→x.key<m.key:=fun x hx=>by rw [List.getElem?_eq_none (by omega)] at hx;cases hx
 refine bB<|sp hT ?_;refine ss (ldN hT (cU .head)) ?_;refine at_one (m:=m) rfl rfl rfl rfl rfl fun b14=>?_;refine at_app kT2 (gU .head rfl) rfl rfl rfl rfl rfl rfl rfl (by simp) (by simp only [List.length_singleton];omega) fun A15 c16=>?_;refine sp hT ?_;refine nn<|bF<|bF<|at_rowg .head (by simp) fun g17 hg=>?_;subst hg;have hN:(l++[m]).length=l.length+1:=by simp
 refine bB<|sp3 hT ?_;refine bS (z':=((((l++[m]).length-1):Nat):Int)) (cG (by omega) (by omega)) ?_;refine sp hT ?_;refine nn<|bO<|nZ (ι:=Nat×List Mono) (fun⟨k,cur⟩=>[(0,.slice (some ⟨g17,0,none⟩) (l++[m]).length c16),(3,.pointer (some ⟨b1,0,none⟩)),(5,.int .i64 (i:Nat)),(6,.int .i64 (k:Nat))]) (fun⟨k,cur⟩=>[dG.row (.slice (some ⟨g17,0,none⟩) (l++[m]).length c16) 45 cur,.obj b1 (.cells m.cells.toArray 45)]) (fun⟨k,cur⟩=>[bP.pure (i≤k∧k≤l.length∧ ∃z,cur=l.take k++z::l.drop k)]) (fun⟨k,cur⟩=>k) ((l++[m]).length-1,l++[m]) ⟨rfl,rfl,rfl,rfl,trivial⟩ (.cons .head (.cons kT1 .nil)) ⟨Has.pure (⟨by omega,by omega,m,by simp⟩),trivial⟩ ?_;rintro⟨k,cur⟩;dsimp only;refine bV (Has.of mT0) fun hinv9=>?_;have hcl:cur.length=l.length+1:=by obtain⟨z,hz⟩:=hinv9.2.2;rw [hz];simp;omega
 refine bF<|sr<|sp3 hT ?_;refine nn<|bM rfl (fun hc57=>?_) (fun hc57=>?_)
 ·have hc57:=of_decide_eq_true hc57;refine bL<|bD<|bF<|bO<|bB<|sp4 hT ?_;refine sp hT ?_;refine bS (z':=(((k-1):Nat):Int)) (cG (by omega) (by omega)) ?_
  obtain⟨x18,hx19⟩: ∃x,cur[(k-1)]?=some x:=⟨_,List.getElem?_eq_getElem (by omega)⟩
  refine ss (iU hT (k:=(k-1)) rfl rfl rfl rfl rfl rfl (by omega)) ?_;refine ss (cL hT (bY.knows (bU .head) hx19 0) rfl rfl rfl rfl rfl) ?_
  obtain⟨x20,hx21⟩: ∃x,cur[k]?=some x:=⟨_,List.getElem?_eq_getElem (by omega)⟩
  refine ss (iU hT (k:=k) rfl rfl rfl rfl rfl rfl (by omega)) ?_;refine cF hT (k:=k) (fo:=0) (y':=x18) .head rfl rfl rfl rfl rfl rfl rfl rfl rfl hx21 rfl ?_;refine fZ<|bT<|bD<|bB<|sp2 hT ?_;refine bS (z':=(((k-1):Nat):Int)) (cG (by omega) (by omega)) ?_;refine sp hT ?_;refine nn ?_;exact mM (k-1,_) (by dsimp only;omega) ⟨rfl,rfl,rfl,rfl,trivial⟩ (.cons .head (.cons .head .nil)) ⟨Has.pure (by refine⟨by omega,by omega,?_⟩;exact bJz hinv9.2.1 (by omega) hinv9.2.2 ‹cur[k-1]?=some _›),trivial⟩
 have hc57:=Int.not_lt.1 (of_decide_eq_false hc57);refine cD<|bX<|bX<|cE<|bD<|sr<|sp2 hT ?_;refine ss (ldN hT (cU kT1)) ?_
 obtain⟨x22,hx23⟩: ∃x,cur[i]?=some x:=⟨_,List.getElem?_eq_getElem (by omega)⟩
 refine ss (iU hT (k:=i) rfl rfl rfl rfl rfl rfl (by omega)) ?_;refine cF hT (k:=i) (fo:=0) (y':=m) .head rfl rfl rfl rfl rfl rfl rfl rfl rfl hx23 rfl ?_;refine nn<|sr<|sp2 hT ?_;refine nn<|bK ?_;have hk:k=i:=by omega
 subst hk;have e:lO m l=cur.set k m:=(put_ins hinv2.2 hinv2.1 hlast).trans (bDm hinv2.1 hinv9.2.2 m).symm;have e2:(cur.set k m).length=(l++[m]).length:=by rw [List.length_set];omega
 rw [e,e2];exact bGk (some ⟨g17,0,none⟩,c16) rfl rfl rfl (.cons .head .nil) trivial
def mQ (l:List Mono):List Mono×Int:=if cT (l.filter nz) then (l.filter nz,0) else ([],21)
theorem bDw(x:Mono):[x].filter nz=if x.n=0 then [] else [x]:=by
 by_cases h:x.n=0<;>simp [List.filter_cons,nz,h]
set_option maxRecDepth 100000 in
theorem bDv(A:Option Addr)(c:Nat)(l:List Mono)(hl:l.length≤1000000):dD Tryz.prog 183 [.slice A l.length c] [] [dG.sl (.slice A l.length c) l] (fun(x:Option Addr×Nat)=> .tuple #[.slice x.1 (mQ l).1.length x.2,.int .i64 (mQ l).2]) (fun(x:Option Addr×Nat)=>[dG.row (.slice x.1 (mQ l).1.length x.2) 45 (mQ l).1]) (fun _=>[]):=by
 have hT:=tU;refine cI Tryz.func183 rfl Tryz.ntmps183 rfl ?_;intro β hM;refine sr<|sp2 hT ?_;refine nn<|sr<|sp hT ?_;refine nn<|bF<|bF<|fV (t:=45) dG ?_;refine bB<|sp hT ?_;refine nn<|bO<|nZ (ι:=Nat×List Mono×Option Addr×Nat) (fun⟨i,out,B,cb⟩=>[(0,.slice A l.length c),(4,.slice B out.length cb),(5,.int .i64 (i:Nat))]) (fun⟨i,out,B,cb⟩=>[dG.row (.slice B out.length cb) 45 out]) (fun⟨i,out,B,cb⟩=>[bP.pure (i≤l.length∧out=(l.take i).filter nz),dG.sl (.slice A l.length c) l]) (fun⟨i,out,B,cb⟩=>l.length-i) (0,[],none,0) ⟨rfl,rfl,rfl,trivial⟩ (.cons .head .nil) ⟨Has.pure (by simp),Has.of mT0,trivial⟩ ?_;rintro⟨i,out,B,cb⟩;dsimp only;refine bV (Has.of mT0) fun hinv3=>?_;have hol:out.length≤l.length:=by rw [hinv3.2];exact Nat.le_trans (List.length_filter_le _ _) (by simp;omega)
 refine bF<|sr<|sp4 hT ?_;refine nn<|bM rfl (fun hc9=>?_) (fun hc9=>?_)
 ·have hc9:=of_decide_eq_true hc9;refine bL<|bD<|bF<|bO<|sr<|sp2 hT ?_
  obtain⟨x1,hx2⟩: ∃x,l[i]?=some x:=⟨_,List.getElem?_eq_getElem (by omega)⟩
  refine ss (bG hT (k:=i) (bA (Has.of mT1)) rfl rfl rfl rfl rfl rfl rfl (by omega)) ?_;refine sp hT ?_;refine ss (bN hT (bY.knows (bA (Has.of mT1)) hx2 0) rfl rfl rfl rfl rfl) ?_;refine sp hT ?_;refine nn<|bM rfl (fun hc17=>?_) (fun hc17=>?_)
  ·have hc17:=bne_iff_ne.1 hc17;refine bB<|sp3 hT ?_;refine ss (bG hT (k:=i) (bA (Has.of mT1)) rfl rfl rfl rfl rfl rfl rfl (by omega)) ?_;refine ss (cL hT (bY.knows (bA (Has.of mT1)) hx2 0) rfl rfl rfl rfl rfl) ?_;refine at_one (m:=x1) rfl rfl rfl rfl rfl fun b3=>?_;refine at_app kT1 (gU .head rfl) rfl rfl rfl rfl rfl rfl rfl (by simp) (by simp only [List.length_singleton];omega) fun A4 c5=>?_;refine sp hT ?_;refine fZ<|bT<|bD<|bB<|sp2 hT ?_;refine bS (z':=(((i+1):Nat):Int)) (cG (by omega) (by omega)) ?_;refine sp hT ?_;refine nn ?_;exact mM (i+1,_,_,_) (by dsimp only;omega) ⟨rfl,rfl,rfl,trivial⟩ (.cons .head .nil) ⟨Has.pure (by refine⟨by omega,?_⟩;rw [List.take_add_one,hx2,List.filter_append,←hinv3.2,Option.toList_some,bDw];simp [hc17]),Has.of mT1,trivial⟩
  have hc17:=bne_eq_false_iff_eq.1 hc17;refine bL<|bT<|bD<|bB<|sp2 hT ?_;refine bS (z':=(((i+1):Nat):Int)) (cG (by omega) (by omega)) ?_;refine sp hT ?_;refine nn ?_;exact mM (i+1,_,_,_) (by dsimp only;omega) ⟨rfl,rfl,rfl,trivial⟩ (.cons .head .nil) ⟨Has.pure (by refine⟨by omega,?_⟩;rw [List.take_add_one,hx2,List.filter_append,←hinv3.2,Option.toList_some,bDw];simp [hc17]),Has.of mT1,trivial⟩
 have hc9:=Int.not_lt.1 (of_decide_eq_false hc9);refine cD<|bX<|bX<|cE<|bD<|bF<|sr<|sp hT ?_;refine fF (cA Tryz.func123 rfl rfl) (lJ _ _ out (by omega)) rfl rfl rfl rfl rfl .nil (.cons .head .nil) (nN gV) ⟨Has.of mT0,trivial⟩ (fun _=>True) (fun _ _ _ _=>trivial) fun _ _=>?_;refine sp hT ?_;refine nn<|bM rfl (fun hc27=>?_) (fun hc27=>?_)
 ·have hc27:=gR hc27;refine sr<|sp2 hT ?_;refine nn<|bK<|bJ ?_
  have hw:mQ l=([],21):=by
   have e:out=l.filter nz:=by rw [hinv3.2,List.take_of_length_le (by omega)]
   unfold mQ;rw [←e,hc27];rfl
  rw [hw];refine fV (t:=45) dG ?_;exact mL (none,0) rfl rfl rfl rfl (.cons .head .nil) trivial
 have hc27:=gQ hc27;refine bL<|bD<|sr<|sp3 hT ?_;refine nn<|bK ?_
 have hw:mQ l=(out,0):=by
  have e:out=l.filter nz:=by rw [hinv3.2,List.take_of_length_le (by omega)]
  unfold mQ;rw [←e,hc27];rfl
 rw [hw];exact mL (B,cb) rfl rfl rfl rfl (.cons .head .nil) trivial
def iQ (acc:List Mono)(l:List Mono):List Mono:=l.foldl (fun a m=>lO m a) acc
def bAf (s:Int)(m:Mono):Mono:=⟨wrap64 (s*m.n),m.e0,m.e1,m.e2,m.e3,m.e4,m.e5⟩
theorem putP_len(m:Mono): ∀l:List Mono,(lO m l).length≤l.length+1
 | []=>by simp [lO]
 | a::l=>by
  have:=putP_len m l;rw [lO];split
  ·simp;omega
  ·split<;>simp
theorem nR: ∀(l acc:List Mono),(iQ acc l).length≤acc.length+l.length
 | [],acc=>by simp [iQ]
 | m::l,acc=>by
  have h1:=nR l (lO m acc);have h2:=putP_len m acc;have e:iQ acc (m::l)=iQ (lO m acc) l:=rfl;rw [e,List.length_cons];omega
theorem wD(acc l k:List Mono):iQ acc (l++k)=iQ (iQ acc l) k:=List.foldl_append
theorem uJ(acc l:List Mono)(m:Mono):iQ acc (l++[m])=lO m (iQ acc l):=by rw [wD];rfl
def gI (p q:List Mono)(s:Int):List Mono×Int:=if cT p&&cT q then mQ (iQ (iQ [] p) (q.map (bAf s))) else ([],20)
def lQ (p q:List Mono):List Mono×Int:=if cT p&&cT q then mQ (iQ [] (p.flatMap fun a=>q.map (mulM a))) else ([],20)
theorem flat_len(q:List Mono): ∀l:List Mono,(l.flatMap fun a=>q.map (mulM a)).length=l.length*q.length
 | []=>by simp
 | a::l=>by
  rw [List.flatMap_cons,List.length_append,flat_len q l,List.length_map,List.length_cons,Nat.add_mul,Nat.one_mul,Nat.add_comm]
theorem refMul_len{p q:List Mono}{i:Nat}(hi:i≤p.length):(iQ [] ((p.take i).flatMap fun a=>q.map (mulM a))).length≤i*q.length:=by
 refine Nat.le_trans (nR _ _) ?_;rw [flat_len,List.length_take,Nat.min_eq_left hi];simp
theorem rU{p:List Mono}(h:cT p=true):p.length≤48:=by
 unfold cT at h;simp at h;exact h.1
set_option maxRecDepth 100000 in
theorem bGz(A B:Option Addr)(c d:Nat)(p q:List Mono)(s:Int)(hpl:p.length≤140737488355328)(hql:q.length≤140737488355328):dD Tryz.prog 165 [.slice A p.length c,.slice B q.length d,.int .i64 s] [] [dG.sl (.slice A p.length c) p,dG.sl (.slice B q.length d) q] (fun(x:Option Addr×Nat)=> .tuple #[.slice x.1 (gI p q s).1.length x.2,.int .i64 (gI p q s).2]) (fun(x:Option Addr×Nat)=>[dG.row (.slice x.1 (gI p q s).1.length x.2) 45 (gI p q s).1]) (fun _=>[]):=by
 have hT:=tU;refine cI Tryz.func165 rfl Tryz.ntmps165 rfl ?_;intro β hM;refine sr<|sp2 hT ?_;refine nn<|bF<|sr<|sp hT ?_;refine fF (cA Tryz.func123 rfl rfl) (lJ _ _ p (by omega)) rfl rfl rfl rfl rfl .nil .nil gV ⟨Has.of mT0,trivial⟩ (fun _=>True) (fun _ _ _ _=>trivial) fun _ _=>?_;refine sp2 hT ?_;refine bW (fun hg14=>?_) (fun hg14=>?_)
 ·have hg14:=gR hg14;have hrp:=hg14;refine sk3 ?_;refine sp hT ?_;refine nn<|cJ rfl rfl ?_;refine sr<|sp2 hT ?_;refine nn<|bK<|bJ ?_;have hw:gI p q s=([],20):=by unfold gI;simp [hrp]
  rw [hw];refine fV (t:=45) dG ?_;exact mL (none,0) rfl rfl rfl rfl (.cons .head .nil) trivial
 have hg14:=gQ hg14;have hrp:=hg14;refine sp hT ?_;refine fF (cA Tryz.func123 rfl rfl) (lJ _ _ q (by omega)) rfl rfl rfl rfl rfl .nil .nil gV ⟨Has.of mT1,trivial⟩ (fun _=>True) (fun _ _ _ _=>trivial) fun _ _=>?_;refine sp2 hT ?_;refine nn<|bM rfl (fun hc18=>?_) (fun hc18=>?_)
 ·have hc18:=gR hc18;have hrq:=hc18;refine sr<|sp2 hT ?_;refine nn<|bK<|bJ ?_;have hw:gI p q s=([],20):=by unfold gI;simp [hrp,hrq]
  rw [hw];refine fV (t:=45) dG ?_;exact mL (none,0) rfl rfl rfl rfl (.cons .head .nil) trivial
 have hc18:=gQ hc18;have hrq:=hc18;have hp:=rU hrp;have hq:=rU hrq;refine bL<|bD<|sr<|sp hT ?_;refine nn<|bF<|bF<|fV (t:=45) dG ?_;refine bB<|sp hT ?_;refine nn<|bO<|nZ (ι:=Nat×List Mono×Option Addr×Nat) (fun⟨i,cur,C,e⟩=>[(0,.slice A p.length c),(1,.slice B q.length d),(2,.int .i64 s),(8,.slice C cur.length e),(9,.int .i64 (i:Nat))]) (fun⟨i,cur,C,e⟩=>[dG.row (.slice C cur.length e) 45 cur]) (fun⟨i,cur,C,e⟩=>[bP.pure (i≤p.length∧cur=iQ [] (p.take i)),dG.sl (.slice A p.length c) p,dG.sl (.slice B q.length d) q]) (fun⟨i,cur,C,e⟩=>p.length-i) (0,[],none,0) ⟨rfl,rfl,rfl,rfl,rfl,trivial⟩ (.cons .head .nil) ⟨Has.pure (⟨by omega,by rfl⟩),Has.of mT0,Has.of mT1,trivial⟩ ?_;rintro⟨i,cur,C,e⟩;dsimp only;refine bV (Has.of mT0) fun hinv5=>?_;have hcl:cur.length≤i:=by rw [hinv5.2];exact Nat.le_trans (nR _ _) (by simp;omega)
 refine bF<|sr<|sp4 hT ?_;refine nn<|bM rfl (fun hc22=>?_) (fun hc22=>?_)
 ·have hc22:=of_decide_eq_true hc22;refine bL<|bD<|bF<|bO<|bB<|sp3 hT ?_
  obtain⟨x1,hx2⟩: ∃x,p[i]?=some x:=⟨_,List.getElem?_eq_getElem (by omega)⟩
  refine ss (bG hT (k:=i) (bA (Has.of mT1)) rfl rfl rfl rfl rfl rfl rfl (by omega)) ?_;refine ss (cL hT (bY.knows (bA (Has.of mT1)) hx2 0) rfl rfl rfl rfl rfl) ?_;refine cQ Tryz.func182 (bDo _ _ cur x1 (by omega)) rfl rfl (.cons .head .nil) trivial fun⟨B3,c4⟩=>?_;refine sp hT ?_;refine fZ<|bT<|bD<|bB<|sp2 hT ?_;refine bS (z':=(((i+1):Nat):Int)) (cG (by omega) (by omega)) ?_;refine sp hT ?_;refine nn ?_;exact mM (i+1,_,_,_) (by dsimp only;omega) ⟨rfl,rfl,rfl,rfl,rfl,trivial⟩ (.cons .head .nil) ⟨Has.pure (by refine⟨by omega,?_⟩;rw [List.take_add_one,‹p[i]?=some _›,Option.toList_some,uJ,←hinv5.2]),Has.of mT1,Has.of mT2,trivial⟩
 have hc22:=Int.not_lt.1 (of_decide_eq_false hc22);refine cD<|bX<|bX<|cE<|bD<|bF<|sr<|sp hT ?_;refine nn<|bO<|nZ (ι:=Nat×List Mono×Option Addr×Nat) (fun⟨k,cur,C,e⟩=>[(1,.slice B q.length d),(2,.int .i64 s),(8,.slice C cur.length e),(10,.int .i64 (k:Nat))]) (fun⟨k,cur,C,e⟩=>[dG.row (.slice C cur.length e) 45 cur]) (fun⟨k,cur,C,e⟩=>[bP.pure (k≤q.length∧cur=iQ (iQ [] p) ((q.take k).map (bAf s))),dG.sl (.slice B q.length d) q]) (fun⟨k,cur,C,e⟩=>q.length-k) (0,cur,C,e) ⟨rfl,rfl,rfl,rfl,trivial⟩ (.cons .head .nil) ⟨Has.pure (⟨by omega,by rw [hinv5.2,List.take_of_length_le (by omega)];rfl⟩),Has.of mT2,trivial⟩ ?_;rintro⟨k,cur,C,e⟩;dsimp only;refine bV (Has.of mT0) fun hinv9=>?_;have hcl:cur.length≤p.length+k:=by rw [hinv9.2];refine Nat.le_trans (nR _ _) ?_;have:=nR p [];simp at this⊢;omega
 refine bF<|sr<|sp4 hT ?_;refine nn<|bM rfl (fun hc34=>?_) (fun hc34=>?_)
 ·have hc34:=of_decide_eq_true hc34;refine bL<|bD<|bF<|bO<|dR _ _ [(true,0),(true,1),(true,2),(true,3),(true,4),(true,5),(true,6),(true,7),(true,8),(true,9),(true,10),(true,11),(true,12),(true,13),(false,14),(true,15)] dP (by decide+kernel) .nil bI.self ?_;refine puM hT ?_;refine puM hT ?_;refine puM hT ?_;refine puM hT ?_
  obtain⟨x5,hx6⟩: ∃x,q[k]?=some x:=⟨_,List.getElem?_eq_getElem (by omega)⟩
  refine stM rfl (bG hT (k:=k) (bA (Has.of mT1)) rfl rfl rfl rfl rfl rfl rfl (by omega)) ?_;refine puM hT ?_;refine stM rfl (bN hT (bY.knows (bA (Has.of mT1)) hx6 0) rfl rfl rfl rfl rfl) ?_;refine puM hT ?_;refine puM hT ?_;refine puM hT ?_;refine stM rfl (bG hT (k:=k) (bA (Has.of mT1)) rfl rfl rfl rfl rfl rfl rfl (by omega)) ?_;refine puM hT ?_;refine stM rfl (cL hT (bY.knows (bA (Has.of mT1)) hx6 1) rfl rfl rfl rfl rfl) ?_;refine stM rfl (dO rfl rfl (built_ne _ _ _ _ _ _ _)) ?_;refine dB (o:=_) rfl ?_;refine cQ Tryz.func182 (bDo _ _ cur ⟨_,_,_,_,_,_,_⟩ (by omega)) rfl rfl (.cons .head .nil) trivial fun⟨B7,c8⟩=>?_;refine dA .nil ⟨Has.of mT0,Has.of mT1,trivial⟩ ?_;refine puM hT ?_;refine cN<|bT<|bD<|bB<|sp2 hT ?_;refine bS (z':=(((k+1):Nat):Int)) (cG (by omega) (by omega)) ?_;refine sp hT ?_;refine nn ?_;exact mM (k+1,_,_,_) (by dsimp only;omega) ⟨rfl,rfl,rfl,rfl,trivial⟩ (.cons .head .nil) ⟨Has.pure (by refine⟨by omega,?_⟩;rw [List.take_add_one,‹q[k]?=some _›,Option.toList_some,List.map_append,List.map_singleton,uJ,←hinv9.2,bAf,←wrap_eq];rfl),Has.of mT1,trivial⟩
 have hc34:=Int.not_lt.1 (of_decide_eq_false hc34);refine cD<|bX<|bX<|cE<|bD<|sr<|sp hT ?_;refine fF (cA Tryz.func183 rfl rfl) (bDv _ _ cur (by omega)) rfl rfl rfl rfl rfl .nil (.cons .head .nil) (nN gV) ⟨Has.of mT0,trivial⟩ (fun _=>True) (fun _ _ _ _=>trivial) fun⟨B9,c10⟩ _=>?_;refine sp4 hT ?_;refine nn<|bK ?_;have hw:gI p q s=mQ cur:=by unfold gI;rw [hrp,hrq,hinv9.2,List.take_of_length_le (by omega)];rfl
 rw [hw];exact mL (B9,c10) rfl rfl rfl rfl (.cons .head .nil) trivial
set_option maxRecDepth 100000 in
theorem refMul_spec(A B:Option Addr)(c d:Nat)(p q:List Mono)(hpl:p.length≤140737488355328)(hql:q.length≤140737488355328):dD Tryz.prog 122 [.slice A p.length c,.slice B q.length d] [] [dG.sl (.slice A p.length c) p,dG.sl (.slice B q.length d) q] (fun(x:Option Addr×Nat)=> .tuple #[.slice x.1 (lQ p q).1.length x.2,.int .i64 (lQ p q).2]) (fun(x:Option Addr×Nat)=>[dG.row (.slice x.1 (lQ p q).1.length x.2) 45 (lQ p q).1]) (fun _=>[]):=by
 have hT:=tU;refine cI Tryz.func122 rfl Tryz.ntmps122 rfl ?_;intro β hM;refine sr<|sp2 hT ?_;refine nn<|bF<|sr<|sp hT ?_;refine fF (cA Tryz.func123 rfl rfl) (lJ _ _ p (by omega)) rfl rfl rfl rfl rfl .nil .nil gV ⟨Has.of mT0,trivial⟩ (fun _=>True) (fun _ _ _ _=>trivial) fun _ _=>?_;refine sp2 hT ?_;refine bW (fun hg14=>?_) (fun hg14=>?_)
 ·have hg14:=gR hg14;have hrp:=hg14;refine sk3 ?_;refine sp hT ?_;refine nn<|cJ rfl rfl ?_;refine sr<|sp2 hT ?_;refine nn<|bK<|bJ ?_;have hw:lQ p q=([],20):=by unfold lQ;simp [hrp]
  rw [hw];refine fV (t:=45) dG ?_;exact mL (none,0) rfl rfl rfl rfl (.cons .head .nil) trivial
 have hg14:=gQ hg14;have hrp:=hg14;refine sp hT ?_;refine fF (cA Tryz.func123 rfl rfl) (lJ _ _ q (by omega)) rfl rfl rfl rfl rfl .nil .nil gV ⟨Has.of mT1,trivial⟩ (fun _=>True) (fun _ _ _ _=>trivial) fun _ _=>?_;refine sp2 hT ?_;refine nn<|bM rfl (fun hc18=>?_) (fun hc18=>?_)
 ·have hc18:=gR hc18;have hrq:=hc18;refine sr<|sp2 hT ?_;refine nn<|bK<|bJ ?_;have hw:lQ p q=([],20):=by unfold lQ;simp [hrp,hrq]
  rw [hw];refine fV (t:=45) dG ?_;exact mL (none,0) rfl rfl rfl rfl (.cons .head .nil) trivial
 have hc18:=gQ hc18;have hrq:=hc18;have hp:=rU hrp;have hq:=rU hrq;refine bL<|bD<|sr<|sp hT ?_;refine nn<|bF<|bF<|fV (t:=45) dG ?_;refine bB<|sp hT ?_;refine nn<|bO<|nZ (ι:=Nat×List Mono×Option Addr×Nat) (fun⟨i,cur,C,e⟩=>[(0,.slice A p.length c),(1,.slice B q.length d),(6,.slice C cur.length e),(7,.int .i64 (i:Nat))]) (fun⟨i,cur,C,e⟩=>[dG.row (.slice C cur.length e) 45 cur]) (fun⟨i,cur,C,e⟩=>[bP.pure (i≤p.length∧cur=iQ [] ((p.take i).flatMap fun a=>q.map (mulM a))),dG.sl (.slice A p.length c) p,dG.sl (.slice B q.length d) q]) (fun⟨i,cur,C,e⟩=>p.length-i) (0,[],none,0) ⟨rfl,rfl,rfl,rfl,trivial⟩ (.cons .head .nil) ⟨Has.pure (⟨by omega,by rfl⟩),Has.of mT0,Has.of mT1,trivial⟩ ?_;rintro⟨i,cur,C,e⟩;dsimp only;refine bV (Has.of mT0) fun hinv5=>?_;have hcl:cur.length≤i*q.length:=by rw [hinv5.2];exact refMul_len (by omega)
 have hiq:i*q.length≤48*48:=Nat.mul_le_mul (by omega) hq;refine bF<|sr<|sp4 hT ?_;refine nn<|bM rfl (fun hc22=>?_) (fun hc22=>?_)
 ·have hc22:=of_decide_eq_true hc22;refine bL<|bD<|bF<|bO<|bF ?_
  obtain⟨y,hy⟩: ∃x,p[i]?=some x:=⟨_,List.getElem?_eq_getElem (by omega)⟩
  refine bB<|sp hT ?_;refine nn<|bO<|nZ (ι:=Nat×List Mono×Option Addr×Nat) (fun⟨k,cur',C',e'⟩=>[(0,.slice A p.length c),(1,.slice B q.length d),(6,.slice C' cur'.length e'),(7,.int .i64 (i:Nat)),(8,.int .i64 (k:Nat))]) (fun⟨k,cur',C',e'⟩=>[dG.row (.slice C' cur'.length e') 45 cur']) (fun⟨k,cur',C',e'⟩=>[bP.pure (k≤q.length∧cur'=iQ cur ((q.take k).map (mulM y))),dG.sl (.slice A p.length c) p,dG.sl (.slice B q.length d) q]) (fun⟨k,cur',C',e'⟩=>q.length-k) (0,cur,C,e) ⟨rfl,rfl,rfl,rfl,rfl,trivial⟩ (.cons .head .nil) ⟨Has.pure (⟨by omega,by rfl⟩),Has.of mT1,Has.of mT2,trivial⟩ ?_;rintro⟨k,cur',C',e'⟩;dsimp only;refine bV (Has.of mT0) fun hinv8=>?_;have hcl':cur'.length≤cur.length+k:=by rw [hinv8.2];refine Nat.le_trans (nR _ _) (by simp;omega)
  refine bF<|sr<|sp4 hT ?_;refine nn<|bM rfl (fun hc28=>?_) (fun hc28=>?_)
  ·have hc28:=of_decide_eq_true hc28;refine bL<|bD<|bF<|bO<|bF<|dR _ _ [(true,0),(true,1),(true,2),(true,3),(true,4),(true,5),(true,6),(true,7),(true,8),(true,9),(true,10),(true,11),(false,12),(false,13)] dP (by decide+kernel) (.cons .head .nil) bI.self ?_;refine puM hT ?_;refine puM hT ?_;refine stM rfl (bG hT (k:=i) (bA (Has.of mT1)) rfl rfl rfl rfl rfl rfl rfl (by omega)) ?_;refine puM hT ?_;refine stM rfl (bN hT (bY.knows (bA (Has.of mT1)) hy 0) rfl rfl rfl rfl rfl) ?_;refine puM hT ?_;refine puM hT ?_
   obtain⟨x1,hx2⟩: ∃x,q[k]?=some x:=⟨_,List.getElem?_eq_getElem (by omega)⟩
   refine stM rfl (bG hT (k:=k) (bA (Has.of mT2)) rfl rfl rfl rfl rfl rfl rfl (by omega)) ?_;refine puM hT ?_;refine stM rfl (bN hT (bY.knows (bA (Has.of mT2)) hx2 0) rfl rfl rfl rfl rfl) ?_;refine puM hT ?_;refine stM rfl (dO rfl rfl (built_n _)) ?_;refine dB (o:=_) rfl ?_;refine fG rfl rfl rfl rfl monoZero rfl fun b3=>?_;refine dA (.cons kT1 .nil) ⟨Has.of mT0,Has.of mT1,Has.of mT2,trivial⟩ ?_;refine dB (o:=_) rfl ?_;refine sto hT .head ?_;refine dA (.cons kT1 .nil) ⟨Has.of mT0,Has.of mT1,Has.of mT2,trivial⟩ ?_;refine cN<|bD<|bF<|sr<|sp hT ?_;refine nn<|bO<|bAn 7 ?_;refine mP ?_;refine bF<|sr<|sp2 hT ?_;refine nn<|cJ rfl (by decide) ?_;refine bL<|bD<|bF<|bO<|dR _ _ [(true,0),(true,1),(true,2),(true,3),(true,4),(true,5),(true,6),(true,7),(true,8),(true,9),(true,10),(true,11),(true,12),(true,13),(true,14),(true,15),(true,16),(true,17),(false,18)] dP (by decide+kernel) (.cons kT1 .nil) bI.self ?_;refine puM hT ?_;refine puM hT ?_;refine puM hT ?_;refine puM hT ?_;refine stM rfl (bG hT (k:=i) (bA (Has.of mT1)) rfl rfl rfl rfl rfl rfl rfl (by omega)) ?_;refine puM hT ?_;refine stM rfl (cW hT (k:=0) rfl rfl rfl rfl rfl rfl (by omega)) ?_;refine stM rfl (bN hT (bY.knows (bA (Has.of mT1)) hy 1) rfl rfl rfl rfl rfl) ?_;refine puM hT ?_;refine puM hT ?_;refine puM hT ?_;refine stM rfl (bG hT (k:=k) (bA (Has.of mT2)) rfl rfl rfl rfl rfl rfl rfl (by omega)) ?_;refine puM hT ?_;refine stM rfl (cW hT (k:=0) rfl rfl rfl rfl rfl rfl (by omega)) ?_;refine stM rfl (bN hT (bY.knows (bA (Has.of mT2)) hx2 1) rfl rfl rfl rfl rfl) ?_;refine puM hT ?_;refine bS (vQ _ _) ?_;refine puM hT ?_;refine stM rfl (cW hT (k:=0) rfl rfl rfl rfl rfl rfl (by omega)) ?_;refine dB (o:=_) rfl ?_;refine sto hT .head ?_;refine dA (.cons kT1 .nil) ⟨Has.of mT0,Has.of mT1,Has.of mT2,trivial⟩ ?_;refine cN<|bT<|bD<|bB<|sp2 hT ?_;refine bS (z':=((1:Nat):Int)) (cG (by omega) (by omega)) ?_;refine sp hT ?_;refine nn<|mP ?_;refine bF<|sr<|sp2 hT ?_;refine nn<|cJ rfl (by decide) ?_;refine bL<|bD<|bF<|bO<|dR _ _ [(true,0),(true,1),(true,2),(true,3),(true,4),(true,5),(true,6),(true,7),(true,8),(true,9),(true,10),(true,11),(true,12),(true,13),(true,14),(true,15),(true,16),(true,17),(false,18)] dP (by decide+kernel) (.cons kT1 .nil) bI.self ?_;refine puM hT ?_;refine puM hT ?_;refine puM hT ?_;refine puM hT ?_;refine stM rfl (bG hT (k:=i) (bA (Has.of mT1)) rfl rfl rfl rfl rfl rfl rfl (by omega)) ?_;refine puM hT ?_;refine stM rfl (cW hT (k:=1) rfl rfl rfl rfl rfl rfl (by omega)) ?_;refine stM rfl (bN hT (bY.knows (bA (Has.of mT1)) hy 2) rfl rfl rfl rfl rfl) ?_;refine puM hT ?_;refine puM hT ?_;refine puM hT ?_;refine stM rfl (bG hT (k:=k) (bA (Has.of mT2)) rfl rfl rfl rfl rfl rfl rfl (by omega)) ?_;refine puM hT ?_;refine stM rfl (cW hT (k:=1) rfl rfl rfl rfl rfl rfl (by omega)) ?_;refine stM rfl (bN hT (bY.knows (bA (Has.of mT2)) hx2 2) rfl rfl rfl rfl rfl) ?_;refine puM hT ?_;refine bS (vQ _ _) ?_;refine puM hT ?_;refine stM rfl (cW hT (k:=1) rfl rfl rfl rfl rfl rfl (by omega)) ?_;refine dB (o:=_) rfl ?_;refine sto hT .head ?_;refine dA (.cons kT1 .nil) ⟨Has.of mT0,Has.of mT1,Has.of mT2,trivial⟩ ?_;refine cN<|bT<|bD<|bB<|sp2 hT ?_;refine bS (z':=((2:Nat):Int)) (cG (by omega) (by omega)) ?_;refine sp hT ?_;refine nn<|mP ?_;refine bF<|sr<|sp2 hT ?_;refine nn<|cJ rfl (by decide) ?_;refine bL<|bD<|bF<|bO<|dR _ _ [(true,0),(true,1),(true,2),(true,3),(true,4),(true,5),(true,6),(true,7),(true,8),(true,9),(true,10),(true,11),(true,12),(true,13),(true,14),(true,15),(true,16),(true,17),(false,18)] dP (by decide+kernel) (.cons kT1 .nil) bI.self ?_;refine puM hT ?_;refine puM hT ?_;refine puM hT ?_;refine puM hT ?_;refine stM rfl (bG hT (k:=i) (bA (Has.of mT1)) rfl rfl rfl rfl rfl rfl rfl (by omega)) ?_;refine puM hT ?_;refine stM rfl (cW hT (k:=2) rfl rfl rfl rfl rfl rfl (by omega)) ?_;refine stM rfl (bN hT (bY.knows (bA (Has.of mT1)) hy 3) rfl rfl rfl rfl rfl) ?_;refine puM hT ?_;refine puM hT ?_;refine puM hT ?_;refine stM rfl (bG hT (k:=k) (bA (Has.of mT2)) rfl rfl rfl rfl rfl rfl rfl (by omega)) ?_;refine puM hT ?_;refine stM rfl (cW hT (k:=2) rfl rfl rfl rfl rfl rfl (by omega)) ?_;refine stM rfl (bN hT (bY.knows (bA (Has.of mT2)) hx2 3) rfl rfl rfl rfl rfl) ?_;refine puM hT ?_;refine bS (vQ _ _) ?_;refine puM hT ?_;refine stM rfl (cW hT (k:=2) rfl rfl rfl rfl rfl rfl (by omega)) ?_;refine dB (o:=_) rfl ?_;refine sto hT .head ?_;refine dA (.cons kT1 .nil) ⟨Has.of mT0,Has.of mT1,Has.of mT2,trivial⟩ ?_;refine cN<|bT<|bD<|bB<|sp2 hT ?_;refine bS (z':=((3:Nat):Int)) (cG (by omega) (by omega)) ?_;refine sp hT ?_;refine nn<|mP ?_;refine bF<|sr<|sp2 hT ?_;refine nn<|cJ rfl (by decide) ?_;refine bL<|bD<|bF<|bO<|dR _ _ [(true,0),(true,1),(true,2),(true,3),(true,4),(true,5),(true,6),(true,7),(true,8),(true,9),(true,10),(true,11),(true,12),(true,13),(true,14),(true,15),(true,16),(true,17),(false,18)] dP (by decide+kernel) (.cons kT1 .nil) bI.self ?_;refine puM hT ?_;refine puM hT ?_;refine puM hT ?_;refine puM hT ?_;refine stM rfl (bG hT (k:=i) (bA (Has.of mT1)) rfl rfl rfl rfl rfl rfl rfl (by omega)) ?_;refine puM hT ?_;refine stM rfl (cW hT (k:=3) rfl rfl rfl rfl rfl rfl (by omega)) ?_;refine stM rfl (bN hT (bY.knows (bA (Has.of mT1)) hy 4) rfl rfl rfl rfl rfl) ?_;refine puM hT ?_;refine puM hT ?_;refine puM hT ?_;refine stM rfl (bG hT (k:=k) (bA (Has.of mT2)) rfl rfl rfl rfl rfl rfl rfl (by omega)) ?_;refine puM hT ?_;refine stM rfl (cW hT (k:=3) rfl rfl rfl rfl rfl rfl (by omega)) ?_;refine stM rfl (bN hT (bY.knows (bA (Has.of mT2)) hx2 4) rfl rfl rfl rfl rfl) ?_;refine puM hT ?_;refine bS (vQ _ _) ?_;refine puM hT ?_;refine stM rfl (cW hT (k:=3) rfl rfl rfl rfl rfl rfl (by omega)) ?_;refine dB (o:=_) rfl ?_;refine sto hT .head ?_;refine dA (.cons kT1 .nil) ⟨Has.of mT0,Has.of mT1,Has.of mT2,trivial⟩ ?_;refine cN<|bT<|bD<|bB<|sp2 hT ?_;refine bS (z':=((4:Nat):Int)) (cG (by omega) (by omega)) ?_;refine sp hT ?_;refine nn<|mP ?_;refine bF<|sr<|sp2 hT ?_;refine nn<|cJ rfl (by decide) ?_;refine bL<|bD<|bF<|bO<|dR _ _ [(true,0),(true,1),(true,2),(true,3),(true,4),(true,5),(true,6),(true,7),(true,8),(true,9),(true,10),(true,11),(true,12),(true,13),(true,14),(true,15),(true,16),(true,17),(false,18)] dP (by decide+kernel) (.cons kT1 .nil) bI.self ?_;refine puM hT ?_;refine puM hT ?_;refine puM hT ?_;refine puM hT ?_;refine stM rfl (bG hT (k:=i) (bA (Has.of mT1)) rfl rfl rfl rfl rfl rfl rfl (by omega)) ?_;refine puM hT ?_;refine stM rfl (cW hT (k:=4) rfl rfl rfl rfl rfl rfl (by omega)) ?_;refine stM rfl (bN hT (bY.knows (bA (Has.of mT1)) hy 5) rfl rfl rfl rfl rfl) ?_;refine puM hT ?_;refine puM hT ?_;refine puM hT ?_;refine stM rfl (bG hT (k:=k) (bA (Has.of mT2)) rfl rfl rfl rfl rfl rfl rfl (by omega)) ?_;refine puM hT ?_;refine stM rfl (cW hT (k:=4) rfl rfl rfl rfl rfl rfl (by omega)) ?_;refine stM rfl (bN hT (bY.knows (bA (Has.of mT2)) hx2 5) rfl rfl rfl rfl rfl) ?_;refine puM hT ?_;refine bS (vQ _ _) ?_;refine puM hT ?_;refine stM rfl (cW hT (k:=4) rfl rfl rfl rfl rfl rfl (by omega)) ?_;refine dB (o:=_) rfl ?_;refine sto hT .head ?_;refine dA (.cons kT1 .nil) ⟨Has.of mT0,Has.of mT1,Has.of mT2,trivial⟩ ?_;refine cN<|bT<|bD<|bB<|sp2 hT ?_;refine bS (z':=((5:Nat):Int)) (cG (by omega) (by omega)) ?_;refine sp hT ?_;refine nn<|mP ?_;refine bF<|sr<|sp2 hT ?_;refine nn<|cJ rfl (by decide) ?_;refine bL<|bD<|bF<|bO<|dR _ _ [(true,0),(true,1),(true,2),(true,3),(true,4),(true,5),(true,6),(true,7),(true,8),(true,9),(true,10),(true,11),(true,12),(true,13),(true,14),(true,15),(true,16),(true,17),(false,18)] dP (by decide+kernel) (.cons kT1 .nil) bI.self ?_;refine puM hT ?_;refine puM hT ?_;refine puM hT ?_;refine puM hT ?_;refine stM rfl (bG hT (k:=i) (bA (Has.of mT1)) rfl rfl rfl rfl rfl rfl rfl (by omega)) ?_;refine puM hT ?_;refine stM rfl (cW hT (k:=5) rfl rfl rfl rfl rfl rfl (by omega)) ?_;refine stM rfl (bN hT (bY.knows (bA (Has.of mT1)) hy 6) rfl rfl rfl rfl rfl) ?_;refine puM hT ?_;refine puM hT ?_;refine puM hT ?_;refine stM rfl (bG hT (k:=k) (bA (Has.of mT2)) rfl rfl rfl rfl rfl rfl rfl (by omega)) ?_;refine puM hT ?_;refine stM rfl (cW hT (k:=5) rfl rfl rfl rfl rfl rfl (by omega)) ?_;refine stM rfl (bN hT (bY.knows (bA (Has.of mT2)) hx2 6) rfl rfl rfl rfl rfl) ?_;refine puM hT ?_;refine bS (vQ _ _) ?_;refine puM hT ?_;refine stM rfl (cW hT (k:=5) rfl rfl rfl rfl rfl rfl (by omega)) ?_;refine dB (o:=_) rfl ?_;refine sto hT .head ?_;refine dA (.cons kT1 .nil) ⟨Has.of mT0,Has.of mT1,Has.of mT2,trivial⟩ ?_;refine cN<|bT<|bD<|bB<|sp2 hT ?_;refine bS (z':=((6:Nat):Int)) (cG (by omega) (by omega)) ?_;refine sp hT ?_;refine nn<|mP ?_;refine bF<|sr<|sp2 hT ?_;refine nn<|cR rfl (by decide) ?_;refine cD<|bX<|bX<|cE<|bD<|bB<|sp hT ?_;refine ss (ldN hT (cU .head)) ?_;refine cQ Tryz.func182 (bDo _ _ cur' ⟨_,_,_,_,_,_,_⟩ (by omega)) rfl rfl (.cons kT1 .nil) trivial fun⟨B4,c5⟩=>?_;refine sp hT ?_;refine fZ<|bT<|bD<|bB<|sp2 hT ?_;refine bS (z':=(((k+1):Nat):Int)) (cG (by omega) (by omega)) ?_;refine sp hT ?_;refine nn ?_;exact mM (k+1,_,_,_) (by dsimp only;omega) ⟨rfl,rfl,rfl,rfl,rfl,trivial⟩ (.cons .head .nil) ⟨Has.pure (by refine⟨by omega,?_⟩;rw [List.take_add_one,‹q[k]?=some _›,Option.toList_some,List.map_append,List.map_singleton,uJ,←hinv8.2,mulM,←wrap_eq];rfl),Has.of mT1,Has.of mT2,trivial⟩
  have hc28:=Int.not_lt.1 (of_decide_eq_false hc28);refine cD<|bX<|bX<|cE<|bT<|bD<|bB<|sp2 hT ?_;refine bS (z':=(((i+1):Nat):Int)) (cG (by omega) (by omega)) ?_;refine sp hT ?_;refine nn ?_;exact mM (i+1,_,_,_) (by dsimp only;omega) ⟨rfl,rfl,rfl,rfl,trivial⟩ (.cons .head .nil) ⟨Has.pure (by refine⟨by omega,?_⟩;rw [List.take_add_one,hy,Option.toList_some,List.flatMap_append,List.flatMap_singleton,wD,←hinv5.2,hinv8.2,List.take_of_length_le (by omega)]),Has.of mT1,Has.of mT2,trivial⟩
 have hc22:=Int.not_lt.1 (of_decide_eq_false hc22);refine cD<|bX<|bX<|cE<|bD<|sr<|sp hT ?_;refine fF (cA Tryz.func183 rfl rfl) (bDv _ _ cur (by omega)) rfl rfl rfl rfl rfl .nil (.cons .head .nil) (nN gV) ⟨Has.of mT0,trivial⟩ (fun _=>True) (fun _ _ _ _=>trivial) fun⟨B6,c7⟩ _=>?_;refine sp4 hT ?_;refine nn<|bK ?_;have hw:lQ p q=mQ cur:=by unfold lQ;rw [hrp,hrq,hinv5.2,List.take_of_length_le (by omega)];rfl
 rw [hw];exact mL (B6,c7) rfl rfl rfl rfl (.cons .head .nil) trivial
end Go.Proofs.YtofjmphlpdhohaaGreatDoor
namespace Go.Proofs.YtofjmphlpdhohaaGreatDoor
open Go.RowKit Go.Sort
def fH (a b:Int):Prop:=(18446744073709551616:Int)∣a-b
theorem fH.refl(a:Int):fH a a:=by unfold fH;omega
theorem fH.of_eq{a b:Int}(h:a=b):fH a b:=by unfold fH;omega
theorem fH.symm{a b:Int}(h:fH a b):fH b a:=by unfold fH at*;omega
theorem fH.trans{a b c:Int}(h:fH a b)(h2:fH b c):fH a c:=by unfold fH at*;omega
theorem fH.add{a b c d:Int}(h:fH a b)(h2:fH c d):fH (a+c) (b+d):=by unfold fH at*;omega
theorem fH.sub{a b c d:Int}(h:fH a b)(h2:fH c d):fH (a-c) (b-d):=by unfold fH at*;omega
theorem fH.mul{a b:Int}(h:fH a b)(c:Int):fH (a*c) (b*c):=by
 unfold fH at*;rw [←Int.sub_mul];exact Int.dvd_trans h (Int.dvd_mul_right _ _)
theorem pN(a:Int):fH (wrap64 a) a:=by unfold fH wrap64;omega
theorem rW(a:Int): -9223372036854775808≤wrap64 a∧wrap64 a<9223372036854775808:=by unfold wrap64;omega
theorem fH.eq{a b:Int}(h:fH a b)(h1: -9223372036854775808≤a∧a<9223372036854775808)(h2: -9223372036854775808≤b∧b<9223372036854775808):a=b:=by
 unfold fH at h;omega
def Ext (F:Mono→Int):Prop:= ∀a b:Mono,a.key=b.key→F a=F b
def gE (f:Mono→Int):List Mono→Int
 | []=>0
 | m::l=>f m+gE f l
def lin (F:Mono→Int)(L:List Mono):Int:=gE (fun m=>m.n*F m) L
theorem bJm(f g:Mono→Int): ∀l,gE (fun m=>f m+g m) l=gE f l+gE g l
 | []=>rfl
 | m::l=>by simp only [gE,bJm f g l];omega
theorem bDn: ∀l,gE (fun _=>0) l=0
 | []=>rfl
 | m::l=>by simp only [gE,bDn l];omega
theorem bJf(f:Mono→Int)(c:Int): ∀l,gE (fun m=>f m*c) l=gE f l*c
 | []=>by simp [gE]
 | m::l=>by simp only [gE,bJf f c l,Int.add_mul]
theorem bDd(f:Mono→Mono→Int)(q:List Mono): ∀p,gE (fun a=>gE (fun b=>f a b) q) p=gE (fun b=>gE (fun a=>f a b) p) q
 | []=>by simp only [gE,bDn]
 | a::p=>by simp only [gE,bDd f q p,bJm]
theorem uF{f g:Mono→Int}: ∀{l:List Mono},(∀m∈l,f m=g m)→gE f l=gE g l
 | [],_=>rfl
 | m::l,h=>by simp only [gE];rw [h m (by simp),uF fun x hx=>h x (by simp [hx])]
theorem bFu{f g:Mono→Int}: ∀{l:List Mono},(∀m∈l,fH (f m) (g m))→fH (gE f l) (gE g l)
 | [],_=>fH.refl _
 | m::l,h=>(h m (by simp)).add (bFu fun x hx=>h x (by simp [hx]))
theorem bIo{F:Mono→Int}(hF:Ext F)(k:Mono)(x:Int): ∀L,lin F (setTo k x L)=lin F L+(x-rO k L)*F k
 | []=>by
  have:F {k with n:=x}=F k:=hF _ _ rfl;simp only [lin,setTo,rO,gE,this];simp
 | m::L=>by
  have hk:F {k with n:=x}=F k:=hF _ _ rfl;have ih:=bIo hF k x L;unfold lin at ih;unfold setTo rO lin
  by_cases h:k.sameE m=true
  ·have h2:F m=F k:=hF _ _ (sameE_E.1 h).symm;simp only [if_pos h,gE,hk,h2,Int.sub_mul];omega
  ·simp only [if_neg h,gE,ih];omega
theorem bIc{F:Mono→Int}(hF:Ext F)(m:Mono)(v:Int)(L:List Mono):fH (lin F (tE m v L)) (lin F L+v*F m):=by
 unfold tE;rw [bIo hF];refine(fH.refl _).add (fH.mul ?_ _);have:=pN (rO m L+v);unfold fH at*;omega
theorem wR{F:Mono→Int}(hF:Ext F)(g:Mono→Int): ∀(p L:List Mono),fH (lin F (gN g L p)) (lin F L+gE (fun m=>g m*F m) p)
 | [],L=>by simp only [gN,gE,Int.add_zero];exact fH.refl _
 | m::p,L=>by
  refine(wR hF g p (tE m (g m) L)).trans ?_;refine((bIc hF m (g m) L).add (fH.refl _)).trans (fH.of_eq ?_);simp only [gE];omega
theorem bCv{F:Mono→Int}(hF:Ext F)(a:Mono): ∀(q L:List Mono),fH (lin F (nV a L q)) (lin F L+gE (fun b=>a.n*b.n*F (mulM a b)) q)
 | [],L=>by simp only [nV,gE,Int.add_zero];exact fH.refl _
 | b::q,L=>by
  refine(bCv hF a q _).trans ?_;refine(((bIc hF (mulM a b) _ L).trans ((fH.refl _).add ((pN _).mul _))).add (fH.refl _)).trans (fH.of_eq ?_);simp only [gE];omega
theorem bGd{F:Mono→Int}(hF:Ext F)(q:List Mono): ∀(p L:List Mono),fH (lin F (iR q L p)) (lin F L+gE (fun a=>gE (fun b=>a.n*b.n*F (mulM a b)) q) p)
 | [],L=>by simp only [iR,gE,Int.add_zero];exact fH.refl _
 | a::p,L=>by
  refine(bGd hF q p _).trans ?_;refine((bCv hF a q L).add (fH.refl _)).trans (fH.of_eq ?_);simp only [gE];omega
def Fit (L:List Mono):Prop:= ∀m∈L,-9223372036854775808≤m.n∧m.n<9223372036854775808
theorem bJs(m:Mono)(v:Int){L:List Mono}(h:Fit L):Fit (tE m v L):=fun y hy=>by
 rcases zS hy with rfl | hy
 ·exact rW _
 ·exact h y hy
theorem wT(g:Mono→Int): ∀(p:List Mono) {L:List Mono},Fit L→Fit (gN g L p)
 | [],_,h=>h
 | _::p,_,h=>wT g p (bJs _ _ h)
theorem bDf(a:Mono): ∀(q:List Mono) {L:List Mono},Fit L→Fit (nV a L q)
 | [],_,h=>h
 | _::q,_,h=>bDf a q (bJs _ _ h)
theorem bEm(q:List Mono): ∀(p:List Mono) {L:List Mono},Fit L→Fit (iR q L p)
 | [],_,h=>h
 | a::p,_,h=>bEm q p (bDf a q h)
theorem bCp:Fit []:=fun _ h=>by simp at h
def ind (k:Nat)(m:Mono):Int:=if m.key=k then 1 else 0
theorem ext_ind(k:Nat):Ext (ind k):=fun a b h=>by unfold ind;rw [h]
theorem jH(F:Mono→Int)(m:Mono)(L:List Mono):lin F (m::L)=m.n*F m+lin F L:=rfl
theorem ind_ne{k:Nat}{m:Mono}(h:m.key≠k):ind k m=0:=if_neg h
theorem ind_self(m:Mono):ind m.key m=1:=if_pos rfl
theorem sQ{k:Nat}: ∀{L:List Mono},(∀y∈L,y.key≠k)→lin (ind k) L=0
 | [],_=>rfl
 | m::L,h=>by
  rw [jH,sQ (L:=L) (k:=k) fun y hy=>h y (by simp [hy]),ind_ne (h m (by simp))];simp
theorem lin_ind{x:Mono}: ∀{L:List Mono},iL L→x∈L→lin (ind x.key) L=x.n
 | [],_,h=>by simp at h
 | m::L,hA,h=>by
  obtain⟨h1,h2⟩:=List.pairwise_cons.1 hA;rw [jH]
  rcases List.mem_cons.1 h with rfl | h
  ·rw [sQ (L:=L) (k:=x.key) fun y hy=>Ne.symm (h1 y hy),ind_self];simp
  ·rw [lin_ind h2 h,ind_ne (h1 x h)];simp
theorem bKf{L L':List Mono}(hA:iL L)(hf:Fit L)(hA':iL L')(hf':Fit L')(h: ∀F,Ext F→fH (lin F L) (lin F L')){x:Mono}(hx:x∈lF L):x∈lF L':=by
 obtain⟨hx,h0⟩:=zZ.1 hx;have e:=h _ (ext_ind x.key);rw [lin_ind hA hx] at e;have hfx:=hf x hx
 by_cases hy: ∃y∈L',y.key=x.key
 ·obtain⟨y,hy,hk⟩:=hy;rw [←hk,lin_ind hA' hy] at e;have hn:=e.eq hfx (hf' y hy);rw [eq_of_key hk.symm hn] at h0⊢;exact zZ.2 ⟨hy,h0⟩
 ·rw [sQ fun y h1 h2=>hy ⟨y,h1,h2⟩] at e;exact absurd (e.eq hfx (by omega)) h0
theorem wY{L L':List Mono}(hA:iL L)(hf:Fit L)(hA':iL L')(hf':Fit L')(h: ∀F,Ext F→fH (lin F L) (lin F L')):lF L=lF L':=
 lX.ext (tN hA) (tN hA') fun _=>⟨bKf hA hf hA' hf' h,bKf hA' hf' hA hf fun F hF=>(h F hF).symm⟩
theorem qP: ∀{l:List Mono} {o:Option Mono},fN o l=true→lX l∧(∀a,o=some a→ ∀m∈l,m.key<a.key)∧(∀m∈l,nK m=true)
 | [],_,_=>⟨by simp [lX],by simp,by simp⟩
 | m::l,none,h=>by
  rw [fN,Bool.and_eq_true] at h;obtain⟨h1,h2,h3⟩:=qP h.2;refine⟨List.pairwise_cons.2 ⟨fun b hb=>h2 m rfl b hb,h1⟩,by simp,?_⟩;intro x hx
  rcases List.mem_cons.1 hx with rfl | hx
  ·exact h.1
  ·exact h3 x hx
 | m::l,some a,h=>by
  rw [fN,Bool.and_eq_true,Bool.and_eq_true,decide_eq_true_eq] at h;obtain⟨h1,h2,h3⟩:=qP h.2.2;have hk:=(ord_lt _ _).1 h.2.1;refine⟨List.pairwise_cons.2 ⟨fun b hb=>h2 m rfl b hb,h1⟩,?_,?_⟩
  ·intro a' ha x hx;obtain rfl:a=a':=Option.some.inj ha
   rcases List.mem_cons.1 hx with rfl | hx
   ·exact hk
   ·exact Nat.lt_trans (h2 m rfl x hx) hk
  ·intro x hx
   rcases List.mem_cons.1 hx with rfl | hx
   ·exact h.1
   ·exact h3 x hx
theorem right_all{p:List Mono}(h:cT p=true):lX p∧(∀m∈p,nK m=true)∧p.length≤48:=by
 simp only [cT,Bool.and_eq_true,decide_eq_true_eq] at h;exact⟨(qP h.2).1,(qP h.2).2.2,h.1⟩
theorem right_fit{p:List Mono}(h:cT p=true):Fit p:=fun m hm=>by
 have:=(right_all h).2.1 m hm;simp only [nK,decide_eq_true_eq] at this;omega
def bJd (p q:List Mono)(s:Int):List Mono:=gN (fun m=>wrap64 (s*m.n)) (gN Mono.n [] p) q
theorem bJk:iL []:=by simp [iL]
theorem tR(p q:List Mono)(s:Int):iL (bJd p q s):=jM _ _ (jM _ _ bJk)
theorem zW(p q:List Mono)(s:Int):Fit (bJd p q s):=wT _ _ (wT _ _ bCp)
theorem zD{F:Mono→Int}(hF:Ext F)(p q:List Mono)(s:Int):fH (lin F (bJd p q s)) (lin F p+s*lin F q):=by
 refine(wR hF _ q _).trans ?_;refine fH.add ((wR hF _ p _).trans (fH.of_eq ?_)) ?_
 ·simp only [lin,gE,Int.zero_add]
 ·unfold lin;rw [Int.mul_comm,←bJf];refine bFu fun m _=>((pN _).mul _).trans (fH.of_eq ?_);rw [Int.mul_comm s,Int.mul_assoc,Int.mul_comm s,Int.mul_assoc]
theorem bEn{F:Mono→Int}(hF:Ext F)(p q:List Mono):fH (lin F (iR q [] p)) (gE (fun a=>gE (fun b=>a.n*b.n*F (mulM a b)) q) p):=by
 refine(bGd hF q p []).trans (fH.of_eq ?_);simp only [lin,gE,Int.zero_add]
theorem wO(p q:List Mono):iL (iR q [] p):=pB _ _ bJk
theorem bDq(p q:List Mono):Fit (iR q [] p):=bEm _ _ bCp
theorem mulM_comm(a b:Mono):mulM a b=mulM b a:=by
 simp only [mulM,Int.mul_comm a.n,UInt8.add_comm a.e0,UInt8.add_comm a.e1,UInt8.add_comm a.e2,UInt8.add_comm a.e3,UInt8.add_comm a.e4,UInt8.add_comm a.e5]
theorem bothP_L(p q:List Mono)(s:Int):bothP p q s=if cT p&&cT q then gP (bJd p q s) else ([],20):=rfl
theorem add_comm(p q:List Mono):bothP p q 1=bothP q p 1:=by
 have h:lF (bJd p q 1)=lF (bJd q p 1):=wY (tR _ _ _) (zW _ _ _) (tR _ _ _) (zW _ _ _) fun F hF=>
  (zD hF p q 1).trans ((fH.of_eq (by omega)).trans (zD hF q p 1).symm)
 rw [bothP_L,bothP_L,Bool.and_comm];unfold gP;rw [h]
theorem mul_comm(p q:List Mono):mW p q=mW q p:=by
 have h:lF (iR q [] p)=lF (iR p [] q):=wY (wO _ _) (bDq _ _) (wO _ _) (bDq _ _) fun F hF=>
  (bEn hF p q).trans ((fH.of_eq (by
   rw [bDd];refine uF fun b _=>uF fun a _=>?_
   rw [mulM_comm,Int.mul_comm a.n])).trans (bEn hF q p).symm)
 unfold mW;rw [Bool.and_comm];unfold gP;rw [h]
end Go.Proofs.YtofjmphlpdhohaaGreatDoor
namespace Go.Proofs.YtofjmphlpdhohaaGreatDoor
open Go.RowKit
theorem lin_put{F:Mono→Int}(hF:Ext F)(m:Mono): ∀l:List Mono,fH (lin F (lO m l)) (lin F l+m.n*F m)
 | []=>fH.of_eq (by rw [lO,jH];show _=(0:Int)+_;have:lin F []=0:=rfl;omega)
 | a::l=>by
  have ih:=lin_put hF m l;rw [lO];split
  ·rw [jH,jH];exact((fH.refl (a.n*F a)).add ih).trans (fH.of_eq (by omega))
  ·split
   ·rename_i hk;have e1:F ⟨wrap64 (a.n+m.n),a.e0,a.e1,a.e2,a.e3,a.e4,a.e5⟩=F a:=hF _ _ rfl;rw [jH,jH,e1,←hF a m hk];have h:=((pN (a.n+m.n)).mul (F a)).add (fH.refl (lin F l));have e:(a.n+m.n)*F a+lin F l=a.n*F a+lin F l+m.n*F a:=by rw [Int.add_mul];omega
    exact e▸h
   ·rw [jH];exact fH.of_eq (by omega)
theorem sH{F:Mono→Int}(hF:Ext F): ∀(l acc:List Mono),fH (lin F (iQ acc l)) (lin F acc+lin F l)
 | [],acc=>fH.of_eq (by show lin F acc=_;have:lin F []=0:=rfl;omega)
 | m::l,acc=>by
  have h:=sH hF l (lO m acc);have h2:=(lin_put hF m acc).add (fH.refl (lin F l));rw [jH];exact h.trans (h2.trans (fH.of_eq (by omega)))
theorem bId(m:Mono): ∀{l:List Mono},lX l→lX (lO m l)∧ ∀k,m.key<k→(∀y∈l,y.key<k)→ ∀y∈lO m l,y.key<k
 | [],_=>by simp [lO,lX]
 | a::l,h=>by
  obtain⟨h1,h2⟩:=List.pairwise_cons.1 h;obtain⟨i1,i2⟩:=bId m h2
  have key: ∀y∈lO m (a::l),y.key≤m.key∨y.key≤a.key:=fun y hy=>by
   rw [lO] at hy;split at hy
   ·rename_i hk
    rcases List.mem_cons.1 hy with rfl | hy
    ·exact .inr (Nat.le_refl _)
    ·exact .inr (Nat.le_of_lt (i2 a.key hk h1 y hy))
   ·split at hy
    ·rcases List.mem_cons.1 hy with rfl | hy
     ·exact .inr (Nat.le_refl _)
     ·exact .inr (Nat.le_of_lt (h1 y hy))
    ·rcases List.mem_cons.1 hy with rfl | hy
     ·exact .inl (Nat.le_refl _)
     ·rcases List.mem_cons.1 hy with rfl | hy
      ·exact .inr (Nat.le_refl _)
      ·exact .inr (Nat.le_of_lt (h1 y hy))
  refine⟨?_,fun k hk hl y hy=>?_⟩
  ·rw [lO];split
   ·rename_i hk;exact List.pairwise_cons.2 ⟨fun y hy=>i2 a.key hk h1 y hy,i1⟩
   ·split
    ·exact List.pairwise_cons.2 ⟨fun y hy=>h1 y hy,h2⟩
    ·refine List.pairwise_cons.2 ⟨fun y hy=>?_,h⟩
     rcases List.mem_cons.1 hy with rfl | hy
     ·omega
     ·have:=h1 y hy;omega
  ·have ha:=hl a (List.mem_cons_self ..)
   rcases key y hy with h | h<;>omega
theorem oY: ∀(l:List Mono) {acc:List Mono},lX acc→lX (iQ acc l)
 | [],_,h=>h
 | m::l,_,h=>oY l (bId m h).1
theorem fit_put{m:Mono}(hm: -9223372036854775808≤m.n∧m.n<9223372036854775808): ∀{l:List Mono},Fit l→Fit (lO m l)
 | [],_=>fun y hy=>by
  rw [lO] at hy;rw [List.mem_singleton.1 hy];exact hm
 | a::l,h=>fun y hy=>by
  have hl:Fit l:=fun x hx=>h x (List.mem_cons_of_mem _ hx);rw [lO] at hy;split at hy
  ·rcases List.mem_cons.1 hy with rfl | hy
   ·exact h _ (List.mem_cons_self ..)
   ·exact fit_put hm hl y hy
  ·split at hy
   ·rcases List.mem_cons.1 hy with rfl | hy
    ·exact rW _
    ·exact hl y hy
   ·rcases List.mem_cons.1 hy with rfl | hy
    ·exact hm
    ·exact h y hy
theorem sG: ∀(l:List Mono) {acc:List Mono},Fit l→Fit acc→Fit (iQ acc l)
 | [],_,_,h=>h
 | m::l,_,hl,h=>sG l (fun x hx=>hl x (List.mem_cons_of_mem _ hx)) (fit_put (hl m (List.mem_cons_self ..)) h)
theorem bCx{l:List Mono}(h:lX l):lF l=l.filter nz:=by
 unfold lF;have e:(l.filter fun m=>m.n !=0)=l.filter nz:=rfl;rw [e];refine List.mergeSort_of_pairwise ?_;refine List.Pairwise.imp (fun{a b} hab=>?_) (h.filter nz);exact decide_eq_true (Nat.le_of_lt hab)
theorem yZ{l L:List Mono}(hf:lX l)(hfit:Fit l)(hA:iL L)(hL:Fit L)(h: ∀F,Ext F→fH (lin F l) (lin F L)):mQ l=gP L:=by
 have e:l.filter nz=lF L:=by rw [←bCx hf];exact wY hf.apart hfit hA hL h
 unfold mQ gP;rw [e]
theorem bIi{F:Mono→Int}(hF:Ext F)(s:Int): ∀q:List Mono,fH (lin F (q.map (bAf s))) (s*lin F q)
 | []=>fH.of_eq (by show(0:Int)=s*0;simp)
 | m::q=>by
  have ih:=bIi hF s q;rw [List.map_cons,jH,jH,Int.mul_add,hF (bAf s m) m rfl];have h:=(pN (s*m.n)).mul (F m);rw [Int.mul_assoc] at h;exact h.add ih
theorem rA(p q:List Mono)(s:Int):gI p q s=bothP p q s:=by
 rw [bothP_L];unfold gI
 cases hp:cT p with
 | false=>rfl
 | true=>
  cases hq:cT q with
  | false=>rfl
  | true=>
   refine yZ (oY _ (oY _ List.Pairwise.nil)) (sG _ (fun y hy=>?_) (sG _ (right_fit hp) bCp)) (tR p q s) (zW p q s) fun F hF=>?_
   ·obtain⟨x,_,rfl⟩:=List.mem_map.1 hy;exact rW _
   ·have h1:=sH hF (q.map (bAf s)) (iQ [] p);have h2:=sH hF p [];have h3:=zD hF p q s;have h0:lin F []=0:=rfl;exact h1.trans (((h2.trans (fH.of_eq (by omega))).add (bIi hF s q)).trans h3.symm)
theorem lin_row{F:Mono→Int}(a:Mono): ∀q:List Mono,fH (lin F (q.map (mulM a))) (gE (fun b=>a.n*b.n*F (mulM a b)) q)
 | []=>fH.refl _
 | b::q=>(((pN (a.n*b.n)).mul (F (mulM a b))).add (lin_row a q))
theorem lin_app(F:Mono→Int): ∀l k:List Mono,lin F (l++k)=lin F l+lin F k
 | [],k=>by show lin F k=(0:Int)+_;omega
 | m::l,k=>by rw [List.cons_append,jH,jH,lin_app F l k];omega
theorem lin_flat{F:Mono→Int}(q:List Mono): ∀p:List Mono,fH (lin F (p.flatMap fun a=>q.map (mulM a))) (gE (fun a=>gE (fun b=>a.n*b.n*F (mulM a b)) q) p)
 | []=>fH.refl _
 | a::p=>by
  rw [List.flatMap_cons,lin_app];exact(lin_row a q).add (lin_flat q p)
theorem refMul_mul(p q:List Mono):lQ p q=mW p q:=by
 unfold lQ mW
 cases hp:cT p with
 | false=>rfl
 | true=>
  cases hq:cT q with
  | false=>rfl
  | true=>
   refine yZ (oY _ List.Pairwise.nil) (sG _ (fun y hy=>?_) bCp) (wO p q) (bDq p q) fun F hF=>?_
   ·obtain⟨a,_,hy⟩:=List.mem_flatMap.1 hy;obtain⟨x,_,rfl⟩:=List.mem_map.1 hy;exact rW _
   ·have h1:=sH hF (p.flatMap fun a=>q.map (mulM a)) [];have h0:lin F []=0:=rfl;exact h1.trans (((fH.of_eq (by omega)).trans (lin_flat q p)).trans (bEn hF p q).symm)
set_option maxRecDepth 100000 in
theorem tP(A B:Option Addr)(c d:Nat)(p q:List Mono)(hpl:p.length≤140737488355328)(hql:q.length≤140737488355328):dD Tryz.prog 106 [.slice A p.length c,.slice B q.length d] [] [dG.sl (.slice A p.length c) p,dG.sl (.slice B q.length d) q] (fun(x:Option Addr×Nat)=> .tuple #[.slice x.1 (gI p q 1).1.length x.2,.int .i64 (gI p q 1).2]) (fun(x:Option Addr×Nat)=>[dG.row (.slice x.1 (gI p q 1).1.length x.2) 45 (gI p q 1).1]) (fun _=>[]):=by
 have hT:=tU;refine cI Tryz.func106 rfl Tryz.ntmps106 rfl ?_;intro β hM;refine sr<|sp2 hT ?_;refine nn<|sr<|sp2 hT ?_;refine cQ Tryz.func165 (bGz _ _ _ _ p q 1 (by omega) (by omega)) rfl rfl .nil ⟨Has.of mT0,Has.of mT1,trivial⟩ fun⟨A1,c2⟩=>?_;refine sp4 hT ?_;refine nn<|bK ?_;exact mL (A1,c2) rfl rfl rfl rfl (.cons .head .nil) trivial
structure MSt where
 sizes:List PolV
 laid:List Bool
 freeL:List Int
 ats:List PolV
 end_:PolV
def jY (l:List PolV)(b:Nat):List Mono:=((l[b]?).map (·.list)).getD []
def qM (m:MSt)(b:Nat):SpC:=⟨jY m.ats b,jY m.sizes b⟩
structure uS (n:Nat) (m:MSt) (freed:List Bool) (s:PlC):Prop where
 n1:m.sizes.length=n
 n2:m.laid.length=n
 n3:m.ats.length=n
 n4:freed.length=n
 n5:s.laid.length=n
 end_:m.end_.list=s.end_
 ats:m.ats.map (·.list)=s.ats
 free:m.freeL.map (fun f=>qM m f.toNat)=s.free
 in_: ∀f∈m.freeL,0≤f∧f.toNat<n∧m.laid[f.toNat]?=some true
 fr: ∀b:Nat,freed[b]?=some true→m.laid[b]?=some true
 laid: ∀b:Nat,b<n→(s.laid[b]?).bind id=if m.laid[b]?=some true∧freed[b]?=some false then some (qM m b) else none
section
variable {n : Nat} {m : MSt} {freed : List Bool} {s : PlC} {b : Nat} {z a e : PolV}
theorem vB{l:List PolV}{b c:Nat}{z:PolV}(h:b≠c):jY (l.set b z) c=jY l c:=by
 unfold jY;rw [List.getElem?_set_ne h]
theorem bFp{l:List PolV}{b:Nat}{z:PolV}(h:b<l.length):jY (l.set b z) b=z.list:=by
 unfold jY;rw [List.getElem?_set_self h];rfl
theorem yL(h:uS n m freed s)(hb:b<n)(hn:m.laid[b]?=some false)(fl:List Int)(fs:List SpC)(hsub: ∀f∈fl,f∈m.freeL)(hfs:fl.map (fun f=>qM m f.toNat)=fs):
  uS n ⟨m.sizes.set b z,m.laid.set b true,fl,m.ats.set b a,e⟩ freed {s with end_:=e.list,free:=fs,laid:=s.laid.set b (some ⟨a.list,z.list⟩),ats:=s.ats.set b a.list}:=by
 have hnb: ∀f∈fl,b≠f.toNat:=fun f hf e=>by
  have:=(h.in_ f (hsub f hf)).2.2;rw [←e,hn] at this;cases this
 have hfb:freed[b]?=some false:=by
  obtain⟨o,ho⟩: ∃o,freed[b]?=some o:=⟨_,List.getElem?_eq_getElem (by rw [h.n4];exact hb)⟩
  cases o with
  | false=>exact ho
  | true=>
   have:=h.fr b ho;rw [hn] at this;cases this
 refine⟨by simp [h.n1],by simp [h.n2],by simp [h.n3],h.n4,by simp [h.n5],rfl,by simp [List.map_set,h.ats],?_,fun f hf=>?_,fun c hc=>?_,fun c hc=>?_⟩
 ·rw [←hfs];refine List.map_congr_left fun f hf=>?_;unfold qM;rw [vB (hnb f hf),vB (hnb f hf)]
 ·obtain⟨h1,h2,h3⟩:=h.in_ f (hsub f hf);refine⟨h1,h2,?_⟩;rw [List.getElem?_set_ne (hnb f hf)];exact h3
 ·by_cases e:b=c
  ·subst e;rw [List.getElem?_set_self (by rw [h.n2];exact hb)]
  ·rw [List.getElem?_set_ne e];exact h.fr c hc
 ·by_cases e:b=c
  ·subst e;rw [List.getElem?_set_self (by rw [h.n5];exact hb),List.getElem?_set_self (by rw [h.n2];exact hb),if_pos ⟨rfl,hfb⟩];unfold qM;rw [bFp (by rw [h.n3];exact hb),bFp (by rw [h.n1];exact hb)];rfl
  ·rw [List.getElem?_set_ne e,List.getElem?_set_ne e,h.laid c hc];unfold qM;rw [vB e,vB e]
theorem vK{i:Int}{y:LifeC}(h:uS n m freed s)(hb:b<n)(h1:m.laid[b]?=some true)(h2:freed[b]?=some false)(h3:y.to_<i)(fl:List Int)(hfl:fl=if jY m.sizes b=[] then m.freeL else m.freeL++[(b:Int)]):
  uS n {m with freeL:=fl} (freed.set b true) (oneK i y b s):=by
 have hl:(s.laid[b]?).bind id=some (qM m b):=by rw [h.laid b hb,if_pos ⟨h1,h2⟩]
 unfold oneK;simp only [hl,h3,if_true];subst hfl;refine⟨h.n1,h.n2,h.n3,by simp [h.n4],by simp [h.n5],h.end_,h.ats,?_,fun f hf=>?_,fun c hc=>?_,fun c hc=>?_⟩
 ·show(if jY m.sizes b=[] then m.freeL else m.freeL++[(b:Int)]).map (fun f=>qM m f.toNat)=if (qM m b).size=[] then s.free else s.free++[qM m b]
  show _=if jY m.sizes b=[] then s.free else s.free++[qM m b]
  split
  ·exact h.free
  ·rw [List.map_append,h.free];rfl
 ·have hf:f∈(if jY m.sizes b=[] then m.freeL else m.freeL++[(b:Int)]):=hf;split at hf
  ·exact h.in_ f hf
  ·rcases List.mem_append.1 hf with hf | hf
   ·exact h.in_ f hf
   ·have e:f=(b:Int):=by simpa using hf
    subst e;exact⟨by omega,by simpa using hb,by simpa using h1⟩
 ·by_cases e:b=c
  ·subst e;exact h1
  ·rw [List.getElem?_set_ne e] at hc;exact h.fr c hc
 ·by_cases e:b=c
  ·subst e;rw [List.getElem?_set_self (by rw [h.n5];exact hb),List.getElem?_set_self (by rw [h.n4];exact hb),if_neg (by simp)];rfl
  ·rw [List.getElem?_set_ne e,List.getElem?_set_ne e];exact h.laid c hc
theorem mJ{i:Int}{y:LifeC}(h:uS n m freed s)(hb:b<n)(hn: ¬(m.laid[b]?=some true∧freed[b]?=some false∧y.to_<i)):uS n m freed (oneK i y b s):=by
 have hl:=h.laid b hb;unfold oneK
 by_cases hc:m.laid[b]?=some true∧freed[b]?=some false
 ·rw [if_pos hc] at hl;simp only [hl];rw [if_neg fun h3=>hn ⟨hc.1,hc.2,h3⟩];exact h
 ·rw [if_neg hc] at hl;simp only [hl];exact h
theorem bDt(n:Nat):uS n ⟨List.replicate n ⟨none,0,[]⟩,List.replicate n false,[],List.replicate n ⟨none,0,[]⟩,⟨none,0,[]⟩⟩ (List.replicate n false) (nB n):=by
 refine⟨by simp,by simp,by simp,by simp,by simp [nB],rfl,by simp [nB],rfl,fun f hf=>(by cases hf),fun b hb=>?_,fun b hb=>?_⟩
 ·rw [List.getElem?_replicate] at hb;split at hb<;>simp at hb
 ·simp [nB,hb]
end
def makT:Tab:=[(3,⟨.int .i64,1⟩),(2,⟨.int .i64,1⟩),(5,⟨.int .u8,1⟩),(4,⟨.bool,1⟩),(37,⟨.int .u8,1⟩),(31,⟨.int .i64,1⟩),(35,⟨.slice 45,1⟩),(36,⟨.slice 35,1⟩),(42,⟨.struct [(3,0),(3,1),(2,2),(35,3),(37,4)],5⟩),(38,⟨.slice 42,1⟩),(47,⟨.struct [(36,0),(3,1)],2⟩),(22,⟨.slice 47,1⟩),(40,⟨.struct [(3,0),(3,1),(35,2),(36,3),(37,4),(38,5)],6⟩),(23,⟨.slice 40,1⟩),(24,⟨.slice 3,1⟩),(51,⟨.slice 4,1⟩),(26,⟨.struct [(3,0),(22,1),(23,2),(24,3)],4⟩),(55,⟨.struct [(3,0),(3,1)],2⟩),(48,⟨.slice 55,1⟩),(115,⟨.struct [(3,0),(3,1),(3,2),(51,3)],4⟩),(194,⟨.struct [(35,0),(35,1),(3,2)],3⟩),(306,⟨.slice 194,1⟩),(57,⟨.struct [(36,0),(35,1)],2⟩),(112,⟨.array 64 4,64⟩),(45,⟨.struct [(2,0),(43,1)],7⟩),(43,⟨.array 6 5,6⟩),(258,⟨.slice 5,1⟩),(206,⟨.int .u64,1⟩),(113,⟨.other,1⟩),(202,⟨.other,1⟩),(119,⟨.other,1⟩),(99,⟨.map 3 194,1⟩),(307,⟨.slice 194,1⟩),(252,⟨.other,1⟩),(100,⟨.slice 252,1⟩),(98,⟨.other,1⟩),(110,⟨.struct [(26,0),(48,4),(36,5),(51,6),(24,7),(57,8)],10⟩),(108,⟨.other,1⟩)]
theorem vT:fO Tryz.prog makT:=sS.ok
 ⟨⟨by rw [Tryz.underlying3];rfl,by kernel_rfl⟩,
  ⟨by rw [Tryz.underlying2];rfl,by kernel_rfl⟩,
  ⟨by rw [Tryz.underlying5];rfl,by kernel_rfl⟩,
  ⟨by rw [Tryz.underlying4];rfl,by kernel_rfl⟩,
  ⟨by rw [Tryz.underlying37];rfl,by kernel_rfl⟩,
  ⟨by rw [Tryz.underlying31];rfl,by kernel_rfl⟩,
  ⟨by rw [Tryz.underlying35];rfl,by kernel_rfl⟩,
  ⟨by rw [Tryz.underlying36];rfl,by kernel_rfl⟩,
  ⟨by rw [Tryz.underlying42];rfl,by kernel_rfl⟩,
  ⟨by rw [Tryz.underlying38];rfl,by kernel_rfl⟩,
  ⟨by rw [Tryz.underlying47];rfl,by kernel_rfl⟩,
  ⟨by rw [Tryz.underlying22];rfl,by kernel_rfl⟩,
  ⟨by rw [Tryz.underlying40];rfl,by kernel_rfl⟩,
  ⟨by rw [Tryz.underlying23];rfl,by kernel_rfl⟩,
  ⟨by rw [Tryz.underlying24];rfl,by kernel_rfl⟩,
  ⟨by rw [Tryz.underlying51];rfl,by kernel_rfl⟩,
  ⟨by rw [Tryz.underlying26];rfl,by kernel_rfl⟩,
  ⟨by rw [Tryz.underlying55];rfl,by kernel_rfl⟩,
  ⟨by rw [Tryz.underlying48];rfl,by kernel_rfl⟩,
  ⟨by rw [Tryz.underlying115];rfl,by kernel_rfl⟩,
  ⟨by rw [Tryz.underlying194];rfl,by kernel_rfl⟩,
  ⟨by rw [Tryz.underlying306];rfl,by kernel_rfl⟩,
  ⟨by rw [Tryz.underlying57];rfl,by kernel_rfl⟩,
  ⟨by rw [Tryz.underlying112];rfl,by kernel_rfl⟩,
  ⟨by rw [Tryz.underlying45];rfl,by kernel_rfl⟩,
  ⟨by rw [Tryz.underlying43];rfl,by kernel_rfl⟩,
  ⟨by rw [Tryz.underlying258];rfl,by kernel_rfl⟩,
  ⟨by rw [Tryz.underlying206];rfl,by kernel_rfl⟩,
  ⟨by rw [Tryz.underlying113];rfl,by kernel_rfl⟩,
  ⟨by rw [Tryz.underlying202];rfl,by kernel_rfl⟩,
  ⟨by rw [Tryz.underlying119];rfl,by kernel_rfl⟩,
  ⟨by rw [Tryz.underlying99];rfl,by kernel_rfl⟩,
  ⟨by rw [Tryz.underlying307];rfl,by kernel_rfl⟩,
  ⟨by rw [Tryz.underlying252];rfl,by kernel_rfl⟩,
  ⟨by rw [Tryz.underlying100];rfl,by kernel_rfl⟩,
  ⟨by rw [Tryz.underlying98];rfl,by kernel_rfl⟩,
  ⟨by rw [Tryz.underlying110];rfl,by kernel_rfl⟩,
  ⟨by rw [Tryz.underlying108];rfl,by kernel_rfl⟩,trivial⟩
theorem const1:(jF 1).1=[num0 1]:=by decide
def wC (sides:List (List Mono)):List Mono:=(sizeC sides).getD []
theorem mulP_len9(p q:List Mono):(mW p q).1.length≤8796093022208:=by
 have:=rM (bKi p q);omega
theorem wW(p q:List Mono):(bothP p q 1).1.length≤8796093022208:=by
 have:=rM (bDb p q 1);omega
section
variable {sides : List (List Mono)} {b i : Nat} {again : Bool} {s : PlC} {n : List Mono}
theorem bFs(h:sizeC sides=some n)(hf:nP n again s.free=none)(he:(bothP s.end_ n 1).2=0):layC sides b again s=some {s with end_:=(bothP s.end_ n 1).1,laid:=s.laid.set b (some ⟨s.end_,n⟩),ats:=s.ats.set b s.end_}:=by
 unfold layC;rw [h];simp only [hf,he,if_true]
theorem xD(h:sizeC sides=some n)(hf:nP n again s.free=none)(he:(bothP s.end_ n 1).2≠0):layC sides b again s=none:=by
 unfold layC;rw [h];simp only [hf,he,if_false]
theorem free_nil{l:List SpC}(h:n=[]):nP n again l=none:=by
 unfold nP;rw [if_neg (by simp [h])]
theorem free_all{l:List SpC}(h: ∀q∈l,q.size≠n):nP n again l=none:=by
 unfold nP;split
 ·rw [List.findIdx?_eq_none_iff.2 (fun q hq=>by simpa using h q hq)]
 ·rfl
theorem find_first{l:List SpC}{q:SpC}(hq:l[i]?=some q)(hn:q.size=n)(h: ∀q∈l.take i,q.size≠n):l.findIdx? (fun y=>decide (y.size=n))=some i:=by
 obtain⟨hlt,e⟩:=List.getElem?_eq_some_iff.1 hq;rw [List.findIdx?_eq_some_iff_getElem];refine⟨hlt,by rw [e];simpa using hn,fun j hj=>?_⟩;have hm:l[j]∈l.take i:=List.mem_take_iff_getElem.2 ⟨j,by omega,rfl⟩
 simpa using h _ hm
theorem take_no{l:List SpC}{q:SpC}(hq:l[i]?=some q)(hn:q.size≠n)(h: ∀q∈l.take i,q.size≠n): ∀q∈l.take (i+1),q.size≠n:=fun y hy=>by
 rw [List.take_add_one,hq] at hy
 rcases List.mem_append.1 hy with hy | hy
 ·exact h y hy
 ·have e:y=q:=by simpa using hy
  subst e;exact hn
end
set_option maxRecDepth 100000 in
theorem const02_spec:dD Tryz.prog 121 [.int .i64 1] [] [] (fun(x:Option Addr×Nat)=> .tuple #[.slice x.1 (jF 1).1.length x.2,.int .i64 0]) (fun _=>[]) (fun(x:Option Addr×Nat)=>[cY ⟨x.1,x.2,(jF 1).1⟩]):=by
 have hT:=vT;refine cI Tryz.func121 rfl Tryz.ntmps121 rfl ?_;intro β hM;refine sr<|sp2 hT ?_;refine nn<|bF<|sr<|sp2 hT ?_;refine dH (t':=false) (by decide) ?_;refine dH (t':=false) (by decide) ?_;refine sp3 hT ?_;refine dH (t':=false) (by decide) ?_;refine sp hT ?_;refine nn<|cR rfl rfl ?_;refine bL<|bD<|bF<|sr<|sp2 hT ?_;refine dH (t':=false) (by decide) ?_;refine dH (t':=false) (by decide) ?_;refine nn<|cR rfl rfl ?_;refine bL<|bD<|sr<|sp hT ?_;refine ss (dO rfl rfl (built_n 1)) ?_;refine at_one (m:=num0 1) rfl rfl rfl rfl rfl fun b1=>?_;refine qL (E:=dG) (xs:=[num0 1]) .head ?_;refine lR .head ?_;refine sp2 hT ?_;refine nn<|bK ?_;exact gD (some ⟨b1,0,none⟩,1) rfl (rv_tmp rfl) (rv_tmp rfl) .nil ⟨by rw [const1];exact Has.and (Has.of mT0) (Has.pure (show([num0 1]:List Mono).length≤8796093022208 from by decide)),trivial⟩ (by rw [const1];rfl)
set_option maxRecDepth 100000 in
theorem bBh(u:iW):dD Tryz.prog 63 [.agg #[.slice u.sides.addr u.sides.list.length u.sides.cap,.int .i64 u.input]] [] [nF u.sides] (fun(x:Option Addr×Nat)=> .tuple #[.slice x.1 (wC (polsL u.sides.list)).length x.2,.bool (sizeC (polsL u.sides.list)).isSome]) (fun _=>[]) (fun(x:Option Addr×Nat)=>[cY ⟨x.1,x.2,wC (polsL u.sides.list)⟩]):=by
 have hT:=vT
 obtain⟨R,hR⟩: ∃R,sizeC (polsL u.sides.list)=R:=⟨_,rfl⟩
 refine cI Tryz.func63 rfl Tryz.ntmps63 rfl ?_;intro β hM;refine bF<|cB (fM.sl (.slice u.sides.addr u.sides.list.length u.sides.cap) u.sides.list) (qH (Has.of mT0)) ?_;refine bV (qS (Has.of mT1)) fun hsc=>?_;have hsc1:=hsc.1;have hsc2:=hsc.2;refine bB<|gC rfl rfl rfl rfl rfl rfl fun b1=>?_;refine sp2 hT ?_;refine nn<|sr<|cQ Tryz.func121 const02_spec rfl rfl .nil trivial fun y2=>?_;refine sp4 hT ?_;refine sp hT ?_;refine nn<|bF<|sr<|sp hT ?_;refine nn<|bO<|cO (ι:=PolV×Nat) [(1,_)] ⟨rfl,trivial⟩ (fun⟨cur,i⟩=>[(4,.slice cur.addr cur.list.length cur.cap),(6,.int .i64 (i:Nat))]) (fun _=>[]) (fun⟨cur,i⟩=>[bP.pure (i≤u.sides.list.length∧R=pS ((polsL u.sides.list).drop i) cur.list),cY cur]) (fun⟨cur,i⟩=>u.sides.list.length-i) (⟨y2.1,y2.2,(jF 1).1⟩,0) ⟨rfl,rfl,trivial⟩ .nil ⟨Has.pure (⟨by omega,by rw [←hR];rfl⟩),Has.of mT0,trivial⟩ ?_;rintro⟨cur,i⟩;dsimp only;refine bV (Has.of mT0) fun hinv3=>?_;refine bF<|sr<|sp2 hT ?_;refine ss (ldO hT (cU .head)) ?_;refine sp2 hT ?_;refine nn<|bM rfl (fun hc17=>?_) (fun hc17=>?_)
 ·have hc17:=of_decide_eq_true hc17;refine bL<|bD<|bF<|bO<|bF ?_
  obtain⟨x,hx⟩: ∃x',u.sides.list[i]?=some x':=⟨_,List.getElem?_eq_getElem (by omega)⟩
  refine cB (cY x) (Has.each (qQ (Has.of mT4)) (List.mem_of_getElem? hx)) ?_;refine bB<|sp2 hT ?_;refine ss (ldO hT (cU .head)) ?_;refine sp hT ?_;refine ss (bG hT (k:=i) (bA (Has.of mT4)) rfl rfl rfl rfl rfl rfl rfl (by omega)) ?_;refine ss (bN hT (bY.knows (bA (Has.of mT4)) (k:=i) (x:=x) hx 0) rfl rfl rfl rfl rfl) ?_;refine bV (dI (Has.of mT2)) fun hcl=>?_;refine bV (dI (Has.of mT0)) fun hxl=>?_;refine cQ Tryz.func122 (refMul_spec cur.addr x.addr cur.cap x.cap cur.list x.list hcl hxl) rfl rfl .nil ⟨dM (Has.of mT2),dM (Has.of mT0),trivial⟩ fun y3=>?_;rw [refMul_mul];refine hI (E:=dG) .head ?_;refine cB (cY ⟨y3.1,y3.2,(mW cur.list x.list).1⟩) (Has.and (Has.of mT0) (Has.pure (mulP_len9 _ _))) ?_;refine sp4 hT ?_;refine sp hT ?_;refine nn<|bF<|sr<|sp2 hT ?_;refine nn<|bM rfl (fun hc31=>?_) (fun hc31=>?_)
  ·have hc31:=bne_iff_ne.1 hc31;refine sr<|sp2 hT ?_;refine nn<|bK<|bJ<|bQ<|bJ<|bJ<|bQ<|bJ ?_;have hz:sizeC (polsL u.sides.list)=none:=hR.trans (bJc hinv3.2 (fP hx) ‹_›);exact gD (none,0) rfl (rv_tmp rfl) (rv_tmp rfl) .nil ⟨by unfold wC;rw [hz];exact polF_nil,trivial⟩ (by unfold wC;rw [hz];rfl)
  have hc31:=bne_eq_false_iff_eq.1 hc31;refine bL<|bD<|bB<|sp2 hT ?_;refine fZ<|bT<|bD<|bB<|sp2 hT ?_;refine bS (z':=(((i+1):Nat):Int)) (cG (by omega) (by omega)) ?_;refine sp hT ?_;refine nn ?_;exact bZ (⟨y3.1,y3.2,(mW cur.list x.list).1⟩,i+1) (by dsimp only;omega) ⟨rfl,rfl,trivial⟩ ⟨rfl,trivial⟩ (.cons .head .nil) ⟨Has.pure (⟨by dsimp only;omega,size_ok' hinv3.2 (fP hx) ‹_›⟩),Has.of mT0,trivial⟩ (bI.drop 5)
 have hc17:=Int.not_lt.1 (of_decide_eq_false hc17);refine cD<|bX<|bX<|cE<|bD<|sr<|sp3 hT ?_;refine nn<|bK ?_;have hz:sizeC (polsL u.sides.list)=some cur.list:=hR.trans (pO hinv3.2 (by rw [cM];omega));exact gD (cur.addr,cur.cap) rfl (rv_tmp rfl) (rv_tmp rfl) .nil ⟨by unfold wC;rw [hz];exact Has.of mT1,trivial⟩ (by unfold wC;rw [hz];rfl)
end Go.Proofs.YtofjmphlpdhohaaGreatDoor
