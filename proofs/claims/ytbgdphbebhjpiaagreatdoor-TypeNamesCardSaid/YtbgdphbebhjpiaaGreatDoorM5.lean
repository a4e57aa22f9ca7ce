/- Texts of one proof, one behind the other: ExprB, ShowP, ParseP, BackL, BackP. -/
import Derived.Test.YtbgdphbebhjpiaaGreatDoorM4
namespace Go.Proofs.YtbgdphbebhjpiaaGreatDoor
open Go.RowKit
def numF (it:ItemV):Fact:=bKh.sl (.slice it.nums.addr it.nums.list.length it.nums.cap) it.nums.list
def mG (l:List ItemV):Fact:=Fact.each l numF
def tnF (st:List kV):Fact:=Fact.each st fun o=>match o with
 | none=>Fact.true
 | some x=>numF x.2
section
variable {F : List Fact} {b : Nat} {it : ItemV} {o : kV} {l : List ItemV} {st : List kV}
theorem tn_none(h:Has F (tnF st)):Has F (tnF (none::st)):=Has.each_cons Has.true h
theorem tO(h:Has F (tnF st))(hx:Has F (numF it)):Has F (tnF (some (b,it)::st)):=Has.each_cons hx h
theorem bFo(h:Has F (tnF (o::st))):Has F (tnF st):=Has.each_tail h
theorem bGr(h:Has F (mG l))(hx:Has F (numF it)):Has F (mG (l++[it])):=Has.each_snoc h hx
theorem sU(hn:Has F (mG l))(h:Has F (tnF st)):Has F (mG (l++(finP st).1)):=by
 induction st generalizing l with
 | nil=>rw [finP,List.append_nil];exact hn
 | cons o st ih=>
  cases o with
  | none=>rw [finP,List.append_nil];exact hn
  | some x=>
   have:=ih (bGr hn (fun S w k=>h S w k (some x) (List.mem_cons_self ..))) (bFo h);rw [List.append_assoc] at this;exact this
theorem bBq(h:Has F (tnF st)):Has F (tnF (finP st).2):=by
 induction st with
 | nil=>exact h
 | cons o st ih=>
  cases o with
  | none=>exact h
  | some x=>exact ih (bFo h)
end
section
variable {toks : List TokV} {e : Int} {r : qF} {k o : Nat} {out : List ItemV} {st s2 : List kV}
theorem b_num{s:Stk}(h:yW toks e r k (out.map ItemV.it) s o)(h2:(bP toks k).kind=2){j:Nat}{cur:List Int}{C:Option Addr}{c:Nat}(hj:j=k+cur.length)(hc:fY toks k=cur):
  uG toks e r j ((out++[(⟨1,(bP toks k).at_,0,[],⟨C,c,cur⟩⟩:ItemV)]).map ItemV.it) s o:=by
 have:=e_num h h2;subst hc;subst hj;rw [List.map_append];exact this
theorem b_name{s:Stk}(h:yW toks e r k (out.map ItemV.it) s o)(h1:(bP toks k).kind=1)(hn:dS (bP toks k).word=true):
  uG toks e r (k+1) ((out++[(⟨2,(bP toks k).at_,0,(bP toks k).word,⟨none,0,[]⟩⟩:ItemV)]).map ItemV.it) s o:=by
 rw [List.map_append];exact e_name h h1 hn
theorem b_closed(h:uG toks e r k (out.map ItemV.it) (xR st) o)(ho:0<o)(h3:(bP toks k).kind=3)(hw:(bP toks k).word=[41])(hs:(finP st).2=none::s2):
  uG toks e r (k+1) ((out++(finP st).1).map ItemV.it) (xR s2) (o-1):=by
 have h1:=bFh h ho h3 hw;rw [←(wR st).2,hs] at h1;rw [List.map_append,(wR st).1];exact h1
theorem bFj(h:uG toks e r k (out.map ItemV.it) (xR st) o)(h4:(bP toks k).kind=4)(ho: ¬0<o):r=((out++(finP st).1).map ItemV.it,(0,0)):=by
 rw [List.map_append,(wR st).1];exact r_end h h4 ho
end
theorem sW(z0:Int)(z1:Int)(s3:ByteArray):Tryz.prog.built 52 [(0,.int .i64 z0),(1,.int .i64 z1),(3,.string s3)]=some #[.int .i64 z0,.int .i64 z1,.int .u8 0,.string s3,.slice none 0 0]:=by kernel_rfl
set_option maxRecDepth 100000 in
theorem bKy(bl:Nat)(A:Option Addr)(c:Nat)(toks:List TokV)(k0:Nat)(e:Int)(hk:k0≤toks.length)(hl:toks.length≤1000)(hw: ∀k,(bP toks k).word.length≤65536):dX Tryz.prog 77 [.pointer (some ⟨bl,0,none⟩)] [.obj bl (.cells [.slice A toks.length c,.int .i64 (k0:Nat),.int .i64 e].toArray 102)] [kY.sl (.slice A toks.length c) toks,iK] (fun(x:Option Addr×Nat×List ItemV×Nat)=> .tuple #[.slice x.1 x.2.2.1.length x.2.1,.agg #[.int .i64 (hZ toks e k0).2.1,.int .i64 (hZ toks e k0).2.2]]) (fun(x:Option Addr×Nat×List ItemV×Nat)=>[.obj bl (.cells [.slice A toks.length c,.int .i64 (x.2.2.2:Nat),.int .i64 e].toArray 102)]) (fun(x:Option Addr×Nat×List ItemV×Nat)=>[lH.sl (.slice x.1 x.2.2.1.length x.2.1) x.2.2.1,mG x.2.2.1,Fact.pure (x.2.2.1.map ItemV.it=(hZ toks e k0).1)]):=by
 have hT:=fR;have he0:=zP (e:=e) hk;generalize hZ toks e k0=r at he0⊢;refine cW Tryz.func77 rfl Tryz.ntmps77 rfl ?_;intro β hM;refine sr<|hQ rfl rfl rfl rfl rfl rfl fun b1=>?_;refine sp hT ?_;refine bY rfl rfl rfl rfl xY rfl fun b2=>?_;refine nn<|sr<|bY rfl rfl rfl rfl itemZ rfl fun b4=>?_;refine nn<|sr<|bY rfl rfl rfl rfl funcZ rfl fun b5=>?_;refine nn<|sr<|sp hT ?_;refine nn<|sr<|sp2 hT ?_;refine nn<|sr<|sp2 hT ?_;refine nn<|bX<|dR (t:=52) lH ?_;refine dR (t:=1) (fnE b4) ?_;refine bE (mG []) (Has.each_nil) ?_;refine bE (tnF []) (Has.each_nil) ?_;refine bE (lR []) (todo_nil) ?_;refine dG (ι:=Nat×Nat×List ItemV×List kV×Option Addr×Nat×Option Addr×Nat) [(1,_),(3,_),(4,_),(5,_),(7,_),(8,_)] ⟨rfl,rfl,rfl,rfl,rfl,rfl,trivial⟩ (fun⟨k,o,out,st,C,e1,D,f⟩=>[(6,.int .i64 (o:Nat))]) (fun⟨k,o,out,st,C,e1,D,f⟩=>[.obj bl (.cells [.slice A toks.length c,.int .i64 (k:Nat),.int .i64 e].toArray 102),.obj b4 (.cells [.slice C out.length e1].toArray 47),lH.row (.slice C out.length e1) 52 out,.obj b5 (.cells [.slice D st.reverse.length f].toArray 208),(fnE b4).row (.slice D st.reverse.length f) 1 st.reverse]) (fun⟨k,o,out,st,C,e1,D,f⟩=>[Fact.pure (yW toks e r k (out.map ItemV.it) (xR st) o∧opens st=o∧o≤32∧out.length+st.length≤k∧k≤toks.length),lR st,tnF st,mG out]) (fun⟨k,o,out,st,C,e1,D,f⟩=>toks.length-k) (k0,0,[],[],none,0,none,0) ⟨rfl,trivial⟩ (.cons kT6 (.cons kT3 (.cons kT1 (.cons kT1 (.cons .head .nil))))) ⟨Has.pure (⟨he0,rfl,by omega,by simp,hk⟩),Has.of mT0,Has.of mT1,Has.of mT2,trivial⟩ ?_;rintro⟨k,o,out,st,C,e1,D,f⟩;dsimp only;refine bS (Has.of mT0) fun hinv6=>?_;refine bX<|sr<|ss (ldO hT (bJ kT6)) ?_;refine bR Tryz.func73 (iE bl A c toks (k) e) rfl rfl (.cons .head .nil) ⟨Has.of mT7,trivial⟩ fun _=>?_;refine bY rfl rfl rfl rfl vC rfl fun b3=>?_;refine sto hT .head ?_;refine nn<|bA<|bX<|sr<|sp hT ?_;refine ss (ldO hT (bJ .head)) ?_;refine sp2 hT ?_;refine cF (fun hg23=>?_) (fun hg23=>?_)
 ·have hg23:=bne_iff_ne.1 hg23;refine sp hT ?_;refine ss (ldO hT (bJ .head)) ?_;refine sp3 hT ?_;refine cF (fun hg28=>?_) (fun hg28=>?_)
  ·have hg28:=bne_iff_ne.1 hg28;refine sp hT ?_;refine ss (ldO hT (dI .head)) ?_;refine bR Tryz.func135 (nR _) rfl rfl .nil trivial fun _=>?_;refine sp2 hT ?_;refine nn<|bL rfl (fun hc19=>?_) (fun hc19=>?_)
   ·refine bA<|sr<|sp hT ?_;refine gP (cR Tryz.func137 rfl rfl) (laterF_spec bl A c toks (k) e b1 b5 b4 _ _ st (by omega) (by omega)) rfl rfl rfl rfl rfl rfl rfl (.cons kT1 (.cons kT6 (.cons kT3 (.cons kT3 .nil)))) ⟨(Has.of mT7),(Has.of mT1),trivial⟩ fun⟨⟨A4,c5⟩,b6⟩=>?_;refine bE (tnF (some (b6,(qK (bQ toks (k) e false)))::st)) (tO (Has.of mT3) dM) ?_;refine bY rfl rfl rfl rfl xY rfl fun b7=>?_;refine sto hT .head ?_;refine nn<|sr<|ss (ldN hT (bJ .head)) ?_;refine ss (cC rfl rfl (vZ)) ?_;refine ss (fM ⟨(bQ toks (k) e false).flt.1,(bQ toks (k) e false).flt.2⟩ ⟨0,0⟩ rfl rfl rfl) ?_;refine nn<|bL rfl (fun hc37=>?_) (fun hc37=>?_)
    ·have hc37:=fX hc37;refine bA<|cZ _ _ [(true,0),(true,1),(false,2)] dD (by decide+kernel) (.cons .head (.cons .head (.cons .head (.cons .head (.cons .head (.cons .head (.cons .head (.cons .head .nil)))))))) bI.self ?_;refine stM rfl (ldN hT (bJ .head)) ?_;refine puM hT ?_;refine cK (o:=_) rfl ?_;refine sto hT kT8 ?_;refine cL (.cons kT1 (.cons kT1 (.cons kT1 (.cons kT1 (.cons kT1 (.cons kT1 (.cons kT1 (.cons kT1 .nil)))))))) (bI.drop 0) ?_;refine cQ<|bC<|bF<|bB<|bH<|bB<|bH<|bB<|bH ?_;have hr:=(e_verb hinv6.1 ‹_› ‹_› ‹_›).2 hc37;subst hr;exact bO (none,0,[],_) rfl (bG rfl) (bM hT (bJ .head) rfl rfl rfl rfl) (.cons kT2 .nil) ⟨dM,Has.each_nil,Has.pure rfl,trivial⟩ rfl
    have hc37:=fP hc37;have he:=(e_verb hinv6.1 ‹_› ‹_› ‹_›).1 hc37;refine bN<|bC<|dC<|bGm rfl ?_;refine cM<|dB<|bC ?_;exact cO ((bQ toks (k) e false).next,o,out,(some (b6,(qK (bQ toks (k) e false)))::st),_,_,_,_) (by have:=he.1;first | (have:=dP toks k e false;dsimp only;omega) | (have:=dP toks k e true;dsimp only;omega)) ⟨rfl,trivial⟩ ⟨rfl,rfl,rfl,rfl,rfl,rfl,trivial⟩ (.cons kT1 (.cons kT5 (.cons kT5 (.cons kT2 (.cons kT2 (.cons kT3 (.cons kT1 .nil))))))) ⟨Has.pure (⟨he,hinv6.2.1,hinv6.2.2.1,by have:=dP toks k e false;first | omega | (simp;omega),he.1⟩),Has.of mT1,Has.of mT0,Has.of mT5,trivial⟩ (bI.drop 6)
   refine sr<|sp hT ?_;refine ss (ldO hT (bJ .head)) ?_;refine sp2 hT ?_;refine cF (fun hg43=>?_) (fun hg43=>?_)
   ·have hg43:=eq_of_beq hg43;refine sp hT ?_;refine ss (ldO hT (dI .head)) ?_;refine sp3 hT ?_;refine nn<|bL rfl (fun hc39=>?_) (fun hc39=>?_)
    ·have hc39:(bP toks (k)).word=([40]:Bs):=eq_of_beq hc39;refine bA<|sr<|sp2 hT ?_;refine nn<|bL rfl (fun hc49=>?_) (fun hc49=>?_)
     ·have hc49:=eq_of_beq hc49;refine sr<|ss (ldO hT (bJ kT7)) ?_;refine bR Tryz.func74 (cV bl A c toks (k) e _) rfl rfl (.cons kT1 .nil) ⟨Has.of mT7,trivial⟩ fun _=>?_;refine sp hT ?_;refine sto hT kT6 ?_;refine nn<|bF<|bB<|bH<|bB<|bH<|bB<|bH ?_;have hr:=(bCg hinv6.1 ‹_› ‹_›).2 (by omega);subst hr;exact bO (none,0,[],_) rfl (bG rfl) (bM hT (bJ .head) rfl rfl rfl rfl) (.cons kT1 .nil) ⟨dM,Has.each_nil,Has.pure rfl,trivial⟩ rfl
     have hc49:=beq_eq_false_iff_ne.1 hc49;have he:=(bCg hinv6.1 ‹_› ‹_›).1 (by omega);refine bN<|bC<|sr<|sp2 hT ?_;refine bT (z':=(((o+1):Nat):Int)) (cP (by omega) (by omega)) ?_;refine sp hT ?_;refine nn<|sr<|ss (ldO hT (bJ kT7)) ?_;refine sp2 hT ?_;refine ss (ldO hT (fN kT1)) ?_;refine sp hT ?_;refine bT (z':=(((k+1):Nat):Int)) (cP (by omega) (by omega)) ?_;refine sp2 hT ?_;refine sto hT kT1 ?_;refine nn<|sr<|ss (ldO hT (bJ kT4)) ?_;refine bBp (b4:=b4) (m:=(none:kV)) rfl rfl rfl rfl rfl fun b8=>?_;refine bCm kT6 (dF .head rfl) rfl rfl rfl rfl rfl rfl rfl (by simp only [List.length_singleton,List.length_reverse];omega) fun A9 c10=>?_;rw [←List.reverse_cons];refine bE (lR (none::st)) (todo_none (Has.of mT1)) ?_;refine bE (tnF (none::st)) (tn_none (Has.of mT3)) ?_;refine sto hT kT6 ?_;refine nn<|dC<|bGm rfl ?_;refine cM<|dB<|bC ?_;exact cO ((k+1),(o+1),out,(none::st),_,_,_,_) (by have:=he.1;first | (have:=dP toks k e false;dsimp only;omega) | (have:=dP toks k e true;dsimp only;omega)) ⟨rfl,trivial⟩ ⟨rfl,rfl,rfl,rfl,rfl,rfl,trivial⟩ (.cons kT3 (.cons kT4 (.cons kT4 (.cons .head (.cons .head (.cons kT2 (.cons kT2 .nil))))))) ⟨Has.pure (⟨he,by show opens st+1=_;rw [hinv6.2.1],by dsimp only;omega,by first | omega | (simp;omega),he.1⟩),Has.of mT1,Has.of mT0,Has.of mT5,trivial⟩ (bI.drop 6)
    have hc39:(bP toks (k)).word≠([40]:Bs):=fun h=>absurd (beq_iff_eq.2 h) (by rw [show((bP toks (k)).word==([40]:Bs))=false from hc39];simp);refine sr<|sp hT ?_;refine ss (ldO hT (bJ .head)) ?_;refine sp hT ?_;refine bZ (t':=false) (by rw [hg43];rfl) ?_;refine sp hT ?_;refine nn<|cG rfl rfl ?_;refine sr<|sp hT ?_;refine ss (ldO hT (bJ .head)) ?_;refine sp hT ?_;refine bZ (t':=false) (by rw [hg43];rfl) ?_;refine sp hT ?_;refine sk3 ?_;refine sp2 hT ?_;refine nn<|cG rfl rfl ?_;refine sr<|sp hT ?_;refine ss (ldO hT (bJ .head)) ?_;refine sp hT ?_;refine bZ (t':=false) (by rw [hg43];rfl) ?_;refine sp hT ?_;refine nn<|cG rfl rfl ?_;refine sr<|ss (ldO hT (bJ kT7)) ?_;refine bR Tryz.func74 (cV bl A c toks (k) e _) rfl rfl (.cons kT1 .nil) ⟨Has.of mT7,trivial⟩ fun _=>?_;refine sp hT ?_;refine sto hT kT6 ?_;refine nn<|bF<|bH<|bB<|bH<|bB<|bH ?_;have hr:=e_want hinv6.1 (by omega) (by omega) (by first | exact .inl ‹_› | exact .inr ‹_›) (by first | exact .inr ‹_› | exact .inl (by omega));subst hr;exact bO (none,0,[],_) rfl (bG rfl) (bM hT (bJ .head) rfl rfl rfl rfl) (.cons kT1 .nil) ⟨dM,Has.each_nil,Has.pure rfl,trivial⟩ rfl
   have hg43:=beq_eq_false_iff_ne.1 hg43;refine sk3 ?_;refine sp2 hT ?_;refine nn<|cG rfl rfl ?_;refine sr<|sp hT ?_;refine ss (ldO hT (bJ .head)) ?_;refine sp hT ?_;refine bZ (t':=false) (beq_eq_false_iff_ne.2 hg23) ?_;refine sp hT ?_;refine nn<|cG rfl rfl ?_;refine sr<|sp hT ?_;refine ss (ldO hT (bJ .head)) ?_;refine sp2 hT ?_;refine cF (fun hg98=>?_) (fun hg98=>?_)
   ·have hg98:=eq_of_beq hg98;refine sp hT ?_;refine ss (ldO hT (dI .head)) ?_;refine bR Tryz.func76 (lZ _ (by have:=hw k;omega)) rfl rfl .nil ⟨Has.of mT8,trivial⟩ fun _=>?_;refine sp2 hT ?_;refine nn<|bL rfl (fun hc94=>?_) (fun hc94=>?_)
    ·refine bA ?_;have hbi:=b_name hinv6.1 ‹_› ‹_›;refine bD<|ss (ldO hT (bJ kT2)) ?_;refine sp hT ?_;refine ss (ldO hT (fN .head)) ?_;refine sp hT ?_;refine ss (ldO hT (dI .head)) ?_;refine ss (cC rfl rfl (sW _ _ _)) ?_;refine vY (m:=(⟨2,(bP toks k).at_,0,(bP toks k).word,⟨none,0,[]⟩⟩:ItemV)) rfl rfl rfl rfl rfl fun b11=>?_;refine vQ kT4 (dF .head rfl) rfl rfl rfl rfl rfl rfl rfl (by simp only [List.length_singleton];omega) fun A12 c13=>?_;refine bE (mG (out++[(⟨2,(bP toks k).at_,0,(bP toks k).word,⟨none,0,[]⟩⟩:ItemV)])) (bGr (Has.of mT3) dM) ?_;refine sto hT kT4 ?_;refine nn<|bD<|ss (ldO hT (bJ kT8)) ?_;refine sp2 hT ?_;refine ss (ldO hT (fN kT4)) ?_;refine sp hT ?_;refine bT (z':=(((k+1):Nat):Int)) (cP (by omega) (by omega)) ?_;refine sp2 hT ?_;refine sto hT kT4 ?_;refine dY<|cD<|bC<|bA<|sr<|ss (ldO hT (bJ kT8)) ?_;refine bR Tryz.func73 (iE bl A c toks ((k+1)) e) rfl rfl (.cons .head .nil) ⟨Has.of mT8,trivial⟩ fun _=>?_;refine sto hT kT4 ?_;refine nn<|bX ?_
     obtain⟨kk,hkk⟩: ∃kk,kk=k:=⟨_,rfl⟩
     refine dG (ι:=Nat×Nat×List ItemV×List kV×Option Addr×Nat×Option Addr×Nat) [(1,_),(3,_),(4,_),(5,_),(7,_),(8,_),(9,_),(24,_),(25,_),(26,_),(29,_),(30,_),(31,_),(44,_),(45,_),(46,_),(99,_),(100,_),(101,_)] ⟨rfl,rfl,rfl,rfl,rfl,rfl,rfl,rfl,rfl,rfl,rfl,rfl,rfl,rfl,rfl,rfl,rfl,rfl,rfl,trivial⟩ (fun⟨k,o,out,st,C,e1,D,f⟩=>[(6,.int .i64 (o:Nat))]) (fun⟨k,o,out,st,C,e1,D,f⟩=>[.obj bl (.cells [.slice A toks.length c,.int .i64 (k:Nat),.int .i64 e].toArray 102),.obj b4 (.cells [.slice C out.length e1].toArray 47),lH.row (.slice C out.length e1) 52 out,.obj b5 (.cells [.slice D st.reverse.length f].toArray 208),(fnE b4).row (.slice D st.reverse.length f) 1 st.reverse,.obj b3 (.cells [.int .i64 (bP toks k).kind,.int .i64 (bP toks k).at_,.string (bs (bP toks k).word),.int .i64 (bP toks k).n].toArray 104)]) (fun⟨k,o,out,st,C,e1,D,f⟩=>[Fact.pure (uG toks e r k (out.map ItemV.it) (xR st) o∧opens st=o∧o≤32∧out.length+st.length≤k∧k≤toks.length∧kk<k),lR st,tnF st,mG out]) (fun⟨k,o,out,st,C,e1,D,f⟩=>toks.length-k) ((k+1),o,(out++[(⟨2,(bP toks k).at_,0,(bP toks k).word,⟨none,0,[]⟩⟩:ItemV)]),st,_,_,_,_) ⟨rfl,trivial⟩ (.cons kT1 (.cons kT1 (.cons kT1 (.cons kT2 (.cons kT2 (.cons .head .nil)))))) ⟨Has.pure (⟨hbi,hinv6.2.1,hinv6.2.2.1,by first | omega | (simp;omega),hbi.1,by omega⟩),Has.of mT2,Has.of mT3,Has.of mT0,trivial⟩ ?_;rintro⟨k,o,out,st,C,e1,D,f⟩;dsimp only;refine bS (Has.of mT0) fun hinv30=>?_;refine bA<|sr<|sp3 hT ?_;refine cF (fun hg128=>?_) (fun hg128=>?_)
     ·have hg128:=of_decide_eq_true hg128;refine sp hT ?_;refine ss (ldO hT (bJ kT5)) ?_;refine sp3 hT ?_;refine cF (fun hg133=>?_) (fun hg133=>?_)
      ·have hg133:=eq_of_beq hg133;refine sp hT ?_;refine ss (ldO hT (dI kT5)) ?_;refine sp2 hT ?_;refine nn<|bL rfl (fun hc137=>?_) (fun hc137=>?_)
       ·have hc137:(bP toks k).word=([41]:Bs):=eq_of_beq hc137;refine bN<|bC<|bA<|bX<|sr<|sp hT ?_;refine gP (cR Tryz.func136 rfl rfl) (nJ b5 b4 _ _ st _ _ out (by omega)) rfl rfl rfl rfl rfl rfl rfl (.cons kT3 (.cons kT3 (.cons kT1 (.cons kT1 .nil)))) ⟨(Has.of mT1),trivial⟩ fun⟨⟨D14,f15⟩,⟨C16,e17⟩⟩=>?_;refine bE (mG (out++(finP st).1)) (sU (Has.of mT4) (Has.of mT3)) ?_;refine bE (tnF (finP st).2) (bBq (Has.of mT4)) ?_;have hfl:=tU st;obtain⟨s2,hs2,ho2⟩:=fin_open (st:=st) (by omega);have hb2:=b_closed hinv30.1 (by omega) ‹_› ‹_› hs2;rw [hs2] at hfl⊢;simp only [List.length_cons] at hfl;refine bE (lR s2) (bBr (Has.of mT2)) ?_;refine bE (tnF s2) (bFo (Has.of mT1)) ?_;refine nn<|sr<|ss (ldO hT (bJ .head)) ?_;refine ss (ldO hT (bJ .head)) ?_;refine sp hT ?_;refine bT (z':=(((s2.length+1):Nat):Int)) (congrArg Nat.cast (kC _ s2)) ?_;refine sp hT ?_;refine bT (z':=((((s2.length+1)-1):Nat):Int)) (cP (by omega) (by omega)) ?_;refine iZ hT (k:=((s2.length+1)-1)) kT1 rfl rfl rfl rfl rfl rfl rfl rfl rfl (by rw [kC];omega) ?_;rw [bCq];refine sto hT kT1 ?_;refine nn<|sr<|sp2 hT ?_;refine bT (z':=(((o-1):Nat):Int)) (cP (by omega) (by omega)) ?_;refine sp hT ?_;refine nn<|bD<|ss (ldO hT (bJ kT8)) ?_;refine sp2 hT ?_;refine ss (ldO hT (fN kT4)) ?_;refine sp hT ?_;refine bT (z':=(((k+1):Nat):Int)) (cP (by omega) (by omega)) ?_;refine sp2 hT ?_;refine sto hT kT4 ?_;refine dY<|cD<|bC<|bD<|ss (ldO hT (bJ kT8)) ?_;refine bR Tryz.func73 (iE bl A c toks ((k+1)) e) rfl rfl (.cons .head .nil) ⟨Has.of (.tail _ (.tail _ (.tail _ (.tail _ (.tail _ (.tail _ (.tail _ (.tail _ (.tail _ (.tail _ (.tail _ (.tail _ (.tail _ (.tail _ (.tail _ (.tail _ (.tail _ mT0))))))))))))))))),trivial⟩ fun _=>?_;refine sto hT kT5 ?_;refine nn ?_;exact cO ((k+1),(o-1),(out++(finP st).1),s2,_,_,_,_) (by have:=hb2.1;dsimp only;omega) ⟨rfl,trivial⟩ ⟨rfl,rfl,rfl,rfl,rfl,rfl,rfl,rfl,rfl,rfl,rfl,rfl,rfl,rfl,rfl,rfl,rfl,rfl,rfl,trivial⟩ (.cons kT1 (.cons kT3 (.cons kT3 (.cons kT1 (.cons kT1 (.cons .head (.cons .head (.cons .head (.cons .head .nil))))))))) ⟨Has.pure (⟨hb2,by dsimp only;omega,by dsimp only;omega,by first | omega | (simp;omega),hb2.1,by dsimp only;omega⟩),Has.of mT1,Has.of mT0,Has.of mT3,trivial⟩ (bI.drop 9)
       have hc137:(bP toks k).word≠([41]:Bs):=fun h=>absurd (beq_iff_eq.2 h) (by rw [show((bP toks k).word==([41]:Bs))=false from hc137];simp);refine dC<|cM<|cM<|dB<|bC<|bA<|bX<|sr<|sp hT ?_;refine ss (ldO hT (bJ kT5)) ?_;refine sp hT ?_;refine bZ (t':=false) (by rw [hg133];rfl) ?_;refine sp hT ?_;refine sk2 ?_;refine sp2 hT ?_;refine nn<|cG rfl rfl ?_;refine sr<|sp hT ?_;refine ss (ldO hT (bJ kT5)) ?_;refine sp hT ?_;refine bZ (t':=false) (by rw [hg133];rfl) ?_;refine sp hT ?_;refine nn<|cG rfl rfl ?_;refine sr<|sp hT ?_;refine ss (ldO hT (bJ kT5)) ?_;refine sp hT ?_;refine bZ (t':=false) (by rw [hg133];rfl) ?_;refine sp2 hT ?_;refine ss (ldO hT (dI kT5)) ?_;refine bR Tryz.func135 (nR _) rfl rfl .nil trivial fun _=>?_;refine sp3 hT ?_;refine nn<|bL rfl (fun hc174=>?_) (fun hc174=>?_)
       ·have hc174:=fX hc174;refine sr<|ss (ldO hT (bJ kT8)) ?_;refine bR Tryz.func74 (cV bl A c toks (k) e _) rfl rfl (.cons .head .nil) ⟨Has.of jV,trivial⟩ fun _=>?_;refine sp hT ?_;refine sto hT kT7 ?_;refine nn<|bF<|bH<|bB<|bH<|bB<|bH ?_;have hr:=sG hinv30.1 (by first | exact .inl (by omega) | exact .inr (.inl ‹_›) | exact .inr (.inr ‹_›)) (by omega) (by first | exact .inr ‹_› | exact .inl (by omega));subst hr;exact bO (none,0,[],_) rfl (bG rfl) (bM hT (bJ .head) rfl rfl rfl rfl) (.cons kT1 .nil) ⟨dM,Has.each_nil,Has.pure rfl,trivial⟩ rfl
       have hc174:=fP hc174;refine bN<|cD<|bC<|sr<|sp hT ?_;refine gP (cR Tryz.func137 rfl rfl) (nM bl A c toks (k) e b1 b5 b4 _ _ st (by omega) (by omega)) rfl rfl rfl rfl rfl rfl rfl (.cons .head (.cons kT7 (.cons kT2 (.cons kT2 .nil)))) ⟨(Has.of jV),(Has.of mT1),trivial⟩ fun⟨⟨A18,c19⟩,b20⟩=>?_;refine bE (tnF (some (b20,(qK (bQ toks (k) e true)))::st)) (tO (Has.of mT3) dM) ?_;refine bY rfl rfl rfl rfl xY rfl fun b21=>?_;refine sto hT .head ?_;refine nn<|sr<|ss (ldN hT (bJ .head)) ?_;refine ss (cC rfl rfl (vZ)) ?_;refine ss (fM ⟨(bQ toks (k) e true).flt.1,(bQ toks (k) e true).flt.2⟩ ⟨0,0⟩ rfl rfl rfl) ?_;refine nn<|bL rfl (fun hc190=>?_) (fun hc190=>?_)
       ·have hc190:=fX hc190;refine bA<|cZ _ _ [(true,0),(true,1),(false,2)] dD (by decide+kernel) (.cons .head (.cons .head (.cons .head (.cons .head (.cons .head (.cons .head (.cons .head (.cons .head (.cons .head .nil))))))))) bI.self ?_;refine stM rfl (ldN hT (bJ .head)) ?_;refine puM hT ?_;refine cK (o:=_) rfl ?_;refine sto hT kT9 ?_;refine cL (.cons kT1 (.cons kT1 (.cons kT1 (.cons kT1 (.cons kT1 (.cons kT1 (.cons kT1 (.cons kT1 (.cons kT1 .nil))))))))) (bI.drop 0) ?_;refine cQ<|bC<|bF<|bH<|bB<|bH ?_;have hr:=(oW hinv30.1 (by first | exact .inl (by omega) | exact .inr (.inl ‹_›) | exact .inr (.inr ‹_›)) (by omega) (by omega) ‹_›).2 hc190;subst hr;exact bO (none,0,[],_) rfl (bG rfl) (bM hT (bJ .head) rfl rfl rfl rfl) (.cons kT2 .nil) ⟨dM,Has.each_nil,Has.pure rfl,trivial⟩ rfl
       have hc190:=fP hc190;have he:=(oW hinv30.1 (by first | exact .inl (by omega) | exact .inr (.inl ‹_›) | exact .inr (.inr ‹_›)) (by omega) (by omega) ‹_›).1 hc190;refine bN<|cD<|bC ?_;exact cO ((bQ toks (k) e true).next,o,out,(some (b20,(qK (bQ toks (k) e true)))::st),_,_,_,_) (by have:=he.1;first | (have:=dP toks k e false;dsimp only;omega) | (have:=dP toks k e true;dsimp only;omega)) ⟨rfl,trivial⟩ ⟨rfl,rfl,rfl,rfl,rfl,rfl,trivial⟩ (.cons kT1 (.cons kT4 (.cons kT4 (.cons kT2 (.cons kT2 (.cons kT4 (.cons kT1 .nil))))))) ⟨Has.pure (⟨he,hinv30.2.1,hinv30.2.2.1,by have:=dP toks k e true;first | omega | (simp;omega),he.1⟩),Has.of mT1,Has.of mT0,Has.of mT5,trivial⟩ (bI.drop 11)
      have hg133:=beq_eq_false_iff_ne.1 hg133;refine sk3 ?_;refine sp hT ?_;refine nn<|cG rfl rfl ?_;refine dC<|cM<|cM<|dB<|bC<|bA<|bX<|sr<|sp hT ?_;refine ss (ldO hT (bJ kT5)) ?_;refine sp2 hT ?_;refine cF (fun hg160=>?_) (fun hg160=>?_)
      ·have hg160:=eq_of_beq hg160;refine sp4 hT ?_;refine nn<|bL rfl (fun hc156=>?_) (fun hc156=>?_)
       ·have hc156:=of_decide_eq_true hc156;refine sr<|ss (ldO hT (bJ kT8)) ?_;refine bR Tryz.func74 (cV bl A c toks (k) e _) rfl rfl (.cons .head .nil) ⟨Has.of jV,trivial⟩ fun _=>?_;refine sp hT ?_;refine sto hT kT7 ?_;refine nn<|bF<|bH<|bB<|bH<|bB<|bH ?_;have hr:=bJh hinv30.1 ‹_› (by omega);subst hr;exact bO (none,0,[],_) rfl (bG rfl) (bM hT (bJ .head) rfl rfl rfl rfl) (.cons kT1 .nil) ⟨dM,Has.each_nil,Has.pure rfl,trivial⟩ rfl
       have hc156:=Int.not_lt.1 (of_decide_eq_false hc156);refine sr<|sp hT ?_;refine ss (ldO hT (bJ kT5)) ?_;refine sp hT ?_;refine bZ (t':=true) (by rw [hg160];rfl) ?_;refine sp hT ?_;refine nn<|cI rfl rfl ?_;refine sr<|sp hT ?_;refine gP (cR Tryz.func136 rfl rfl) (nJ b5 b4 _ _ st _ _ out (by omega)) rfl rfl rfl rfl rfl rfl rfl (.cons kT3 (.cons kT3 (.cons kT1 (.cons kT1 .nil)))) ⟨(Has.of mT1),trivial⟩ fun⟨⟨D22,f23⟩,⟨C24,e25⟩⟩=>?_;refine bE (mG (out++(finP st).1)) (sU (Has.of mT4) (Has.of mT3)) ?_;refine bE (tnF (finP st).2) (bBq (Has.of mT4)) ?_;have hfl:=tU st;refine nn<|sr<|ss (ldO hT (bJ kT2)) ?_;refine ss (cC rfl rfl (vZ)) ?_;refine sp hT ?_;refine sto hT kT7 ?_;refine nn<|bF<|bH<|bB<|bH<|bB<|bH ?_;have hr:=bFj hinv30.1 ‹_› (by omega);subst hr;refine cS kT4 ?_;exact bO (_,_,(out++(finP st).1),_) rfl (bG rfl) (bM hT (bJ .head) rfl rfl rfl rfl) (.cons kT4 .nil) ⟨Has.of mT0,(Has.of mT2),Has.pure rfl,trivial⟩ rfl
      have hg160:=beq_eq_false_iff_ne.1 hg160;refine sk2 ?_;refine sp2 hT ?_;refine nn<|cG rfl rfl ?_;refine sr<|sp hT ?_;refine ss (ldO hT (bJ kT5)) ?_;refine sp hT ?_;refine bZ (t':=false) (beq_eq_false_iff_ne.2 hg160) ?_;refine sp hT ?_;refine nn<|cG rfl rfl ?_;refine sr<|sp hT ?_;refine ss (ldO hT (bJ kT5)) ?_;refine sp2 hT ?_;refine cF (fun hg178=>?_) (fun hg178=>?_)
      ·have hg178:=eq_of_beq hg178;refine sk4 ?_;refine sp2 hT ?_;refine nn<|cI rfl rfl ?_;refine sr<|ss (ldO hT (bJ kT8)) ?_;refine bR Tryz.func74 (cV bl A c toks (k) e _) rfl rfl (.cons .head .nil) ⟨Has.of jV,trivial⟩ fun _=>?_;refine sp hT ?_;refine sto hT kT7 ?_;refine nn<|bF<|bH<|bB<|bH<|bB<|bH ?_;have hr:=sG hinv30.1 (by first | exact .inl (by omega) | exact .inr (.inl ‹_›) | exact .inr (.inr ‹_›)) (by omega) (by first | exact .inr ‹_› | exact .inl (by omega));subst hr;exact bO (none,0,[],_) rfl (bG rfl) (bM hT (bJ .head) rfl rfl rfl rfl) (.cons kT1 .nil) ⟨dM,Has.each_nil,Has.pure rfl,trivial⟩ rfl
      have hg178:=beq_eq_false_iff_ne.1 hg178;refine sp hT ?_;refine ss (ldO hT (dI kT5)) ?_;refine bR Tryz.func135 (nR _) rfl rfl .nil trivial fun _=>?_;refine sp3 hT ?_;refine nn<|bL rfl (fun hc174=>?_) (fun hc174=>?_)
      ·have hc174:=fX hc174;refine sr<|ss (ldO hT (bJ kT8)) ?_;refine bR Tryz.func74 (cV bl A c toks (k) e _) rfl rfl (.cons .head .nil) ⟨Has.of jV,trivial⟩ fun _=>?_;refine sp hT ?_;refine sto hT kT7 ?_;refine nn<|bF<|bH<|bB<|bH<|bB<|bH ?_;have hr:=sG hinv30.1 (by first | exact .inl (by omega) | exact .inr (.inl ‹_›) | exact .inr (.inr ‹_›)) (by omega) (by first | exact .inr ‹_› | exact .inl (by omega));subst hr;exact bO (none,0,[],_) rfl (bG rfl) (bM hT (bJ .head) rfl rfl rfl rfl) (.cons kT1 .nil) ⟨dM,Has.each_nil,Has.pure rfl,trivial⟩ rfl
      have hc174:=fP hc174;refine bN<|cD<|bC<|sr<|sp hT ?_;refine gP (cR Tryz.func137 rfl rfl) (nM bl A c toks (k) e b1 b5 b4 _ _ st (by omega) (by omega)) rfl rfl rfl rfl rfl rfl rfl (.cons .head (.cons kT7 (.cons kT2 (.cons kT2 .nil)))) ⟨(Has.of jV),(Has.of mT1),trivial⟩ fun⟨⟨A26,c27⟩,b28⟩=>?_;refine bE (tnF (some (b28,(qK (bQ toks (k) e true)))::st)) (tO (Has.of mT3) dM) ?_;refine bY rfl rfl rfl rfl xY rfl fun b29=>?_;refine sto hT .head ?_;refine nn<|sr<|ss (ldN hT (bJ .head)) ?_;refine ss (cC rfl rfl (vZ)) ?_;refine ss (fM ⟨(bQ toks (k) e true).flt.1,(bQ toks (k) e true).flt.2⟩ ⟨0,0⟩ rfl rfl rfl) ?_;refine nn<|bL rfl (fun hc190=>?_) (fun hc190=>?_)
      ·have hc190:=fX hc190;refine bA<|cZ _ _ [(true,0),(true,1),(false,2)] dD (by decide+kernel) (.cons .head (.cons .head (.cons .head (.cons .head (.cons .head (.cons .head (.cons .head (.cons .head (.cons .head .nil))))))))) bI.self ?_;refine stM rfl (ldN hT (bJ .head)) ?_;refine puM hT ?_;refine cK (o:=_) rfl ?_;refine sto hT kT9 ?_;refine cL (.cons kT1 (.cons kT1 (.cons kT1 (.cons kT1 (.cons kT1 (.cons kT1 (.cons kT1 (.cons kT1 (.cons kT1 .nil))))))))) (bI.drop 0) ?_;refine cQ<|bC<|bF<|bH<|bB<|bH ?_;have hr:=(oW hinv30.1 (by first | exact .inl (by omega) | exact .inr (.inl ‹_›) | exact .inr (.inr ‹_›)) (by omega) (by omega) ‹_›).2 hc190;subst hr;exact bO (none,0,[],_) rfl (bG rfl) (bM hT (bJ .head) rfl rfl rfl rfl) (.cons kT2 .nil) ⟨dM,Has.each_nil,Has.pure rfl,trivial⟩ rfl
      have hc190:=fP hc190;have he:=(oW hinv30.1 (by first | exact .inl (by omega) | exact .inr (.inl ‹_›) | exact .inr (.inr ‹_›)) (by omega) (by omega) ‹_›).1 hc190;refine bN<|cD<|bC ?_;exact cO ((bQ toks (k) e true).next,o,out,(some (b28,(qK (bQ toks (k) e true)))::st),_,_,_,_) (by have:=he.1;first | (have:=dP toks k e false;dsimp only;omega) | (have:=dP toks k e true;dsimp only;omega)) ⟨rfl,trivial⟩ ⟨rfl,rfl,rfl,rfl,rfl,rfl,trivial⟩ (.cons kT1 (.cons kT4 (.cons kT4 (.cons kT2 (.cons kT2 (.cons kT4 (.cons kT1 .nil))))))) ⟨Has.pure (⟨he,hinv30.2.1,hinv30.2.2.1,by have:=dP toks k e true;first | omega | (simp;omega),he.1⟩),Has.of mT1,Has.of mT0,Has.of mT5,trivial⟩ (bI.drop 11)
     have hg128:=Int.not_lt.1 (of_decide_eq_false hg128);refine sk3 ?_;refine sp2 hT ?_;refine sk3 ?_;refine sp hT ?_;refine nn<|cG rfl rfl ?_;refine dC<|cM<|cM<|dB<|bC<|bA<|bX<|sr<|sp hT ?_;refine ss (ldO hT (bJ kT5)) ?_;refine sp2 hT ?_;refine cF (fun hg160=>?_) (fun hg160=>?_)
     ·have hg160:=eq_of_beq hg160;refine sp4 hT ?_;refine nn<|bL rfl (fun hc156=>?_) (fun hc156=>?_)
      ·have hc156:=of_decide_eq_true hc156;refine sr<|ss (ldO hT (bJ kT8)) ?_;refine bR Tryz.func74 (cV bl A c toks (k) e _) rfl rfl (.cons .head .nil) ⟨Has.of jV,trivial⟩ fun _=>?_;refine sp hT ?_;refine sto hT kT7 ?_;refine nn<|bF<|bH<|bB<|bH<|bB<|bH ?_;have hr:=bJh hinv30.1 ‹_› (by omega);subst hr;exact bO (none,0,[],_) rfl (bG rfl) (bM hT (bJ .head) rfl rfl rfl rfl) (.cons kT1 .nil) ⟨dM,Has.each_nil,Has.pure rfl,trivial⟩ rfl
      have hc156:=Int.not_lt.1 (of_decide_eq_false hc156);refine sr<|sp hT ?_;refine ss (ldO hT (bJ kT5)) ?_;refine sp hT ?_;refine bZ (t':=true) (by rw [hg160];rfl) ?_;refine sp hT ?_;refine nn<|cI rfl rfl ?_;refine sr<|sp hT ?_;refine gP (cR Tryz.func136 rfl rfl) (nJ b5 b4 _ _ st _ _ out (by omega)) rfl rfl rfl rfl rfl rfl rfl (.cons kT3 (.cons kT3 (.cons kT1 (.cons kT1 .nil)))) ⟨(Has.of mT1),trivial⟩ fun⟨⟨D30,f31⟩,⟨C32,e33⟩⟩=>?_;refine bE (mG (out++(finP st).1)) (sU (Has.of mT4) (Has.of mT3)) ?_;refine bE (tnF (finP st).2) (bBq (Has.of mT4)) ?_;have hfl:=tU st;refine nn<|sr<|ss (ldO hT (bJ kT2)) ?_;refine ss (cC rfl rfl (vZ)) ?_;refine sp hT ?_;refine sto hT kT7 ?_;refine nn<|bF<|bH<|bB<|bH<|bB<|bH ?_;have hr:=bFj hinv30.1 ‹_› (by omega);subst hr;refine cS kT4 ?_;exact bO (_,_,(out++(finP st).1),_) rfl (bG rfl) (bM hT (bJ .head) rfl rfl rfl rfl) (.cons kT4 .nil) ⟨Has.of mT0,(Has.of mT2),Has.pure rfl,trivial⟩ rfl
     have hg160:=beq_eq_false_iff_ne.1 hg160;refine sk2 ?_;refine sp2 hT ?_;refine nn<|cG rfl rfl ?_;refine sr<|sp hT ?_;refine ss (ldO hT (bJ kT5)) ?_;refine sp hT ?_;refine bZ (t':=false) (beq_eq_false_iff_ne.2 hg160) ?_;refine sp hT ?_;refine nn<|cG rfl rfl ?_;refine sr<|sp hT ?_;refine ss (ldO hT (bJ kT5)) ?_;refine sp2 hT ?_;refine cF (fun hg178=>?_) (fun hg178=>?_)
     ·have hg178:=eq_of_beq hg178;refine sk4 ?_;refine sp2 hT ?_;refine nn<|cI rfl rfl ?_;refine sr<|ss (ldO hT (bJ kT8)) ?_;refine bR Tryz.func74 (cV bl A c toks (k) e _) rfl rfl (.cons .head .nil) ⟨Has.of jV,trivial⟩ fun _=>?_;refine sp hT ?_;refine sto hT kT7 ?_;refine nn<|bF<|bH<|bB<|bH<|bB<|bH ?_;have hr:=sG hinv30.1 (by first | exact .inl (by omega) | exact .inr (.inl ‹_›) | exact .inr (.inr ‹_›)) (by omega) (by first | exact .inr ‹_› | exact .inl (by omega));subst hr;exact bO (none,0,[],_) rfl (bG rfl) (bM hT (bJ .head) rfl rfl rfl rfl) (.cons kT1 .nil) ⟨dM,Has.each_nil,Has.pure rfl,trivial⟩ rfl
     have hg178:=beq_eq_false_iff_ne.1 hg178;refine sp hT ?_;refine ss (ldO hT (dI kT5)) ?_;refine bR Tryz.func135 (nR _) rfl rfl .nil trivial fun _=>?_;refine sp3 hT ?_;refine nn<|bL rfl (fun hc174=>?_) (fun hc174=>?_)
     ·have hc174:=fX hc174;refine sr<|ss (ldO hT (bJ kT8)) ?_;refine bR Tryz.func74 (cV bl A c toks (k) e _) rfl rfl (.cons .head .nil) ⟨Has.of jV,trivial⟩ fun _=>?_;refine sp hT ?_;refine sto hT kT7 ?_;refine nn<|bF<|bH<|bB<|bH<|bB<|bH ?_;have hr:=sG hinv30.1 (by first | exact .inl (by omega) | exact .inr (.inl ‹_›) | exact .inr (.inr ‹_›)) (by omega) (by first | exact .inr ‹_› | exact .inl (by omega));subst hr;exact bO (none,0,[],_) rfl (bG rfl) (bM hT (bJ .head) rfl rfl rfl rfl) (.cons kT1 .nil) ⟨dM,Has.each_nil,Has.pure rfl,trivial⟩ rfl
     have hc174:=fP hc174;refine bN<|cD<|bC<|sr<|sp hT ?_;refine gP (cR Tryz.func137 rfl rfl) (nM bl A c toks (k) e b1 b5 b4 _ _ st (by omega) (by omega)) rfl rfl rfl rfl rfl rfl rfl (.cons .head (.cons kT7 (.cons kT2 (.cons kT2 .nil)))) ⟨(Has.of jV),(Has.of mT1),trivial⟩ fun⟨⟨A34,c35⟩,b36⟩=>?_;refine bE (tnF (some (b36,(qK (bQ toks (k) e true)))::st)) (tO (Has.of mT3) dM) ?_;refine bY rfl rfl rfl rfl xY rfl fun b37=>?_;refine sto hT .head ?_;refine nn<|sr<|ss (ldN hT (bJ .head)) ?_;refine ss (cC rfl rfl (vZ)) ?_;refine ss (fM ⟨(bQ toks (k) e true).flt.1,(bQ toks (k) e true).flt.2⟩ ⟨0,0⟩ rfl rfl rfl) ?_;refine nn<|bL rfl (fun hc190=>?_) (fun hc190=>?_)
     ·have hc190:=fX hc190;refine bA<|cZ _ _ [(true,0),(true,1),(false,2)] dD (by decide+kernel) (.cons .head (.cons .head (.cons .head (.cons .head (.cons .head (.cons .head (.cons .head (.cons .head (.cons .head .nil))))))))) bI.self ?_;refine stM rfl (ldN hT (bJ .head)) ?_;refine puM hT ?_;refine cK (o:=_) rfl ?_;refine sto hT kT9 ?_;refine cL (.cons kT1 (.cons kT1 (.cons kT1 (.cons kT1 (.cons kT1 (.cons kT1 (.cons kT1 (.cons kT1 (.cons kT1 .nil))))))))) (bI.drop 0) ?_;refine cQ<|bC<|bF<|bH<|bB<|bH ?_;have hr:=(oW hinv30.1 (by first | exact .inl (by omega) | exact .inr (.inl ‹_›) | exact .inr (.inr ‹_›)) (by omega) (by omega) ‹_›).2 hc190;subst hr;exact bO (none,0,[],_) rfl (bG rfl) (bM hT (bJ .head) rfl rfl rfl rfl) (.cons kT2 .nil) ⟨dM,Has.each_nil,Has.pure rfl,trivial⟩ rfl
     have hc190:=fP hc190;have he:=(oW hinv30.1 (by first | exact .inl (by omega) | exact .inr (.inl ‹_›) | exact .inr (.inr ‹_›)) (by omega) (by omega) ‹_›).1 hc190;refine bN<|cD<|bC ?_;exact cO ((bQ toks (k) e true).next,o,out,(some (b36,(qK (bQ toks (k) e true)))::st),_,_,_,_) (by have:=he.1;first | (have:=dP toks k e false;dsimp only;omega) | (have:=dP toks k e true;dsimp only;omega)) ⟨rfl,trivial⟩ ⟨rfl,rfl,rfl,rfl,rfl,rfl,trivial⟩ (.cons kT1 (.cons kT4 (.cons kT4 (.cons kT2 (.cons kT2 (.cons kT4 (.cons kT1 .nil))))))) ⟨Has.pure (⟨he,hinv30.2.1,hinv30.2.2.1,by have:=dP toks k e true;first | omega | (simp;omega),he.1⟩),Has.of mT1,Has.of mT0,Has.of mT5,trivial⟩ (bI.drop 11)
    refine sr<|sp hT ?_;refine ss (ldO hT (bJ .head)) ?_;refine sp hT ?_;refine bZ (t':=true) (by rw [hg98];rfl) ?_;refine sp hT ?_;refine nn<|cI rfl rfl ?_;refine sr<|ss (ldO hT (bJ kT7)) ?_;refine bR Tryz.func74 (cV bl A c toks (k) e _) rfl rfl (.cons kT1 .nil) ⟨Has.of mT7,trivial⟩ fun _=>?_;refine sp hT ?_;refine sto hT kT6 ?_;refine nn<|bF<|bH<|bB<|bH<|bB<|bH ?_;have hr:=e_word hinv6.1 ‹_› ‹_› ‹_›;subst hr;exact bO (none,0,[],_) rfl (bG rfl) (bM hT (bJ .head) rfl rfl rfl rfl) (.cons kT1 .nil) ⟨dM,Has.each_nil,Has.pure rfl,trivial⟩ rfl
   have hg98:=beq_eq_false_iff_ne.1 hg98;refine sk3 ?_;refine sp2 hT ?_;refine nn<|cG rfl rfl ?_;refine sr<|sp hT ?_;refine ss (ldO hT (bJ .head)) ?_;refine sp hT ?_;refine bZ (t':=false) (beq_eq_false_iff_ne.2 hg98) ?_;refine sp hT ?_;refine nn<|cG rfl rfl ?_;refine sr<|ss (ldO hT (bJ kT7)) ?_;refine bR Tryz.func74 (cV bl A c toks (k) e _) rfl rfl (.cons kT1 .nil) ⟨Has.of mT7,trivial⟩ fun _=>?_;refine sp hT ?_;refine sto hT kT6 ?_;refine nn<|bF<|bH<|bB<|bH<|bB<|bH ?_;have hr:=e_want hinv6.1 (by omega) (by omega) (by first | exact .inl ‹_› | exact .inr ‹_›) (by first | exact .inr ‹_› | exact .inl (by omega));subst hr;exact bO (none,0,[],_) rfl (bG rfl) (bM hT (bJ .head) rfl rfl rfl rfl) (.cons kT1 .nil) ⟨dM,Has.each_nil,Has.pure rfl,trivial⟩ rfl
  have hg28:=bne_eq_false_iff_eq.1 hg28;refine sk3 ?_;refine sp2 hT ?_;refine nn<|cG rfl rfl ?_;refine sr<|sp hT ?_;refine ss (ldO hT (bJ .head)) ?_;refine sp hT ?_;refine bZ (t':=false) (by rw [hg28];rfl) ?_;refine sp hT ?_;refine sk3 ?_;refine sp2 hT ?_;refine nn<|cG rfl rfl ?_;refine sr<|sp hT ?_;refine ss (ldO hT (bJ .head)) ?_;refine sp hT ?_;refine bZ (t':=false) (by rw [hg28];rfl) ?_;refine sp hT ?_;refine nn<|cG rfl rfl ?_;refine sr<|sp hT ?_;refine ss (ldO hT (bJ .head)) ?_;refine sp hT ?_;refine bZ (t':=false) (by rw [hg28];rfl) ?_;refine sp hT ?_;refine sk3 ?_;refine sp2 hT ?_;refine nn<|cG rfl rfl ?_;refine sr<|sp hT ?_;refine ss (ldO hT (bJ .head)) ?_;refine sp hT ?_;refine bZ (t':=false) (by rw [hg28];rfl) ?_;refine sp hT ?_;refine nn<|cG rfl rfl ?_;refine sr<|ss (ldO hT (bJ kT7)) ?_;refine bR Tryz.func74 (cV bl A c toks (k) e _) rfl rfl (.cons kT1 .nil) ⟨Has.of mT7,trivial⟩ fun _=>?_;refine sp hT ?_;refine sto hT kT6 ?_;refine nn<|bF<|bH<|bB<|bH<|bB<|bH ?_;have hr:=e_want hinv6.1 (by omega) (by omega) (by first | exact .inl ‹_› | exact .inr ‹_›) (by first | exact .inr ‹_› | exact .inl (by omega));subst hr;exact bO (none,0,[],_) rfl (bG rfl) (bM hT (bJ .head) rfl rfl rfl rfl) (.cons kT1 .nil) ⟨dM,Has.each_nil,Has.pure rfl,trivial⟩ rfl
 have hg23:=bne_eq_false_iff_eq.1 hg23;refine sk3 ?_;refine sp2 hT ?_;refine sk3 ?_;refine sp2 hT ?_;refine nn<|cG rfl rfl ?_;refine sr<|sp hT ?_;refine ss (ldO hT (bJ .head)) ?_;refine sp hT ?_;refine bZ (t':=false) (by rw [hg23];rfl) ?_;refine sp hT ?_;refine sk3 ?_;refine sp2 hT ?_;refine nn<|cG rfl rfl ?_;refine sr<|sp hT ?_;refine ss (ldO hT (bJ .head)) ?_;refine sp hT ?_;refine bZ (t':=true) (by rw [hg23];rfl) ?_;refine sp hT ?_;refine nn<|cI rfl rfl ?_;refine sr<|sp hT ?_;refine ss (ldO hT (fN .head)) ?_;refine ss (cC rfl rfl (pN _ _)) ?_;refine bY rfl rfl rfl rfl mA rfl fun b38=>?_;refine sto hT .head ?_;refine nn<|bA<|bX<|dR (t:=2) bKh ?_;refine dG (ι:=Nat×List Int×Option Addr×Nat) [(1,_),(3,_),(4,_),(5,_),(6,_),(7,_),(8,_),(9,_),(11,_),(24,_),(25,_),(26,_),(29,_),(30,_),(31,_),(44,_),(45,_),(46,_)] ⟨rfl,rfl,rfl,rfl,rfl,rfl,rfl,rfl,rfl,rfl,rfl,rfl,rfl,rfl,rfl,rfl,rfl,rfl,trivial⟩ (fun _=>[]) (fun⟨j,cur,C2,e2⟩=>[.obj bl (.cells [.slice A toks.length c,.int .i64 (j:Nat),.int .i64 e].toArray 102),.obj b38 (.cells [.int .i64 1,.int .i64 (bP toks k).at_,.int .u8 0,.string (bs []),.slice C2 cur.length e2].toArray 52),bKh.row (.slice C2 cur.length e2) 2 cur]) (fun⟨j,cur,C2,e2⟩=>[Fact.pure (fY toks k=cur++fY toks j∧j=k+cur.length∧j≤toks.length)]) (fun⟨j,cur,C2,e2⟩=>toks.length-j) (k,[],none,0) trivial (.cons kT3 (.cons kT1 (.cons .head .nil))) ⟨Has.pure (⟨rfl,rfl,hinv6.2.2.2.2⟩),trivial⟩ ?_;rintro⟨j,cur,C2,e2⟩;dsimp only;refine bS (Has.of mT0) fun hinv20=>?_;refine bA<|sr<|ss (ldO hT (bJ kT9)) ?_;refine bR Tryz.func73 (iE bl A c toks (j) e) rfl rfl (.cons .head .nil) ⟨Has.of mT8,trivial⟩ fun _=>?_;refine sp2 hT ?_;refine nn<|bL rfl (fun hc74=>?_) (fun hc74=>?_)
 ·have hc74:=eq_of_beq hc74;refine bN<|bC<|bA<|bX<|pA 8 _ _ [(true,0),(true,1),(true,2),(false,3),(true,4),(false,5),(false,6),(true,7)] dD (by decide+kernel) (.cons .head (.cons .head (.cons kT1 (.cons kT1 (.cons kT1 (.cons kT1 (.cons kT1 (.cons kT1 (.cons kT1 .nil))))))))) bI.self ?_;refine puL hT ?_;refine stL rfl (ldO hT (bKf kT1)) ?_;refine stL rfl (ldO hT (bJ kT8)) ?_;refine mK (o:=_) rfl ?_;refine bR Tryz.func73 (iE bl A c toks (j) e) rfl rfl (.cons .head .nil) ⟨Has.of mT8,trivial⟩ fun _=>?_;refine mL (.cons .head (.cons .head (.cons kT1 (.cons kT1 (.cons kT1 (.cons kT1 (.cons kT1 (.cons kT1 (.cons kT1 .nil))))))))) (bI.drop 0) ?_;refine puL hT ?_;refine mK (o:=_) rfl ?_;refine at_one_int (m:=(bP toks (j)).n) rfl rfl rfl rfl rfl fun b39=>?_;refine mL (.cons kT1 (.cons kT1 (.cons kT2 (.cons kT2 (.cons kT2 (.cons kT2 (.cons kT2 (.cons kT2 (.cons kT2 .nil))))))))) (bI.drop 0) ?_;refine mK (o:=_) rfl ?_;refine at_app_int kT3 (dF .head rfl) rfl rfl rfl rfl rfl rfl rfl (by simp only [List.length_singleton];omega) fun A40 c41=>?_;refine mL (.cons kT2 (.cons kT2 (.cons kT2 (.cons kT2 (.cons kT2 (.cons kT2 (.cons kT2 (.cons kT2 (.cons kT2 .nil))))))))) (bI.drop 0) ?_;refine puL hT ?_;refine mW (o:=_) rfl ?_;refine sto hT kT3 ?_;refine oZ<|cD<|bC<|bD<|ss (ldO hT (bJ kT10)) ?_;refine sp2 hT ?_;refine ss (ldO hT (fN kT3)) ?_;refine sp hT ?_;refine bT (z':=(((j+1):Nat):Int)) (cP (by omega) (by omega)) ?_;refine sp2 hT ?_;refine sto hT kT3 ?_;refine nn ?_;exact cO (j+1,_,_,_) (by have:=iT (toks:=toks) (k:=j) (by rw [hc74];decide);dsimp only;omega) trivial ⟨rfl,rfl,rfl,rfl,rfl,rfl,rfl,rfl,rfl,rfl,rfl,rfl,rfl,rfl,rfl,rfl,rfl,rfl,trivial⟩ (.cons .head (.cons .head (.cons .head (.cons kT1 (.cons kT1 (.cons kT1 (.cons kT1 (.cons kT1 (.cons kT1 (.cons kT1 .nil)))))))))) ⟨Has.pure (⟨by rw [hinv20.1,lX hc74];simp,by simp;omega,iT (by rw [hc74];decide)⟩),trivial⟩ (bI.drop 1)
 have hc74:=beq_eq_false_iff_ne.1 hc74;refine dC<|cM<|cM<|dB<|bC ?_;have hcur:fY toks k=cur:=by rw [hinv20.1,pL hc74,List.append_nil]
 have hbi:=b_num (C:=C2) (c:=e2) hinv6.1 ‹_› hinv20.2.1 hcur;have hcl:1≤cur.length:=by rw [←hcur,lX ‹_›];simp
 refine cS kT2 ?_;refine bD<|ss (ldO hT (bJ kT3)) ?_;refine ss (ldN hT (bJ kT1)) ?_;refine vY (m:=(⟨1,(bP toks k).at_,0,[],⟨C2,e2,cur⟩⟩:ItemV)) rfl rfl rfl rfl rfl fun b42=>?_;refine vQ kT5 (dF .head rfl) rfl rfl rfl rfl rfl rfl rfl (by simp only [List.length_singleton];omega) fun A43 c44=>?_;refine bE (mG (out++[(⟨1,(bP toks k).at_,0,[],⟨C2,e2,cur⟩⟩:ItemV)])) (bGr (Has.of mT5) (Has.of mT0)) ?_;refine sto hT kT5 ?_;refine dY<|cD<|bC<|bA<|sr<|ss (ldO hT (bJ kT9)) ?_;refine bR Tryz.func73 (iE bl A c toks (j) e) rfl rfl (.cons kT3 .nil) ⟨Has.of pF,trivial⟩ fun _=>?_;refine sto hT kT5 ?_;refine nn<|bX ?_
 obtain⟨kk,hkk⟩: ∃kk,kk=k:=⟨_,rfl⟩
 refine dG (ι:=Nat×Nat×List ItemV×List kV×Option Addr×Nat×Option Addr×Nat) [(1,_),(3,_),(4,_),(5,_),(7,_),(8,_),(9,_),(24,_),(25,_),(26,_),(29,_),(30,_),(31,_),(44,_),(45,_),(46,_)] ⟨rfl,rfl,rfl,rfl,rfl,rfl,rfl,rfl,rfl,rfl,rfl,rfl,rfl,rfl,rfl,rfl,trivial⟩ (fun⟨k,o,out,st,C,e1,D,f⟩=>[(6,.int .i64 (o:Nat))]) (fun⟨k,o,out,st,C,e1,D,f⟩=>[.obj bl (.cells [.slice A toks.length c,.int .i64 (k:Nat),.int .i64 e].toArray 102),.obj b4 (.cells [.slice C out.length e1].toArray 47),lH.row (.slice C out.length e1) 52 out,.obj b5 (.cells [.slice D st.reverse.length f].toArray 208),(fnE b4).row (.slice D st.reverse.length f) 1 st.reverse,.obj b3 (.cells [.int .i64 (bP toks k).kind,.int .i64 (bP toks k).at_,.string (bs (bP toks k).word),.int .i64 (bP toks k).n].toArray 104)]) (fun⟨k,o,out,st,C,e1,D,f⟩=>[Fact.pure (uG toks e r k (out.map ItemV.it) (xR st) o∧opens st=o∧o≤32∧out.length+st.length≤k∧k≤toks.length∧kk<k),lR st,tnF st,mG out]) (fun⟨k,o,out,st,C,e1,D,f⟩=>toks.length-k) (j,o,(out++[(⟨1,(bP toks k).at_,0,[],⟨C2,e2,cur⟩⟩:ItemV)]),st,_,_,_,_) ⟨rfl,trivial⟩ (.cons kT1 (.cons kT1 (.cons kT1 (.cons kT3 (.cons kT3 (.cons .head .nil)))))) ⟨Has.pure (⟨hbi,hinv6.2.1,hinv6.2.2.1,by first | omega | (simp;omega),hbi.1,by omega⟩),Has.of mT4,Has.of mT5,Has.of mT0,trivial⟩ ?_;rintro⟨k,o,out,st,C,e1,D,f⟩;dsimp only;refine bS (Has.of mT0) fun hinv30=>?_;refine bA<|sr<|sp3 hT ?_;refine cF (fun hg128=>?_) (fun hg128=>?_)
 ·have hg128:=of_decide_eq_true hg128;refine sp hT ?_;refine ss (ldO hT (bJ kT5)) ?_;refine sp3 hT ?_;refine cF (fun hg133=>?_) (fun hg133=>?_)
  ·have hg133:=eq_of_beq hg133;refine sp hT ?_;refine ss (ldO hT (dI kT5)) ?_;refine sp2 hT ?_;refine nn<|bL rfl (fun hc137=>?_) (fun hc137=>?_)
   ·have hc137:(bP toks k).word=([41]:Bs):=eq_of_beq hc137;refine bN<|bC<|bA<|bX<|sr<|sp hT ?_;refine gP (cR Tryz.func136 rfl rfl) (nJ b5 b4 _ _ st _ _ out (by omega)) rfl rfl rfl rfl rfl rfl rfl (.cons kT3 (.cons kT3 (.cons kT1 (.cons kT1 .nil)))) ⟨(Has.of mT1),trivial⟩ fun⟨⟨D45,f46⟩,⟨C47,e48⟩⟩=>?_;refine bE (mG (out++(finP st).1)) (sU (Has.of mT4) (Has.of mT3)) ?_;refine bE (tnF (finP st).2) (bBq (Has.of mT4)) ?_;have hfl:=tU st;obtain⟨s2,hs2,ho2⟩:=fin_open (st:=st) (by omega);have hb2:=b_closed hinv30.1 (by omega) ‹_› ‹_› hs2;rw [hs2] at hfl⊢;simp only [List.length_cons] at hfl;refine bE (lR s2) (bBr (Has.of mT2)) ?_;refine bE (tnF s2) (bFo (Has.of mT1)) ?_;refine nn<|sr<|ss (ldO hT (bJ .head)) ?_;refine ss (ldO hT (bJ .head)) ?_;refine sp hT ?_;refine bT (z':=(((s2.length+1):Nat):Int)) (congrArg Nat.cast (kC _ s2)) ?_;refine sp hT ?_;refine bT (z':=((((s2.length+1)-1):Nat):Int)) (cP (by omega) (by omega)) ?_;refine iZ hT (k:=((s2.length+1)-1)) kT1 rfl rfl rfl rfl rfl rfl rfl rfl rfl (by rw [kC];omega) ?_;rw [bCq];refine sto hT kT1 ?_;refine nn<|sr<|sp2 hT ?_;refine bT (z':=(((o-1):Nat):Int)) (cP (by omega) (by omega)) ?_;refine sp hT ?_;refine nn<|bD<|ss (ldO hT (bJ kT9)) ?_;refine sp2 hT ?_;refine ss (ldO hT (fN kT4)) ?_;refine sp hT ?_;refine bT (z':=(((k+1):Nat):Int)) (cP (by omega) (by omega)) ?_;refine sp2 hT ?_;refine sto hT kT4 ?_;refine dY<|cD<|bC<|bD<|ss (ldO hT (bJ kT9)) ?_;refine bR Tryz.func73 (iE bl A c toks ((k+1)) e) rfl rfl (.cons .head .nil) ⟨Has.of (.tail _ (.tail _ (.tail _ (.tail _ (.tail _ (.tail _ (.tail _ (.tail _ (.tail _ (.tail _ (.tail _ (.tail _ (.tail _ (.tail _ (.tail _ (.tail _ (.tail _ (.tail _ (.tail _ mT0))))))))))))))))))),trivial⟩ fun _=>?_;refine sto hT kT5 ?_;refine nn ?_;exact cO ((k+1),(o-1),(out++(finP st).1),s2,_,_,_,_) (by have:=hb2.1;dsimp only;omega) ⟨rfl,trivial⟩ ⟨rfl,rfl,rfl,rfl,rfl,rfl,rfl,rfl,rfl,rfl,rfl,rfl,rfl,rfl,rfl,rfl,trivial⟩ (.cons kT1 (.cons kT3 (.cons kT3 (.cons kT1 (.cons kT1 (.cons .head (.cons .head (.cons .head (.cons .head (.cons .head .nil)))))))))) ⟨Has.pure (⟨hb2,by dsimp only;omega,by dsimp only;omega,by first | omega | (simp;omega),hb2.1,by dsimp only;omega⟩),Has.of mT1,Has.of mT0,Has.of mT3,trivial⟩ (bI.drop 9)
   have hc137:(bP toks k).word≠([41]:Bs):=fun h=>absurd (beq_iff_eq.2 h) (by rw [show((bP toks k).word==([41]:Bs))=false from hc137];simp);refine dC<|cM<|cM<|dB<|bC<|bA<|bX<|sr<|sp hT ?_;refine ss (ldO hT (bJ kT5)) ?_;refine sp hT ?_;refine bZ (t':=false) (by rw [hg133];rfl) ?_;refine sp hT ?_;refine sk2 ?_;refine sp2 hT ?_;refine nn<|cG rfl rfl ?_;refine sr<|sp hT ?_;refine ss (ldO hT (bJ kT5)) ?_;refine sp hT ?_;refine bZ (t':=false) (by rw [hg133];rfl) ?_;refine sp hT ?_;refine nn<|cG rfl rfl ?_;refine sr<|sp hT ?_;refine ss (ldO hT (bJ kT5)) ?_;refine sp hT ?_;refine bZ (t':=false) (by rw [hg133];rfl) ?_;refine sp2 hT ?_;refine ss (ldO hT (dI kT5)) ?_;refine bR Tryz.func135 (nR _) rfl rfl .nil trivial fun _=>?_;refine sp3 hT ?_;refine nn<|bL rfl (fun hc174=>?_) (fun hc174=>?_)
   ·have hc174:=fX hc174;refine sr<|ss (ldO hT (bJ kT9)) ?_;refine bR Tryz.func74 (cV bl A c toks (k) e _) rfl rfl (.cons .head .nil) ⟨Has.of vP,trivial⟩ fun _=>?_;refine sp hT ?_;refine sto hT kT8 ?_;refine nn<|bF<|bH<|bB<|bH<|bB<|bH ?_;have hr:=sG hinv30.1 (by first | exact .inl (by omega) | exact .inr (.inl ‹_›) | exact .inr (.inr ‹_›)) (by omega) (by first | exact .inr ‹_› | exact .inl (by omega));subst hr;exact bO (none,0,[],_) rfl (bG rfl) (bM hT (bJ .head) rfl rfl rfl rfl) (.cons kT1 .nil) ⟨dM,Has.each_nil,Has.pure rfl,trivial⟩ rfl
   have hc174:=fP hc174;refine bN<|cD<|bC<|sr<|sp hT ?_;refine gP (cR Tryz.func137 rfl rfl) (nM bl A c toks (k) e b1 b5 b4 _ _ st (by omega) (by omega)) rfl rfl rfl rfl rfl rfl rfl (.cons .head (.cons kT8 (.cons kT2 (.cons kT2 .nil)))) ⟨(Has.of vP),(Has.of mT1),trivial⟩ fun⟨⟨A49,c50⟩,b51⟩=>?_;refine bE (tnF (some (b51,(qK (bQ toks (k) e true)))::st)) (tO (Has.of mT3) dM) ?_;refine bY rfl rfl rfl rfl xY rfl fun b52=>?_;refine sto hT .head ?_;refine nn<|sr<|ss (ldN hT (bJ .head)) ?_;refine ss (cC rfl rfl (vZ)) ?_;refine ss (fM ⟨(bQ toks (k) e true).flt.1,(bQ toks (k) e true).flt.2⟩ ⟨0,0⟩ rfl rfl rfl) ?_;refine nn<|bL rfl (fun hc190=>?_) (fun hc190=>?_)
   ·have hc190:=fX hc190;refine bA<|cZ _ _ [(true,0),(true,1),(false,2)] dD (by decide+kernel) (.cons .head (.cons .head (.cons .head (.cons .head (.cons .head (.cons .head (.cons .head (.cons .head (.cons .head (.cons .head .nil)))))))))) bI.self ?_;refine stM rfl (ldN hT (bJ .head)) ?_;refine puM hT ?_;refine cK (o:=_) rfl ?_;refine sto hT kT10 ?_;refine cL (.cons kT1 (.cons kT1 (.cons kT1 (.cons kT1 (.cons kT1 (.cons kT1 (.cons kT1 (.cons kT1 (.cons kT1 (.cons kT1 .nil)))))))))) (bI.drop 0) ?_;refine cQ<|bC<|bF<|bH<|bB<|bH ?_;have hr:=(oW hinv30.1 (by first | exact .inl (by omega) | exact .inr (.inl ‹_›) | exact .inr (.inr ‹_›)) (by omega) (by omega) ‹_›).2 hc190;subst hr;exact bO (none,0,[],_) rfl (bG rfl) (bM hT (bJ .head) rfl rfl rfl rfl) (.cons kT2 .nil) ⟨dM,Has.each_nil,Has.pure rfl,trivial⟩ rfl
   have hc190:=fP hc190;have he:=(oW hinv30.1 (by first | exact .inl (by omega) | exact .inr (.inl ‹_›) | exact .inr (.inr ‹_›)) (by omega) (by omega) ‹_›).1 hc190;refine bN<|cD<|bC ?_;exact cO ((bQ toks (k) e true).next,o,out,(some (b51,(qK (bQ toks (k) e true)))::st),_,_,_,_) (by have:=he.1;first | (have:=dP toks k e false;dsimp only;omega) | (have:=dP toks k e true;dsimp only;omega)) ⟨rfl,trivial⟩ ⟨rfl,rfl,rfl,rfl,rfl,rfl,trivial⟩ (.cons kT1 (.cons kT4 (.cons kT4 (.cons kT2 (.cons kT2 (.cons kT5 (.cons kT1 .nil))))))) ⟨Has.pure (⟨he,hinv30.2.1,hinv30.2.2.1,by have:=dP toks k e true;first | omega | (simp;omega),he.1⟩),Has.of mT1,Has.of mT0,Has.of mT5,trivial⟩ (bI.drop 13)
  have hg133:=beq_eq_false_iff_ne.1 hg133;refine sk3 ?_;refine sp hT ?_;refine nn<|cG rfl rfl ?_;refine dC<|cM<|cM<|dB<|bC<|bA<|bX<|sr<|sp hT ?_;refine ss (ldO hT (bJ kT5)) ?_;refine sp2 hT ?_;refine cF (fun hg160=>?_) (fun hg160=>?_)
  ·have hg160:=eq_of_beq hg160;refine sp4 hT ?_;refine nn<|bL rfl (fun hc156=>?_) (fun hc156=>?_)
   ·have hc156:=of_decide_eq_true hc156;refine sr<|ss (ldO hT (bJ kT9)) ?_;refine bR Tryz.func74 (cV bl A c toks (k) e _) rfl rfl (.cons .head .nil) ⟨Has.of vP,trivial⟩ fun _=>?_;refine sp hT ?_;refine sto hT kT8 ?_;refine nn<|bF<|bH<|bB<|bH<|bB<|bH ?_;have hr:=bJh hinv30.1 ‹_› (by omega);subst hr;exact bO (none,0,[],_) rfl (bG rfl) (bM hT (bJ .head) rfl rfl rfl rfl) (.cons kT1 .nil) ⟨dM,Has.each_nil,Has.pure rfl,trivial⟩ rfl
   have hc156:=Int.not_lt.1 (of_decide_eq_false hc156);refine sr<|sp hT ?_;refine ss (ldO hT (bJ kT5)) ?_;refine sp hT ?_;refine bZ (t':=true) (by rw [hg160];rfl) ?_;refine sp hT ?_;refine nn<|cI rfl rfl ?_;refine sr<|sp hT ?_;refine gP (cR Tryz.func136 rfl rfl) (nJ b5 b4 _ _ st _ _ out (by omega)) rfl rfl rfl rfl rfl rfl rfl (.cons kT3 (.cons kT3 (.cons kT1 (.cons kT1 .nil)))) ⟨(Has.of mT1),trivial⟩ fun⟨⟨D53,f54⟩,⟨C55,e56⟩⟩=>?_;refine bE (mG (out++(finP st).1)) (sU (Has.of mT4) (Has.of mT3)) ?_;refine bE (tnF (finP st).2) (bBq (Has.of mT4)) ?_;have hfl:=tU st;refine nn<|sr<|ss (ldO hT (bJ kT2)) ?_;refine ss (cC rfl rfl (vZ)) ?_;refine sp hT ?_;refine sto hT kT8 ?_;refine nn<|bF<|bH<|bB<|bH<|bB<|bH ?_;have hr:=bFj hinv30.1 ‹_› (by omega);subst hr;refine cS kT4 ?_;exact bO (_,_,(out++(finP st).1),_) rfl (bG rfl) (bM hT (bJ .head) rfl rfl rfl rfl) (.cons kT4 .nil) ⟨Has.of mT0,(Has.of mT2),Has.pure rfl,trivial⟩ rfl
  have hg160:=beq_eq_false_iff_ne.1 hg160;refine sk2 ?_;refine sp2 hT ?_;refine nn<|cG rfl rfl ?_;refine sr<|sp hT ?_;refine ss (ldO hT (bJ kT5)) ?_;refine sp hT ?_;refine bZ (t':=false) (beq_eq_false_iff_ne.2 hg160) ?_;refine sp hT ?_;refine nn<|cG rfl rfl ?_;refine sr<|sp hT ?_;refine ss (ldO hT (bJ kT5)) ?_;refine sp2 hT ?_;refine cF (fun hg178=>?_) (fun hg178=>?_)
  ·have hg178:=eq_of_beq hg178;refine sk4 ?_;refine sp2 hT ?_;refine nn<|cI rfl rfl ?_;refine sr<|ss (ldO hT (bJ kT9)) ?_;refine bR Tryz.func74 (cV bl A c toks (k) e _) rfl rfl (.cons .head .nil) ⟨Has.of vP,trivial⟩ fun _=>?_;refine sp hT ?_;refine sto hT kT8 ?_;refine nn<|bF<|bH<|bB<|bH<|bB<|bH ?_;have hr:=sG hinv30.1 (by first | exact .inl (by omega) | exact .inr (.inl ‹_›) | exact .inr (.inr ‹_›)) (by omega) (by first | exact .inr ‹_› | exact .inl (by omega));subst hr;exact bO (none,0,[],_) rfl (bG rfl) (bM hT (bJ .head) rfl rfl rfl rfl) (.cons kT1 .nil) ⟨dM,Has.each_nil,Has.pure rfl,trivial⟩ rfl
  have hg178:=beq_eq_false_iff_ne.1 hg178;refine sp hT ?_;refine ss (ldO hT (dI kT5)) ?_;refine bR Tryz.func135 (nR _) rfl rfl .nil trivial fun _=>?_;refine sp3 hT ?_;refine nn<|bL rfl (fun hc174=>?_) (fun hc174=>?_)
  ·have hc174:=fX hc174;refine sr<|ss (ldO hT (bJ kT9)) ?_;refine bR Tryz.func74 (cV bl A c toks (k) e _) rfl rfl (.cons .head .nil) ⟨Has.of vP,trivial⟩ fun _=>?_;refine sp hT ?_;refine sto hT kT8 ?_;refine nn<|bF<|bH<|bB<|bH<|bB<|bH ?_;have hr:=sG hinv30.1 (by first | exact .inl (by omega) | exact .inr (.inl ‹_›) | exact .inr (.inr ‹_›)) (by omega) (by first | exact .inr ‹_› | exact .inl (by omega));subst hr;exact bO (none,0,[],_) rfl (bG rfl) (bM hT (bJ .head) rfl rfl rfl rfl) (.cons kT1 .nil) ⟨dM,Has.each_nil,Has.pure rfl,trivial⟩ rfl
  have hc174:=fP hc174;refine bN<|cD<|bC<|sr<|sp hT ?_;refine gP (cR Tryz.func137 rfl rfl) (nM bl A c toks (k) e b1 b5 b4 _ _ st (by omega) (by omega)) rfl rfl rfl rfl rfl rfl rfl (.cons .head (.cons kT8 (.cons kT2 (.cons kT2 .nil)))) ⟨(Has.of vP),(Has.of mT1),trivial⟩ fun⟨⟨A57,c58⟩,b59⟩=>?_;refine bE (tnF (some (b59,(qK (bQ toks (k) e true)))::st)) (tO (Has.of mT3) dM) ?_;refine bY rfl rfl rfl rfl xY rfl fun b60=>?_;refine sto hT .head ?_;refine nn<|sr<|ss (ldN hT (bJ .head)) ?_;refine ss (cC rfl rfl (vZ)) ?_;refine ss (fM ⟨(bQ toks (k) e true).flt.1,(bQ toks (k) e true).flt.2⟩ ⟨0,0⟩ rfl rfl rfl) ?_;refine nn<|bL rfl (fun hc190=>?_) (fun hc190=>?_)
  ·have hc190:=fX hc190;refine bA<|cZ _ _ [(true,0),(true,1),(false,2)] dD (by decide+kernel) (.cons .head (.cons .head (.cons .head (.cons .head (.cons .head (.cons .head (.cons .head (.cons .head (.cons .head (.cons .head .nil)))))))))) bI.self ?_;refine stM rfl (ldN hT (bJ .head)) ?_;refine puM hT ?_;refine cK (o:=_) rfl ?_;refine sto hT kT10 ?_;refine cL (.cons kT1 (.cons kT1 (.cons kT1 (.cons kT1 (.cons kT1 (.cons kT1 (.cons kT1 (.cons kT1 (.cons kT1 (.cons kT1 .nil)))))))))) (bI.drop 0) ?_;refine cQ<|bC<|bF<|bH<|bB<|bH ?_;have hr:=(oW hinv30.1 (by first | exact .inl (by omega) | exact .inr (.inl ‹_›) | exact .inr (.inr ‹_›)) (by omega) (by omega) ‹_›).2 hc190;subst hr;exact bO (none,0,[],_) rfl (bG rfl) (bM hT (bJ .head) rfl rfl rfl rfl) (.cons kT2 .nil) ⟨dM,Has.each_nil,Has.pure rfl,trivial⟩ rfl
  have hc190:=fP hc190;have he:=(oW hinv30.1 (by first | exact .inl (by omega) | exact .inr (.inl ‹_›) | exact .inr (.inr ‹_›)) (by omega) (by omega) ‹_›).1 hc190;refine bN<|cD<|bC ?_;exact cO ((bQ toks (k) e true).next,o,out,(some (b59,(qK (bQ toks (k) e true)))::st),_,_,_,_) (by have:=he.1;first | (have:=dP toks k e false;dsimp only;omega) | (have:=dP toks k e true;dsimp only;omega)) ⟨rfl,trivial⟩ ⟨rfl,rfl,rfl,rfl,rfl,rfl,trivial⟩ (.cons kT1 (.cons kT4 (.cons kT4 (.cons kT2 (.cons kT2 (.cons kT5 (.cons kT1 .nil))))))) ⟨Has.pure (⟨he,hinv30.2.1,hinv30.2.2.1,by have:=dP toks k e true;first | omega | (simp;omega),he.1⟩),Has.of mT1,Has.of mT0,Has.of mT5,trivial⟩ (bI.drop 13)
 have hg128:=Int.not_lt.1 (of_decide_eq_false hg128);refine sk3 ?_;refine sp2 hT ?_;refine sk3 ?_;refine sp hT ?_;refine nn<|cG rfl rfl ?_;refine dC<|cM<|cM<|dB<|bC<|bA<|bX<|sr<|sp hT ?_;refine ss (ldO hT (bJ kT5)) ?_;refine sp2 hT ?_;refine cF (fun hg160=>?_) (fun hg160=>?_)
 ·have hg160:=eq_of_beq hg160;refine sp4 hT ?_;refine nn<|bL rfl (fun hc156=>?_) (fun hc156=>?_)
  ·have hc156:=of_decide_eq_true hc156;refine sr<|ss (ldO hT (bJ kT9)) ?_;refine bR Tryz.func74 (cV bl A c toks (k) e _) rfl rfl (.cons .head .nil) ⟨Has.of vP,trivial⟩ fun _=>?_;refine sp hT ?_;refine sto hT kT8 ?_;refine nn<|bF<|bH<|bB<|bH<|bB<|bH ?_;have hr:=bJh hinv30.1 ‹_› (by omega);subst hr;exact bO (none,0,[],_) rfl (bG rfl) (bM hT (bJ .head) rfl rfl rfl rfl) (.cons kT1 .nil) ⟨dM,Has.each_nil,Has.pure rfl,trivial⟩ rfl
  have hc156:=Int.not_lt.1 (of_decide_eq_false hc156);refine sr<|sp hT ?_;refine ss (ldO hT (bJ kT5)) ?_;refine sp hT ?_;refine bZ (t':=true) (by rw [hg160];rfl) ?_;refine sp hT ?_;refine nn<|cI rfl rfl ?_;refine sr<|sp hT ?_;refine gP (cR Tryz.func136 rfl rfl) (nJ b5 b4 _ _ st _ _ out (by omega)) rfl rfl rfl rfl rfl rfl rfl (.cons kT3 (.cons kT3 (.cons kT1 (.cons kT1 .nil)))) ⟨(Has.of mT1),trivial⟩ fun⟨⟨D61,f62⟩,⟨C63,e64⟩⟩=>?_;refine bE (mG (out++(finP st).1)) (sU (Has.of mT4) (Has.of mT3)) ?_;refine bE (tnF (finP st).2) (bBq (Has.of mT4)) ?_;have hfl:=tU st;refine nn<|sr<|ss (ldO hT (bJ kT2)) ?_;refine ss (cC rfl rfl (vZ)) ?_;refine sp hT ?_;refine sto hT kT8 ?_;refine nn<|bF<|bH<|bB<|bH<|bB<|bH ?_;have hr:=bFj hinv30.1 ‹_› (by omega);subst hr;refine cS kT4 ?_;exact bO (_,_,(out++(finP st).1),_) rfl (bG rfl) (bM hT (bJ .head) rfl rfl rfl rfl) (.cons kT4 .nil) ⟨Has.of mT0,(Has.of mT2),Has.pure rfl,trivial⟩ rfl
 have hg160:=beq_eq_false_iff_ne.1 hg160;refine sk2 ?_;refine sp2 hT ?_;refine nn<|cG rfl rfl ?_;refine sr<|sp hT ?_;refine ss (ldO hT (bJ kT5)) ?_;refine sp hT ?_;refine bZ (t':=false) (beq_eq_false_iff_ne.2 hg160) ?_;refine sp hT ?_;refine nn<|cG rfl rfl ?_;refine sr<|sp hT ?_;refine ss (ldO hT (bJ kT5)) ?_;refine sp2 hT ?_;refine cF (fun hg178=>?_) (fun hg178=>?_)
 ·have hg178:=eq_of_beq hg178;refine sk4 ?_;refine sp2 hT ?_;refine nn<|cI rfl rfl ?_;refine sr<|ss (ldO hT (bJ kT9)) ?_;refine bR Tryz.func74 (cV bl A c toks (k) e _) rfl rfl (.cons .head .nil) ⟨Has.of vP,trivial⟩ fun _=>?_;refine sp hT ?_;refine sto hT kT8 ?_;refine nn<|bF<|bH<|bB<|bH<|bB<|bH ?_;have hr:=sG hinv30.1 (by first | exact .inl (by omega) | exact .inr (.inl ‹_›) | exact .inr (.inr ‹_›)) (by omega) (by first | exact .inr ‹_› | exact .inl (by omega));subst hr;exact bO (none,0,[],_) rfl (bG rfl) (bM hT (bJ .head) rfl rfl rfl rfl) (.cons kT1 .nil) ⟨dM,Has.each_nil,Has.pure rfl,trivial⟩ rfl
 have hg178:=beq_eq_false_iff_ne.1 hg178;refine sp hT ?_;refine ss (ldO hT (dI kT5)) ?_;refine bR Tryz.func135 (nR _) rfl rfl .nil trivial fun _=>?_;refine sp3 hT ?_;refine nn<|bL rfl (fun hc174=>?_) (fun hc174=>?_)
 ·have hc174:=fX hc174;refine sr<|ss (ldO hT (bJ kT9)) ?_;refine bR Tryz.func74 (cV bl A c toks (k) e _) rfl rfl (.cons .head .nil) ⟨Has.of vP,trivial⟩ fun _=>?_;refine sp hT ?_;refine sto hT kT8 ?_;refine nn<|bF<|bH<|bB<|bH<|bB<|bH ?_;have hr:=sG hinv30.1 (by first | exact .inl (by omega) | exact .inr (.inl ‹_›) | exact .inr (.inr ‹_›)) (by omega) (by first | exact .inr ‹_› | exact .inl (by omega));subst hr;exact bO (none,0,[],_) rfl (bG rfl) (bM hT (bJ .head) rfl rfl rfl rfl) (.cons kT1 .nil) ⟨dM,Has.each_nil,Has.pure rfl,trivial⟩ rfl
 have hc174:=fP hc174;refine bN<|cD<|bC<|sr<|sp hT ?_;refine gP (cR Tryz.func137 rfl rfl) (nM bl A c toks (k) e b1 b5 b4 _ _ st (by omega) (by omega)) rfl rfl rfl rfl rfl rfl rfl (.cons .head (.cons kT8 (.cons kT2 (.cons kT2 .nil)))) ⟨(Has.of vP),(Has.of mT1),trivial⟩ fun⟨⟨A65,c66⟩,b67⟩=>?_;refine bE (tnF (some (b67,(qK (bQ toks (k) e true)))::st)) (tO (Has.of mT3) dM) ?_;refine bY rfl rfl rfl rfl xY rfl fun b68=>?_;refine sto hT .head ?_;refine nn<|sr<|ss (ldN hT (bJ .head)) ?_;refine ss (cC rfl rfl (vZ)) ?_;refine ss (fM ⟨(bQ toks (k) e true).flt.1,(bQ toks (k) e true).flt.2⟩ ⟨0,0⟩ rfl rfl rfl) ?_;refine nn<|bL rfl (fun hc190=>?_) (fun hc190=>?_)
 ·have hc190:=fX hc190;refine bA<|cZ _ _ [(true,0),(true,1),(false,2)] dD (by decide+kernel) (.cons .head (.cons .head (.cons .head (.cons .head (.cons .head (.cons .head (.cons .head (.cons .head (.cons .head (.cons .head .nil)))))))))) bI.self ?_;refine stM rfl (ldN hT (bJ .head)) ?_;refine puM hT ?_;refine cK (o:=_) rfl ?_;refine sto hT kT10 ?_;refine cL (.cons kT1 (.cons kT1 (.cons kT1 (.cons kT1 (.cons kT1 (.cons kT1 (.cons kT1 (.cons kT1 (.cons kT1 (.cons kT1 .nil)))))))))) (bI.drop 0) ?_;refine cQ<|bC<|bF<|bH<|bB<|bH ?_;have hr:=(oW hinv30.1 (by first | exact .inl (by omega) | exact .inr (.inl ‹_›) | exact .inr (.inr ‹_›)) (by omega) (by omega) ‹_›).2 hc190;subst hr;exact bO (none,0,[],_) rfl (bG rfl) (bM hT (bJ .head) rfl rfl rfl rfl) (.cons kT2 .nil) ⟨dM,Has.each_nil,Has.pure rfl,trivial⟩ rfl
 have hc190:=fP hc190;have he:=(oW hinv30.1 (by first | exact .inl (by omega) | exact .inr (.inl ‹_›) | exact .inr (.inr ‹_›)) (by omega) (by omega) ‹_›).1 hc190;refine bN<|cD<|bC ?_;exact cO ((bQ toks (k) e true).next,o,out,(some (b67,(qK (bQ toks (k) e true)))::st),_,_,_,_) (by have:=he.1;first | (have:=dP toks k e false;dsimp only;omega) | (have:=dP toks k e true;dsimp only;omega)) ⟨rfl,trivial⟩ ⟨rfl,rfl,rfl,rfl,rfl,rfl,trivial⟩ (.cons kT1 (.cons kT4 (.cons kT4 (.cons kT2 (.cons kT2 (.cons kT5 (.cons kT1 .nil))))))) ⟨Has.pure (⟨he,hinv30.2.1,hinv30.2.2.1,by have:=dP toks k e true;first | omega | (simp;omega),he.1⟩),Has.of mT1,Has.of mT0,Has.of mT5,trivial⟩ (bI.drop 13)
structure qM where
 name:Bs
 n:Int
 deriving Inhabited,DecidableEq
structure gG where
 name:Bs
 at_:Int
 sides:List qM
 deriving Inhabited,DecidableEq
structure kL where
 name:Bs
 at_:Int
 items:List dJ
 deriving Inhabited,DecidableEq
structure Prog where
 inputs:List gG
 lines:List kL
 deriving Inhabited,DecidableEq
def verbWords:List Bs:=[[43],[45],[42],[37],[124],[109,105,110],[109,97,120],[61],[126],[60],[60,61],[62,61],[62],[97,110,100],[111,114],[112,111,119],[114,104,111],[116,97,107,101],[100,114,111,112],[99,97,116],[105,111,116,97],[115,104,97,112,101],[114,97,118,101,108],[114,101,118],[116,117,114,110]]
def bCs (two:Bool)(f:Int):List Bs→Bs→Bs
 | [],acc=>acc
 | s::r,acc=>bCs two f r (if gF s two !=0&&gF s two==f then s else acc)
def kO (two:Bool)(f:Int):Bs:=bCs two f verbWords []
structure fS where
 words:List Bs
 nest:Nat
 tokens:Nat
 plain:Bool
 deriving Inhabited,DecidableEq
def operandS(it:dJ):Option fS:=
 if it.how=2 then (if it.fn=0∧it.nums=[]∧dS it.name=true then some ⟨[it.name],0,1,true⟩ else none)
 else if it.fn≠0∨it.name≠[]∨it.nums=[]∨256<it.nums.length then none
 else some ⟨it.nums.map fZ,0,it.nums.length,true⟩
def bMn (how:Int):Bs:=if how=5 then [47] else if how=6 then [92] else if how=7 then [46] else []
def verbS (it:dJ):Bs×Nat:=
 if it.how=3 then (kO false it.fn,1)
 else if kO true it.fn=[]∨it.how=4 then (kO true it.fn,1)
 else if 17<it.fn then ([],0)
 else (kO true it.fn++bMn it.how,2)
def brkEnd:List Bs→List Bs
 | []=>[]
 | [w]=>[w++[41]]
 | w::r=>w::brkEnd r
def brk:List Bs→List Bs
 | []=>[]
 | w::r=>brkEnd (([40]++w)::r)
def leftS (p:fS):fS:=if p.plain then p else ⟨brk p.words,p.nest+1,p.tokens+2,p.plain⟩
def uW (how:Int):Bool:=how==4 || how==7
def oU (it:dJ)(st:List fS):Option (List fS):=
 if uW it.how then match st with
  | p::q::r=>some (⟨(leftS q).words++(verbS it).1::p.words,max p.nest (leftS q).nest,p.tokens+(verbS it).2+(leftS q).tokens,false⟩::r)
  | _=>none
 else match st with
  | p::r=>some (⟨(verbS it).1::p.words,p.nest,p.tokens+(verbS it).2,false⟩::r)
  | []=>none
def iH (st:List fS)(it:dJ):Option (List fS):=
 if it.how=1∨it.how=2 then (operandS it).map (· ::st)
 else if it.how<3∨7<it.how∨it.nums≠[]∨it.name≠[]∨(verbS it).1=[] then none
 else oU it st
def fT:List dJ→List fS→Option (List fS)
 | [],st=>some st
 | it::r,st=>match iH st it with
  | none=>none
  | some st'=>fT r st'
def joinSp:List Bs→Bs
 | []=>[]
 | [w]=>w
 | w::r=>w++32::joinSp r
def gE (l:List dJ)(most:Nat):Option Bs:=
 if most<l.length then none else match fT l [] with
  | some [p]=>if most<p.tokens∨32<p.nest then none else some (joinSp p.words)
  | _=>none
def lD:List qM→Bs→Option Bs
 | [],t=>some t
 | d::r,t=>if d.name=[] then lD r (t++([32]++fZ d.n)) else if d.n=0∧dS d.name=true then lD r (t++([32]++d.name)) else none
def nX (x:gG):Option Bs:=if dS x.name=false∨4<x.sides.length then none else lD x.sides x.name
def jX:List gG→Bs→Bs×Bool
 | [],o=>(o,true)
 | x::r,o=>match nX x with
  | none=>(o,false)
  | some t=>jX r (o++(([105,110,32]++t)++[10]))
def fO:List kL→Bs→Bs×Bool
 | [],o=>(o,true)
 | [l],o=>match gE l.items 255 with
  | none=>(o,false)
  | some t=>if l.name≠[] then (o,false) else (o++(([111,117,116,32]++t)++[10]),true)
 | l::r,o=>match gE l.items 254 with
  | none=>(o,false)
  | some t=>if dS l.name=false then (o,false) else fO r (o++(((l.name++[58,32])++t)++[10]))
def dQ (p:Prog):Bs×Bool:=
 if p.lines=[]∨64<p.inputs.length+p.lines.length then ([],false) else match jX p.inputs [] with
  | (o,false)=>(o,false)
  | (o,true)=>fO p.lines o
def mZ (two:Bool)(f:Int):List Bs→Bs
 | []=>[]
 | s::r=>if gF s two !=0&&gF s two==f then s else mZ two f r
structure Part where
 s:Bs
 plain:Bool
 tokens:Nat
 nest:Nat
 deriving Inhabited,DecidableEq
def brkR (p:Part):Part:=if p.plain then p else ⟨([40]++p.s)++[41],false,p.tokens+2,p.nest+1⟩
def hitB (two:Bool)(f:Int)(s:Bs):Bool:=gF s two !=0&&gF s two==f
theorem bJo(two:Bool)(f:Int): ∀l:List Bs,l.Pairwise (fun s t=>gF s two=0∨gF s two≠gF t two)→ ∀acc,bCs two f l acc=if l.any (hitB two f) then mZ two f l else acc
 | [],_,acc=>rfl
 | s::r,h,acc=>by
  obtain⟨h1,h2⟩:=List.pairwise_cons.1 h;rw [bCs,mZ,bJo two f r h2]
  by_cases hs:(gF s two !=0&&gF s two==f)=true
  ·have hn:r.any (hitB two f)=false:=by
    rw [List.any_eq_false];intro t ht hb;simp only [hitB,Bool.and_eq_true,bne_iff_ne,beq_iff_eq] at hb hs
    rcases h1 t ht with h | h
    ·exact hs.1 h
    ·exact h (hs.2.trans hb.2.symm)
   simp [hs,hn,hitB]
  ·simp only [Bool.not_eq_true] at hs;simp [hs,hitB]
theorem bJx(two:Bool)(f:Int): ∀l:List Bs,l.any (hitB two f)=false→mZ two f l=[]
 | [],_=>rfl
 | s::r,h=>by
  rw [List.any_cons,Bool.or_eq_false_iff] at h;rw [mZ];have:(gF s two !=0&&gF s two==f)=false:=h.1;rw [this,bJx two f r h.2];rfl
theorem bFu(two:Bool)(f:Int):mZ two f verbWords=kO two f:=by
 unfold kO;rw [bJo two f verbWords (by cases two<;>decide)];cases h:verbWords.any (hitB two f)
 ·rw [bJx two f _ h];rfl
 ·rfl
theorem bLl(two:Bool)(f:Int): ∀l:List Bs,mZ two f l≠[]→mZ two f l∈l∧hitB two f (mZ two f l)=true
 | [],h=>absurd rfl h
 | s::r,h=>by
  rw [mZ] at h⊢
  by_cases hs:(gF s two !=0&&gF s two==f)=true
  ·rw [if_pos hs];exact⟨List.mem_cons_self ..,hs⟩
  ·rw [if_neg hs] at h⊢;obtain⟨h1,h2⟩:=bLl two f r h;exact⟨List.mem_cons_of_mem _ h1,h2⟩
theorem textF_hit{two:Bool}{f:Int}(h:kO two f≠[]):kO two f∈verbWords∧gF (kO two f) two=f∧f≠0:=by
 rw [←bFu] at h⊢;obtain⟨h1,h2⟩:=bLl two f _ h;simp only [hitB,Bool.and_eq_true,bne_iff_ne,beq_iff_eq] at h2;exact⟨h1,h2.2,fun e=>h2.1 (h2.2.trans e)⟩
theorem rV(w:Bs){r:List Bs}(h:r≠[]):joinSp (w::r)=w++32::joinSp r:=by
 cases r with
 | nil=>exact absurd rfl h
 | cons x r=>rfl
theorem bLy{l:List Bs}(h:l≠[]):brkEnd l≠[]:=by
 match l,h with
 | [w],_=>simp [brkEnd]
 | w::x::r,_=>simp [brkEnd]
theorem bDy: ∀l:List Bs,l≠[]→joinSp (brkEnd l)=joinSp l++[41]
 | [],h=>absurd rfl h
 | [w],_=>rfl
 | w::x::r,_=>by
  show joinSp (w::brkEnd (x::r))=_;rw [rV w (bLy (by simp)),bDy (x::r) (by simp),rV w (by simp)];simp
theorem join_brk{l:List Bs}(h:l≠[]):joinSp (brk l)=([40]++joinSp l)++[41]:=by
 cases l with
 | nil=>exact absurd rfl h
 | cons w r=>
  show joinSp (brkEnd _)=_;rw [bDy _ (by simp)]
  cases r with
  | nil=>simp [joinSp]
  | cons x r=>simp [joinSp]
theorem brk_ne{l:List Bs}(h:l≠[]):brk l≠[]:=by
 cases l with
 | nil=>exact absurd rfl h
 | cons w r=>exact bLy (by simp)
structure Like (p:Part) (q:fS):Prop where
 s:p.s=joinSp q.words
 plain:p.plain=q.plain
 tokens:p.tokens=q.tokens
 nest:p.nest=q.nest
 ne:q.words≠[]
theorem Like.brk{p:Part}{q:fS}(h:Like p q):Like (brkR p) (leftS q):=by
 unfold brkR leftS;rw [h.plain];cases hq:q.plain
 ·simp only [Bool.false_eq_true,if_false];exact⟨by rw [h.s,join_brk h.ne],by simp,by simp [h.tokens],by simp [h.nest],brk_ne h.ne⟩
 ·simp only [if_true];exact h
inductive bAp:List Part→List fS→Prop
 | nil:bAp [] []
 | cons {p q a b}:Like p q→bAp a b→bAp (p::a) (q::b)
theorem bAp.len{a:List Part}{b:List fS}(h:bAp a b):a.length=b.length:=by induction h<;>simp_all
theorem step_tokens{st st':List fS}{x:dJ}(h:iH st x=some st'):(st.map (·.tokens)).sum+1≤(st'.map (·.tokens)).sum:=by
 unfold iH at h;split at h
 ·unfold operandS at h;split at h
  ·split at h
   ·simp at h;subst h;simp;omega
   ·simp at h
  ·split at h
   ·simp at h
   ·rename_i hn;simp at h;subst h;have:0<x.nums.length:=List.length_pos_iff.2 fun e=>hn (by simp [e]);simp;omega
 ·split at h
  ·cases h
  ·have hv:1≤(verbS x).2∨(verbS x).1=[]:=by
    unfold verbS;split
    ·exact .inl (by simp)
    ·split
     ·exact .inl (by simp)
     ·split
      ·exact .inr rfl
      ·exact .inl (by simp)
   rename_i hn;have hv:1≤(verbS x).2:=hv.resolve_right fun e=>hn (by simp [e]);unfold oU at h;split at h
   ·split at h
    ·rename_i p q r;simp at h;subst h;have:q.tokens≤(leftS q).tokens:=by unfold leftS;split<;>simp
     simp only [List.map_cons,List.sum_cons];omega
    ·cases h
   ·split at h
    ·simp at h;subst h;simp;omega
    ·cases h
theorem bAk: ∀{l:List dJ} {st st':List fS},fT l st=some st'→(st.map (·.tokens)).sum+l.length≤(st'.map (·.tokens)).sum
 | [],st,st',h=>by simp [fT] at h;subst h;simp
 | x::r,st,st',h=>by
  rw [fT] at h
  cases h1:iH st x with
  | none=>rw [h1] at h;cases h
  | some s1=>
   rw [h1] at h;have:=bAk h;have:=step_tokens h1;simp only [List.length_cons];omega
def jL.sd (x:jL):qM:=⟨x.name,x.n⟩
def InputV.inp(x:InputV):gG:=⟨x.name,x.at_,x.sides.list.map jL.sd⟩
def LineV.ln(x:LineV):kL:=⟨x.name,x.at_,x.items.list.map ItemV.it⟩
def ProgV.pr(x:ProgV):Prog:=⟨x.inputs.list.map InputV.inp,x.lines.list.map LineV.ln⟩
def lW:List TokV→List qM→List qM×Flt
 | [],acc=>(acc,(0,0))
 | t::r,acc=>
  if t.kind≠2∧(t.kind≠1∨dS t.word=false) then (acc,(t.at_,41))
  else if acc.length=4 then (acc,(t.at_,45)) else lW r (acc++[⟨t.word,t.n⟩])
section
variable (toks : List TokV) (e : Int)
def kK:gG×Flt:=
 if toks.length=1 then (⟨(bP toks 1).word,atP toks 1 e,[]⟩,(atP toks 1 e,42))
 else if (bP toks 1).kind≠1∨dS (bP toks 1).word=false then (⟨(bP toks 1).word,atP toks 1 e,[]⟩,(atP toks 1 e,41))
 else (⟨(bP toks 1).word,atP toks 1 e,(lW (toks.drop 2) []).1⟩,(lW (toks.drop 2) []).2)
def isW (t:TokV)(w:Bs):Bool:=t.kind==1&&t.word==w
def rT (name:Bs)(k:Nat):kL×Flt:=(⟨name,(bP toks 0).at_,(hZ toks e k).1⟩,(hZ toks e k).2)
def intoP (p:Prog)(n:Nat)(over:Bool):Prog×Flt:=
 if n=64 then (p,(atP toks 0 e,45))
 else if 256<toks.length then (p,(atP toks 256 e,45))
 else if over=true∨isW (bP toks 0) [105,110]=true∧p.lines≠[] then (p,(atP toks 0 e,40))
 else if isW (bP toks 0) [105,110]=true then (⟨p.inputs++[(kK toks e).1],p.lines⟩,(kK toks e).2)
 else if isW (bP toks 0) [111,117,116]=true then (⟨p.inputs,p.lines++[(rT toks e [] 1).1]⟩,(rT toks e [] 1).2)
 else if (bP toks 0).kind≠1∨dS (bP toks 0).word=false then (p,(atP toks 0 e,40))
 else if (bP toks 1).kind≠3∨(bP toks 1).word≠[58] then (p,(atP toks 1 e,42))
 else (⟨p.inputs,p.lines++[(rT toks e (bP toks 0).word 2).1]⟩,(rT toks e (bP toks 0).word 2).2)
end
def ownP (toks:List TokV):List TokV:=toks.takeWhile fun t=>t.kind !=4
def endP (toks:List TokV)(len:Int):Int:=atP toks (ownP toks).length len
def iG (p:Prog):Bool:=match p.lines.getLast? with
 | none=>false
 | some l=>l.name==[]
def qJ (len:Int):Nat→List TokV→Prog→Nat→Bool→Prog×Flt
 | 0,_,_,_,_=>(⟨[],[]⟩,(0,0))
 | f+1,toks,p,n,over=>
  if toks=[] then (if over=true then (p,(0,0)) else (⟨[],[]⟩,(len,42)))
  else if ownP toks=[] then qJ len f (toks.drop 1) p n over
  else if isOk (intoP (ownP toks) (endP toks len) p n over).2 then
   qJ len f (toks.drop ((ownP toks).length+1)) (intoP (ownP toks) (endP toks len) p n over).1 (n+1) (iG (intoP (ownP toks) (endP toks len) p n over).1)
  else (⟨[],[]⟩,(intoP (ownP toks) (endP toks len) p n over).2)
def fG (text:Bs):Prog×Flt:=
 if isOk (lexP text).2 then qJ text.length ((lexP text).1.length+1) (lexP text).1 ⟨[],[]⟩ 0 false else (⟨[],[]⟩,(lexP text).2)
def pQ (r:Prog×Flt)(len:Int)(toks:List TokV)(p:Prog)(n:Nat)(over:Bool):Prop:= ∃f,toks.length+1≤f∧qJ len f toks p n over=r
section
variable {r : Prog × Flt} {len : Int} {toks : List TokV} {p : Prog} {n : Nat} {over : Bool}
theorem p_end(h:pQ r len toks p n over)(h0:toks=[]):r=if over=true then (p,(0,0)) else (⟨[],[]⟩,(len,42)):=by
 obtain⟨f,hf,h⟩:=h
 obtain⟨f,rfl⟩: ∃g,f=g+1:=⟨f-1,by omega⟩
 rw [qJ,if_pos h0] at h;exact h.symm
theorem bHd(h:pQ r len toks p n over)(h0:toks≠[])(h1:ownP toks=[]):pQ r len (toks.drop 1) p n over:=by
 obtain⟨f,hf,h⟩:=h;have:0<toks.length:=List.length_pos_iff.2 h0
 obtain⟨f,rfl⟩: ∃g,f=g+1:=⟨f-1,by omega⟩
 rw [qJ,if_neg h0,if_pos h1] at h;exact⟨f,by rw [List.length_drop];omega,h⟩
theorem vN(h:pQ r len toks p n over)(h0:toks≠[])(h1:ownP toks≠[]){q:Prog}{f:Flt}(hq:intoP (ownP toks) (endP toks len) p n over=(q,f)):
  (isOk f=true→pQ r len (toks.drop ((ownP toks).length+1)) q (n+1) (iG q))∧(isOk f=false→r=(⟨[],[]⟩,f)):=by
 obtain⟨g,hg,h⟩:=h;have:0<toks.length:=List.length_pos_iff.2 h0
 obtain⟨g,rfl⟩: ∃k,g=k+1:=⟨g-1,by omega⟩
 rw [qJ,if_neg h0,if_neg h1,hq] at h;refine⟨fun hi=>?_,fun hi=>?_⟩
 ·rw [if_pos hi] at h;exact⟨g,by rw [List.length_drop];omega,h⟩
 ·rw [if_neg (by rw [hi];simp)] at h;exact h.symm
end
structure bAg (t:TokV):Prop where
 word:t.word.length≤16
 lo: -9223372036854775808≤t.n
 hi:t.n≤9223372036854775807
theorem bHn{neg:Bool}{ds:Bs}{v:Int}(h:rM neg ds=some v): -9223372036854775808≤v∧v≤9223372036854775807:=by
 unfold rM at h;split at h
 ·split at h
  ·injection h with h
   omega
  ·cases h
 ·split at h
  ·injection h with h
   omega
  ·cases h
theorem numTok_ok{b:UInt8}{r:Bs}{t:TokR}(h:gU b r= .ok (some t)):t.2.1=[]∧ -9223372036854775808≤t.2.2.1∧t.2.2.1≤9223372036854775807:=by
 unfold gU at h;dsimp only at h
 by_cases hb:(b==95)=true
 ·simp only [hb,if_true] at h;split at h
  ·cases h
  ·split at h
   ·cases h
   ·rename_i hv;simp only [Except.ok.injEq,Option.some.injEq] at h;subst h;exact⟨rfl,bHn hv⟩
 ·simp only [hb,Bool.false_eq_true,if_false] at h;split at h
  ·cases h
  ·split at h
   ·cases h
   ·rename_i hv;simp only [Except.ok.injEq,Option.some.injEq] at h;subst h;exact⟨rfl,bHn hv⟩
theorem bMk{s:Bs}{k v:Int}{wd:Bs}{m:Nat}(h:fL s= .ok (k,wd,v,m)):wd.length≤16∧ -9223372036854775808≤v∧v≤9223372036854775807:=by
 cases s with
 | nil=>cases h
 | cons b r=>
  simp only [fL] at h;split at h
  ·cases h;decide
  ·split at h
   ·split at h
    ·cases h
    ·cases h;rename_i h16
     have:=(List.length_take_le (runB jQ (b::r)) (b::r))
     exact⟨by omega,by decide,by decide⟩
   ·split at h
    ·cases h
    ·rename_i t' ht;simp only [Except.ok.injEq] at h;subst h;obtain⟨h1,h2,h3⟩:=numTok_ok ht;simp only at h1 h2 h3;exact⟨by rw [h1];decide,h2,h3⟩
    ·split at h
     ·cases h
     ·cases h
      have h2:signP (b::r)≤2:=by
       simp only [signP];split
       ·omega
       ·split<;>omega
      have:=(List.length_take_le (signP (b::r)) (b::r))
      exact⟨by omega,by decide,by decide⟩
theorem bAw: ∀(f i:Nat) (s:Bs) (out:List Tok),(∀t∈out,bAg t)→ ∀t∈(lexGo f i s out).1,bAg t
 | 0,_,_,out,h=>h
 | _+1,_,[],out,h=>h
 | f+1,i,b::r,out,h=>by
  unfold lexGo;split
  ·exact bAw f _ _ _ h
  ·split
   ·exact bAw f _ _ _ h
   ·split
    ·exact fun t ht=>by simp at ht
    ·rename_i ht;refine bAw f _ _ _ fun t hm=>?_
     rcases List.mem_append.1 hm with hm | hm
     ·exact h t hm
     ·rw [List.mem_singleton.1 hm];obtain⟨h1,h2,h3⟩:=bMk ht;exact⟨h1,h2,h3⟩
theorem lex_ok(s:Bs): ∀t∈(lexP s).1,bAg t:=by
 unfold lexP;split
 ·exact fun t ht=>by simp at ht
 ·exact bAw _ _ _ _ fun t ht=>by simp at ht
theorem peek_ok{toks:List TokV}(h: ∀t∈toks,bAg t)(k:Nat):bAg (bP toks k):=by
 unfold bP;split
 ·rename_i ht;exact h _ (List.mem_of_getElem? ht)
 ·exact⟨by decide,by decide,by decide⟩
theorem wT{toks:List TokV}(h: ∀t∈toks,bAg t)(k:Nat):(bP toks k).word.length≤65536:=Nat.le_trans (peek_ok h k).word (by decide)
theorem bJu(toks:List TokV):(ownP toks).length≤toks.length:=(List.takeWhile_sublist _).length_le
theorem bBf(toks:List TokV):toks.take (ownP toks).length=ownP toks:=by
 unfold ownP
 induction toks with
 | nil=>rfl
 | cons t r ih=>
  rw [List.takeWhile_cons];split
  ·rw [List.length_cons,List.take_succ_cons,ih]
  ·rfl
theorem own_more{toks:List TokV}{n:Nat}{x:TokV}(hn:n≤(ownP toks).length)(hx:toks[n]?=some x)(h4:x.kind≠4):n+1≤(ownP toks).length:=by
 unfold ownP at*
 induction toks generalizing n with
 | nil=>simp at hx
 | cons t r ih=>
  rw [List.takeWhile_cons] at hn⊢;split at hn
  ·rename_i ht;rw [if_pos ht]
   cases n with
   | zero=>simp
   | succ n=>
    have:=ih (n:=n) (by simpa using hn) (by simpa using hx);simp;omega
  ·rename_i ht;have:n=0:=by simpa using hn
   subst this;simp at hx;subst hx;simp [h4] at ht
theorem own_stop{toks:List TokV}{n:Nat}(hn:n≤(ownP toks).length)(h:toks.length≤n∨ ∃x:TokV,toks[n]?=some x∧x.kind=4):n=(ownP toks).length:=by
 have hl:=bJu toks
 rcases h with h | ⟨x,hx,h4⟩
 ·omega
 ·rcases Nat.lt_or_ge n (ownP toks).length with hlt | hge
  ·exfalso
   have hm:(ownP toks)[n]?=some x:=by
    rw [←bBf toks,List.getElem?_take,if_pos hlt];exact hx
   have:=List.all_takeWhile (p:=fun t:TokV=>t.kind !=4) (l:=toks);have:=List.all_eq_true.1 this x (List.mem_of_getElem? hm);simp [h4] at this
  ·omega
structure Tk where
 kind:Int
 word:Bs
 n:Int
 deriving Inhabited,DecidableEq
def TokV.tk(t:TokV):Tk:=⟨t.kind,t.word,t.n⟩
def Lx (s:Bs)(T:List Tk)(rest:Bs):Prop:= ∀i out,∃L:List Tok,L.map TokV.tk=T∧lexGo (s++rest).length i (s++rest) out=lexGo rest.length (i+s.length) rest (out++L)
section
variable {a b s rest : Bs} {A B : List Tk}
theorem Lx.nil:Lx [] [] rest:=fun i out=>⟨[],rfl,by simp⟩
theorem Lx.append(h:Lx a A (b++rest))(k:Lx b B rest):Lx (a++b) (A++B) rest:=fun i out=>by
 obtain⟨L,hL,e⟩:=h i out;obtain⟨M,hM,e'⟩:=k (i+a.length) (out++L);exact⟨L++M,by simp [hL,hM],by rw [List.append_assoc,e,e',List.length_append,Nat.add_assoc,List.append_assoc]⟩
theorem Lx.blank:Lx [32] [] rest:=fun i out=>⟨[],rfl,by
 show lexGo (32::rest).length i (32::rest) out=_;rw [gY,if_pos (by decide),List.append_nil]
 rfl⟩
theorem Lx.tok{k v:Int}{wd:Bs}{b:UInt8}(h:fL ((b::s)++rest)= .ok (k,wd,v,(b::s).length))(hb:iQ b=false)(h35:(b==35)=false):Lx (b::s) [⟨k,wd,v⟩] rest:=fun i out=>
 ⟨[⟨k,i,wd,v⟩],rfl,by
  rw [List.cons_append,gY,hb,if_neg (by simp),h35,if_neg (by simp)];rw [List.cons_append] at h;rw [h];simp only;have e:(b::(s++rest)).drop (b::s).length=rest:=by rw [←List.cons_append,List.drop_left]
  rw [e]⟩
end
theorem bJs{p:UInt8→Bool}{c:UInt8}{r:Bs}(hc:p c=false): ∀s:Bs,(∀b∈s,p b=true)→runB p (s++c::r)=s.length
 | [],_=>by simp [runB,hc]
 | b::s,h=>by
  rw [List.cons_append,runB,if_pos (h b (by simp)),bJs hc s fun x hx=>h x (by simp [hx])];rfl
theorem bGu{p:UInt8→Bool}: ∀{s:Bs},runB p s=s.length→ ∀b∈s,p b=true
 | [],_,b,hb=>by simp at hb
 | c::s,h,b,hb=>by
  rw [runB] at h;split at h
  ·rename_i hc
   rcases List.mem_cons.1 hb with rfl | hb
   ·exact hc
   ·exact bGu (by simpa using h) b hb
  ·simp at h
structure WordB (s:Bs):Prop where
 head: ∃b r,s=b::r∧lI b=true
 all: ∀b∈s,jQ b=true
 len:s.length≤16
theorem letter_facts{b:UInt8}(h:lI b=true):iQ b=false∧(b==35)=false∧(b==10)=false:=by
 have key: ∀k:Fin 256,lI (UInt8.ofNat k.val)=true→iQ (UInt8.ofNat k.val)=false∧(UInt8.ofNat k.val==35)=false∧(UInt8.ofNat k.val==10)=false:=by decide+kernel
 have hb:UInt8.ofNat b.toNat=b:=by simp
 have:=key ⟨b.toNat,b.toNat_lt⟩;rw [hb] at this;exact this h
theorem bFb{s r:Bs}{c:UInt8}(h:WordB s)(hc:jQ c=false):Lx s [⟨1,s,0⟩] (c::r):=by
 obtain⟨b,t,rfl,hl⟩:=h.head;obtain⟨h1,h2,h3⟩:=letter_facts hl;refine Lx.tok ?_ h1 h2;have hr:runB jQ (b::(t++c::r))=(b::t).length:=bJs hc (b::t) h.all;have:=h.len;simp only [List.cons_append,fL,h3,Bool.false_eq_true,if_false,hl,if_true,hr];rw [if_neg (by omega),←List.cons_append,List.take_left]
theorem sign_lx{c:UInt8}(hc:c∈([47,92,46,40,41,58]:Bs)){r:Bs}:Lx [c] [⟨3,[c],0⟩] r:=by
 simp only [List.mem_cons,List.not_mem_nil,or_false] at hc
 rcases hc with rfl | rfl | rfl | rfl | rfl | rfl<;>exact Lx.tok rfl (by decide) (by decide)
theorem nl_lx{r:Bs}:Lx [10] [⟨4,[],0⟩] r:=Lx.tok rfl (by decide) (by decide)
theorem numTok_kind{b:UInt8}{r:Bs}{t:TokR}(h:gU b r= .ok (some t)):t.1=2∧t.2.1=[]:=by
 unfold gU at h;dsimp only at h
 by_cases hb:(b==95)=true
 ·simp only [hb,if_true] at h;split at h
  ·cases h
  ·split at h
   ·cases h
   ·simp only [Except.ok.injEq,Option.some.injEq] at h;subst h;exact⟨rfl,rfl⟩
 ·simp only [hb,Bool.false_eq_true,if_false] at h;split at h
  ·cases h
  ·split at h
   ·cases h
   ·simp only [Except.ok.injEq,Option.some.injEq] at h;subst h;exact⟨rfl,rfl⟩
structure TokIs (k:Int) (wd:Bs) (v:Int) (s:Bs):Prop where
 len:wd.length≤s.length
 num:k=2→wd=[]
 word:k=1→v=0
 spell:k=1→wd=s→WordB s
theorem take_len(n:Nat)(s:Bs):(s.take n).length≤s.length:=by simp;omega
theorem bCf{s:Bs}{k v:Int}{wd:Bs}{m:Nat}(h:fL s= .ok (k,wd,v,m)):TokIs k wd v s:=by
 cases s with
 | nil=>cases h
 | cons b r=>
  simp only [fL] at h;split at h
  ·cases h;exact⟨by simp,fun h=>absurd h (by decide),fun h=>absurd h (by decide),fun h=>absurd h (by decide)⟩
  ·split at h
   ·rename_i hl;split at h
    ·cases h
    ·cases h;rename_i h16;refine⟨take_len _ _,fun h=>absurd h (by decide),fun _=>rfl,fun _ e=>?_⟩;have hr:=jC jQ (b::r)
     have he:runB jQ (b::r)=(b::r).length:=by
      have:=congrArg List.length e;rw [List.length_take] at this;omega
     exact⟨⟨b,r,rfl,hl⟩,bGu he,by omega⟩
   ·split at h
    ·cases h
    ·rename_i t' ht;simp only [Except.ok.injEq] at h;subst h;obtain⟨h1,h2⟩:=numTok_kind ht;simp only at h1 h2;subst h1;subst h2;exact⟨by simp,fun _=>rfl,fun h=>absurd h (by decide),fun h=>absurd h (by decide)⟩
    ·split at h
     ·cases h
     ·cases h;exact⟨take_len _ _,fun h=>absurd h (by decide),fun h=>absurd h (by decide),fun h=>absurd h (by decide)⟩
theorem nP: ∀(f i:Nat) (s:Bs) (out:List Tok),isOk (lexGo f i s out).2=true→ ∃L,(lexGo f i s out).1=out++L∧ ∀t∈L,t.word.length≤s.length
 | 0,_,_,out,_=>⟨[],by simp [lexGo],by simp⟩
 | _+1,_,[],out,_=>⟨[],by simp [lexGo],by simp⟩
 | f+1,i,b::r,out,h=>by
  unfold lexGo at h⊢;split at h
  ·rename_i hb;rw [if_pos hb];obtain⟨L,h1,h2⟩:=nP f _ _ _ h;exact⟨L,h1,fun t ht=>by have:=h2 t ht;simp;omega⟩
  ·rename_i hb;rw [if_neg hb];split at h
   ·rename_i h35;rw [if_pos h35];obtain⟨L,h1,h2⟩:=nP f _ _ _ h;exact⟨L,h1,fun t ht=>by have:=h2 t ht;rw [List.length_drop] at this;omega⟩
   ·rename_i h35;rw [if_neg h35];split at h
    ·rename_i e he
     exact absurd h (by
      have:=vF he
      simp [isOk,nQ,this])
    ·rename_i k wd v m ht;obtain⟨L,h1,h2⟩:=nP f _ _ _ h;refine⟨⟨k,i,wd,v⟩::L,by rw [h1];simp,fun t hm=>?_⟩
     rcases List.mem_cons.1 hm with rfl | hm
     ·exact(bCf ht).len
     ·have:=h2 t hm;rw [List.length_drop] at this;omega
theorem oR{s:Bs}(h:dS s=true):WordB s:=by
 simp only [dS,bBn,Bool.and_eq_true] at h;obtain⟨_,_,_,hf,hm⟩:=h;have hok:isOk (lexP s).2=true:=hf;unfold lexP at hok hm
 by_cases hlen:65536<s.length
 ·rw [if_pos hlen] at hok;exact absurd hok (by decide)
 ·rw [if_neg hlen] at hok hm
  cases s with
  | nil=>simp [lexGo] at hm
  | cons b r=>
   rw [gY] at hok hm
   by_cases hb:iQ b=true
   ·rw [if_pos hb] at hok hm;obtain⟨L,h1,h2⟩:=nP _ _ _ _ hok;rw [h1] at hm
    match L,hm,h2 with
    | [t],hm,h2=>
     simp only [List.nil_append,Bool.and_eq_true,beq_iff_eq] at hm;have:=h2 t (by simp);rw [hm.2] at this;simp at this;omega
   ·rw [if_neg hb] at hok hm
    by_cases h35:(b==35)=true
    ·rw [if_pos h35] at hok hm;have hp:1≤runB (· !=10) (b::r):=bAd (bHo h35);obtain⟨L,h1,h2⟩:=nP _ _ _ _ hok;rw [h1] at hm
     match L,hm,h2 with
     | [t],hm,h2=>
      simp only [List.nil_append,Bool.and_eq_true,beq_iff_eq] at hm;have:=h2 t (by simp);rw [hm.2,List.length_drop] at this;simp at this;omega
    ·rw [if_neg h35] at hok hm
     cases ht:fL (b::r) with
     | error e=>
      rw [ht] at hm;simp at hm
     | ok q=>
      obtain⟨k,wd,v,m⟩:=q;rw [ht] at hok hm;simp only at hok hm;obtain⟨L,h1,h2⟩:=nP _ _ _ _ hok;rw [h1] at hm
      have hw:k=1∧wd=b::r:=by
       cases L with
       | nil=>simpa using hm
       | cons t L=>simp at hm
      obtain⟨rfl,rfl⟩:=hw;exact(bCf ht).spell rfl rfl
def dJ.un (x:dJ):dJ:=⟨x.how,0,x.fn,x.name,x.nums⟩
def gO (l:List dJ):List dJ:=l.map dJ.un
theorem iB(a b:List dJ):gO (a++b)=gO a++gO b:=List.map_append
def OpenT:Tk:=⟨3,[40],0⟩
def CloseT:Tk:=⟨3,[41],0⟩
def fU (toks:List TokV)(k:Nat)(T:List Tk):Prop:=k≤toks.length∧(toks.drop k).map TokV.tk=T
section
variable {toks : List TokV} {k : Nat} {t : Tk} {T R : List Tk}
theorem fU.lt(h:fU toks k (t::T)):k<toks.length:=by
 rcases Nat.lt_or_ge k toks.length with h' | h'
 ·exact h'
 ·rw [fU,List.drop_of_length_le h'] at h;simp at h
theorem fU.peek(h:fU toks k (t::T)):(bP toks k).tk=t:=by
 have hk:=h.lt;rw [rJ (List.getElem?_eq_getElem hk)];have:=h.2;rw [List.drop_eq_getElem_cons hk] at this;exact(List.cons.inj this).1
theorem fU.next(h:fU toks k (t::T)):fU toks (k+1) T:=by
 have hk:=h.lt;have:=h.2;rw [List.drop_eq_getElem_cons hk] at this;exact⟨hk,(List.cons.inj this).2⟩
theorem fU.kind(h:fU toks k (t::T)):(bP toks k).kind=t.kind:=by rw [←h.peek];rfl
theorem fU.word(h:fU toks k (t::T)):(bP toks k).word=t.word:=by rw [←h.peek];rfl
theorem fU.num(h:fU toks k (t::T)):(bP toks k).n=t.n:=by rw [←h.peek];rfl
theorem fU.nil(h:fU toks k []):bP toks k=⟨4,0,[],0⟩∧k=toks.length:=by
 have e:(toks.drop k).length=0:=by
  have:=congrArg List.length h.2
  simpa using this
 rw [List.length_drop] at e;have:=h.1;exact⟨yS (by omega),by omega⟩
theorem fU.skip: ∀(T:List Tk) {k:Nat},fU toks k (T++R)→fU toks (k+T.length) R
 | [],_,h=>h
 | t::T,k,h=>by
  have:=fU.skip T (fU.next (t:=t) (T:=T++R) h);rw [List.length_cons,show k+(T.length+1)=k+1+T.length from by omega];exact this
theorem fU.kindR(h:fU toks k R){c:Int}(hc:c≠4)(hR: ∀t∈R.head?,t.kind≠c):(bP toks k).kind≠c:=by
 cases R with
 | nil=>rw [h.nil.1];exact hc.symm
 | cons t R=>rw [h.kind];exact hR t rfl
end
def Mark (t:Tk):Prop:=t.kind=3∧(t.word=[47]∨t.word=[92]∨t.word=[46])
def Ps (T:List Tk)(I:List dJ)(nest:Nat)(plain:Bool):Prop:=
 ∀{toks:List TokV} {e:Int} {r:qF} {k:Nat} {out:List dJ} {st:Stk} {o:Nat} {R:List Tk},fU toks k (T++R)→(∀t∈R.head?,t.kind≠2)→o+nest≤32→yW toks e r k out st o→
  ∃out' S,(plain=true→S=[])∧gO (out'++S)=gO I∧uG toks e r (k+T.length) (out++out') (S.map some++st) o
structure Vb (T:List Tk) (it:dJ) (two:Bool):Prop where
 head: ∃t T',T=t::T'∧t.kind≠2∧t.kind≠4∧pM t.word=true∧ ¬Mark t
 phrase: ∀{toks:List TokV} {k:Nat} {e:Int} {R:List Tk},fU toks k (T++R)→(∀t∈R.head?,¬Mark t)→isOk (bQ toks k e two).flt=true∧(bQ toks k e two).next=k+T.length∧(bQ toks k e two).it.un=it.un
def Hd (T:List Tk):Prop:= ∃t T',T=t::T'∧ ¬Mark t
theorem wU(S:List dJ)(st:Stk):jG (S.map some++st)=(S++(jG st).1,(jG st).2):=by
 induction S with
 | nil=>rfl
 | cons x S ih=>rw [List.map_cons,List.cons_append,jG,ih];rfl
theorem bMo{toks:List TokV}{R:List Tk}(hR: ∀t∈R.head?,t.kind≠2): ∀(ns:List Int) {k:Nat},fU toks k (ns.map (fun n=>(⟨2,[],n⟩:Tk))++R)→fY toks k=ns
 | [],k,h=>pL (fU.kindR (R:=R) h (by decide) hR)
 | n::ns,k,h=>by
  have h':fU toks k (⟨2,[],n⟩::(ns.map (fun n=>(⟨2,[],n⟩:Tk))++R)):=h;rw [lX h'.kind,bMo hR ns h'.next,h'.num]
theorem Ps.nums{ns:List Int}{a:Int}(h:ns≠[]):Ps (ns.map fun n=>⟨2,[],n⟩) [⟨1,a,0,[],ns⟩] 0 true:=by
 intro toks e r k out st o R hF hR _ hE;have hn:=bMo hR ns hF
 obtain⟨n,ns',rfl⟩: ∃n ns',ns=n::ns':=by
  cases ns with
  | nil=>exact absurd rfl h
  | cons n ns'=>exact⟨n,ns',rfl⟩
 have hk:(bP toks k).kind=2:=fU.kind (t:=⟨2,[],n⟩) (T:=_) hF;have:=e_num hE hk;rw [hn] at this;refine⟨[rX toks k],[],fun _=>rfl,?_,?_⟩
 ·simp [gO,rX,dJ.un,hn]
 ·rw [List.length_map];exact this
theorem Ps.name{s:Bs}{a:Int}(h:dS s=true):Ps [⟨1,s,0⟩] [⟨2,a,0,s,[]⟩] 0 true:=by
 intro toks e r k out st o R hF hR _ hE;have hF':fU toks k (⟨1,s,0⟩::R):=hF;have:=e_name hE hF'.kind (by rw [hF'.word];exact h);refine⟨[kZ toks k],[],fun _=>rfl,?_,this⟩;simp [gO,kZ,dJ.un,hF'.word]
theorem Ps.brk{T:List Tk}{I:List dJ}{n:Nat}{p:Bool}(h:Ps T I n p):Ps (OpenT::(T++[CloseT])) I (n+1) true:=by
 intro toks e r k out st o R hF hR ho hE;have hF':fU toks k (OpenT::(T++(CloseT::R))):=by simpa using hF
 have h1:=(bCg hE hF'.kind hF'.word).1 (by omega);obtain⟨out',S,_,hu,hB⟩:=h hF'.next (by simp [CloseT]) (by omega) h1
 have hc:=fU.skip T hF'.next
 have:=bFh hB (by omega) hc.kind hc.word;rw [wU] at this;refine⟨out'++S,[],fun _=>rfl,by rw [List.append_nil];exact hu,?_⟩;have e1:k+1+T.length+1=k+(OpenT::(T++[CloseT])).length:=by simp;omega
 rw [e1] at this;simp only [jG,List.append_nil,List.tail_cons,Nat.add_sub_cancel,List.append_assoc] at this;exact this
theorem Ps.mono{V T:List Tk}{I:List dJ}{it:dJ}{n:Nat}{p:Bool}(hv:Vb V it false)(hd:Hd T)(h:Ps T I n p):Ps (V++T) (I++[it]) n false:=by
 intro toks e r k out st o R hF hR ho hE;rw [List.append_assoc] at hF;obtain⟨t,V',hV,h2,h4,hvb,_⟩:=hv.head;obtain⟨u,T',hT,hm⟩:=hd;have hF':fU toks k (t::(V'++(T++R))):=by rw [hV] at hF;exact hF
 obtain⟨p1,p2,p3⟩:=hv.phrase (e:=e) hF (by rw [hT];simpa using hm);have h1:=(e_verb hE (by rw [hF'.kind];exact h2) (by rw [hF'.kind];exact h4) (by rw [hF'.word];exact hvb)).1 p1;rw [p2] at h1;obtain⟨out',S,_,hu,hB⟩:=h (fU.skip V hF) hR ho h1;refine⟨out',S++[(bQ toks k e false).it],by simp,?_,?_⟩
 ·rw [←List.append_assoc,iB,hu,iB];show gO I++[_]=_;rw [p3];rfl
 ·rw [List.length_append,←Nat.add_assoc,List.map_append,List.append_assoc];exact hB
theorem close_verb:pM [41]=false:=by decide
theorem Ps.whole{T:List Tk}{I:List dJ}{n:Nat}{p:Bool}(h:Ps T I n p)(hn:n≤32){toks:List TokV}{e:Int}{k:Nat}(hF:fU toks k T):gO (hZ toks e k).1=gO I∧(hZ toks e k).2=(0,0):=by
 have hF':fU toks k (T++[]):=by rw [List.append_nil];exact hF
 obtain⟨out',S,_,hu,hB⟩:=h hF' (by simp) (by omega) (zP (e:=e) hF.1);have:=r_end hB (by rw [(fU.skip T hF').nil.1]) (by omega);rw [wU] at this;rw [this];simp only [jG,List.append_nil,List.nil_append];exact⟨hu,trivial⟩
end Go.Proofs.YtbgdphbebhjpiaaGreatDoor
