/- Texts of one proof, one behind the other: ExprB, ShowP, ParseP, BackL, BackP. -/
import Derived.Test.YtbgdphbebhjpiaaGreatDoorM4
namespace Go.Proofs.YtbgdphbebhjpiaaGreatDoor
open Go.RowKit
def numF (it:ItemV):Fact:=bJw.sl (.slice it.nums.addr it.nums.list.length it.nums.cap) it.nums.list
def mJ (l:List ItemV):Fact:=Fact.each l numF
def tnF (st:List kV):Fact:=Fact.each st fun o=>match o with
 | none=>Fact.true
 | some x=>numF x.2
section
variable {F : List Fact} {b : Nat} {it : ItemV} {o : kV} {l : List ItemV} {st : List kV}
theorem tn_none(h:Has F (tnF st)):Has F (tnF (none::st)):=Has.each_cons Has.true h
theorem uT(h:Has F (tnF st))(hx:Has F (numF it)):Has F (tnF (some (b,it)::st)):=Has.each_cons hx h
theorem bFl(h:Has F (tnF (o::st))):Has F (tnF st):=Has.each_tail h
theorem bIt(h:Has F (mJ l))(hx:Has F (numF it)):Has F (mJ (l++[it])):=Has.each_snoc h hx
theorem sT(hn:Has F (mJ l))(h:Has F (tnF st)):Has F (mJ (l++(finP st).1)):=by
 induction st generalizing l with
 | nil=>rw [finP,List.append_nil];exact hn
 | cons o st ih=>
  cases o with
  | none=>rw [finP,List.append_nil];exact hn
  | some x=>
   have:=ih (bIt hn (fun S w k=>h S w k (some x) (List.mem_cons_self ..))) (bFl h);rw [List.append_assoc] at this;exact this
theorem bCo(h:Has F (tnF st)):Has F (tnF (finP st).2):=by
 induction st with
 | nil=>exact h
 | cons o st ih=>
  cases o with
  | none=>exact h
  | some x=>exact ih (bFl h)
end
section
variable {toks : List TokV} {e : Int} {r : uW} {k o : Nat} {out : List ItemV} {st s2 : List kV}
theorem b_num{s:Stk}(h:bAh toks e r k (out.map ItemV.it) s o)(h2:(bP toks k).kind=2){j:Nat}{cur:List Int}{C:Option Addr}{c:Nat}(hj:j=k+cur.length)(hc:gH toks k=cur):
  vG toks e r j ((out++[(⟨1,(bP toks k).at_,0,[],⟨C,c,cur⟩⟩:ItemV)]).map ItemV.it) s o:=by
 have:=e_num h h2;subst hc;subst hj;rw [List.map_append];exact this
theorem b_name{s:Stk}(h:bAh toks e r k (out.map ItemV.it) s o)(h1:(bP toks k).kind=1)(hn:dX (bP toks k).word=true):
  vG toks e r (k+1) ((out++[(⟨2,(bP toks k).at_,0,(bP toks k).word,⟨none,0,[]⟩⟩:ItemV)]).map ItemV.it) s o:=by
 rw [List.map_append];exact e_name h h1 hn
theorem b_closed(h:vG toks e r k (out.map ItemV.it) (xU st) o)(ho:0<o)(h3:(bP toks k).kind=3)(hw:(bP toks k).word=[41])(hs:(finP st).2=none::s2):
  vG toks e r (k+1) ((out++(finP st).1).map ItemV.it) (xU s2) (o-1):=by
 have h1:=b_close h ho h3 hw;rw [←(xF st).2,hs] at h1;rw [List.map_append,(xF st).1];exact h1
theorem bFp(h:vG toks e r k (out.map ItemV.it) (xU st) o)(h4:(bP toks k).kind=4)(ho: ¬0<o):r=((out++(finP st).1).map ItemV.it,(0,0)):=by
 rw [List.map_append,(xF st).1];exact r_end h h4 ho
end
theorem tA(z0:Int)(z1:Int)(s3:ByteArray):Tryz.prog.built 52 [(0,.int .i64 z0),(1,.int .i64 z1),(3,.string s3)]=some #[.int .i64 z0,.int .i64 z1,.int .u8 0,.string s3,.slice none 0 0]:=by kernel_rfl
set_option maxRecDepth 100000 in
theorem bMp(bl:Nat)(A:Option Addr)(c:Nat)(toks:List TokV)(k0:Nat)(e:Int)(hk:k0≤toks.length)(hl:toks.length≤1000)(hw: ∀k,(bP toks k).word.length≤65536):dT Tryz.prog 77 [.pointer (some ⟨bl,0,none⟩)] [.obj bl (.cells [.slice A toks.length c,.int .i64 (k0:Nat),.int .i64 e].toArray 102)] [kU.sl (.slice A toks.length c) toks,iC] (fun(x:Option Addr×Nat×List ItemV×Nat)=> .tuple #[.slice x.1 x.2.2.1.length x.2.1,.agg #[.int .i64 (lG toks e k0).2.1,.int .i64 (lG toks e k0).2.2]]) (fun(x:Option Addr×Nat×List ItemV×Nat)=>[.obj bl (.cells [.slice A toks.length c,.int .i64 (x.2.2.2:Nat),.int .i64 e].toArray 102)]) (fun(x:Option Addr×Nat×List ItemV×Nat)=>[kY.sl (.slice x.1 x.2.2.1.length x.2.1) x.2.2.1,mJ x.2.2.1,Fact.pure (x.2.2.1.map ItemV.it=(lG toks e k0).1)]):=by
 have hT:=fR;have he0:=e_start (e:=e) hk;generalize lG toks e k0=r at he0⊢;refine cU Tryz.func77 rfl Tryz.ntmps77 rfl ?_;intro β hM;refine sr<|gP rfl rfl rfl rfl rfl rfl fun b1=>?_;refine sp hT ?_;refine bY rfl rfl rfl rfl yR rfl fun b2=>?_;refine nn<|sr<|bY rfl rfl rfl rfl itemZ rfl fun b4=>?_;refine nn<|sr<|bY rfl rfl rfl rfl funcZ rfl fun b5=>?_;refine nn<|sr<|sp hT ?_;refine nn<|sr<|sp2 hT ?_;refine nn<|sr<|sp2 hT ?_;refine nn<|bX<|dR (t:=52) kY ?_;refine dR (t:=1) (fnE b4) ?_;refine bE (mJ []) (Has.each_nil) ?_;refine bE (tnF []) (Has.each_nil) ?_;refine bE (lT []) (todo_nil) ?_;refine dI (ι:=Nat×Nat×List ItemV×List kV×Option Addr×Nat×Option Addr×Nat) [(1,_),(3,_),(4,_),(5,_),(7,_),(8,_)] ⟨rfl,rfl,rfl,rfl,rfl,rfl,trivial⟩ (fun⟨k,o,out,st,C,e1,D,f⟩=>[(6,.int .i64 (o:Nat))]) (fun⟨k,o,out,st,C,e1,D,f⟩=>[.obj bl (.cells [.slice A toks.length c,.int .i64 (k:Nat),.int .i64 e].toArray 102),.obj b4 (.cells [.slice C out.length e1].toArray 47),kY.row (.slice C out.length e1) 52 out,.obj b5 (.cells [.slice D st.reverse.length f].toArray 208),(fnE b4).row (.slice D st.reverse.length f) 1 st.reverse]) (fun⟨k,o,out,st,C,e1,D,f⟩=>[Fact.pure (bAh toks e r k (out.map ItemV.it) (xU st) o∧opens st=o∧o≤32∧out.length+st.length≤k∧k≤toks.length),lT st,tnF st,mJ out]) (fun⟨k,o,out,st,C,e1,D,f⟩=>toks.length-k) (k0,0,[],[],none,0,none,0) ⟨rfl,trivial⟩ (.cons kT6 (.cons kT3 (.cons kT1 (.cons kT1 (.cons .head .nil))))) ⟨Has.pure (⟨he0,rfl,by omega,by simp,hk⟩),Has.of mT0,Has.of mT1,Has.of mT2,trivial⟩ ?_;rintro⟨k,o,out,st,C,e1,D,f⟩;dsimp only;refine bR (Has.of mT0) fun hinv6=>?_;refine bX<|sr<|ss (ldO hT (bJ kT6)) ?_;refine bQ Tryz.func73 (iA bl A c toks (k) e) rfl rfl (.cons .head .nil) ⟨Has.of mT7,trivial⟩ fun _=>?_;refine bY rfl rfl rfl rfl wP rfl fun b3=>?_;refine sto hT .head ?_;refine nn<|bB<|bX<|sr<|sp hT ?_;refine ss (ldO hT (bJ .head)) ?_;refine sp2 hT ?_;refine cF (fun hg23=>?_) (fun hg23=>?_)
 ·have hg23:=bne_iff_ne.1 hg23;refine sp hT ?_;refine ss (ldO hT (bJ .head)) ?_;refine sp3 hT ?_;refine cF (fun hg28=>?_) (fun hg28=>?_)
  ·have hg28:=bne_iff_ne.1 hg28;refine sp hT ?_;refine ss (ldO hT (dJ .head)) ?_;refine bQ Tryz.func135 (nN _) rfl rfl .nil trivial fun _=>?_;refine sp2 hT ?_;refine nn<|bK rfl (fun hc19=>?_) (fun hc19=>?_)
   ·refine bB<|sr<|sp hT ?_;refine gL (cR Tryz.func137 rfl rfl) (laterF_spec bl A c toks (k) e b1 b5 b4 _ _ st (by omega) (by omega)) rfl rfl rfl rfl rfl rfl rfl (.cons kT1 (.cons kT6 (.cons kT3 (.cons kT3 .nil)))) ⟨(Has.of mT7),(Has.of mT1),trivial⟩ fun⟨⟨A4,c5⟩,b6⟩=>?_;refine bE (tnF (some (b6,(qG (bS toks (k) e false)))::st)) (uT (Has.of mT3) dM) ?_;refine bY rfl rfl rfl rfl yR rfl fun b7=>?_;refine sto hT .head ?_;refine nn<|sr<|ss (ldN hT (bJ .head)) ?_;refine ss (cC rfl rfl (wM)) ?_;refine ss (fQ ⟨(bS toks (k) e false).flt.1,(bS toks (k) e false).flt.2⟩ ⟨0,0⟩ rfl rfl rfl) ?_;refine nn<|bK rfl (fun hc37=>?_) (fun hc37=>?_)
    ·have hc37:=fV hc37;refine bB<|cZ _ _ [(true,0),(true,1),(false,2)] dD (by decide+kernel) (.cons .head (.cons .head (.cons .head (.cons .head (.cons .head (.cons .head (.cons .head (.cons .head .nil)))))))) bI.self ?_;refine stM rfl (ldN hT (bJ .head)) ?_;refine puM hT ?_;refine cL (o:=_) rfl ?_;refine sto hT kT8 ?_;refine cK (.cons kT1 (.cons kT1 (.cons kT1 (.cons kT1 (.cons kT1 (.cons kT1 (.cons kT1 (.cons kT1 .nil)))))))) (bI.drop 0) ?_;refine cN<|bC<|bG<|bA<|bH<|bA<|bH<|bA<|bH ?_;have hr:=(e_verb hinv6.1 ‹_› ‹_› ‹_›).2 hc37;subst hr;exact bO (none,0,[],_) rfl (bF rfl) (bL hT (bJ .head) rfl rfl rfl rfl) (.cons kT2 .nil) ⟨dM,Has.each_nil,Has.pure rfl,trivial⟩ rfl
    have hc37:=fP hc37;have he:=(e_verb hinv6.1 ‹_› ‹_› ‹_›).1 hc37;refine bN<|bC<|dC<|bJb rfl ?_;refine cM<|dB<|bC ?_;exact cO ((bS toks (k) e false).next,o,out,(some (b6,(qG (bS toks (k) e false)))::st),_,_,_,_) (by have:=he.1;first | (have:=dQ toks k e false;dsimp only;omega) | (have:=dQ toks k e true;dsimp only;omega)) ⟨rfl,trivial⟩ ⟨rfl,rfl,rfl,rfl,rfl,rfl,trivial⟩ (.cons kT1 (.cons kT5 (.cons kT5 (.cons kT2 (.cons kT2 (.cons kT3 (.cons kT1 .nil))))))) ⟨Has.pure (⟨he,hinv6.2.1,hinv6.2.2.1,by have:=dQ toks k e false;first | omega | (simp;omega),he.1⟩),Has.of mT1,Has.of mT0,Has.of mT5,trivial⟩ (bI.drop 6)
   refine sr<|sp hT ?_;refine ss (ldO hT (bJ .head)) ?_;refine sp2 hT ?_;refine cF (fun hg43=>?_) (fun hg43=>?_)
   ·have hg43:=eq_of_beq hg43;refine sp hT ?_;refine ss (ldO hT (dJ .head)) ?_;refine sp3 hT ?_;refine nn<|bK rfl (fun hc39=>?_) (fun hc39=>?_)
    ·have hc39:(bP toks (k)).word=([40]:Bs):=eq_of_beq hc39;refine bB<|sr<|sp2 hT ?_;refine nn<|bK rfl (fun hc49=>?_) (fun hc49=>?_)
     ·have hc49:=eq_of_beq hc49;refine sr<|ss (ldO hT (bJ kT7)) ?_;refine bQ Tryz.func74 (cW bl A c toks (k) e _) rfl rfl (.cons kT1 .nil) ⟨Has.of mT7,trivial⟩ fun _=>?_;refine sp hT ?_;refine sto hT kT6 ?_;refine nn<|bG<|bA<|bH<|bA<|bH<|bA<|bH ?_;have hr:=(e_open hinv6.1 ‹_› ‹_›).2 (by omega);subst hr;exact bO (none,0,[],_) rfl (bF rfl) (bL hT (bJ .head) rfl rfl rfl rfl) (.cons kT1 .nil) ⟨dM,Has.each_nil,Has.pure rfl,trivial⟩ rfl
     have hc49:=beq_eq_false_iff_ne.1 hc49;have he:=(e_open hinv6.1 ‹_› ‹_›).1 (by omega);refine bN<|bC<|sr<|sp2 hT ?_;refine bT (z':=(((o+1):Nat):Int)) (cQ (by omega) (by omega)) ?_;refine sp hT ?_;refine nn<|sr<|ss (ldO hT (bJ kT7)) ?_;refine sp2 hT ?_;refine ss (ldO hT (fN kT1)) ?_;refine sp hT ?_;refine bT (z':=(((k+1):Nat):Int)) (cQ (by omega) (by omega)) ?_;refine sp2 hT ?_;refine sto hT kT1 ?_;refine nn<|sr<|ss (ldO hT (bJ kT4)) ?_;refine bCb (b4:=b4) (m:=(none:kV)) rfl rfl rfl rfl rfl fun b8=>?_;refine bBo kT6 (dE .head rfl) rfl rfl rfl rfl rfl rfl rfl (by simp only [List.length_singleton,List.length_reverse];omega) fun A9 c10=>?_;rw [←List.reverse_cons];refine bE (lT (none::st)) (todo_none (Has.of mT1)) ?_;refine bE (tnF (none::st)) (tn_none (Has.of mT3)) ?_;refine sto hT kT6 ?_;refine nn<|dC<|bJb rfl ?_;refine cM<|dB<|bC ?_;exact cO ((k+1),(o+1),out,(none::st),_,_,_,_) (by have:=he.1;first | (have:=dQ toks k e false;dsimp only;omega) | (have:=dQ toks k e true;dsimp only;omega)) ⟨rfl,trivial⟩ ⟨rfl,rfl,rfl,rfl,rfl,rfl,trivial⟩ (.cons kT3 (.cons kT4 (.cons kT4 (.cons .head (.cons .head (.cons kT2 (.cons kT2 .nil))))))) ⟨Has.pure (⟨he,by show opens st+1=_;rw [hinv6.2.1],by dsimp only;omega,by first | omega | (simp;omega),he.1⟩),Has.of mT1,Has.of mT0,Has.of mT5,trivial⟩ (bI.drop 6)
    have hc39:(bP toks (k)).word≠([40]:Bs):=fun h=>absurd (beq_iff_eq.2 h) (by rw [show((bP toks (k)).word==([40]:Bs))=false from hc39];simp);refine sr<|sp hT ?_;refine ss (ldO hT (bJ .head)) ?_;refine sp hT ?_;refine cA (t':=false) (by rw [hg43];rfl) ?_;refine sp hT ?_;refine nn<|cG rfl rfl ?_;refine sr<|sp hT ?_;refine ss (ldO hT (bJ .head)) ?_;refine sp hT ?_;refine cA (t':=false) (by rw [hg43];rfl) ?_;refine sp hT ?_;refine sk3 ?_;refine sp2 hT ?_;refine nn<|cG rfl rfl ?_;refine sr<|sp hT ?_;refine ss (ldO hT (bJ .head)) ?_;refine sp hT ?_;refine cA (t':=false) (by rw [hg43];rfl) ?_;refine sp hT ?_;refine nn<|cG rfl rfl ?_;refine sr<|ss (ldO hT (bJ kT7)) ?_;refine bQ Tryz.func74 (cW bl A c toks (k) e _) rfl rfl (.cons kT1 .nil) ⟨Has.of mT7,trivial⟩ fun _=>?_;refine sp hT ?_;refine sto hT kT6 ?_;refine nn<|bG<|bH<|bA<|bH<|bA<|bH ?_;have hr:=e_want hinv6.1 (by omega) (by omega) (by first | exact .inl ‹_› | exact .inr ‹_›) (by first | exact .inr ‹_› | exact .inl (by omega));subst hr;exact bO (none,0,[],_) rfl (bF rfl) (bL hT (bJ .head) rfl rfl rfl rfl) (.cons kT1 .nil) ⟨dM,Has.each_nil,Has.pure rfl,trivial⟩ rfl
   have hg43:=beq_eq_false_iff_ne.1 hg43;refine sk3 ?_;refine sp2 hT ?_;refine nn<|cG rfl rfl ?_;refine sr<|sp hT ?_;refine ss (ldO hT (bJ .head)) ?_;refine sp hT ?_;refine cA (t':=false) (beq_eq_false_iff_ne.2 hg23) ?_;refine sp hT ?_;refine nn<|cG rfl rfl ?_;refine sr<|sp hT ?_;refine ss (ldO hT (bJ .head)) ?_;refine sp2 hT ?_;refine cF (fun hg98=>?_) (fun hg98=>?_)
   ·have hg98:=eq_of_beq hg98;refine sp hT ?_;refine ss (ldO hT (dJ .head)) ?_;refine bQ Tryz.func76 (mD _ (by have:=hw k;omega)) rfl rfl .nil ⟨Has.of mT8,trivial⟩ fun _=>?_;refine sp2 hT ?_;refine nn<|bK rfl (fun hc94=>?_) (fun hc94=>?_)
    ·refine bB ?_;have hbi:=b_name hinv6.1 ‹_› ‹_›;refine bD<|ss (ldO hT (bJ kT2)) ?_;refine sp hT ?_;refine ss (ldO hT (fN .head)) ?_;refine sp hT ?_;refine ss (ldO hT (dJ .head)) ?_;refine ss (cC rfl rfl (tA _ _ _)) ?_;refine vP (m:=(⟨2,(bP toks k).at_,0,(bP toks k).word,⟨none,0,[]⟩⟩:ItemV)) rfl rfl rfl rfl rfl fun b11=>?_;refine vM kT4 (dE .head rfl) rfl rfl rfl rfl rfl rfl rfl (by simp only [List.length_singleton];omega) fun A12 c13=>?_;refine bE (mJ (out++[(⟨2,(bP toks k).at_,0,(bP toks k).word,⟨none,0,[]⟩⟩:ItemV)])) (bIt (Has.of mT3) dM) ?_;refine sto hT kT4 ?_;refine nn<|bD<|ss (ldO hT (bJ kT8)) ?_;refine sp2 hT ?_;refine ss (ldO hT (fN kT4)) ?_;refine sp hT ?_;refine bT (z':=(((k+1):Nat):Int)) (cQ (by omega) (by omega)) ?_;refine sp2 hT ?_;refine sto hT kT4 ?_;refine dY<|cD<|bC<|bB<|sr<|ss (ldO hT (bJ kT8)) ?_;refine bQ Tryz.func73 (iA bl A c toks ((k+1)) e) rfl rfl (.cons .head .nil) ⟨Has.of mT8,trivial⟩ fun _=>?_;refine sto hT kT4 ?_;refine nn<|bX ?_
     obtain⟨kk,hkk⟩: ∃kk,kk=k:=⟨_,rfl⟩
     refine dI (ι:=Nat×Nat×List ItemV×List kV×Option Addr×Nat×Option Addr×Nat) [(1,_),(3,_),(4,_),(5,_),(7,_),(8,_),(9,_),(24,_),(25,_),(26,_),(29,_),(30,_),(31,_),(44,_),(45,_),(46,_),(99,_),(100,_),(101,_)] ⟨rfl,rfl,rfl,rfl,rfl,rfl,rfl,rfl,rfl,rfl,rfl,rfl,rfl,rfl,rfl,rfl,rfl,rfl,rfl,trivial⟩ (fun⟨k,o,out,st,C,e1,D,f⟩=>[(6,.int .i64 (o:Nat))]) (fun⟨k,o,out,st,C,e1,D,f⟩=>[.obj bl (.cells [.slice A toks.length c,.int .i64 (k:Nat),.int .i64 e].toArray 102),.obj b4 (.cells [.slice C out.length e1].toArray 47),kY.row (.slice C out.length e1) 52 out,.obj b5 (.cells [.slice D st.reverse.length f].toArray 208),(fnE b4).row (.slice D st.reverse.length f) 1 st.reverse,.obj b3 (.cells [.int .i64 (bP toks k).kind,.int .i64 (bP toks k).at_,.string (bs (bP toks k).word),.int .i64 (bP toks k).n].toArray 104)]) (fun⟨k,o,out,st,C,e1,D,f⟩=>[Fact.pure (vG toks e r k (out.map ItemV.it) (xU st) o∧opens st=o∧o≤32∧out.length+st.length≤k∧k≤toks.length∧kk<k),lT st,tnF st,mJ out]) (fun⟨k,o,out,st,C,e1,D,f⟩=>toks.length-k) ((k+1),o,(out++[(⟨2,(bP toks k).at_,0,(bP toks k).word,⟨none,0,[]⟩⟩:ItemV)]),st,_,_,_,_) ⟨rfl,trivial⟩ (.cons kT1 (.cons kT1 (.cons kT1 (.cons kT2 (.cons kT2 (.cons .head .nil)))))) ⟨Has.pure (⟨hbi,hinv6.2.1,hinv6.2.2.1,by first | omega | (simp;omega),hbi.1,by omega⟩),Has.of mT2,Has.of mT3,Has.of mT0,trivial⟩ ?_;rintro⟨k,o,out,st,C,e1,D,f⟩;dsimp only;refine bR (Has.of mT0) fun hinv30=>?_;refine bB<|sr<|sp3 hT ?_;refine cF (fun hg128=>?_) (fun hg128=>?_)
     ·have hg128:=of_decide_eq_true hg128;refine sp hT ?_;refine ss (ldO hT (bJ kT5)) ?_;refine sp3 hT ?_;refine cF (fun hg133=>?_) (fun hg133=>?_)
      ·have hg133:=eq_of_beq hg133;refine sp hT ?_;refine ss (ldO hT (dJ kT5)) ?_;refine sp2 hT ?_;refine nn<|bK rfl (fun hc137=>?_) (fun hc137=>?_)
       ·have hc137:(bP toks k).word=([41]:Bs):=eq_of_beq hc137;refine bN<|bC<|bB<|bX<|sr<|sp hT ?_;refine gL (cR Tryz.func136 rfl rfl) (nM b5 b4 _ _ st _ _ out (by omega)) rfl rfl rfl rfl rfl rfl rfl (.cons kT3 (.cons kT3 (.cons kT1 (.cons kT1 .nil)))) ⟨(Has.of mT1),trivial⟩ fun⟨⟨D14,f15⟩,⟨C16,e17⟩⟩=>?_;refine bE (mJ (out++(finP st).1)) (sT (Has.of mT4) (Has.of mT3)) ?_;refine bE (tnF (finP st).2) (bCo (Has.of mT4)) ?_;have hfl:=tP st;obtain⟨s2,hs2,ho2⟩:=fin_open (st:=st) (by omega);have hb2:=b_closed hinv30.1 (by omega) ‹_› ‹_› hs2;rw [hs2] at hfl⊢;simp only [List.length_cons] at hfl;refine bE (lT s2) (bCj (Has.of mT2)) ?_;refine bE (tnF s2) (bFl (Has.of mT1)) ?_;refine nn<|sr<|ss (ldO hT (bJ .head)) ?_;refine ss (ldO hT (bJ .head)) ?_;refine sp hT ?_;refine bT (z':=(((s2.length+1):Nat):Int)) (congrArg Nat.cast (jP _ s2)) ?_;refine sp hT ?_;refine bT (z':=((((s2.length+1)-1):Nat):Int)) (cQ (by omega) (by omega)) ?_;refine iW hT (k:=((s2.length+1)-1)) kT1 rfl rfl rfl rfl rfl rfl rfl rfl rfl (by rw [jP];omega) ?_;rw [bCx];refine sto hT kT1 ?_;refine nn<|sr<|sp2 hT ?_;refine bT (z':=(((o-1):Nat):Int)) (cQ (by omega) (by omega)) ?_;refine sp hT ?_;refine nn<|bD<|ss (ldO hT (bJ kT8)) ?_;refine sp2 hT ?_;refine ss (ldO hT (fN kT4)) ?_;refine sp hT ?_;refine bT (z':=(((k+1):Nat):Int)) (cQ (by omega) (by omega)) ?_;refine sp2 hT ?_;refine sto hT kT4 ?_;refine dY<|cD<|bC<|bD<|ss (ldO hT (bJ kT8)) ?_;refine bQ Tryz.func73 (iA bl A c toks ((k+1)) e) rfl rfl (.cons .head .nil) ⟨Has.of (.tail _ (.tail _ (.tail _ (.tail _ (.tail _ (.tail _ (.tail _ (.tail _ (.tail _ (.tail _ (.tail _ (.tail _ (.tail _ (.tail _ (.tail _ (.tail _ (.tail _ mT0))))))))))))))))),trivial⟩ fun _=>?_;refine sto hT kT5 ?_;refine nn ?_;exact cO ((k+1),(o-1),(out++(finP st).1),s2,_,_,_,_) (by have:=hb2.1;dsimp only;omega) ⟨rfl,trivial⟩ ⟨rfl,rfl,rfl,rfl,rfl,rfl,rfl,rfl,rfl,rfl,rfl,rfl,rfl,rfl,rfl,rfl,rfl,rfl,rfl,trivial⟩ (.cons kT1 (.cons kT3 (.cons kT3 (.cons kT1 (.cons kT1 (.cons .head (.cons .head (.cons .head (.cons .head .nil))))))))) ⟨Has.pure (⟨hb2,by dsimp only;omega,by dsimp only;omega,by first | omega | (simp;omega),hb2.1,by dsimp only;omega⟩),Has.of mT1,Has.of mT0,Has.of mT3,trivial⟩ (bI.drop 9)
       have hc137:(bP toks k).word≠([41]:Bs):=fun h=>absurd (beq_iff_eq.2 h) (by rw [show((bP toks k).word==([41]:Bs))=false from hc137];simp);refine dC<|cM<|cM<|dB<|bC<|bB<|bX<|sr<|sp hT ?_;refine ss (ldO hT (bJ kT5)) ?_;refine sp hT ?_;refine cA (t':=false) (by rw [hg133];rfl) ?_;refine sp hT ?_;refine sk2 ?_;refine sp2 hT ?_;refine nn<|cG rfl rfl ?_;refine sr<|sp hT ?_;refine ss (ldO hT (bJ kT5)) ?_;refine sp hT ?_;refine cA (t':=false) (by rw [hg133];rfl) ?_;refine sp hT ?_;refine nn<|cG rfl rfl ?_;refine sr<|sp hT ?_;refine ss (ldO hT (bJ kT5)) ?_;refine sp hT ?_;refine cA (t':=false) (by rw [hg133];rfl) ?_;refine sp2 hT ?_;refine ss (ldO hT (dJ kT5)) ?_;refine bQ Tryz.func135 (nN _) rfl rfl .nil trivial fun _=>?_;refine sp3 hT ?_;refine nn<|bK rfl (fun hc174=>?_) (fun hc174=>?_)
       ·have hc174:=fV hc174;refine sr<|ss (ldO hT (bJ kT8)) ?_;refine bQ Tryz.func74 (cW bl A c toks (k) e _) rfl rfl (.cons .head .nil) ⟨Has.of lC,trivial⟩ fun _=>?_;refine sp hT ?_;refine sto hT kT7 ?_;refine nn<|bG<|bH<|bA<|bH<|bA<|bH ?_;have hr:=sO hinv30.1 (by first | exact .inl (by omega) | exact .inr (.inl ‹_›) | exact .inr (.inr ‹_›)) (by omega) (by first | exact .inr ‹_› | exact .inl (by omega));subst hr;exact bO (none,0,[],_) rfl (bF rfl) (bL hT (bJ .head) rfl rfl rfl rfl) (.cons kT1 .nil) ⟨dM,Has.each_nil,Has.pure rfl,trivial⟩ rfl
       have hc174:=fP hc174;refine bN<|cD<|bC<|sr<|sp hT ?_;refine gL (cR Tryz.func137 rfl rfl) (nJ bl A c toks (k) e b1 b5 b4 _ _ st (by omega) (by omega)) rfl rfl rfl rfl rfl rfl rfl (.cons .head (.cons kT7 (.cons kT2 (.cons kT2 .nil)))) ⟨(Has.of lC),(Has.of mT1),trivial⟩ fun⟨⟨A18,c19⟩,b20⟩=>?_;refine bE (tnF (some (b20,(qG (bS toks (k) e true)))::st)) (uT (Has.of mT3) dM) ?_;refine bY rfl rfl rfl rfl yR rfl fun b21=>?_;refine sto hT .head ?_;refine nn<|sr<|ss (ldN hT (bJ .head)) ?_;refine ss (cC rfl rfl (wM)) ?_;refine ss (fQ ⟨(bS toks (k) e true).flt.1,(bS toks (k) e true).flt.2⟩ ⟨0,0⟩ rfl rfl rfl) ?_;refine nn<|bK rfl (fun hc190=>?_) (fun hc190=>?_)
       ·have hc190:=fV hc190;refine bB<|cZ _ _ [(true,0),(true,1),(false,2)] dD (by decide+kernel) (.cons .head (.cons .head (.cons .head (.cons .head (.cons .head (.cons .head (.cons .head (.cons .head (.cons .head .nil))))))))) bI.self ?_;refine stM rfl (ldN hT (bJ .head)) ?_;refine puM hT ?_;refine cL (o:=_) rfl ?_;refine sto hT kT9 ?_;refine cK (.cons kT1 (.cons kT1 (.cons kT1 (.cons kT1 (.cons kT1 (.cons kT1 (.cons kT1 (.cons kT1 (.cons kT1 .nil))))))))) (bI.drop 0) ?_;refine cN<|bC<|bG<|bH<|bA<|bH ?_;have hr:=(oY hinv30.1 (by first | exact .inl (by omega) | exact .inr (.inl ‹_›) | exact .inr (.inr ‹_›)) (by omega) (by omega) ‹_›).2 hc190;subst hr;exact bO (none,0,[],_) rfl (bF rfl) (bL hT (bJ .head) rfl rfl rfl rfl) (.cons kT2 .nil) ⟨dM,Has.each_nil,Has.pure rfl,trivial⟩ rfl
       have hc190:=fP hc190;have he:=(oY hinv30.1 (by first | exact .inl (by omega) | exact .inr (.inl ‹_›) | exact .inr (.inr ‹_›)) (by omega) (by omega) ‹_›).1 hc190;refine bN<|cD<|bC ?_;exact cO ((bS toks (k) e true).next,o,out,(some (b20,(qG (bS toks (k) e true)))::st),_,_,_,_) (by have:=he.1;first | (have:=dQ toks k e false;dsimp only;omega) | (have:=dQ toks k e true;dsimp only;omega)) ⟨rfl,trivial⟩ ⟨rfl,rfl,rfl,rfl,rfl,rfl,trivial⟩ (.cons kT1 (.cons kT4 (.cons kT4 (.cons kT2 (.cons kT2 (.cons kT4 (.cons kT1 .nil))))))) ⟨Has.pure (⟨he,hinv30.2.1,hinv30.2.2.1,by have:=dQ toks k e true;first | omega | (simp;omega),he.1⟩),Has.of mT1,Has.of mT0,Has.of mT5,trivial⟩ (bI.drop 11)
      have hg133:=beq_eq_false_iff_ne.1 hg133;refine sk3 ?_;refine sp hT ?_;refine nn<|cG rfl rfl ?_;refine dC<|cM<|cM<|dB<|bC<|bB<|bX<|sr<|sp hT ?_;refine ss (ldO hT (bJ kT5)) ?_;refine sp2 hT ?_;refine cF (fun hg160=>?_) (fun hg160=>?_)
      ·have hg160:=eq_of_beq hg160;refine sp4 hT ?_;refine nn<|bK rfl (fun hc156=>?_) (fun hc156=>?_)
       ·have hc156:=of_decide_eq_true hc156;refine sr<|ss (ldO hT (bJ kT8)) ?_;refine bQ Tryz.func74 (cW bl A c toks (k) e _) rfl rfl (.cons .head .nil) ⟨Has.of lC,trivial⟩ fun _=>?_;refine sp hT ?_;refine sto hT kT7 ?_;refine nn<|bG<|bH<|bA<|bH<|bA<|bH ?_;have hr:=r_open hinv30.1 ‹_› (by omega);subst hr;exact bO (none,0,[],_) rfl (bF rfl) (bL hT (bJ .head) rfl rfl rfl rfl) (.cons kT1 .nil) ⟨dM,Has.each_nil,Has.pure rfl,trivial⟩ rfl
       have hc156:=Int.not_lt.1 (of_decide_eq_false hc156);refine sr<|sp hT ?_;refine ss (ldO hT (bJ kT5)) ?_;refine sp hT ?_;refine cA (t':=true) (by rw [hg160];rfl) ?_;refine sp hT ?_;refine nn<|cH rfl rfl ?_;refine sr<|sp hT ?_;refine gL (cR Tryz.func136 rfl rfl) (nM b5 b4 _ _ st _ _ out (by omega)) rfl rfl rfl rfl rfl rfl rfl (.cons kT3 (.cons kT3 (.cons kT1 (.cons kT1 .nil)))) ⟨(Has.of mT1),trivial⟩ fun⟨⟨D22,f23⟩,⟨C24,e25⟩⟩=>?_;refine bE (mJ (out++(finP st).1)) (sT (Has.of mT4) (Has.of mT3)) ?_;refine bE (tnF (finP st).2) (bCo (Has.of mT4)) ?_;have hfl:=tP st;refine nn<|sr<|ss (ldO hT (bJ kT2)) ?_;refine ss (cC rfl rfl (wM)) ?_;refine sp hT ?_;refine sto hT kT7 ?_;refine nn<|bG<|bH<|bA<|bH<|bA<|bH ?_;have hr:=bFp hinv30.1 ‹_› (by omega);subst hr;refine cS kT4 ?_;exact bO (_,_,(out++(finP st).1),_) rfl (bF rfl) (bL hT (bJ .head) rfl rfl rfl rfl) (.cons kT4 .nil) ⟨Has.of mT0,(Has.of mT2),Has.pure rfl,trivial⟩ rfl
      have hg160:=beq_eq_false_iff_ne.1 hg160;refine sk2 ?_;refine sp2 hT ?_;refine nn<|cG rfl rfl ?_;refine sr<|sp hT ?_;refine ss (ldO hT (bJ kT5)) ?_;refine sp hT ?_;refine cA (t':=false) (beq_eq_false_iff_ne.2 hg160) ?_;refine sp hT ?_;refine nn<|cG rfl rfl ?_;refine sr<|sp hT ?_;refine ss (ldO hT (bJ kT5)) ?_;refine sp2 hT ?_;refine cF (fun hg178=>?_) (fun hg178=>?_)
      ·have hg178:=eq_of_beq hg178;refine sk4 ?_;refine sp2 hT ?_;refine nn<|cH rfl rfl ?_;refine sr<|ss (ldO hT (bJ kT8)) ?_;refine bQ Tryz.func74 (cW bl A c toks (k) e _) rfl rfl (.cons .head .nil) ⟨Has.of lC,trivial⟩ fun _=>?_;refine sp hT ?_;refine sto hT kT7 ?_;refine nn<|bG<|bH<|bA<|bH<|bA<|bH ?_;have hr:=sO hinv30.1 (by first | exact .inl (by omega) | exact .inr (.inl ‹_›) | exact .inr (.inr ‹_›)) (by omega) (by first | exact .inr ‹_› | exact .inl (by omega));subst hr;exact bO (none,0,[],_) rfl (bF rfl) (bL hT (bJ .head) rfl rfl rfl rfl) (.cons kT1 .nil) ⟨dM,Has.each_nil,Has.pure rfl,trivial⟩ rfl
      have hg178:=beq_eq_false_iff_ne.1 hg178;refine sp hT ?_;refine ss (ldO hT (dJ kT5)) ?_;refine bQ Tryz.func135 (nN _) rfl rfl .nil trivial fun _=>?_;refine sp3 hT ?_;refine nn<|bK rfl (fun hc174=>?_) (fun hc174=>?_)
      ·have hc174:=fV hc174;refine sr<|ss (ldO hT (bJ kT8)) ?_;refine bQ Tryz.func74 (cW bl A c toks (k) e _) rfl rfl (.cons .head .nil) ⟨Has.of lC,trivial⟩ fun _=>?_;refine sp hT ?_;refine sto hT kT7 ?_;refine nn<|bG<|bH<|bA<|bH<|bA<|bH ?_;have hr:=sO hinv30.1 (by first | exact .inl (by omega) | exact .inr (.inl ‹_›) | exact .inr (.inr ‹_›)) (by omega) (by first | exact .inr ‹_› | exact .inl (by omega));subst hr;exact bO (none,0,[],_) rfl (bF rfl) (bL hT (bJ .head) rfl rfl rfl rfl) (.cons kT1 .nil) ⟨dM,Has.each_nil,Has.pure rfl,trivial⟩ rfl
      have hc174:=fP hc174;refine bN<|cD<|bC<|sr<|sp hT ?_;refine gL (cR Tryz.func137 rfl rfl) (nJ bl A c toks (k) e b1 b5 b4 _ _ st (by omega) (by omega)) rfl rfl rfl rfl rfl rfl rfl (.cons .head (.cons kT7 (.cons kT2 (.cons kT2 .nil)))) ⟨(Has.of lC),(Has.of mT1),trivial⟩ fun⟨⟨A26,c27⟩,b28⟩=>?_;refine bE (tnF (some (b28,(qG (bS toks (k) e true)))::st)) (uT (Has.of mT3) dM) ?_;refine bY rfl rfl rfl rfl yR rfl fun b29=>?_;refine sto hT .head ?_;refine nn<|sr<|ss (ldN hT (bJ .head)) ?_;refine ss (cC rfl rfl (wM)) ?_;refine ss (fQ ⟨(bS toks (k) e true).flt.1,(bS toks (k) e true).flt.2⟩ ⟨0,0⟩ rfl rfl rfl) ?_;refine nn<|bK rfl (fun hc190=>?_) (fun hc190=>?_)
      ·have hc190:=fV hc190;refine bB<|cZ _ _ [(true,0),(true,1),(false,2)] dD (by decide+kernel) (.cons .head (.cons .head (.cons .head (.cons .head (.cons .head (.cons .head (.cons .head (.cons .head (.cons .head .nil))))))))) bI.self ?_;refine stM rfl (ldN hT (bJ .head)) ?_;refine puM hT ?_;refine cL (o:=_) rfl ?_;refine sto hT kT9 ?_;refine cK (.cons kT1 (.cons kT1 (.cons kT1 (.cons kT1 (.cons kT1 (.cons kT1 (.cons kT1 (.cons kT1 (.cons kT1 .nil))))))))) (bI.drop 0) ?_;refine cN<|bC<|bG<|bH<|bA<|bH ?_;have hr:=(oY hinv30.1 (by first | exact .inl (by omega) | exact .inr (.inl ‹_›) | exact .inr (.inr ‹_›)) (by omega) (by omega) ‹_›).2 hc190;subst hr;exact bO (none,0,[],_) rfl (bF rfl) (bL hT (bJ .head) rfl rfl rfl rfl) (.cons kT2 .nil) ⟨dM,Has.each_nil,Has.pure rfl,trivial⟩ rfl
      have hc190:=fP hc190;have he:=(oY hinv30.1 (by first | exact .inl (by omega) | exact .inr (.inl ‹_›) | exact .inr (.inr ‹_›)) (by omega) (by omega) ‹_›).1 hc190;refine bN<|cD<|bC ?_;exact cO ((bS toks (k) e true).next,o,out,(some (b28,(qG (bS toks (k) e true)))::st),_,_,_,_) (by have:=he.1;first | (have:=dQ toks k e false;dsimp only;omega) | (have:=dQ toks k e true;dsimp only;omega)) ⟨rfl,trivial⟩ ⟨rfl,rfl,rfl,rfl,rfl,rfl,trivial⟩ (.cons kT1 (.cons kT4 (.cons kT4 (.cons kT2 (.cons kT2 (.cons kT4 (.cons kT1 .nil))))))) ⟨Has.pure (⟨he,hinv30.2.1,hinv30.2.2.1,by have:=dQ toks k e true;first | omega | (simp;omega),he.1⟩),Has.of mT1,Has.of mT0,Has.of mT5,trivial⟩ (bI.drop 11)
     have hg128:=Int.not_lt.1 (of_decide_eq_false hg128);refine sk3 ?_;refine sp2 hT ?_;refine sk3 ?_;refine sp hT ?_;refine nn<|cG rfl rfl ?_;refine dC<|cM<|cM<|dB<|bC<|bB<|bX<|sr<|sp hT ?_;refine ss (ldO hT (bJ kT5)) ?_;refine sp2 hT ?_;refine cF (fun hg160=>?_) (fun hg160=>?_)
     ·have hg160:=eq_of_beq hg160;refine sp4 hT ?_;refine nn<|bK rfl (fun hc156=>?_) (fun hc156=>?_)
      ·have hc156:=of_decide_eq_true hc156;refine sr<|ss (ldO hT (bJ kT8)) ?_;refine bQ Tryz.func74 (cW bl A c toks (k) e _) rfl rfl (.cons .head .nil) ⟨Has.of lC,trivial⟩ fun _=>?_;refine sp hT ?_;refine sto hT kT7 ?_;refine nn<|bG<|bH<|bA<|bH<|bA<|bH ?_;have hr:=r_open hinv30.1 ‹_› (by omega);subst hr;exact bO (none,0,[],_) rfl (bF rfl) (bL hT (bJ .head) rfl rfl rfl rfl) (.cons kT1 .nil) ⟨dM,Has.each_nil,Has.pure rfl,trivial⟩ rfl
      have hc156:=Int.not_lt.1 (of_decide_eq_false hc156);refine sr<|sp hT ?_;refine ss (ldO hT (bJ kT5)) ?_;refine sp hT ?_;refine cA (t':=true) (by rw [hg160];rfl) ?_;refine sp hT ?_;refine nn<|cH rfl rfl ?_;refine sr<|sp hT ?_;refine gL (cR Tryz.func136 rfl rfl) (nM b5 b4 _ _ st _ _ out (by omega)) rfl rfl rfl rfl rfl rfl rfl (.cons kT3 (.cons kT3 (.cons kT1 (.cons kT1 .nil)))) ⟨(Has.of mT1),trivial⟩ fun⟨⟨D30,f31⟩,⟨C32,e33⟩⟩=>?_;refine bE (mJ (out++(finP st).1)) (sT (Has.of mT4) (Has.of mT3)) ?_;refine bE (tnF (finP st).2) (bCo (Has.of mT4)) ?_;have hfl:=tP st;refine nn<|sr<|ss (ldO hT (bJ kT2)) ?_;refine ss (cC rfl rfl (wM)) ?_;refine sp hT ?_;refine sto hT kT7 ?_;refine nn<|bG<|bH<|bA<|bH<|bA<|bH ?_;have hr:=bFp hinv30.1 ‹_› (by omega);subst hr;refine cS kT4 ?_;exact bO (_,_,(out++(finP st).1),_) rfl (bF rfl) (bL hT (bJ .head) rfl rfl rfl rfl) (.cons kT4 .nil) ⟨Has.of mT0,(Has.of mT2),Has.pure rfl,trivial⟩ rfl
     have hg160:=beq_eq_false_iff_ne.1 hg160;refine sk2 ?_;refine sp2 hT ?_;refine nn<|cG rfl rfl ?_;refine sr<|sp hT ?_;refine ss (ldO hT (bJ kT5)) ?_;refine sp hT ?_;refine cA (t':=false) (beq_eq_false_iff_ne.2 hg160) ?_;refine sp hT ?_;refine nn<|cG rfl rfl ?_;refine sr<|sp hT ?_;refine ss (ldO hT (bJ kT5)) ?_;refine sp2 hT ?_;refine cF (fun hg178=>?_) (fun hg178=>?_)
     ·have hg178:=eq_of_beq hg178;refine sk4 ?_;refine sp2 hT ?_;refine nn<|cH rfl rfl ?_;refine sr<|ss (ldO hT (bJ kT8)) ?_;refine bQ Tryz.func74 (cW bl A c toks (k) e _) rfl rfl (.cons .head .nil) ⟨Has.of lC,trivial⟩ fun _=>?_;refine sp hT ?_;refine sto hT kT7 ?_;refine nn<|bG<|bH<|bA<|bH<|bA<|bH ?_;have hr:=sO hinv30.1 (by first | exact .inl (by omega) | exact .inr (.inl ‹_›) | exact .inr (.inr ‹_›)) (by omega) (by first | exact .inr ‹_› | exact .inl (by omega));subst hr;exact bO (none,0,[],_) rfl (bF rfl) (bL hT (bJ .head) rfl rfl rfl rfl) (.cons kT1 .nil) ⟨dM,Has.each_nil,Has.pure rfl,trivial⟩ rfl
     have hg178:=beq_eq_false_iff_ne.1 hg178;refine sp hT ?_;refine ss (ldO hT (dJ kT5)) ?_;refine bQ Tryz.func135 (nN _) rfl rfl .nil trivial fun _=>?_;refine sp3 hT ?_;refine nn<|bK rfl (fun hc174=>?_) (fun hc174=>?_)
     ·have hc174:=fV hc174;refine sr<|ss (ldO hT (bJ kT8)) ?_;refine bQ Tryz.func74 (cW bl A c toks (k) e _) rfl rfl (.cons .head .nil) ⟨Has.of lC,trivial⟩ fun _=>?_;refine sp hT ?_;refine sto hT kT7 ?_;refine nn<|bG<|bH<|bA<|bH<|bA<|bH ?_;have hr:=sO hinv30.1 (by first | exact .inl (by omega) | exact .inr (.inl ‹_›) | exact .inr (.inr ‹_›)) (by omega) (by first | exact .inr ‹_› | exact .inl (by omega));subst hr;exact bO (none,0,[],_) rfl (bF rfl) (bL hT (bJ .head) rfl rfl rfl rfl) (.cons kT1 .nil) ⟨dM,Has.each_nil,Has.pure rfl,trivial⟩ rfl
     have hc174:=fP hc174;refine bN<|cD<|bC<|sr<|sp hT ?_;refine gL (cR Tryz.func137 rfl rfl) (nJ bl A c toks (k) e b1 b5 b4 _ _ st (by omega) (by omega)) rfl rfl rfl rfl rfl rfl rfl (.cons .head (.cons kT7 (.cons kT2 (.cons kT2 .nil)))) ⟨(Has.of lC),(Has.of mT1),trivial⟩ fun⟨⟨A34,c35⟩,b36⟩=>?_;refine bE (tnF (some (b36,(qG (bS toks (k) e true)))::st)) (uT (Has.of mT3) dM) ?_;refine bY rfl rfl rfl rfl yR rfl fun b37=>?_;refine sto hT .head ?_;refine nn<|sr<|ss (ldN hT (bJ .head)) ?_;refine ss (cC rfl rfl (wM)) ?_;refine ss (fQ ⟨(bS toks (k) e true).flt.1,(bS toks (k) e true).flt.2⟩ ⟨0,0⟩ rfl rfl rfl) ?_;refine nn<|bK rfl (fun hc190=>?_) (fun hc190=>?_)
     ·have hc190:=fV hc190;refine bB<|cZ _ _ [(true,0),(true,1),(false,2)] dD (by decide+kernel) (.cons .head (.cons .head (.cons .head (.cons .head (.cons .head (.cons .head (.cons .head (.cons .head (.cons .head .nil))))))))) bI.self ?_;refine stM rfl (ldN hT (bJ .head)) ?_;refine puM hT ?_;refine cL (o:=_) rfl ?_;refine sto hT kT9 ?_;refine cK (.cons kT1 (.cons kT1 (.cons kT1 (.cons kT1 (.cons kT1 (.cons kT1 (.cons kT1 (.cons kT1 (.cons kT1 .nil))))))))) (bI.drop 0) ?_;refine cN<|bC<|bG<|bH<|bA<|bH ?_;have hr:=(oY hinv30.1 (by first | exact .inl (by omega) | exact .inr (.inl ‹_›) | exact .inr (.inr ‹_›)) (by omega) (by omega) ‹_›).2 hc190;subst hr;exact bO (none,0,[],_) rfl (bF rfl) (bL hT (bJ .head) rfl rfl rfl rfl) (.cons kT2 .nil) ⟨dM,Has.each_nil,Has.pure rfl,trivial⟩ rfl
     have hc190:=fP hc190;have he:=(oY hinv30.1 (by first | exact .inl (by omega) | exact .inr (.inl ‹_›) | exact .inr (.inr ‹_›)) (by omega) (by omega) ‹_›).1 hc190;refine bN<|cD<|bC ?_;exact cO ((bS toks (k) e true).next,o,out,(some (b36,(qG (bS toks (k) e true)))::st),_,_,_,_) (by have:=he.1;first | (have:=dQ toks k e false;dsimp only;omega) | (have:=dQ toks k e true;dsimp only;omega)) ⟨rfl,trivial⟩ ⟨rfl,rfl,rfl,rfl,rfl,rfl,trivial⟩ (.cons kT1 (.cons kT4 (.cons kT4 (.cons kT2 (.cons kT2 (.cons kT4 (.cons kT1 .nil))))))) ⟨Has.pure (⟨he,hinv30.2.1,hinv30.2.2.1,by have:=dQ toks k e true;first | omega | (simp;omega),he.1⟩),Has.of mT1,Has.of mT0,Has.of mT5,trivial⟩ (bI.drop 11)
    refine sr<|sp hT ?_;refine ss (ldO hT (bJ .head)) ?_;refine sp hT ?_;refine cA (t':=true) (by rw [hg98];rfl) ?_;refine sp hT ?_;refine nn<|cH rfl rfl ?_;refine sr<|ss (ldO hT (bJ kT7)) ?_;refine bQ Tryz.func74 (cW bl A c toks (k) e _) rfl rfl (.cons kT1 .nil) ⟨Has.of mT7,trivial⟩ fun _=>?_;refine sp hT ?_;refine sto hT kT6 ?_;refine nn<|bG<|bH<|bA<|bH<|bA<|bH ?_;have hr:=e_word hinv6.1 ‹_› ‹_› ‹_›;subst hr;exact bO (none,0,[],_) rfl (bF rfl) (bL hT (bJ .head) rfl rfl rfl rfl) (.cons kT1 .nil) ⟨dM,Has.each_nil,Has.pure rfl,trivial⟩ rfl
   have hg98:=beq_eq_false_iff_ne.1 hg98;refine sk3 ?_;refine sp2 hT ?_;refine nn<|cG rfl rfl ?_;refine sr<|sp hT ?_;refine ss (ldO hT (bJ .head)) ?_;refine sp hT ?_;refine cA (t':=false) (beq_eq_false_iff_ne.2 hg98) ?_;refine sp hT ?_;refine nn<|cG rfl rfl ?_;refine sr<|ss (ldO hT (bJ kT7)) ?_;refine bQ Tryz.func74 (cW bl A c toks (k) e _) rfl rfl (.cons kT1 .nil) ⟨Has.of mT7,trivial⟩ fun _=>?_;refine sp hT ?_;refine sto hT kT6 ?_;refine nn<|bG<|bH<|bA<|bH<|bA<|bH ?_;have hr:=e_want hinv6.1 (by omega) (by omega) (by first | exact .inl ‹_› | exact .inr ‹_›) (by first | exact .inr ‹_› | exact .inl (by omega));subst hr;exact bO (none,0,[],_) rfl (bF rfl) (bL hT (bJ .head) rfl rfl rfl rfl) (.cons kT1 .nil) ⟨dM,Has.each_nil,Has.pure rfl,trivial⟩ rfl
  have hg28:=bne_eq_false_iff_eq.1 hg28;refine sk3 ?_;refine sp2 hT ?_;refine nn<|cG rfl rfl ?_;refine sr<|sp hT ?_;refine ss (ldO hT (bJ .head)) ?_;refine sp hT ?_;refine cA (t':=false) (by rw [hg28];rfl) ?_;refine sp hT ?_;refine sk3 ?_;refine sp2 hT ?_;refine nn<|cG rfl rfl ?_;refine sr<|sp hT ?_;refine ss (ldO hT (bJ .head)) ?_;refine sp hT ?_;refine cA (t':=false) (by rw [hg28];rfl) ?_;refine sp hT ?_;refine nn<|cG rfl rfl ?_;refine sr<|sp hT ?_;refine ss (ldO hT (bJ .head)) ?_;refine sp hT ?_;refine cA (t':=false) (by rw [hg28];rfl) ?_;refine sp hT ?_;refine sk3 ?_;refine sp2 hT ?_;refine nn<|cG rfl rfl ?_;refine sr<|sp hT ?_;refine ss (ldO hT (bJ .head)) ?_;refine sp hT ?_;refine cA (t':=false) (by rw [hg28];rfl) ?_;refine sp hT ?_;refine nn<|cG rfl rfl ?_;refine sr<|ss (ldO hT (bJ kT7)) ?_;refine bQ Tryz.func74 (cW bl A c toks (k) e _) rfl rfl (.cons kT1 .nil) ⟨Has.of mT7,trivial⟩ fun _=>?_;refine sp hT ?_;refine sto hT kT6 ?_;refine nn<|bG<|bH<|bA<|bH<|bA<|bH ?_;have hr:=e_want hinv6.1 (by omega) (by omega) (by first | exact .inl ‹_› | exact .inr ‹_›) (by first | exact .inr ‹_› | exact .inl (by omega));subst hr;exact bO (none,0,[],_) rfl (bF rfl) (bL hT (bJ .head) rfl rfl rfl rfl) (.cons kT1 .nil) ⟨dM,Has.each_nil,Has.pure rfl,trivial⟩ rfl
 have hg23:=bne_eq_false_iff_eq.1 hg23;refine sk3 ?_;refine sp2 hT ?_;refine sk3 ?_;refine sp2 hT ?_;refine nn<|cG rfl rfl ?_;refine sr<|sp hT ?_;refine ss (ldO hT (bJ .head)) ?_;refine sp hT ?_;refine cA (t':=false) (by rw [hg23];rfl) ?_;refine sp hT ?_;refine sk3 ?_;refine sp2 hT ?_;refine nn<|cG rfl rfl ?_;refine sr<|sp hT ?_;refine ss (ldO hT (bJ .head)) ?_;refine sp hT ?_;refine cA (t':=true) (by rw [hg23];rfl) ?_;refine sp hT ?_;refine nn<|cH rfl rfl ?_;refine sr<|sp hT ?_;refine ss (ldO hT (fN .head)) ?_;refine ss (cC rfl rfl (pI _ _)) ?_;refine bY rfl rfl rfl rfl mG rfl fun b38=>?_;refine sto hT .head ?_;refine nn<|bB<|bX<|dR (t:=2) bJw ?_;refine dI (ι:=Nat×List Int×Option Addr×Nat) [(1,_),(3,_),(4,_),(5,_),(6,_),(7,_),(8,_),(9,_),(11,_),(24,_),(25,_),(26,_),(29,_),(30,_),(31,_),(44,_),(45,_),(46,_)] ⟨rfl,rfl,rfl,rfl,rfl,rfl,rfl,rfl,rfl,rfl,rfl,rfl,rfl,rfl,rfl,rfl,rfl,rfl,trivial⟩ (fun _=>[]) (fun⟨j,cur,C2,e2⟩=>[.obj bl (.cells [.slice A toks.length c,.int .i64 (j:Nat),.int .i64 e].toArray 102),.obj b38 (.cells [.int .i64 1,.int .i64 (bP toks k).at_,.int .u8 0,.string (bs []),.slice C2 cur.length e2].toArray 52),bJw.row (.slice C2 cur.length e2) 2 cur]) (fun⟨j,cur,C2,e2⟩=>[Fact.pure (gH toks k=cur++gH toks j∧j=k+cur.length∧j≤toks.length)]) (fun⟨j,cur,C2,e2⟩=>toks.length-j) (k,[],none,0) trivial (.cons kT3 (.cons kT1 (.cons .head .nil))) ⟨Has.pure (⟨rfl,rfl,hinv6.2.2.2.2⟩),trivial⟩ ?_;rintro⟨j,cur,C2,e2⟩;dsimp only;refine bR (Has.of mT0) fun hinv20=>?_;refine bB<|sr<|ss (ldO hT (bJ kT9)) ?_;refine bQ Tryz.func73 (iA bl A c toks (j) e) rfl rfl (.cons .head .nil) ⟨Has.of mT8,trivial⟩ fun _=>?_;refine sp2 hT ?_;refine nn<|bK rfl (fun hc74=>?_) (fun hc74=>?_)
 ·have hc74:=eq_of_beq hc74;refine bN<|bC<|bB<|bX<|sA 8 _ _ [(true,0),(true,1),(true,2),(false,3),(true,4),(false,5),(false,6),(true,7)] dD (by decide+kernel) (.cons .head (.cons .head (.cons kT1 (.cons kT1 (.cons kT1 (.cons kT1 (.cons kT1 (.cons kT1 (.cons kT1 .nil))))))))) bI.self ?_;refine puL hT ?_;refine stL rfl (ldO hT (bKc kT1)) ?_;refine stL rfl (ldO hT (bJ kT8)) ?_;refine nV (o:=_) rfl ?_;refine bQ Tryz.func73 (iA bl A c toks (j) e) rfl rfl (.cons .head .nil) ⟨Has.of mT8,trivial⟩ fun _=>?_;refine oH (.cons .head (.cons .head (.cons kT1 (.cons kT1 (.cons kT1 (.cons kT1 (.cons kT1 (.cons kT1 (.cons kT1 .nil))))))))) (bI.drop 0) ?_;refine puL hT ?_;refine nV (o:=_) rfl ?_;refine at_one_int (m:=(bP toks (j)).n) rfl rfl rfl rfl rfl fun b39=>?_;refine oH (.cons kT1 (.cons kT1 (.cons kT2 (.cons kT2 (.cons kT2 (.cons kT2 (.cons kT2 (.cons kT2 (.cons kT2 .nil))))))))) (bI.drop 0) ?_;refine nV (o:=_) rfl ?_;refine at_app_int kT3 (dE .head rfl) rfl rfl rfl rfl rfl rfl rfl (by simp only [List.length_singleton];omega) fun A40 c41=>?_;refine oH (.cons kT2 (.cons kT2 (.cons kT2 (.cons kT2 (.cons kT2 (.cons kT2 (.cons kT2 (.cons kT2 (.cons kT2 .nil))))))))) (bI.drop 0) ?_;refine puL hT ?_;refine pG (o:=_) rfl ?_;refine sto hT kT3 ?_;refine rY<|cD<|bC<|bD<|ss (ldO hT (bJ kT10)) ?_;refine sp2 hT ?_;refine ss (ldO hT (fN kT3)) ?_;refine sp hT ?_;refine bT (z':=(((j+1):Nat):Int)) (cQ (by omega) (by omega)) ?_;refine sp2 hT ?_;refine sto hT kT3 ?_;refine nn ?_;exact cO (j+1,_,_,_) (by have:=iR (toks:=toks) (k:=j) (by rw [hc74];decide);dsimp only;omega) trivial ⟨rfl,rfl,rfl,rfl,rfl,rfl,rfl,rfl,rfl,rfl,rfl,rfl,rfl,rfl,rfl,rfl,rfl,rfl,trivial⟩ (.cons .head (.cons .head (.cons .head (.cons kT1 (.cons kT1 (.cons kT1 (.cons kT1 (.cons kT1 (.cons kT1 (.cons kT1 .nil)))))))))) ⟨Has.pure (⟨by rw [hinv20.1,tI hc74];simp,by simp;omega,iR (by rw [hc74];decide)⟩),trivial⟩ (bI.drop 1)
 have hc74:=beq_eq_false_iff_ne.1 hc74;refine dC<|cM<|cM<|dB<|bC ?_;have hcur:gH toks k=cur:=by rw [hinv20.1,nums_end hc74,List.append_nil]
 have hbi:=b_num (C:=C2) (c:=e2) hinv6.1 ‹_› hinv20.2.1 hcur;have hcl:1≤cur.length:=by rw [←hcur,tI ‹_›];simp
 refine cS kT2 ?_;refine bD<|ss (ldO hT (bJ kT3)) ?_;refine ss (ldN hT (bJ kT1)) ?_;refine vP (m:=(⟨1,(bP toks k).at_,0,[],⟨C2,e2,cur⟩⟩:ItemV)) rfl rfl rfl rfl rfl fun b42=>?_;refine vM kT5 (dE .head rfl) rfl rfl rfl rfl rfl rfl rfl (by simp only [List.length_singleton];omega) fun A43 c44=>?_;refine bE (mJ (out++[(⟨1,(bP toks k).at_,0,[],⟨C2,e2,cur⟩⟩:ItemV)])) (bIt (Has.of mT5) (Has.of mT0)) ?_;refine sto hT kT5 ?_;refine dY<|cD<|bC<|bB<|sr<|ss (ldO hT (bJ kT9)) ?_;refine bQ Tryz.func73 (iA bl A c toks (j) e) rfl rfl (.cons kT3 .nil) ⟨Has.of qB,trivial⟩ fun _=>?_;refine sto hT kT5 ?_;refine nn<|bX ?_
 obtain⟨kk,hkk⟩: ∃kk,kk=k:=⟨_,rfl⟩
 refine dI (ι:=Nat×Nat×List ItemV×List kV×Option Addr×Nat×Option Addr×Nat) [(1,_),(3,_),(4,_),(5,_),(7,_),(8,_),(9,_),(24,_),(25,_),(26,_),(29,_),(30,_),(31,_),(44,_),(45,_),(46,_)] ⟨rfl,rfl,rfl,rfl,rfl,rfl,rfl,rfl,rfl,rfl,rfl,rfl,rfl,rfl,rfl,rfl,trivial⟩ (fun⟨k,o,out,st,C,e1,D,f⟩=>[(6,.int .i64 (o:Nat))]) (fun⟨k,o,out,st,C,e1,D,f⟩=>[.obj bl (.cells [.slice A toks.length c,.int .i64 (k:Nat),.int .i64 e].toArray 102),.obj b4 (.cells [.slice C out.length e1].toArray 47),kY.row (.slice C out.length e1) 52 out,.obj b5 (.cells [.slice D st.reverse.length f].toArray 208),(fnE b4).row (.slice D st.reverse.length f) 1 st.reverse,.obj b3 (.cells [.int .i64 (bP toks k).kind,.int .i64 (bP toks k).at_,.string (bs (bP toks k).word),.int .i64 (bP toks k).n].toArray 104)]) (fun⟨k,o,out,st,C,e1,D,f⟩=>[Fact.pure (vG toks e r k (out.map ItemV.it) (xU st) o∧opens st=o∧o≤32∧out.length+st.length≤k∧k≤toks.length∧kk<k),lT st,tnF st,mJ out]) (fun⟨k,o,out,st,C,e1,D,f⟩=>toks.length-k) (j,o,(out++[(⟨1,(bP toks k).at_,0,[],⟨C2,e2,cur⟩⟩:ItemV)]),st,_,_,_,_) ⟨rfl,trivial⟩ (.cons kT1 (.cons kT1 (.cons kT1 (.cons kT3 (.cons kT3 (.cons .head .nil)))))) ⟨Has.pure (⟨hbi,hinv6.2.1,hinv6.2.2.1,by first | omega | (simp;omega),hbi.1,by omega⟩),Has.of mT4,Has.of mT5,Has.of mT0,trivial⟩ ?_;rintro⟨k,o,out,st,C,e1,D,f⟩;dsimp only;refine bR (Has.of mT0) fun hinv30=>?_;refine bB<|sr<|sp3 hT ?_;refine cF (fun hg128=>?_) (fun hg128=>?_)
 ·have hg128:=of_decide_eq_true hg128;refine sp hT ?_;refine ss (ldO hT (bJ kT5)) ?_;refine sp3 hT ?_;refine cF (fun hg133=>?_) (fun hg133=>?_)
  ·have hg133:=eq_of_beq hg133;refine sp hT ?_;refine ss (ldO hT (dJ kT5)) ?_;refine sp2 hT ?_;refine nn<|bK rfl (fun hc137=>?_) (fun hc137=>?_)
   ·have hc137:(bP toks k).word=([41]:Bs):=eq_of_beq hc137;refine bN<|bC<|bB<|bX<|sr<|sp hT ?_;refine gL (cR Tryz.func136 rfl rfl) (nM b5 b4 _ _ st _ _ out (by omega)) rfl rfl rfl rfl rfl rfl rfl (.cons kT3 (.cons kT3 (.cons kT1 (.cons kT1 .nil)))) ⟨(Has.of mT1),trivial⟩ fun⟨⟨D45,f46⟩,⟨C47,e48⟩⟩=>?_;refine bE (mJ (out++(finP st).1)) (sT (Has.of mT4) (Has.of mT3)) ?_;refine bE (tnF (finP st).2) (bCo (Has.of mT4)) ?_;have hfl:=tP st;obtain⟨s2,hs2,ho2⟩:=fin_open (st:=st) (by omega);have hb2:=b_closed hinv30.1 (by omega) ‹_› ‹_› hs2;rw [hs2] at hfl⊢;simp only [List.length_cons] at hfl;refine bE (lT s2) (bCj (Has.of mT2)) ?_;refine bE (tnF s2) (bFl (Has.of mT1)) ?_;refine nn<|sr<|ss (ldO hT (bJ .head)) ?_;refine ss (ldO hT (bJ .head)) ?_;refine sp hT ?_;refine bT (z':=(((s2.length+1):Nat):Int)) (congrArg Nat.cast (jP _ s2)) ?_;refine sp hT ?_;refine bT (z':=((((s2.length+1)-1):Nat):Int)) (cQ (by omega) (by omega)) ?_;refine iW hT (k:=((s2.length+1)-1)) kT1 rfl rfl rfl rfl rfl rfl rfl rfl rfl (by rw [jP];omega) ?_;rw [bCx];refine sto hT kT1 ?_;refine nn<|sr<|sp2 hT ?_;refine bT (z':=(((o-1):Nat):Int)) (cQ (by omega) (by omega)) ?_;refine sp hT ?_;refine nn<|bD<|ss (ldO hT (bJ kT9)) ?_;refine sp2 hT ?_;refine ss (ldO hT (fN kT4)) ?_;refine sp hT ?_;refine bT (z':=(((k+1):Nat):Int)) (cQ (by omega) (by omega)) ?_;refine sp2 hT ?_;refine sto hT kT4 ?_;refine dY<|cD<|bC<|bD<|ss (ldO hT (bJ kT9)) ?_;refine bQ Tryz.func73 (iA bl A c toks ((k+1)) e) rfl rfl (.cons .head .nil) ⟨Has.of (.tail _ (.tail _ (.tail _ (.tail _ (.tail _ (.tail _ (.tail _ (.tail _ (.tail _ (.tail _ (.tail _ (.tail _ (.tail _ (.tail _ (.tail _ (.tail _ (.tail _ (.tail _ (.tail _ mT0))))))))))))))))))),trivial⟩ fun _=>?_;refine sto hT kT5 ?_;refine nn ?_;exact cO ((k+1),(o-1),(out++(finP st).1),s2,_,_,_,_) (by have:=hb2.1;dsimp only;omega) ⟨rfl,trivial⟩ ⟨rfl,rfl,rfl,rfl,rfl,rfl,rfl,rfl,rfl,rfl,rfl,rfl,rfl,rfl,rfl,rfl,trivial⟩ (.cons kT1 (.cons kT3 (.cons kT3 (.cons kT1 (.cons kT1 (.cons .head (.cons .head (.cons .head (.cons .head (.cons .head .nil)))))))))) ⟨Has.pure (⟨hb2,by dsimp only;omega,by dsimp only;omega,by first | omega | (simp;omega),hb2.1,by dsimp only;omega⟩),Has.of mT1,Has.of mT0,Has.of mT3,trivial⟩ (bI.drop 9)
   have hc137:(bP toks k).word≠([41]:Bs):=fun h=>absurd (beq_iff_eq.2 h) (by rw [show((bP toks k).word==([41]:Bs))=false from hc137];simp);refine dC<|cM<|cM<|dB<|bC<|bB<|bX<|sr<|sp hT ?_;refine ss (ldO hT (bJ kT5)) ?_;refine sp hT ?_;refine cA (t':=false) (by rw [hg133];rfl) ?_;refine sp hT ?_;refine sk2 ?_;refine sp2 hT ?_;refine nn<|cG rfl rfl ?_;refine sr<|sp hT ?_;refine ss (ldO hT (bJ kT5)) ?_;refine sp hT ?_;refine cA (t':=false) (by rw [hg133];rfl) ?_;refine sp hT ?_;refine nn<|cG rfl rfl ?_;refine sr<|sp hT ?_;refine ss (ldO hT (bJ kT5)) ?_;refine sp hT ?_;refine cA (t':=false) (by rw [hg133];rfl) ?_;refine sp2 hT ?_;refine ss (ldO hT (dJ kT5)) ?_;refine bQ Tryz.func135 (nN _) rfl rfl .nil trivial fun _=>?_;refine sp3 hT ?_;refine nn<|bK rfl (fun hc174=>?_) (fun hc174=>?_)
   ·have hc174:=fV hc174;refine sr<|ss (ldO hT (bJ kT9)) ?_;refine bQ Tryz.func74 (cW bl A c toks (k) e _) rfl rfl (.cons .head .nil) ⟨Has.of zF,trivial⟩ fun _=>?_;refine sp hT ?_;refine sto hT kT8 ?_;refine nn<|bG<|bH<|bA<|bH<|bA<|bH ?_;have hr:=sO hinv30.1 (by first | exact .inl (by omega) | exact .inr (.inl ‹_›) | exact .inr (.inr ‹_›)) (by omega) (by first | exact .inr ‹_› | exact .inl (by omega));subst hr;exact bO (none,0,[],_) rfl (bF rfl) (bL hT (bJ .head) rfl rfl rfl rfl) (.cons kT1 .nil) ⟨dM,Has.each_nil,Has.pure rfl,trivial⟩ rfl
   have hc174:=fP hc174;refine bN<|cD<|bC<|sr<|sp hT ?_;refine gL (cR Tryz.func137 rfl rfl) (nJ bl A c toks (k) e b1 b5 b4 _ _ st (by omega) (by omega)) rfl rfl rfl rfl rfl rfl rfl (.cons .head (.cons kT8 (.cons kT2 (.cons kT2 .nil)))) ⟨(Has.of zF),(Has.of mT1),trivial⟩ fun⟨⟨A49,c50⟩,b51⟩=>?_;refine bE (tnF (some (b51,(qG (bS toks (k) e true)))::st)) (uT (Has.of mT3) dM) ?_;refine bY rfl rfl rfl rfl yR rfl fun b52=>?_;refine sto hT .head ?_;refine nn<|sr<|ss (ldN hT (bJ .head)) ?_;refine ss (cC rfl rfl (wM)) ?_;refine ss (fQ ⟨(bS toks (k) e true).flt.1,(bS toks (k) e true).flt.2⟩ ⟨0,0⟩ rfl rfl rfl) ?_;refine nn<|bK rfl (fun hc190=>?_) (fun hc190=>?_)
   ·have hc190:=fV hc190;refine bB<|cZ _ _ [(true,0),(true,1),(false,2)] dD (by decide+kernel) (.cons .head (.cons .head (.cons .head (.cons .head (.cons .head (.cons .head (.cons .head (.cons .head (.cons .head (.cons .head .nil)))))))))) bI.self ?_;refine stM rfl (ldN hT (bJ .head)) ?_;refine puM hT ?_;refine cL (o:=_) rfl ?_;refine sto hT kT10 ?_;refine cK (.cons kT1 (.cons kT1 (.cons kT1 (.cons kT1 (.cons kT1 (.cons kT1 (.cons kT1 (.cons kT1 (.cons kT1 (.cons kT1 .nil)))))))))) (bI.drop 0) ?_;refine cN<|bC<|bG<|bH<|bA<|bH ?_;have hr:=(oY hinv30.1 (by first | exact .inl (by omega) | exact .inr (.inl ‹_›) | exact .inr (.inr ‹_›)) (by omega) (by omega) ‹_›).2 hc190;subst hr;exact bO (none,0,[],_) rfl (bF rfl) (bL hT (bJ .head) rfl rfl rfl rfl) (.cons kT2 .nil) ⟨dM,Has.each_nil,Has.pure rfl,trivial⟩ rfl
   have hc190:=fP hc190;have he:=(oY hinv30.1 (by first | exact .inl (by omega) | exact .inr (.inl ‹_›) | exact .inr (.inr ‹_›)) (by omega) (by omega) ‹_›).1 hc190;refine bN<|cD<|bC ?_;exact cO ((bS toks (k) e true).next,o,out,(some (b51,(qG (bS toks (k) e true)))::st),_,_,_,_) (by have:=he.1;first | (have:=dQ toks k e false;dsimp only;omega) | (have:=dQ toks k e true;dsimp only;omega)) ⟨rfl,trivial⟩ ⟨rfl,rfl,rfl,rfl,rfl,rfl,trivial⟩ (.cons kT1 (.cons kT4 (.cons kT4 (.cons kT2 (.cons kT2 (.cons kT5 (.cons kT1 .nil))))))) ⟨Has.pure (⟨he,hinv30.2.1,hinv30.2.2.1,by have:=dQ toks k e true;first | omega | (simp;omega),he.1⟩),Has.of mT1,Has.of mT0,Has.of mT5,trivial⟩ (bI.drop 13)
  have hg133:=beq_eq_false_iff_ne.1 hg133;refine sk3 ?_;refine sp hT ?_;refine nn<|cG rfl rfl ?_;refine dC<|cM<|cM<|dB<|bC<|bB<|bX<|sr<|sp hT ?_;refine ss (ldO hT (bJ kT5)) ?_;refine sp2 hT ?_;refine cF (fun hg160=>?_) (fun hg160=>?_)
  ·have hg160:=eq_of_beq hg160;refine sp4 hT ?_;refine nn<|bK rfl (fun hc156=>?_) (fun hc156=>?_)
   ·have hc156:=of_decide_eq_true hc156;refine sr<|ss (ldO hT (bJ kT9)) ?_;refine bQ Tryz.func74 (cW bl A c toks (k) e _) rfl rfl (.cons .head .nil) ⟨Has.of zF,trivial⟩ fun _=>?_;refine sp hT ?_;refine sto hT kT8 ?_;refine nn<|bG<|bH<|bA<|bH<|bA<|bH ?_;have hr:=r_open hinv30.1 ‹_› (by omega);subst hr;exact bO (none,0,[],_) rfl (bF rfl) (bL hT (bJ .head) rfl rfl rfl rfl) (.cons kT1 .nil) ⟨dM,Has.each_nil,Has.pure rfl,trivial⟩ rfl
   have hc156:=Int.not_lt.1 (of_decide_eq_false hc156);refine sr<|sp hT ?_;refine ss (ldO hT (bJ kT5)) ?_;refine sp hT ?_;refine cA (t':=true) (by rw [hg160];rfl) ?_;refine sp hT ?_;refine nn<|cH rfl rfl ?_;refine sr<|sp hT ?_;refine gL (cR Tryz.func136 rfl rfl) (nM b5 b4 _ _ st _ _ out (by omega)) rfl rfl rfl rfl rfl rfl rfl (.cons kT3 (.cons kT3 (.cons kT1 (.cons kT1 .nil)))) ⟨(Has.of mT1),trivial⟩ fun⟨⟨D53,f54⟩,⟨C55,e56⟩⟩=>?_;refine bE (mJ (out++(finP st).1)) (sT (Has.of mT4) (Has.of mT3)) ?_;refine bE (tnF (finP st).2) (bCo (Has.of mT4)) ?_;have hfl:=tP st;refine nn<|sr<|ss (ldO hT (bJ kT2)) ?_;refine ss (cC rfl rfl (wM)) ?_;refine sp hT ?_;refine sto hT kT8 ?_;refine nn<|bG<|bH<|bA<|bH<|bA<|bH ?_;have hr:=bFp hinv30.1 ‹_› (by omega);subst hr;refine cS kT4 ?_;exact bO (_,_,(out++(finP st).1),_) rfl (bF rfl) (bL hT (bJ .head) rfl rfl rfl rfl) (.cons kT4 .nil) ⟨Has.of mT0,(Has.of mT2),Has.pure rfl,trivial⟩ rfl
  have hg160:=beq_eq_false_iff_ne.1 hg160;refine sk2 ?_;refine sp2 hT ?_;refine nn<|cG rfl rfl ?_;refine sr<|sp hT ?_;refine ss (ldO hT (bJ kT5)) ?_;refine sp hT ?_;refine cA (t':=false) (beq_eq_false_iff_ne.2 hg160) ?_;refine sp hT ?_;refine nn<|cG rfl rfl ?_;refine sr<|sp hT ?_;refine ss (ldO hT (bJ kT5)) ?_;refine sp2 hT ?_;refine cF (fun hg178=>?_) (fun hg178=>?_)
  ·have hg178:=eq_of_beq hg178;refine sk4 ?_;refine sp2 hT ?_;refine nn<|cH rfl rfl ?_;refine sr<|ss (ldO hT (bJ kT9)) ?_;refine bQ Tryz.func74 (cW bl A c toks (k) e _) rfl rfl (.cons .head .nil) ⟨Has.of zF,trivial⟩ fun _=>?_;refine sp hT ?_;refine sto hT kT8 ?_;refine nn<|bG<|bH<|bA<|bH<|bA<|bH ?_;have hr:=sO hinv30.1 (by first | exact .inl (by omega) | exact .inr (.inl ‹_›) | exact .inr (.inr ‹_›)) (by omega) (by first | exact .inr ‹_› | exact .inl (by omega));subst hr;exact bO (none,0,[],_) rfl (bF rfl) (bL hT (bJ .head) rfl rfl rfl rfl) (.cons kT1 .nil) ⟨dM,Has.each_nil,Has.pure rfl,trivial⟩ rfl
  have hg178:=beq_eq_false_iff_ne.1 hg178;refine sp hT ?_;refine ss (ldO hT (dJ kT5)) ?_;refine bQ Tryz.func135 (nN _) rfl rfl .nil trivial fun _=>?_;refine sp3 hT ?_;refine nn<|bK rfl (fun hc174=>?_) (fun hc174=>?_)
  ·have hc174:=fV hc174;refine sr<|ss (ldO hT (bJ kT9)) ?_;refine bQ Tryz.func74 (cW bl A c toks (k) e _) rfl rfl (.cons .head .nil) ⟨Has.of zF,trivial⟩ fun _=>?_;refine sp hT ?_;refine sto hT kT8 ?_;refine nn<|bG<|bH<|bA<|bH<|bA<|bH ?_;have hr:=sO hinv30.1 (by first | exact .inl (by omega) | exact .inr (.inl ‹_›) | exact .inr (.inr ‹_›)) (by omega) (by first | exact .inr ‹_› | exact .inl (by omega));subst hr;exact bO (none,0,[],_) rfl (bF rfl) (bL hT (bJ .head) rfl rfl rfl rfl) (.cons kT1 .nil) ⟨dM,Has.each_nil,Has.pure rfl,trivial⟩ rfl
  have hc174:=fP hc174;refine bN<|cD<|bC<|sr<|sp hT ?_;refine gL (cR Tryz.func137 rfl rfl) (nJ bl A c toks (k) e b1 b5 b4 _ _ st (by omega) (by omega)) rfl rfl rfl rfl rfl rfl rfl (.cons .head (.cons kT8 (.cons kT2 (.cons kT2 .nil)))) ⟨(Has.of zF),(Has.of mT1),trivial⟩ fun⟨⟨A57,c58⟩,b59⟩=>?_;refine bE (tnF (some (b59,(qG (bS toks (k) e true)))::st)) (uT (Has.of mT3) dM) ?_;refine bY rfl rfl rfl rfl yR rfl fun b60=>?_;refine sto hT .head ?_;refine nn<|sr<|ss (ldN hT (bJ .head)) ?_;refine ss (cC rfl rfl (wM)) ?_;refine ss (fQ ⟨(bS toks (k) e true).flt.1,(bS toks (k) e true).flt.2⟩ ⟨0,0⟩ rfl rfl rfl) ?_;refine nn<|bK rfl (fun hc190=>?_) (fun hc190=>?_)
  ·have hc190:=fV hc190;refine bB<|cZ _ _ [(true,0),(true,1),(false,2)] dD (by decide+kernel) (.cons .head (.cons .head (.cons .head (.cons .head (.cons .head (.cons .head (.cons .head (.cons .head (.cons .head (.cons .head .nil)))))))))) bI.self ?_;refine stM rfl (ldN hT (bJ .head)) ?_;refine puM hT ?_;refine cL (o:=_) rfl ?_;refine sto hT kT10 ?_;refine cK (.cons kT1 (.cons kT1 (.cons kT1 (.cons kT1 (.cons kT1 (.cons kT1 (.cons kT1 (.cons kT1 (.cons kT1 (.cons kT1 .nil)))))))))) (bI.drop 0) ?_;refine cN<|bC<|bG<|bH<|bA<|bH ?_;have hr:=(oY hinv30.1 (by first | exact .inl (by omega) | exact .inr (.inl ‹_›) | exact .inr (.inr ‹_›)) (by omega) (by omega) ‹_›).2 hc190;subst hr;exact bO (none,0,[],_) rfl (bF rfl) (bL hT (bJ .head) rfl rfl rfl rfl) (.cons kT2 .nil) ⟨dM,Has.each_nil,Has.pure rfl,trivial⟩ rfl
  have hc190:=fP hc190;have he:=(oY hinv30.1 (by first | exact .inl (by omega) | exact .inr (.inl ‹_›) | exact .inr (.inr ‹_›)) (by omega) (by omega) ‹_›).1 hc190;refine bN<|cD<|bC ?_;exact cO ((bS toks (k) e true).next,o,out,(some (b59,(qG (bS toks (k) e true)))::st),_,_,_,_) (by have:=he.1;first | (have:=dQ toks k e false;dsimp only;omega) | (have:=dQ toks k e true;dsimp only;omega)) ⟨rfl,trivial⟩ ⟨rfl,rfl,rfl,rfl,rfl,rfl,trivial⟩ (.cons kT1 (.cons kT4 (.cons kT4 (.cons kT2 (.cons kT2 (.cons kT5 (.cons kT1 .nil))))))) ⟨Has.pure (⟨he,hinv30.2.1,hinv30.2.2.1,by have:=dQ toks k e true;first | omega | (simp;omega),he.1⟩),Has.of mT1,Has.of mT0,Has.of mT5,trivial⟩ (bI.drop 13)
 have hg128:=Int.not_lt.1 (of_decide_eq_false hg128);refine sk3 ?_;refine sp2 hT ?_;refine sk3 ?_;refine sp hT ?_;refine nn<|cG rfl rfl ?_;refine dC<|cM<|cM<|dB<|bC<|bB<|bX<|sr<|sp hT ?_;refine ss (ldO hT (bJ kT5)) ?_;refine sp2 hT ?_;refine cF (fun hg160=>?_) (fun hg160=>?_)
 ·have hg160:=eq_of_beq hg160;refine sp4 hT ?_;refine nn<|bK rfl (fun hc156=>?_) (fun hc156=>?_)
  ·have hc156:=of_decide_eq_true hc156;refine sr<|ss (ldO hT (bJ kT9)) ?_;refine bQ Tryz.func74 (cW bl A c toks (k) e _) rfl rfl (.cons .head .nil) ⟨Has.of zF,trivial⟩ fun _=>?_;refine sp hT ?_;refine sto hT kT8 ?_;refine nn<|bG<|bH<|bA<|bH<|bA<|bH ?_;have hr:=r_open hinv30.1 ‹_› (by omega);subst hr;exact bO (none,0,[],_) rfl (bF rfl) (bL hT (bJ .head) rfl rfl rfl rfl) (.cons kT1 .nil) ⟨dM,Has.each_nil,Has.pure rfl,trivial⟩ rfl
  have hc156:=Int.not_lt.1 (of_decide_eq_false hc156);refine sr<|sp hT ?_;refine ss (ldO hT (bJ kT5)) ?_;refine sp hT ?_;refine cA (t':=true) (by rw [hg160];rfl) ?_;refine sp hT ?_;refine nn<|cH rfl rfl ?_;refine sr<|sp hT ?_;refine gL (cR Tryz.func136 rfl rfl) (nM b5 b4 _ _ st _ _ out (by omega)) rfl rfl rfl rfl rfl rfl rfl (.cons kT3 (.cons kT3 (.cons kT1 (.cons kT1 .nil)))) ⟨(Has.of mT1),trivial⟩ fun⟨⟨D61,f62⟩,⟨C63,e64⟩⟩=>?_;refine bE (mJ (out++(finP st).1)) (sT (Has.of mT4) (Has.of mT3)) ?_;refine bE (tnF (finP st).2) (bCo (Has.of mT4)) ?_;have hfl:=tP st;refine nn<|sr<|ss (ldO hT (bJ kT2)) ?_;refine ss (cC rfl rfl (wM)) ?_;refine sp hT ?_;refine sto hT kT8 ?_;refine nn<|bG<|bH<|bA<|bH<|bA<|bH ?_;have hr:=bFp hinv30.1 ‹_› (by omega);subst hr;refine cS kT4 ?_;exact bO (_,_,(out++(finP st).1),_) rfl (bF rfl) (bL hT (bJ .head) rfl rfl rfl rfl) (.cons kT4 .nil) ⟨Has.of mT0,(Has.of mT2),Has.pure rfl,trivial⟩ rfl
 have hg160:=beq_eq_false_iff_ne.1 hg160;refine sk2 ?_;refine sp2 hT ?_;refine nn<|cG rfl rfl ?_;refine sr<|sp hT ?_;refine ss (ldO hT (bJ kT5)) ?_;refine sp hT ?_;refine cA (t':=false) (beq_eq_false_iff_ne.2 hg160) ?_;refine sp hT ?_;refine nn<|cG rfl rfl ?_;refine sr<|sp hT ?_;refine ss (ldO hT (bJ kT5)) ?_;refine sp2 hT ?_;refine cF (fun hg178=>?_) (fun hg178=>?_)
 ·have hg178:=eq_of_beq hg178;refine sk4 ?_;refine sp2 hT ?_;refine nn<|cH rfl rfl ?_;refine sr<|ss (ldO hT (bJ kT9)) ?_;refine bQ Tryz.func74 (cW bl A c toks (k) e _) rfl rfl (.cons .head .nil) ⟨Has.of zF,trivial⟩ fun _=>?_;refine sp hT ?_;refine sto hT kT8 ?_;refine nn<|bG<|bH<|bA<|bH<|bA<|bH ?_;have hr:=sO hinv30.1 (by first | exact .inl (by omega) | exact .inr (.inl ‹_›) | exact .inr (.inr ‹_›)) (by omega) (by first | exact .inr ‹_› | exact .inl (by omega));subst hr;exact bO (none,0,[],_) rfl (bF rfl) (bL hT (bJ .head) rfl rfl rfl rfl) (.cons kT1 .nil) ⟨dM,Has.each_nil,Has.pure rfl,trivial⟩ rfl
 have hg178:=beq_eq_false_iff_ne.1 hg178;refine sp hT ?_;refine ss (ldO hT (dJ kT5)) ?_;refine bQ Tryz.func135 (nN _) rfl rfl .nil trivial fun _=>?_;refine sp3 hT ?_;refine nn<|bK rfl (fun hc174=>?_) (fun hc174=>?_)
 ·have hc174:=fV hc174;refine sr<|ss (ldO hT (bJ kT9)) ?_;refine bQ Tryz.func74 (cW bl A c toks (k) e _) rfl rfl (.cons .head .nil) ⟨Has.of zF,trivial⟩ fun _=>?_;refine sp hT ?_;refine sto hT kT8 ?_;refine nn<|bG<|bH<|bA<|bH<|bA<|bH ?_;have hr:=sO hinv30.1 (by first | exact .inl (by omega) | exact .inr (.inl ‹_›) | exact .inr (.inr ‹_›)) (by omega) (by first | exact .inr ‹_› | exact .inl (by omega));subst hr;exact bO (none,0,[],_) rfl (bF rfl) (bL hT (bJ .head) rfl rfl rfl rfl) (.cons kT1 .nil) ⟨dM,Has.each_nil,Has.pure rfl,trivial⟩ rfl
 have hc174:=fP hc174;refine bN<|cD<|bC<|sr<|sp hT ?_;refine gL (cR Tryz.func137 rfl rfl) (nJ bl A c toks (k) e b1 b5 b4 _ _ st (by omega) (by omega)) rfl rfl rfl rfl rfl rfl rfl (.cons .head (.cons kT8 (.cons kT2 (.cons kT2 .nil)))) ⟨(Has.of zF),(Has.of mT1),trivial⟩ fun⟨⟨A65,c66⟩,b67⟩=>?_;refine bE (tnF (some (b67,(qG (bS toks (k) e true)))::st)) (uT (Has.of mT3) dM) ?_;refine bY rfl rfl rfl rfl yR rfl fun b68=>?_;refine sto hT .head ?_;refine nn<|sr<|ss (ldN hT (bJ .head)) ?_;refine ss (cC rfl rfl (wM)) ?_;refine ss (fQ ⟨(bS toks (k) e true).flt.1,(bS toks (k) e true).flt.2⟩ ⟨0,0⟩ rfl rfl rfl) ?_;refine nn<|bK rfl (fun hc190=>?_) (fun hc190=>?_)
 ·have hc190:=fV hc190;refine bB<|cZ _ _ [(true,0),(true,1),(false,2)] dD (by decide+kernel) (.cons .head (.cons .head (.cons .head (.cons .head (.cons .head (.cons .head (.cons .head (.cons .head (.cons .head (.cons .head .nil)))))))))) bI.self ?_;refine stM rfl (ldN hT (bJ .head)) ?_;refine puM hT ?_;refine cL (o:=_) rfl ?_;refine sto hT kT10 ?_;refine cK (.cons kT1 (.cons kT1 (.cons kT1 (.cons kT1 (.cons kT1 (.cons kT1 (.cons kT1 (.cons kT1 (.cons kT1 (.cons kT1 .nil)))))))))) (bI.drop 0) ?_;refine cN<|bC<|bG<|bH<|bA<|bH ?_;have hr:=(oY hinv30.1 (by first | exact .inl (by omega) | exact .inr (.inl ‹_›) | exact .inr (.inr ‹_›)) (by omega) (by omega) ‹_›).2 hc190;subst hr;exact bO (none,0,[],_) rfl (bF rfl) (bL hT (bJ .head) rfl rfl rfl rfl) (.cons kT2 .nil) ⟨dM,Has.each_nil,Has.pure rfl,trivial⟩ rfl
 have hc190:=fP hc190;have he:=(oY hinv30.1 (by first | exact .inl (by omega) | exact .inr (.inl ‹_›) | exact .inr (.inr ‹_›)) (by omega) (by omega) ‹_›).1 hc190;refine bN<|cD<|bC ?_;exact cO ((bS toks (k) e true).next,o,out,(some (b67,(qG (bS toks (k) e true)))::st),_,_,_,_) (by have:=he.1;first | (have:=dQ toks k e false;dsimp only;omega) | (have:=dQ toks k e true;dsimp only;omega)) ⟨rfl,trivial⟩ ⟨rfl,rfl,rfl,rfl,rfl,rfl,trivial⟩ (.cons kT1 (.cons kT4 (.cons kT4 (.cons kT2 (.cons kT2 (.cons kT5 (.cons kT1 .nil))))))) ⟨Has.pure (⟨he,hinv30.2.1,hinv30.2.2.1,by have:=dQ toks k e true;first | omega | (simp;omega),he.1⟩),Has.of mT1,Has.of mT0,Has.of mT5,trivial⟩ (bI.drop 13)
structure nS where
 name:Bs
 n:Int
 deriving Inhabited,DecidableEq
structure fX where
 name:Bs
 at_:Int
 sides:List nS
 deriving Inhabited,DecidableEq
structure jR where
 name:Bs
 at_:Int
 items:List dN
 deriving Inhabited,DecidableEq
structure gG where
 inputs:List fX
 lines:List jR
 deriving Inhabited,DecidableEq
def verbWords:List Bs:=[[43],[45],[42],[37],[124],[109,105,110],[109,97,120],[61],[126],[60],[60,61],[62,61],[62],[97,110,100],[111,114],[112,111,119],[114,104,111],[116,97,107,101],[100,114,111,112],[99,97,116],[105,111,116,97],[115,104,97,112,101],[114,97,118,101,108],[114,101,118],[116,117,114,110]]
def bBy (two:Bool)(f:Int):List Bs→Bs→Bs
 | [],acc=>acc
 | s::r,acc=>bBy two f r (if fY s two !=0&&fY s two==f then s else acc)
def iQ (two:Bool)(f:Int):Bs:=bBy two f verbWords []
structure fM where
 words:List Bs
 nest:Nat
 tokens:Nat
 plain:Bool
 deriving Inhabited,DecidableEq
def operandS(it:dN):Option fM:=
 if it.how=2 then (if it.fn=0∧it.nums=[]∧dX it.name=true then some ⟨[it.name],0,1,true⟩ else none)
 else if it.fn≠0∨it.name≠[]∨it.nums=[]∨256<it.nums.length then none
 else some ⟨it.nums.map fJ,0,it.nums.length,true⟩
def markS (how:Int):Bs:=if how=5 then [47] else if how=6 then [92] else if how=7 then [46] else []
def verbS (it:dN):Bs×Nat:=
 if it.how=3 then (iQ false it.fn,1)
 else if iQ true it.fn=[]∨it.how=4 then (iQ true it.fn,1)
 else if 17<it.fn then ([],0)
 else (iQ true it.fn++markS it.how,2)
def brkEnd:List Bs→List Bs
 | []=>[]
 | [w]=>[w++[41]]
 | w::r=>w::brkEnd r
def brk:List Bs→List Bs
 | []=>[]
 | w::r=>brkEnd (([40]++w)::r)
def leftS (p:fM):fM:=if p.plain then p else ⟨brk p.words,p.nest+1,p.tokens+2,p.plain⟩
def pL (how:Int):Bool:=how==4 || how==7
def oA (it:dN)(st:List fM):Option (List fM):=
 if pL it.how then match st with
  | p::q::r=>some (⟨(leftS q).words++(verbS it).1::p.words,max p.nest (leftS q).nest,p.tokens+(verbS it).2+(leftS q).tokens,false⟩::r)
  | _=>none
 else match st with
  | p::r=>some (⟨(verbS it).1::p.words,p.nest,p.tokens+(verbS it).2,false⟩::r)
  | []=>none
def hZ (st:List fM)(it:dN):Option (List fM):=
 if it.how=1∨it.how=2 then (operandS it).map (· ::st)
 else if it.how<3∨7<it.how∨it.nums≠[]∨it.name≠[]∨(verbS it).1=[] then none
 else oA it st
def fS:List dN→List fM→Option (List fM)
 | [],st=>some st
 | it::r,st=>match hZ st it with
  | none=>none
  | some st'=>fS r st'
def joinSp:List Bs→Bs
 | []=>[]
 | [w]=>w
 | w::r=>w++32::joinSp r
def gE (l:List dN)(most:Nat):Option Bs:=
 if most<l.length then none else match fS l [] with
  | some [p]=>if most<p.tokens∨32<p.nest then none else some (joinSp p.words)
  | _=>none
def kG:List nS→Bs→Option Bs
 | [],t=>some t
 | d::r,t=>if d.name=[] then kG r (t++([32]++fJ d.n)) else if d.n=0∧dX d.name=true then kG r (t++([32]++d.name)) else none
def mN (x:fX):Option Bs:=if dX x.name=false∨4<x.sides.length then none else kG x.sides x.name
def iO:List fX→Bs→Bs×Bool
 | [],o=>(o,true)
 | x::r,o=>match mN x with
  | none=>(o,false)
  | some t=>iO r (o++(([105,110,32]++t)++[10]))
def fL:List jR→Bs→Bs×Bool
 | [],o=>(o,true)
 | [l],o=>match gE l.items 255 with
  | none=>(o,false)
  | some t=>if l.name≠[] then (o,false) else (o++(([111,117,116,32]++t)++[10]),true)
 | l::r,o=>match gE l.items 254 with
  | none=>(o,false)
  | some t=>if dX l.name=false then (o,false) else fL r (o++(((l.name++[58,32])++t)++[10]))
def dF (p:gG):Bs×Bool:=
 if p.lines=[]∨64<p.inputs.length+p.lines.length then ([],false) else match iO p.inputs [] with
  | (o,false)=>(o,false)
  | (o,true)=>fL p.lines o
def lR (p:gG):Bs×Int:=if (dF p).2=false then ([],50) else if 65536<(dF p).1.length then ([],30) else ((dF p).1,0)
def mE (two:Bool)(f:Int):List Bs→Bs
 | []=>[]
 | s::r=>if fY s two !=0&&fY s two==f then s else mE two f r
structure uN where
 s:Bs
 plain:Bool
 tokens:Nat
 nest:Nat
 deriving Inhabited,DecidableEq
def numsR:List Int→Bs→Bs
 | [],s=>s
 | n::r,s=>numsR r ((s++[32])++fJ n)
def numsR0:List Int→Bs
 | []=>[]
 | n::r=>numsR r (fJ n)
def pX:uN:=⟨[],false,0,0⟩
def operandR(x:dN):uN:=
 if x.fn≠0 then pX
 else if x.how=2 then (if x.nums≠[]∨dX x.name=false then pX else ⟨x.name,true,1,0⟩)
 else if x.name≠[]∨256<x.nums.length then pX
 else ⟨numsR0 x.nums,true,x.nums.length,0⟩
def brkR (p:uN):uN:=if p.plain then p else ⟨([40]++p.s)++[41],false,p.tokens+2,p.nest+1⟩
def takesB(f:Int):Bool:=decide (1≤f∧f≤17∧f≠16)
def verbR (x:dN):Bs×Nat:=
 let w:=mE (x.how !=3) x.fn verbWords
 if w=[]∨x.how≠3∧x.how≠4∧takesB x.fn=false then ([],1) else (w++markS x.how,if 5≤x.how then 2 else 1)
def bHl (l:List uN)(x:dN):Option (List uN):=
 if x.how=1∨x.how=2 then (if 0<(operandR x).tokens then some (operandR x::l) else none)
 else if x.how<3∨7<x.how∨x.nums≠[]∨x.name≠[] then none
 else if (verbR x).1=[] then none
 else if pL x.how then match l with
  | p::q::r=>some (⟨(((brkR q).s++[32])++(verbR x).1++[32])++p.s,false,(brkR q).tokens+(verbR x).2+p.tokens,max (brkR q).nest p.nest⟩::r)
  | _=>none
 else match l with
  | p::r=>some (⟨((verbR x).1++[32])++p.s,false,(verbR x).2+p.tokens,p.nest⟩::r)
  | []=>none
def bCu:List dN→List uN→Option (List uN)
 | [],st=>some st
 | it::r,st=>match bHl st it with
  | none=>none
  | some st'=>bCu r st'
def hitB (two:Bool)(f:Int)(s:Bs):Bool:=fY s two !=0&&fY s two==f
theorem bGp(two:Bool)(f:Int): ∀l:List Bs,l.Pairwise (fun s t=>fY s two=0∨fY s two≠fY t two)→ ∀acc,bBy two f l acc=if l.any (hitB two f) then mE two f l else acc
 | [],_,acc=>rfl
 | s::r,h,acc=>by
  obtain⟨h1,h2⟩:=List.pairwise_cons.1 h;rw [bBy,mE,bGp two f r h2]
  by_cases hs:(fY s two !=0&&fY s two==f)=true
  ·have hn:r.any (hitB two f)=false:=by
    rw [List.any_eq_false];intro t ht hb;simp only [hitB,Bool.and_eq_true,bne_iff_ne,beq_iff_eq] at hb hs
    rcases h1 t ht with h | h
    ·exact hs.1 h
    ·exact h (hs.2.trans hb.2.symm)
   simp [hs,hn,hitB]
  ·simp only [Bool.not_eq_true] at hs;simp [hs,hitB]
theorem bGw(two:Bool)(f:Int): ∀l:List Bs,l.any (hitB two f)=false→mE two f l=[]
 | [],_=>rfl
 | s::r,h=>by
  rw [List.any_cons,Bool.or_eq_false_iff] at h;rw [mE];have:(fY s two !=0&&fY s two==f)=false:=h.1;rw [this,bGw two f r h.2];rfl
theorem uQ(two:Bool)(f:Int):mE two f verbWords=iQ two f:=by
 unfold iQ;rw [bGp two f verbWords (by cases two<;>decide)];cases h:verbWords.any (hitB two f)
 ·rw [bGw two f _ h];rfl
 ·rfl
theorem bMc(two:Bool)(f:Int): ∀l:List Bs,mE two f l≠[]→mE two f l∈l∧hitB two f (mE two f l)=true
 | [],h=>absurd rfl h
 | s::r,h=>by
  rw [mE] at h⊢
  by_cases hs:(fY s two !=0&&fY s two==f)=true
  ·rw [if_pos hs];exact⟨List.mem_cons_self ..,hs⟩
  ·rw [if_neg hs] at h⊢;obtain⟨h1,h2⟩:=bMc two f r h;exact⟨List.mem_cons_of_mem _ h1,h2⟩
theorem bCp{two:Bool}{f:Int}(h:iQ two f≠[]):iQ two f∈verbWords∧fY (iQ two f) two=f∧f≠0:=by
 rw [←uQ] at h⊢;obtain⟨h1,h2⟩:=bMc two f _ h;simp only [hitB,Bool.and_eq_true,bne_iff_ne,beq_iff_eq] at h2;exact⟨h1,h2.2,fun e=>h2.1 (h2.2.trans e)⟩
theorem bKk{f:Int}(h:iQ true f≠[]):takesB f=decide (f≤17):=by
 obtain⟨h1,h2,h3⟩:=bCp h;have key: ∀s∈verbWords,fY s true≠0→takesB (fY s true)=decide (fY s true≤17):=by decide
 rw [←h2] at h3⊢;have:=key _ h1 (by rw [h2] at h3⊢;exact h3);rw [h2] at this⊢;exact this
theorem jB(w:Bs){r:List Bs}(h:r≠[]):joinSp (w::r)=w++32::joinSp r:=by
 cases r with
 | nil=>exact absurd rfl h
 | cons x r=>rfl
theorem xV: ∀(a b:List Bs),a≠[]→b≠[]→joinSp (a++b)=joinSp a++32::joinSp b
 | [],_,h,_=>absurd rfl h
 | [w],b,_,h=>jB w h
 | w::x::a,b,_,h=>by
  have:=xV (x::a) b (by simp) h;rw [List.cons_append,jB w (by simp),this,jB w (by simp)];simp
theorem bMn{l:List Bs}(h:l≠[]):brkEnd l≠[]:=by
 match l,h with
 | [w],_=>simp [brkEnd]
 | w::x::r,_=>simp [brkEnd]
theorem bDh: ∀l:List Bs,l≠[]→joinSp (brkEnd l)=joinSp l++[41]
 | [],h=>absurd rfl h
 | [w],_=>rfl
 | w::x::r,_=>by
  show joinSp (w::brkEnd (x::r))=_;rw [jB w (bMn (by simp)),bDh (x::r) (by simp),jB w (by simp)];simp
theorem join_brk{l:List Bs}(h:l≠[]):joinSp (brk l)=([40]++joinSp l)++[41]:=by
 cases l with
 | nil=>exact absurd rfl h
 | cons w r=>
  show joinSp (brkEnd _)=_;rw [bDh _ (by simp)]
  cases r with
  | nil=>simp [joinSp]
  | cons x r=>simp [joinSp]
theorem brk_ne{l:List Bs}(h:l≠[]):brk l≠[]:=by
 cases l with
 | nil=>exact absurd rfl h
 | cons w r=>exact bMn (by simp)
theorem bJj: ∀(l:List Int) (s:Bs),numsR l s=match l with
  | []=>s
  | _=>s++32::joinSp (l.map fJ)
 | [],s=>rfl
 | n::r,s=>by
  rw [numsR,bJj r]
  cases r with
  | nil=>simp [joinSp]
  | cons m r=>simp [joinSp]
theorem bDr(l:List Int):numsR0 l=joinSp (l.map fJ):=by
 cases l with
 | nil=>rfl
 | cons n r=>
  rw [numsR0,bJj]
  cases r with
  | nil=>rfl
  | cons m r=>rfl
structure Like (p:uN) (q:fM):Prop where
 s:p.s=joinSp q.words
 plain:p.plain=q.plain
 tokens:p.tokens=q.tokens
 nest:p.nest=q.nest
 ne:q.words≠[]
theorem Like.brk{p:uN}{q:fM}(h:Like p q):Like (brkR p) (leftS q):=by
 unfold brkR leftS;rw [h.plain];cases hq:q.plain
 ·simp only [Bool.false_eq_true,if_false];exact⟨by rw [h.s,join_brk h.ne],by simp,by simp [h.tokens],by simp [h.nest],brk_ne h.ne⟩
 ·simp only [if_true];exact h
theorem operand_like(x:dN)(hx:x.how=1∨x.how=2):match operandS x with
  | none=> ¬0<(operandR x).tokens
  | some q=>0<(operandR x).tokens∧Like (operandR x) q:=by
 unfold operandS operandR
 rcases hx with hx | hx
 ·have h2:x.how≠2:=by omega
  simp only [h2,if_false]
  by_cases hf:x.fn=0
  ·by_cases hn:x.name=[]
   ·by_cases h0:x.nums=[]
    ·simp [hf,hn,h0]
    ·by_cases h256:256<x.nums.length
     ·simp [hf,hn,h0,h256,pX]
     ·have hl:0<x.nums.length:=List.length_pos_iff.2 h0;simp only [hf,hn,h0,h256,ne_eq,not_true_eq_false,or_self,if_false];exact⟨hl,bDr _,rfl,rfl,rfl,by simpa using h0⟩
   ·simp [hf,hn,pX]
  ·simp [hf,pX]
 ·simp only [hx,if_true]
  by_cases hf:x.fn=0
  ·by_cases h0:x.nums=[]
   ·cases hn:dX x.name
    ·simp [hf,h0,pX]
    ·simp only [hf,h0,ne_eq,not_true_eq_false,and_self,or_self,Bool.true_eq_false,if_true,if_false];exact⟨by decide,rfl,rfl,rfl,rfl,by simp⟩
   ·simp [hf,h0,pX]
  ·simp [hf,pX]
theorem verb_like{x:dN}(h3:3≤x.how)(h7:x.how≤7):(verbS x).1=(verbR x).1∧((verbS x).1≠[]→(verbS x).2=(verbR x).2):=by
 unfold verbS verbR;rw [uQ]
 by_cases e3:x.how=3
 ·have hb:(x.how !=3)=false:=by simp [e3]
  simp only [e3,if_true,ne_eq,not_true_eq_false,false_and,or_false];rw [show((3:Int) !=3)=false from rfl]
  by_cases ht:iQ false x.fn=[]
  ·simp [ht]
  ·simp [ht,markS]
 ·have hb:(x.how !=3)=true:=by simp [e3]
  simp only [hb,e3,if_false,ne_eq,not_false_eq_true,true_and]
  by_cases ht:iQ true x.fn=[]
  ·simp [ht]
  ·rw [bKk ht]
   by_cases e4:x.how=4
   ·simp [ht,e4,markS]
   ·have h5:5≤x.how:=by omega
    by_cases h17:17<x.fn
    ·have: ¬x.fn≤17:=by omega
     simp [ht,e4,h17,this]
    ·have:x.fn≤17:=by omega
     simp [ht,e4,h17,this,h5]
inductive rQ:List uN→List fM→Prop
 | nil:rQ [] []
 | cons {p q a b}:Like p q→rQ a b→rQ (p::a) (q::b)
theorem rQ.len{a:List uN}{b:List fM}(h:rQ a b):a.length=b.length:=by induction h<;>simp_all
def OptLike:Option (List uN)→Option (List fM)→Prop
 | none,none=>True
 | some a,some b=>rQ a b
 | _,_=>False
theorem step_like{a:List uN}{b:List fM}(h:rQ a b)(x:dN):OptLike (bHl a x) (hZ b x):=by
 unfold bHl hZ
 by_cases ho:x.how=1∨x.how=2
 ·have:=operand_like x ho;simp only [ho,if_true]
  cases hs:operandS x with
  | none=>rw [hs] at this;simp only [Option.map_none];rw [if_neg this];trivial
  | some q=>rw [hs] at this;simp only [Option.map_some];rw [if_pos this.1];exact .cons this.2 h
 ·simp only [ho,if_false]
  by_cases hbad:x.how<3∨7<x.how∨x.nums≠[]∨x.name≠[]
  ·rw [if_pos hbad,if_pos (by rcases hbad with h | h | h | h<;>simp [h])];trivial
  ·rw [if_neg hbad];have hb':=hbad;simp only [not_or] at hb';obtain⟨v1,v2⟩:=verb_like (x:=x) (by omega) (by omega)
   by_cases hv:(verbS x).1=[]
   ·rw [if_pos (show(verbR x).1=[] by rw [←v1];exact hv),if_pos (.inr (.inr (.inr (.inr hv))))];trivial
   ·have hv': ¬(verbR x).1=[]:=by rw [←v1];exact hv
    have hneg: ¬(x.how<3∨7<x.how∨x.nums≠[]∨x.name≠[]∨(verbS x).1=[]):=by
     rintro(h | h | h | h | h)
     ·exact hbad (.inl h)
     ·exact hbad (.inr (.inl h))
     ·exact hbad (.inr (.inr (.inl h)))
     ·exact hbad (.inr (.inr (.inr h)))
     ·exact hv h
    rw [if_neg hneg,if_neg hv'];unfold oA;cases ht:pL x.how
    ·simp only [Bool.false_eq_true,if_false]
     cases h with
     | nil=>trivial
     | cons hp hr=>
      refine .cons ⟨?_,rfl,?_,hp.nest,by simp⟩ hr
      ·simp only;rw [jB _ hp.ne,hp.s,v1];simp
      ·simp only;rw [hp.tokens,v2 hv];omega
    ·simp only [if_true]
     cases h with
     | nil=>trivial
     | cons hp hr=>
      cases hr with
      | nil=>trivial
      | cons hq hr=>
       have hb:=hq.brk;refine .cons ⟨?_,rfl,?_,?_,by simp⟩ hr
       ·simp only;rw [xV _ _ hb.ne (by simp),jB _ hp.ne,hp.s,hb.s,v1];simp
       ·simp only;rw [hp.tokens,hb.tokens,v2 hv];omega
       ·simp only;rw [hp.nest,hb.nest,Nat.max_comm]
theorem bJk: ∀(l:List dN) {a:List uN} {b:List fM},rQ a b→OptLike (bCu l a) (fS l b)
 | [],_,_,h=>h
 | x::r,a,b,h=>by
  have:=step_like h x;rw [bCu,fS];cases h1:bHl a x<;>cases h2:hZ b x<;>rw [h1,h2] at this
  ·trivial
  ·exact this.elim
  ·exact this.elim
  ·exact bJk r this
theorem step_tokens{st st':List fM}{x:dN}(h:hZ st x=some st'):(st.map (·.tokens)).sum+1≤(st'.map (·.tokens)).sum:=by
 unfold hZ at h;split at h
 ·unfold operandS at h;split at h
  ·split at h
   ·simp at h;subst h;simp;omega
   ·simp at h
  ·split at h
   ·simp at h
   ·rename_i hn;simp at h;subst h;have:0<x.nums.length:=List.length_pos_iff.2 fun e=>hn (by simp [e]);simp;omega
 ·split at h
  ·cases h
  ·have hv:1≤(verbS x).2∨(verbS x).1=[]:=by
    unfold verbS;split
    ·exact .inl (by simp)
    ·split
     ·exact .inl (by simp)
     ·split
      ·exact .inr rfl
      ·exact .inl (by simp)
   rename_i hn;have hv:1≤(verbS x).2:=hv.resolve_right fun e=>hn (by simp [e]);unfold oA at h;split at h
   ·split at h
    ·rename_i p q r;simp at h;subst h;have:q.tokens≤(leftS q).tokens:=by unfold leftS;split<;>simp
     simp only [List.map_cons,List.sum_cons];omega
    ·cases h
   ·split at h
    ·simp at h;subst h;simp;omega
    ·cases h
theorem bAs: ∀{l:List dN} {st st':List fM},fS l st=some st'→(st.map (·.tokens)).sum+l.length≤(st'.map (·.tokens)).sum
 | [],st,st',h=>by simp [fS] at h;subst h;simp
 | x::r,st,st',h=>by
  rw [fS] at h
  cases h1:hZ st x with
  | none=>rw [h1] at h;cases h
  | some s1=>
   rw [h1] at h;have:=bAs h;have:=step_tokens h1;simp only [List.length_cons];omega
def jA.sd (x:jA):nS:=⟨x.name,x.n⟩
def InputV.inp(x:InputV):fX:=⟨x.name,x.at_,x.sides.list.map jA.sd⟩
def LineV.ln(x:LineV):jR:=⟨x.name,x.at_,x.items.list.map ItemV.it⟩
def ProgV.pr(x:ProgV):gG:=⟨x.inputs.list.map InputV.inp,x.lines.list.map LineV.ln⟩
def kF:List TokV→List nS→List nS×Flt
 | [],acc=>(acc,(0,0))
 | t::r,acc=>
  if t.kind≠2∧(t.kind≠1∨dX t.word=false) then (acc,(t.at_,41))
  else if acc.length=4 then (acc,(t.at_,45)) else kF r (acc++[⟨t.word,t.n⟩])
section
variable (toks : List TokV) (e : Int)
def jM:fX×Flt:=
 if toks.length=1 then (⟨(bP toks 1).word,atP toks 1 e,[]⟩,(atP toks 1 e,42))
 else if (bP toks 1).kind≠1∨dX (bP toks 1).word=false then (⟨(bP toks 1).word,atP toks 1 e,[]⟩,(atP toks 1 e,41))
 else (⟨(bP toks 1).word,atP toks 1 e,(kF (toks.drop 2) []).1⟩,(kF (toks.drop 2) []).2)
def isW (t:TokV)(w:Bs):Bool:=t.kind==1&&t.word==w
def qD (name:Bs)(k:Nat):jR×Flt:=(⟨name,(bP toks 0).at_,(lG toks e k).1⟩,(lG toks e k).2)
def fW (p:gG)(n:Nat)(over:Bool):gG×Flt:=
 if n=64 then (p,(atP toks 0 e,45))
 else if 256<toks.length then (p,(atP toks 256 e,45))
 else if over=true∨isW (bP toks 0) [105,110]=true∧p.lines≠[] then (p,(atP toks 0 e,40))
 else if isW (bP toks 0) [105,110]=true then (⟨p.inputs++[(jM toks e).1],p.lines⟩,(jM toks e).2)
 else if isW (bP toks 0) [111,117,116]=true then (⟨p.inputs,p.lines++[(qD toks e [] 1).1]⟩,(qD toks e [] 1).2)
 else if (bP toks 0).kind≠1∨dX (bP toks 0).word=false then (p,(atP toks 0 e,40))
 else if (bP toks 1).kind≠3∨(bP toks 1).word≠[58] then (p,(atP toks 1 e,42))
 else (⟨p.inputs,p.lines++[(qD toks e (bP toks 0).word 2).1]⟩,(qD toks e (bP toks 0).word 2).2)
end
def ownP (toks:List TokV):List TokV:=toks.takeWhile fun t=>t.kind !=4
def bKg (toks:List TokV)(len:Int):Int:=atP toks (ownP toks).length len
def nX (p:gG):Bool:=match p.lines.getLast? with
 | none=>false
 | some l=>l.name==[]
def qF (len:Int):Nat→List TokV→gG→Nat→Bool→gG×Flt
 | 0,_,_,_,_=>(⟨[],[]⟩,(0,0))
 | f+1,toks,p,n,over=>
  if toks=[] then (if over=true then (p,(0,0)) else (⟨[],[]⟩,(len,42)))
  else if ownP toks=[] then qF len f (toks.drop 1) p n over
  else if kS (fW (ownP toks) (bKg toks len) p n over).2 then
   qF len f (toks.drop ((ownP toks).length+1)) (fW (ownP toks) (bKg toks len) p n over).1 (n+1) (nX (fW (ownP toks) (bKg toks len) p n over).1)
  else (⟨[],[]⟩,(fW (ownP toks) (bKg toks len) p n over).2)
def fZ (text:Bs):gG×Flt:=
 if kS (lexP text).2 then qF text.length ((lexP text).1.length+1) (lexP text).1 ⟨[],[]⟩ 0 false else (⟨[],[]⟩,(lexP text).2)
def yF (r:gG×Flt)(len:Int)(toks:List TokV)(p:gG)(n:Nat)(over:Bool):Prop:= ∃f,toks.length+1≤f∧qF len f toks p n over=r
section
variable {r : gG × Flt} {len : Int} {toks : List TokV} {p : gG} {n : Nat} {over : Bool}
theorem p_end(h:yF r len toks p n over)(h0:toks=[]):r=if over=true then (p,(0,0)) else (⟨[],[]⟩,(len,42)):=by
 obtain⟨f,hf,h⟩:=h
 obtain⟨f,rfl⟩: ∃g,f=g+1:=⟨f-1,by omega⟩
 rw [qF,if_pos h0] at h;exact h.symm
theorem p_skip(h:yF r len toks p n over)(h0:toks≠[])(h1:ownP toks=[]):yF r len (toks.drop 1) p n over:=by
 obtain⟨f,hf,h⟩:=h;have:0<toks.length:=List.length_pos_iff.2 h0
 obtain⟨f,rfl⟩: ∃g,f=g+1:=⟨f-1,by omega⟩
 rw [qF,if_neg h0,if_pos h1] at h;exact⟨f,by rw [List.length_drop];omega,h⟩
theorem bIm(h:yF r len toks p n over)(h0:toks≠[])(h1:ownP toks≠[]){q:gG}{f:Flt}(hq:fW (ownP toks) (bKg toks len) p n over=(q,f)):
  (kS f=true→yF r len (toks.drop ((ownP toks).length+1)) q (n+1) (nX q))∧(kS f=false→r=(⟨[],[]⟩,f)):=by
 obtain⟨g,hg,h⟩:=h;have:0<toks.length:=List.length_pos_iff.2 h0
 obtain⟨g,rfl⟩: ∃k,g=k+1:=⟨g-1,by omega⟩
 rw [qF,if_neg h0,if_neg h1,hq] at h;refine⟨fun hi=>?_,fun hi=>?_⟩
 ·rw [if_pos hi] at h;exact⟨g,by rw [List.length_drop];omega,h⟩
 ·rw [if_neg (by rw [hi];simp)] at h;exact h.symm
end
structure bAu (t:TokV):Prop where
 word:t.word.length≤16
 lo: -9223372036854775808≤t.n
 hi:t.n≤9223372036854775807
theorem bHv{neg:Bool}{ds:Bs}{v:Int}(h:pQ neg ds=some v): -9223372036854775808≤v∧v≤9223372036854775807:=by
 unfold pQ at h;split at h
 ·split at h
  ·injection h with h
   omega
  ·cases h
 ·split at h
  ·injection h with h
   omega
  ·cases h
theorem numTok_ok{b:UInt8}{r:Bs}{t:TokR}(h:gV b r= .ok (some t)):t.2.1=[]∧ -9223372036854775808≤t.2.2.1∧t.2.2.1≤9223372036854775807:=by
 unfold gV at h;dsimp only at h
 by_cases hb:(b==95)=true
 ·simp only [hb,if_true] at h;split at h
  ·cases h
  ·split at h
   ·cases h
   ·rename_i hv;simp only [Except.ok.injEq,Option.some.injEq] at h;subst h;exact⟨rfl,bHv hv⟩
 ·simp only [hb,Bool.false_eq_true,if_false] at h;split at h
  ·cases h
  ·split at h
   ·cases h
   ·rename_i hv;simp only [Except.ok.injEq,Option.some.injEq] at h;subst h;exact⟨rfl,bHv hv⟩
theorem bLc{s:Bs}{k v:Int}{wd:Bs}{m:Nat}(h:fT s= .ok (k,wd,v,m)):wd.length≤16∧ -9223372036854775808≤v∧v≤9223372036854775807:=by
 cases s with
 | nil=>cases h
 | cons b r=>
  simp only [fT] at h;split at h
  ·cases h;decide
  ·split at h
   ·split at h
    ·cases h
    ·cases h;rename_i h16
     have:=(List.length_take_le (runB lM (b::r)) (b::r))
     exact⟨by omega,by decide,by decide⟩
   ·split at h
    ·cases h
    ·rename_i t' ht;simp only [Except.ok.injEq] at h;subst h;obtain⟨h1,h2,h3⟩:=numTok_ok ht;simp only at h1 h2 h3;exact⟨by rw [h1];decide,h2,h3⟩
    ·split at h
     ·cases h
     ·cases h
      have h2:kT (b::r)≤2:=by
       simp only [kT];split
       ·omega
       ·split<;>omega
      have:=(List.length_take_le (kT (b::r)) (b::r))
      exact⟨by omega,by decide,by decide⟩
theorem bAm: ∀(f i:Nat) (s:Bs) (out:List Tok),(∀t∈out,bAu t)→ ∀t∈(lexGo f i s out).1,bAu t
 | 0,_,_,out,h=>h
 | _+1,_,[],out,h=>h
 | f+1,i,b::r,out,h=>by
  unfold lexGo;split
  ·exact bAm f _ _ _ h
  ·split
   ·exact bAm f _ _ _ h
   ·split
    ·exact fun t ht=>by simp at ht
    ·rename_i ht;refine bAm f _ _ _ fun t hm=>?_
     rcases List.mem_append.1 hm with hm | hm
     ·exact h t hm
     ·rw [List.mem_singleton.1 hm];obtain⟨h1,h2,h3⟩:=bLc ht;exact⟨h1,h2,h3⟩
theorem lex_ok(s:Bs): ∀t∈(lexP s).1,bAu t:=by
 unfold lexP;split
 ·exact fun t ht=>by simp at ht
 ·exact bAm _ _ _ _ fun t ht=>by simp at ht
theorem peek_ok{toks:List TokV}(h: ∀t∈toks,bAu t)(k:Nat):bAu (bP toks k):=by
 unfold bP;split
 ·rename_i ht;exact h _ (List.mem_of_getElem? ht)
 ·exact⟨by decide,by decide,by decide⟩
theorem xB{toks:List TokV}(h: ∀t∈toks,bAu t)(k:Nat):(bP toks k).word.length≤65536:=Nat.le_trans (peek_ok h k).word (by decide)
theorem bHn(toks:List TokV):(ownP toks).length≤toks.length:=(List.takeWhile_sublist _).length_le
theorem bAq(toks:List TokV):toks.take (ownP toks).length=ownP toks:=by
 unfold ownP
 induction toks with
 | nil=>rfl
 | cons t r ih=>
  rw [List.takeWhile_cons];split
  ·rw [List.length_cons,List.take_succ_cons,ih]
  ·rfl
theorem own_more{toks:List TokV}{n:Nat}{x:TokV}(hn:n≤(ownP toks).length)(hx:toks[n]?=some x)(h4:x.kind≠4):n+1≤(ownP toks).length:=by
 unfold ownP at*
 induction toks generalizing n with
 | nil=>simp at hx
 | cons t r ih=>
  rw [List.takeWhile_cons] at hn⊢;split at hn
  ·rename_i ht;rw [if_pos ht]
   cases n with
   | zero=>simp
   | succ n=>
    have:=ih (n:=n) (by simpa using hn) (by simpa using hx);simp;omega
  ·rename_i ht;have:n=0:=by simpa using hn
   subst this;simp at hx;subst hx;simp [h4] at ht
theorem own_stop{toks:List TokV}{n:Nat}(hn:n≤(ownP toks).length)(h:toks.length≤n∨ ∃x:TokV,toks[n]?=some x∧x.kind=4):n=(ownP toks).length:=by
 have hl:=bHn toks
 rcases h with h | ⟨x,hx,h4⟩
 ·omega
 ·rcases Nat.lt_or_ge n (ownP toks).length with hlt | hge
  ·exfalso
   have hm:(ownP toks)[n]?=some x:=by
    rw [←bAq toks,List.getElem?_take,if_pos hlt];exact hx
   have:=List.all_takeWhile (p:=fun t:TokV=>t.kind !=4) (l:=toks);have:=List.all_eq_true.1 this x (List.mem_of_getElem? hm);simp [h4] at this
  ·omega
structure Tk where
 kind:Int
 word:Bs
 n:Int
 deriving Inhabited,DecidableEq
def TokV.tk(t:TokV):Tk:=⟨t.kind,t.word,t.n⟩
def Lx (s:Bs)(T:List Tk)(rest:Bs):Prop:= ∀i out,∃L:List Tok,L.map TokV.tk=T∧lexGo (s++rest).length i (s++rest) out=lexGo rest.length (i+s.length) rest (out++L)
section
variable {a b s rest : Bs} {A B : List Tk}
theorem Lx.nil:Lx [] [] rest:=fun i out=>⟨[],rfl,by simp⟩
theorem Lx.append(h:Lx a A (b++rest))(k:Lx b B rest):Lx (a++b) (A++B) rest:=fun i out=>by
 obtain⟨L,hL,e⟩:=h i out;obtain⟨M,hM,e'⟩:=k (i+a.length) (out++L);exact⟨L++M,by simp [hL,hM],by rw [List.append_assoc,e,e',List.length_append,Nat.add_assoc,List.append_assoc]⟩
theorem Lx.blank:Lx [32] [] rest:=fun i out=>⟨[],rfl,by
 show lexGo (32::rest).length i (32::rest) out=_;rw [lS,if_pos (by decide),List.append_nil]
 rfl⟩
theorem Lx.tok{k v:Int}{wd:Bs}{b:UInt8}(h:fT ((b::s)++rest)= .ok (k,wd,v,(b::s).length))(hb:kR b=false)(h35:(b==35)=false):Lx (b::s) [⟨k,wd,v⟩] rest:=fun i out=>
 ⟨[⟨k,i,wd,v⟩],rfl,by
  rw [List.cons_append,lS,hb,if_neg (by simp),h35,if_neg (by simp)];rw [List.cons_append] at h;rw [h];simp only;have e:(b::(s++rest)).drop (b::s).length=rest:=by rw [←List.cons_append,List.drop_left]
  rw [e]⟩
end
theorem bHj{p:UInt8→Bool}{c:UInt8}{r:Bs}(hc:p c=false): ∀s:Bs,(∀b∈s,p b=true)→runB p (s++c::r)=s.length
 | [],_=>by simp [runB,hc]
 | b::s,h=>by
  rw [List.cons_append,runB,if_pos (h b (by simp)),bHj hc s fun x hx=>h x (by simp [hx])];rfl
theorem bHz{p:UInt8→Bool}: ∀{s:Bs},runB p s=s.length→ ∀b∈s,p b=true
 | [],_,b,hb=>by simp at hb
 | c::s,h,b,hb=>by
  rw [runB] at h;split at h
  ·rename_i hc
   rcases List.mem_cons.1 hb with rfl | hb
   ·exact hc
   ·exact bHz (by simpa using h) b hb
  ·simp at h
structure WordB (s:Bs):Prop where
 head: ∃b r,s=b::r∧kC b=true
 all: ∀b∈s,lM b=true
 len:s.length≤16
theorem letter_facts{b:UInt8}(h:kC b=true):kR b=false∧(b==35)=false∧(b==10)=false:=by
 have key: ∀k:Fin 256,kC (UInt8.ofNat k.val)=true→kR (UInt8.ofNat k.val)=false∧(UInt8.ofNat k.val==35)=false∧(UInt8.ofNat k.val==10)=false:=by decide+kernel
 have hb:UInt8.ofNat b.toNat=b:=by simp
 have:=key ⟨b.toNat,b.toNat_lt⟩;rw [hb] at this;exact this h
theorem wY{s r:Bs}{c:UInt8}(h:WordB s)(hc:lM c=false):Lx s [⟨1,s,0⟩] (c::r):=by
 obtain⟨b,t,rfl,hl⟩:=h.head;obtain⟨h1,h2,h3⟩:=letter_facts hl;refine Lx.tok ?_ h1 h2;have hr:runB lM (b::(t++c::r))=(b::t).length:=bHj hc (b::t) h.all;have:=h.len;simp only [List.cons_append,fT,h3,Bool.false_eq_true,if_false,hl,if_true,hr];rw [if_neg (by omega),←List.cons_append,List.take_left]
theorem bHf{n:Int}{r:Bs}{c:UInt8}(h0: -9223372036854775808≤n)(h1:n≤9223372036854775807)(hc:dH c=false):Lx (fJ n) [⟨2,[],n⟩] (c::r):=by
 have hd:=mZ n.natAbs;have hv:=bDm n.natAbs;have hne:=qN n.natAbs;have hr:runB dH (Lib.decDigits n.natAbs++c::r)=(Lib.decDigits n.natAbs).length:=bHj hc _ hd;have hk: ¬(Lib.decDigits n.natAbs).length=0:=fun e=>hne (List.eq_nil_of_length_eq_zero e);unfold fJ;split
 ·rename_i hn;refine Lx.tok (b:=95) (s:=Lib.decDigits n.natAbs) ?_ (by decide) (by decide)
  have hp:pQ true (Lib.decDigits n.natAbs)=some n:=by
   unfold pQ;rw [hv,if_pos rfl,if_pos (by omega)]
   congr 1
   omega
  have e1:((95:UInt8)==10)=false:=by decide
  have e2:kC 95=false:=by decide
  have e3:((95:UInt8)==95)=true:=by decide
  simp only [List.cons_append,fT,e1,e2,Bool.false_eq_true,if_false,gV,e3,if_true,hr,hk,List.take_left,hp];rfl
 ·rename_i hn;rw [List.nil_append]
  obtain⟨b,t,ht⟩: ∃b t,Lib.decDigits n.natAbs=b::t:=by
   cases h:Lib.decDigits n.natAbs with
   | nil=>exact absurd h hne
   | cons b t=>exact⟨b,t,rfl⟩
  rw [ht] at hd hr hv hk⊢;have hb:=kJ (hd b (by simp));have e3:(b==95)=false:=by simp [hb.2.2.1]
  have e1:(b==10)=false:=by simp [hb.1]
  have hp:pQ false (b::t)=some n:=by
   unfold pQ;rw [hv];simp only [Bool.false_eq_true,if_false];rw [if_pos (by omega)]
   congr 1
   omega
  refine Lx.tok ?_ hb.2.2.2.2.2.1 (by simp [hb.2.2.2.2.1]);rw [List.cons_append] at hr;simp only [List.cons_append,fT,e1,Bool.false_eq_true,if_false,hb.2.1,gV,e3,hr,hk];rw [←List.cons_append,List.take_left,hp];simp
def tC:Bs→Int
 | []=>3
 | b::_=>if kC b then 1 else 3
theorem verb_tok: ∀w∈verbWords,∀c∈([32,47,92,46]:Bs),∀r:Bs,fT (w++c::r)= .ok (tC w,w,0,w.length):=by
 intro w hw c hc r;simp only [verbWords,List.mem_cons,List.not_mem_nil,or_false] at hw hc
 rcases hw with rfl | rfl | rfl | rfl | rfl | rfl | rfl | rfl | rfl | rfl | rfl | rfl | rfl | rfl | rfl | rfl | rfl | rfl | rfl | rfl | rfl | rfl | rfl | rfl | rfl<;>rcases hc with rfl | rfl | rfl | rfl<;>rfl
theorem verb_head: ∀w∈verbWords,∃b r,w=b::r∧kR b=false∧(b==35)=false:=by
 intro w hw;simp only [verbWords,List.mem_cons,List.not_mem_nil,or_false] at hw
 rcases hw with rfl | rfl | rfl | rfl | rfl | rfl | rfl | rfl | rfl | rfl | rfl | rfl | rfl | rfl | rfl | rfl | rfl | rfl | rfl | rfl | rfl | rfl | rfl | rfl | rfl<;>exact⟨_,_,rfl,by decide,by decide⟩
theorem verb_lx{w:Bs}(hw:w∈verbWords){c:UInt8}(hc:c∈([32,47,92,46]:Bs)){r:Bs}:Lx w [⟨tC w,w,0⟩] (c::r):=by
 obtain⟨b,t,rfl,h1,h2⟩:=verb_head w hw;exact Lx.tok (verb_tok _ hw c hc r) h1 h2
theorem bFg{c:UInt8}(hc:c∈([47,92,46,40,41,58]:Bs)){r:Bs}:Lx [c] [⟨3,[c],0⟩] r:=by
 simp only [List.mem_cons,List.not_mem_nil,or_false] at hc
 rcases hc with rfl | rfl | rfl | rfl | rfl | rfl<;>exact Lx.tok rfl (by decide) (by decide)
theorem nl_lx{r:Bs}:Lx [10] [⟨4,[],0⟩] r:=Lx.tok rfl (by decide) (by decide)
theorem numTok_kind{b:UInt8}{r:Bs}{t:TokR}(h:gV b r= .ok (some t)):t.1=2∧t.2.1=[]:=by
 unfold gV at h;dsimp only at h
 by_cases hb:(b==95)=true
 ·simp only [hb,if_true] at h;split at h
  ·cases h
  ·split at h
   ·cases h
   ·simp only [Except.ok.injEq,Option.some.injEq] at h;subst h;exact⟨rfl,rfl⟩
 ·simp only [hb,Bool.false_eq_true,if_false] at h;split at h
  ·cases h
  ·split at h
   ·cases h
   ·simp only [Except.ok.injEq,Option.some.injEq] at h;subst h;exact⟨rfl,rfl⟩
structure TokIs (k:Int) (wd:Bs) (v:Int) (s:Bs):Prop where
 len:wd.length≤s.length
 num:k=2→wd=[]
 word:k=1→v=0
 spell:k=1→wd=s→WordB s
theorem take_len(n:Nat)(s:Bs):(s.take n).length≤s.length:=by simp;omega
theorem bBs{s:Bs}{k v:Int}{wd:Bs}{m:Nat}(h:fT s= .ok (k,wd,v,m)):TokIs k wd v s:=by
 cases s with
 | nil=>cases h
 | cons b r=>
  simp only [fT] at h;split at h
  ·cases h;exact⟨by simp,fun h=>absurd h (by decide),fun h=>absurd h (by decide),fun h=>absurd h (by decide)⟩
  ·split at h
   ·rename_i hl;split at h
    ·cases h
    ·cases h;rename_i h16;refine⟨take_len _ _,fun h=>absurd h (by decide),fun _=>rfl,fun _ e=>?_⟩;have hr:=jY lM (b::r)
     have he:runB lM (b::r)=(b::r).length:=by
      have:=congrArg List.length e;rw [List.length_take] at this;omega
     exact⟨⟨b,r,rfl,hl⟩,bHz he,by omega⟩
   ·split at h
    ·cases h
    ·rename_i t' ht;simp only [Except.ok.injEq] at h;subst h;obtain⟨h1,h2⟩:=numTok_kind ht;simp only at h1 h2;subst h1;subst h2;exact⟨by simp,fun _=>rfl,fun h=>absurd h (by decide),fun h=>absurd h (by decide)⟩
    ·split at h
     ·cases h
     ·cases h;exact⟨take_len _ _,fun h=>absurd h (by decide),fun h=>absurd h (by decide),fun h=>absurd h (by decide)⟩
theorem nP: ∀(f i:Nat) (s:Bs) (out:List Tok),kS (lexGo f i s out).2=true→ ∃L,(lexGo f i s out).1=out++L∧ ∀t∈L,t.word.length≤s.length
 | 0,_,_,out,_=>⟨[],by simp [lexGo],by simp⟩
 | _+1,_,[],out,_=>⟨[],by simp [lexGo],by simp⟩
 | f+1,i,b::r,out,h=>by
  unfold lexGo at h⊢;split at h
  ·rename_i hb;rw [if_pos hb];obtain⟨L,h1,h2⟩:=nP f _ _ _ h;exact⟨L,h1,fun t ht=>by have:=h2 t ht;simp;omega⟩
  ·rename_i hb;rw [if_neg hb];split at h
   ·rename_i h35;rw [if_pos h35];obtain⟨L,h1,h2⟩:=nP f _ _ _ h;exact⟨L,h1,fun t ht=>by have:=h2 t ht;rw [List.length_drop] at this;omega⟩
   ·rename_i h35;rw [if_neg h35];split at h
    ·rename_i e he
     exact absurd h (by
      have:=tok_code he
      simp [kS,oK,this])
    ·rename_i k wd v m ht;obtain⟨L,h1,h2⟩:=nP f _ _ _ h;refine⟨⟨k,i,wd,v⟩::L,by rw [h1];simp,fun t hm=>?_⟩
     rcases List.mem_cons.1 hm with rfl | hm
     ·exact(bBs ht).len
     ·have:=h2 t hm;rw [List.length_drop] at this;omega
theorem lW{s:Bs}(h:dX s=true):WordB s:=by
 simp only [dX,bBz,Bool.and_eq_true] at h;obtain⟨_,_,_,hf,hm⟩:=h;have hok:kS (lexP s).2=true:=hf;unfold lexP at hok hm
 by_cases hlen:65536<s.length
 ·rw [if_pos hlen] at hok;exact absurd hok (by decide)
 ·rw [if_neg hlen] at hok hm
  cases s with
  | nil=>simp [lexGo] at hm
  | cons b r=>
   rw [lS] at hok hm
   by_cases hb:kR b=true
   ·rw [if_pos hb] at hok hm;obtain⟨L,h1,h2⟩:=nP _ _ _ _ hok;rw [h1] at hm
    match L,hm,h2 with
    | [t],hm,h2=>
     simp only [List.nil_append,Bool.and_eq_true,beq_iff_eq] at hm;have:=h2 t (by simp);rw [hm.2] at this;simp at this;omega
   ·rw [if_neg hb] at hok hm
    by_cases h35:(b==35)=true
    ·rw [if_pos h35] at hok hm;have hp:1≤runB (· !=10) (b::r):=bBl (bHu h35);obtain⟨L,h1,h2⟩:=nP _ _ _ _ hok;rw [h1] at hm
     match L,hm,h2 with
     | [t],hm,h2=>
      simp only [List.nil_append,Bool.and_eq_true,beq_iff_eq] at hm;have:=h2 t (by simp);rw [hm.2,List.length_drop] at this;simp at this;omega
    ·rw [if_neg h35] at hok hm
     cases ht:fT (b::r) with
     | error e=>
      rw [ht] at hm;simp at hm
     | ok q=>
      obtain⟨k,wd,v,m⟩:=q;rw [ht] at hok hm;simp only at hok hm;obtain⟨L,h1,h2⟩:=nP _ _ _ _ hok;rw [h1] at hm
      have hw:k=1∧wd=b::r:=by
       cases L with
       | nil=>simpa using hm
       | cons t L=>simp at hm
      obtain⟨rfl,rfl⟩:=hw;exact(bBs ht).spell rfl rfl
def dN.un (x:dN):dN:=⟨x.how,0,x.fn,x.name,x.nums⟩
def jS (l:List dN):List dN:=l.map dN.un
theorem mA(a b:List dN):jS (a++b)=jS a++jS b:=List.map_append
def OpenT:Tk:=⟨3,[40],0⟩
def CloseT:Tk:=⟨3,[41],0⟩
def iY (toks:List TokV)(k:Nat)(T:List Tk):Prop:=k≤toks.length∧(toks.drop k).map TokV.tk=T
section
variable {toks : List TokV} {k : Nat} {t : Tk} {T R : List Tk}
theorem iY.lt(h:iY toks k (t::T)):k<toks.length:=by
 rcases Nat.lt_or_ge k toks.length with h' | h'
 ·exact h'
 ·rw [iY,List.drop_of_length_le h'] at h;simp at h
theorem iY.peek(h:iY toks k (t::T)):(bP toks k).tk=t:=by
 have hk:=h.lt;rw [qX (List.getElem?_eq_getElem hk)];have:=h.2;rw [List.drop_eq_getElem_cons hk] at this;exact(List.cons.inj this).1
theorem iY.next(h:iY toks k (t::T)):iY toks (k+1) T:=by
 have hk:=h.lt;have:=h.2;rw [List.drop_eq_getElem_cons hk] at this;exact⟨hk,(List.cons.inj this).2⟩
theorem iY.kind(h:iY toks k (t::T)):(bP toks k).kind=t.kind:=by rw [←h.peek];rfl
theorem iY.word(h:iY toks k (t::T)):(bP toks k).word=t.word:=by rw [←h.peek];rfl
theorem iY.num(h:iY toks k (t::T)):(bP toks k).n=t.n:=by rw [←h.peek];rfl
theorem iY.nil(h:iY toks k []):bP toks k=⟨4,0,[],0⟩∧k=toks.length:=by
 have e:(toks.drop k).length=0:=by
  have:=congrArg List.length h.2
  simpa using this
 rw [List.length_drop] at e;have:=h.1;exact⟨yC (by omega),by omega⟩
theorem iY.skip: ∀(T:List Tk) {k:Nat},iY toks k (T++R)→iY toks (k+T.length) R
 | [],_,h=>h
 | t::T,k,h=>by
  have:=iY.skip T (iY.next (t:=t) (T:=T++R) h);rw [List.length_cons,show k+(T.length+1)=k+1+T.length from by omega];exact this
theorem iY.kindR(h:iY toks k R){c:Int}(hc:c≠4)(hR: ∀t∈R.head?,t.kind≠c):(bP toks k).kind≠c:=by
 cases R with
 | nil=>rw [h.nil.1];exact hc.symm
 | cons t R=>rw [h.kind];exact hR t rfl
end
def Mark (t:Tk):Prop:=t.kind=3∧(t.word=[47]∨t.word=[92]∨t.word=[46])
def Ps (T:List Tk)(I:List dN)(nest:Nat)(plain:Bool):Prop:=
 ∀{toks:List TokV} {e:Int} {r:uW} {k:Nat} {out:List dN} {st:Stk} {o:Nat} {R:List Tk},iY toks k (T++R)→(∀t∈R.head?,t.kind≠2)→o+nest≤32→bAh toks e r k out st o→
  ∃out' S,(plain=true→S=[])∧jS (out'++S)=jS I∧vG toks e r (k+T.length) (out++out') (S.map some++st) o
structure Vb (T:List Tk) (it:dN) (two:Bool):Prop where
 head: ∃t T',T=t::T'∧t.kind≠2∧t.kind≠4∧nY t.word=true∧ ¬Mark t
 phrase: ∀{toks:List TokV} {k:Nat} {e:Int} {R:List Tk},iY toks k (T++R)→(∀t∈R.head?,¬Mark t)→kS (bS toks k e two).flt=true∧(bS toks k e two).next=k+T.length∧(bS toks k e two).it.un=it.un
def Hd (T:List Tk):Prop:= ∃t T',T=t::T'∧ ¬Mark t
theorem bKm(S:List dN)(st:Stk):mS (S.map some++st)=(S++(mS st).1,(mS st).2):=by
 induction S with
 | nil=>rfl
 | cons x S ih=>rw [List.map_cons,List.cons_append,mS,ih];rfl
theorem bLf{toks:List TokV}{R:List Tk}(hR: ∀t∈R.head?,t.kind≠2): ∀(ns:List Int) {k:Nat},iY toks k (ns.map (fun n=>(⟨2,[],n⟩:Tk))++R)→gH toks k=ns
 | [],k,h=>nums_end (iY.kindR (R:=R) h (by decide) hR)
 | n::ns,k,h=>by
  have h':iY toks k (⟨2,[],n⟩::(ns.map (fun n=>(⟨2,[],n⟩:Tk))++R)):=h;rw [tI h'.kind,bLf hR ns h'.next,h'.num]
theorem Ps.nums{ns:List Int}{a:Int}(h:ns≠[]):Ps (ns.map fun n=>⟨2,[],n⟩) [⟨1,a,0,[],ns⟩] 0 true:=by
 intro toks e r k out st o R hF hR _ hE;have hn:=bLf hR ns hF
 obtain⟨n,ns',rfl⟩: ∃n ns',ns=n::ns':=by
  cases ns with
  | nil=>exact absurd rfl h
  | cons n ns'=>exact⟨n,ns',rfl⟩
 have hk:(bP toks k).kind=2:=iY.kind (t:=⟨2,[],n⟩) (T:=_) hF;have:=e_num hE hk;rw [hn] at this;refine⟨[xK toks k],[],fun _=>rfl,?_,?_⟩
 ·simp [jS,xK,dN.un,hn]
 ·rw [List.length_map];exact this
theorem Ps.name{s:Bs}{a:Int}(h:dX s=true):Ps [⟨1,s,0⟩] [⟨2,a,0,s,[]⟩] 0 true:=by
 intro toks e r k out st o R hF hR _ hE;have hF':iY toks k (⟨1,s,0⟩::R):=hF;have:=e_name hE hF'.kind (by rw [hF'.word];exact h);refine⟨[qT toks k],[],fun _=>rfl,?_,this⟩;simp [jS,qT,dN.un,hF'.word]
theorem Ps.brk{T:List Tk}{I:List dN}{n:Nat}{p:Bool}(h:Ps T I n p):Ps (OpenT::(T++[CloseT])) I (n+1) true:=by
 intro toks e r k out st o R hF hR ho hE;have hF':iY toks k (OpenT::(T++(CloseT::R))):=by simpa using hF
 have h1:=(e_open hE hF'.kind hF'.word).1 (by omega);obtain⟨out',S,_,hu,hB⟩:=h hF'.next (by simp [CloseT]) (by omega) h1
 have hc:=iY.skip T hF'.next
 have:=b_close hB (by omega) hc.kind hc.word;rw [bKm] at this;refine⟨out'++S,[],fun _=>rfl,by rw [List.append_nil];exact hu,?_⟩;have e1:k+1+T.length+1=k+(OpenT::(T++[CloseT])).length:=by simp;omega
 rw [e1] at this;simp only [mS,List.append_nil,List.tail_cons,Nat.add_sub_cancel,List.append_assoc] at this;exact this
theorem Ps.mono{V T:List Tk}{I:List dN}{it:dN}{n:Nat}{p:Bool}(hv:Vb V it false)(hd:Hd T)(h:Ps T I n p):Ps (V++T) (I++[it]) n false:=by
 intro toks e r k out st o R hF hR ho hE;rw [List.append_assoc] at hF;obtain⟨t,V',hV,h2,h4,hvb,_⟩:=hv.head;obtain⟨u,T',hT,hm⟩:=hd;have hF':iY toks k (t::(V'++(T++R))):=by rw [hV] at hF;exact hF
 obtain⟨p1,p2,p3⟩:=hv.phrase (e:=e) hF (by rw [hT];simpa using hm);have h1:=(e_verb hE (by rw [hF'.kind];exact h2) (by rw [hF'.kind];exact h4) (by rw [hF'.word];exact hvb)).1 p1;rw [p2] at h1;obtain⟨out',S,_,hu,hB⟩:=h (iY.skip V hF) hR ho h1;refine⟨out',S++[(bS toks k e false).it],by simp,?_,?_⟩
 ·rw [←List.append_assoc,mA,hu,mA];show jS I++[_]=_;rw [p3];rfl
 ·rw [List.length_append,←Nat.add_assoc,List.map_append,List.append_assoc];exact hB
theorem close_verb:nY [41]=false:=by decide
theorem Ps.dyad{Q V T:List Tk}{J I:List dN}{it:dN}{m n:Nat}{p:Bool}(hq:Ps Q J m true)(hv:Vb V it true)(hd:Hd T)(h:Ps T I n p):Ps (Q++(V++T)) (J++I++[it]) (max m n) false:=by
 intro toks e r k out st o R hF hR ho hE;rw [List.append_assoc,List.append_assoc] at hF;obtain⟨t,V',hV,h2,h4,hvb,_⟩:=hv.head;obtain⟨u,T',hT,hm⟩:=hd;obtain⟨out1,S1,hS,hu1,hB1⟩:=hq hF (by rw [hV];simpa using h2) (by omega) hE;rw [hS rfl] at hB1 hu1;rw [List.append_nil] at hu1;have hF2:=iY.skip Q hF;have hF':iY toks (k+Q.length) (t::(V'++(T++R))):=by rw [hV] at hF2;exact hF2
 obtain⟨p1,p2,p3⟩:=hv.phrase (e:=e) hF2 (by rw [hT];simpa using hm);have h1:=(oY hB1 (.inr (.inr (by rw [hF'.word];intro hw;rw [hw,close_verb] at hvb;cases hvb))) (by rw [hF'.kind];exact h4) (by rw [hF'.kind];exact h2) (by rw [hF'.word];exact hvb)).1 p1;rw [p2] at h1;obtain⟨out2,S,_,hu,hB⟩:=h (iY.skip V hF2) hR (by omega) h1;refine⟨out1++out2,S++[(bS toks (k+Q.length) e true).it],by simp,?_,?_⟩
 ·rw [←List.append_assoc,mA,List.append_assoc,mA,hu,hu1,mA,mA];show _++[_]=_;rw [p3];rfl
 ·rw [List.length_append,List.length_append,←Nat.add_assoc,←Nat.add_assoc,List.map_append,List.append_assoc,←List.append_assoc out];exact hB
theorem Ps.whole{T:List Tk}{I:List dN}{n:Nat}{p:Bool}(h:Ps T I n p)(hn:n≤32){toks:List TokV}{e:Int}{k:Nat}(hF:iY toks k T):jS (lG toks e k).1=jS I∧(lG toks e k).2=(0,0):=by
 have hF':iY toks k (T++[]):=by rw [List.append_nil];exact hF
 obtain⟨out',S,_,hu,hB⟩:=h hF' (by simp) (by omega) (e_start (e:=e) hF.1);have:=r_end hB (by rw [(iY.skip T hF').nil.1]) (by omega);rw [bKm] at this;rw [this];simp only [mS,List.append_nil,List.nil_append];exact⟨hu,trivial⟩
end Go.Proofs.YtbgdphbebhjpiaaGreatDoor
