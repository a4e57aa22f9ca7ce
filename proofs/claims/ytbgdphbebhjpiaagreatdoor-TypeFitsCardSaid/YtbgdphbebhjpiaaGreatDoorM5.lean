/- Texts of one proof, one behind the other: ExprB, ShowP, ParseP, BackL, BackP. -/
import Derived.Test.YtbgdphbebhjpiaaGreatDoorM4
namespace Go.Proofs.YtbgdphbebhjpiaaGreatDoor
open Go.RowKit
def numF (it:ItemV):Fact:=mR.sl (.slice it.nums.addr it.nums.list.length it.nums.cap) it.nums.list
def mD (l:List ItemV):Fact:=Fact.each l numF
def tnF (st:List kL):Fact:=Fact.each st fun o=>match o with
 | none=>Fact.true
 | some x=>numF x.2
section
variable {F : List Fact} {b : Nat} {it : ItemV} {o : kL} {l : List ItemV} {st : List kL}
theorem tn_none(h:Has F (tnF st)):Has F (tnF (none::st)):=Has.each_cons Has.true h
theorem uK(h:Has F (tnF st))(hx:Has F (numF it)):Has F (tnF (some (b,it)::st)):=Has.each_cons hx h
theorem bFi(h:Has F (tnF (o::st))):Has F (tnF st):=Has.each_tail h
theorem bGc(h:Has F (mD l))(hx:Has F (numF it)):Has F (mD (l++[it])):=Has.each_snoc h hx
theorem tE(hn:Has F (mD l))(h:Has F (tnF st)):Has F (mD (l++(finP st).1)):=by
 induction st generalizing l with
 | nil=>rw [finP,List.append_nil];exact hn
 | cons o st ih=>
  cases o with
  | none=>rw [finP,List.append_nil];exact hn
  | some x=>
   have:=ih (bGc hn (fun S w k=>h S w k (some x) (List.mem_cons_self ..))) (bFi h);rw [List.append_assoc] at this;exact this
theorem bCh(h:Has F (tnF st)):Has F (tnF (finP st).2):=by
 induction st with
 | nil=>exact h
 | cons o st ih=>
  cases o with
  | none=>exact h
  | some x=>exact ih (bFi h)
end
section
variable {toks : List TokV} {e : Int} {r : uQ} {k o : Nat} {out : List ItemV} {st s2 : List kL}
theorem b_num{s:Stk}(h:bBo toks e r k (out.map ItemV.it) s o)(h2:(bR toks k).kind=2){j:Nat}{cur:List Int}{C:Option Addr}{c:Nat}(hj:j=k+cur.length)(hc:gG toks k=cur):
  wC toks e r j ((out++[(⟨1,(bR toks k).at_,0,[],⟨C,c,cur⟩⟩:ItemV)]).map ItemV.it) s o:=by
 have:=e_num h h2;subst hc;subst hj;rw [List.map_append];exact this
theorem b_name{s:Stk}(h:bBo toks e r k (out.map ItemV.it) s o)(h1:(bR toks k).kind=1)(hn:fJ (bR toks k).word=true):
  wC toks e r (k+1) ((out++[(⟨2,(bR toks k).at_,0,(bR toks k).word,⟨none,0,[]⟩⟩:ItemV)]).map ItemV.it) s o:=by
 rw [List.map_append];exact e_name h h1 hn
theorem b_closed(h:wC toks e r k (out.map ItemV.it) (xR st) o)(ho:0<o)(h3:(bR toks k).kind=3)(hw:(bR toks k).word=[41])(hs:(finP st).2=none::s2):
  wC toks e r (k+1) ((out++(finP st).1).map ItemV.it) (xR s2) (o-1):=by
 have h1:=b_close h ho h3 hw;rw [←(wW st).2,hs] at h1;rw [List.map_append,(wW st).1];exact h1
theorem bEx(h:wC toks e r k (out.map ItemV.it) (xR st) o)(h4:(bR toks k).kind=4)(ho: ¬0<o):r=((out++(finP st).1).map ItemV.it,(0,0)):=by
 rw [List.map_append,(wW st).1];exact r_end h h4 ho
end
theorem tC(z0:Int)(z1:Int)(s3:ByteArray):Tryz.prog.built 52 [(0,.int .i64 z0),(1,.int .i64 z1),(3,.string s3)]=some #[.int .i64 z0,.int .i64 z1,.int .u8 0,.string s3,.slice none 0 0]:=by kernel_rfl
set_option maxRecDepth 100000 in
theorem bMn(bl:Nat)(A:Option Addr)(c:Nat)(toks:List TokV)(k0:Nat)(e:Int)(hk:k0≤toks.length)(hl:toks.length≤1000)(hw: ∀k,(bR toks k).word.length≤65536):dM Tryz.prog 77 [.pointer (some ⟨bl,0,none⟩)] [.obj bl (.cells [.slice A toks.length c,.int .i64 (k0:Nat),.int .i64 e].toArray 102)] [kO.sl (.slice A toks.length c) toks,iA] (fun(x:Option Addr×Nat×List ItemV×Nat)=> .tuple #[.slice x.1 x.2.2.1.length x.2.1,.agg #[.int .i64 (qU toks e k0).2.1,.int .i64 (qU toks e k0).2.2]]) (fun(x:Option Addr×Nat×List ItemV×Nat)=>[.obj bl (.cells [.slice A toks.length c,.int .i64 (x.2.2.2:Nat),.int .i64 e].toArray 102)]) (fun(x:Option Addr×Nat×List ItemV×Nat)=>[lN.sl (.slice x.1 x.2.2.1.length x.2.1) x.2.2.1,mD x.2.2.1,Fact.pure (x.2.2.1.map ItemV.it=(qU toks e k0).1)]):=by
 have hT:=fN;have he0:=e_start (e:=e) hk;generalize qU toks e k0=r at he0⊢;refine cQ Tryz.func77 rfl Tryz.ntmps77 rfl ?_;intro β hM;refine sr<|gC rfl rfl rfl rfl rfl rfl fun b1=>?_;refine sp hT ?_;refine cC rfl rfl rfl rfl yT rfl fun b2=>?_;refine nn<|sr<|cC rfl rfl rfl rfl itemZ rfl fun b4=>?_;refine nn<|sr<|cC rfl rfl rfl rfl funcZ rfl fun b5=>?_;refine nn<|sr<|sp hT ?_;refine nn<|sr<|sp2 hT ?_;refine nn<|sr<|sp2 hT ?_;refine nn<|bU<|dS (t:=52) lN ?_;refine dS (t:=1) (fnE b4) ?_;refine bH (mD []) (Has.each_nil) ?_;refine bH (tnF []) (Has.each_nil) ?_;refine bH (lS []) (todo_nil) ?_;refine dC (ι:=Nat×Nat×List ItemV×List kL×Option Addr×Nat×Option Addr×Nat) [(1,_),(3,_),(4,_),(5,_),(7,_),(8,_)] ⟨rfl,rfl,rfl,rfl,rfl,rfl,trivial⟩ (fun⟨k,o,out,st,C,e1,D,f⟩=>[(6,.int .i64 (o:Nat))]) (fun⟨k,o,out,st,C,e1,D,f⟩=>[.obj bl (.cells [.slice A toks.length c,.int .i64 (k:Nat),.int .i64 e].toArray 102),.obj b4 (.cells [.slice C out.length e1].toArray 47),lN.row (.slice C out.length e1) 52 out,.obj b5 (.cells [.slice D st.reverse.length f].toArray 208),(fnE b4).row (.slice D st.reverse.length f) 1 st.reverse]) (fun⟨k,o,out,st,C,e1,D,f⟩=>[Fact.pure (bBo toks e r k (out.map ItemV.it) (xR st) o∧opens st=o∧o≤32∧out.length+st.length≤k∧k≤toks.length),lS st,tnF st,mD out]) (fun⟨k,o,out,st,C,e1,D,f⟩=>toks.length-k) (k0,0,[],[],none,0,none,0) ⟨rfl,trivial⟩ (.cons kT6 (.cons kT3 (.cons kT1 (.cons kT1 (.cons .head .nil))))) ⟨Has.pure (⟨he0,rfl,by omega,by simp,hk⟩),Has.of mT0,Has.of mT1,Has.of mT2,trivial⟩ ?_;rintro⟨k,o,out,st,C,e1,D,f⟩;dsimp only;refine bP (Has.of mT0) fun hinv6=>?_;refine bU<|sr<|ss (ldO hT (bJ kT6)) ?_;refine bQ Tryz.func73 (gZ bl A c toks (k) e) rfl rfl (.cons .head .nil) ⟨Has.of mT7,trivial⟩ fun _=>?_;refine cC rfl rfl rfl rfl vR rfl fun b3=>?_;refine sto hT .head ?_;refine nn<|bB<|bU<|sr<|sp hT ?_;refine ss (ldO hT (bJ .head)) ?_;refine sp2 hT ?_;refine cB (fun hg23=>?_) (fun hg23=>?_)
 ·have hg23:=bne_iff_ne.1 hg23;refine sp hT ?_;refine ss (ldO hT (bJ .head)) ?_;refine sp3 hT ?_;refine cB (fun hg28=>?_) (fun hg28=>?_)
  ·have hg28:=bne_iff_ne.1 hg28;refine sp hT ?_;refine ss (ldO hT (dH .head)) ?_;refine bQ Tryz.func135 (nK _) rfl rfl .nil trivial fun _=>?_;refine sp2 hT ?_;refine nn<|bK rfl (fun hc19=>?_) (fun hc19=>?_)
   ·refine bB<|sr<|sp hT ?_;refine gF (cR Tryz.func137 rfl rfl) (laterF_spec bl A c toks (k) e b1 b5 b4 _ _ st (by omega) (by omega)) rfl rfl rfl rfl rfl rfl rfl (.cons kT1 (.cons kT6 (.cons kT3 (.cons kT3 .nil)))) ⟨(Has.of mT7),(Has.of mT1),trivial⟩ fun⟨⟨A4,c5⟩,b6⟩=>?_;refine bH (tnF (some (b6,(qG (bW toks (k) e false)))::st)) (uK (Has.of mT3) dL) ?_;refine cC rfl rfl rfl rfl yT rfl fun b7=>?_;refine sto hT .head ?_;refine nn<|sr<|ss (ldN hT (bJ .head)) ?_;refine ss (cF rfl rfl (vW)) ?_;refine ss (fP ⟨(bW toks (k) e false).flt.1,(bW toks (k) e false).flt.2⟩ ⟨0,0⟩ rfl rfl rfl) ?_;refine nn<|bK rfl (fun hc37=>?_) (fun hc37=>?_)
    ·have hc37:=fT hc37;refine bB<|dD _ _ [(true,0),(true,1),(false,2)] dG (by decide+kernel) (.cons .head (.cons .head (.cons .head (.cons .head (.cons .head (.cons .head (.cons .head (.cons .head .nil)))))))) bI.self ?_;refine stM rfl (ldN hT (bJ .head)) ?_;refine puM hT ?_;refine cM (o:=_) rfl ?_;refine sto hT kT8 ?_;refine cN (.cons kT1 (.cons kT1 (.cons kT1 (.cons kT1 (.cons kT1 (.cons kT1 (.cons kT1 (.cons kT1 .nil)))))))) (bI.drop 0) ?_;refine cS<|bC<|bF<|bA<|bG<|bA<|bG<|bA<|bG ?_;have hr:=(e_verb hinv6.1 ‹_› ‹_› ‹_›).2 hc37;subst hr;exact bO (none,0,[],_) rfl (bE rfl) (bN hT (bJ .head) rfl rfl rfl rfl) (.cons kT2 .nil) ⟨dL,Has.each_nil,Has.pure rfl,trivial⟩ rfl
    have hc37:=fM hc37;have he:=(e_verb hinv6.1 ‹_› ‹_› ‹_›).1 hc37;refine bM<|bC<|cY<|yI rfl ?_;refine cJ<|cZ<|bC ?_;exact cL ((bW toks (k) e false).next,o,out,(some (b6,(qG (bW toks (k) e false)))::st),_,_,_,_) (by have:=he.1;first | (have:=dQ toks k e false;dsimp only;omega) | (have:=dQ toks k e true;dsimp only;omega)) ⟨rfl,trivial⟩ ⟨rfl,rfl,rfl,rfl,rfl,rfl,trivial⟩ (.cons kT1 (.cons kT5 (.cons kT5 (.cons kT2 (.cons kT2 (.cons kT3 (.cons kT1 .nil))))))) ⟨Has.pure (⟨he,hinv6.2.1,hinv6.2.2.1,by have:=dQ toks k e false;first | omega | (simp;omega),he.1⟩),Has.of mT1,Has.of mT0,Has.of mT5,trivial⟩ (bI.drop 6)
   refine sr<|sp hT ?_;refine ss (ldO hT (bJ .head)) ?_;refine sp2 hT ?_;refine cB (fun hg43=>?_) (fun hg43=>?_)
   ·have hg43:=eq_of_beq hg43;refine sp hT ?_;refine ss (ldO hT (dH .head)) ?_;refine sp3 hT ?_;refine nn<|bK rfl (fun hc39=>?_) (fun hc39=>?_)
    ·have hc39:(bR toks (k)).word=([40]:Bs):=eq_of_beq hc39;refine bB<|sr<|sp2 hT ?_;refine nn<|bK rfl (fun hc49=>?_) (fun hc49=>?_)
     ·have hc49:=eq_of_beq hc49;refine sr<|ss (ldO hT (bJ kT7)) ?_;refine bQ Tryz.func74 (cV bl A c toks (k) e _) rfl rfl (.cons kT1 .nil) ⟨Has.of mT7,trivial⟩ fun _=>?_;refine sp hT ?_;refine sto hT kT6 ?_;refine nn<|bF<|bA<|bG<|bA<|bG<|bA<|bG ?_;have hr:=(e_open hinv6.1 ‹_› ‹_›).2 (by omega);subst hr;exact bO (none,0,[],_) rfl (bE rfl) (bN hT (bJ .head) rfl rfl rfl rfl) (.cons kT1 .nil) ⟨dL,Has.each_nil,Has.pure rfl,trivial⟩ rfl
     have hc49:=beq_eq_false_iff_ne.1 hc49;have he:=(e_open hinv6.1 ‹_› ‹_›).1 (by omega);refine bM<|bC<|sr<|sp2 hT ?_;refine bT (z':=(((o+1):Nat):Int)) (cO (by omega) (by omega)) ?_;refine sp hT ?_;refine nn<|sr<|ss (ldO hT (bJ kT7)) ?_;refine sp2 hT ?_;refine ss (ldO hT (fK kT1)) ?_;refine sp hT ?_;refine bT (z':=(((k+1):Nat):Int)) (cO (by omega) (by omega)) ?_;refine sp2 hT ?_;refine sto hT kT1 ?_;refine nn<|sr<|ss (ldO hT (bJ kT4)) ?_;refine bCd (b4:=b4) (m:=(none:kL)) rfl rfl rfl rfl rfl fun b8=>?_;refine bCo kT6 (dE .head rfl) rfl rfl rfl rfl rfl rfl rfl (by simp only [List.length_singleton,List.length_reverse];omega) fun A9 c10=>?_;rw [←List.reverse_cons];refine bH (lS (none::st)) (todo_none (Has.of mT1)) ?_;refine bH (tnF (none::st)) (tn_none (Has.of mT3)) ?_;refine sto hT kT6 ?_;refine nn<|cY<|yI rfl ?_;refine cJ<|cZ<|bC ?_;exact cL ((k+1),(o+1),out,(none::st),_,_,_,_) (by have:=he.1;first | (have:=dQ toks k e false;dsimp only;omega) | (have:=dQ toks k e true;dsimp only;omega)) ⟨rfl,trivial⟩ ⟨rfl,rfl,rfl,rfl,rfl,rfl,trivial⟩ (.cons kT3 (.cons kT4 (.cons kT4 (.cons .head (.cons .head (.cons kT2 (.cons kT2 .nil))))))) ⟨Has.pure (⟨he,by show opens st+1=_;rw [hinv6.2.1],by dsimp only;omega,by first | omega | (simp;omega),he.1⟩),Has.of mT1,Has.of mT0,Has.of mT5,trivial⟩ (bI.drop 6)
    have hc39:(bR toks (k)).word≠([40]:Bs):=fun h=>absurd (beq_iff_eq.2 h) (by rw [show((bR toks (k)).word==([40]:Bs))=false from hc39];simp);refine sr<|sp hT ?_;refine ss (ldO hT (bJ .head)) ?_;refine sp hT ?_;refine cA (t':=false) (by rw [hg43];rfl) ?_;refine sp hT ?_;refine nn<|cG rfl rfl ?_;refine sr<|sp hT ?_;refine ss (ldO hT (bJ .head)) ?_;refine sp hT ?_;refine cA (t':=false) (by rw [hg43];rfl) ?_;refine sp hT ?_;refine sk3 ?_;refine sp2 hT ?_;refine nn<|cG rfl rfl ?_;refine sr<|sp hT ?_;refine ss (ldO hT (bJ .head)) ?_;refine sp hT ?_;refine cA (t':=false) (by rw [hg43];rfl) ?_;refine sp hT ?_;refine nn<|cG rfl rfl ?_;refine sr<|ss (ldO hT (bJ kT7)) ?_;refine bQ Tryz.func74 (cV bl A c toks (k) e _) rfl rfl (.cons kT1 .nil) ⟨Has.of mT7,trivial⟩ fun _=>?_;refine sp hT ?_;refine sto hT kT6 ?_;refine nn<|bF<|bG<|bA<|bG<|bA<|bG ?_;have hr:=e_want hinv6.1 (by omega) (by omega) (by first | exact .inl ‹_› | exact .inr ‹_›) (by first | exact .inr ‹_› | exact .inl (by omega));subst hr;exact bO (none,0,[],_) rfl (bE rfl) (bN hT (bJ .head) rfl rfl rfl rfl) (.cons kT1 .nil) ⟨dL,Has.each_nil,Has.pure rfl,trivial⟩ rfl
   have hg43:=beq_eq_false_iff_ne.1 hg43;refine sk3 ?_;refine sp2 hT ?_;refine nn<|cG rfl rfl ?_;refine sr<|sp hT ?_;refine ss (ldO hT (bJ .head)) ?_;refine sp hT ?_;refine cA (t':=false) (beq_eq_false_iff_ne.2 hg23) ?_;refine sp hT ?_;refine nn<|cG rfl rfl ?_;refine sr<|sp hT ?_;refine ss (ldO hT (bJ .head)) ?_;refine sp2 hT ?_;refine cB (fun hg98=>?_) (fun hg98=>?_)
   ·have hg98:=eq_of_beq hg98;refine sp hT ?_;refine ss (ldO hT (dH .head)) ?_;refine bQ Tryz.func76 (lV _ (by have:=hw k;omega)) rfl rfl .nil ⟨Has.of mT8,trivial⟩ fun _=>?_;refine sp2 hT ?_;refine nn<|bK rfl (fun hc94=>?_) (fun hc94=>?_)
    ·refine bB ?_;have hbi:=b_name hinv6.1 ‹_› ‹_›;refine bD<|ss (ldO hT (bJ kT2)) ?_;refine sp hT ?_;refine ss (ldO hT (fK .head)) ?_;refine sp hT ?_;refine ss (ldO hT (dH .head)) ?_;refine ss (cF rfl rfl (tC _ _ _)) ?_;refine wD (m:=(⟨2,(bR toks k).at_,0,(bR toks k).word,⟨none,0,[]⟩⟩:ItemV)) rfl rfl rfl rfl rfl fun b11=>?_;refine vQ kT4 (dE .head rfl) rfl rfl rfl rfl rfl rfl rfl (by simp only [List.length_singleton];omega) fun A12 c13=>?_;refine bH (mD (out++[(⟨2,(bR toks k).at_,0,(bR toks k).word,⟨none,0,[]⟩⟩:ItemV)])) (bGc (Has.of mT3) dL) ?_;refine sto hT kT4 ?_;refine nn<|bD<|ss (ldO hT (bJ kT8)) ?_;refine sp2 hT ?_;refine ss (ldO hT (fK kT4)) ?_;refine sp hT ?_;refine bT (z':=(((k+1):Nat):Int)) (cO (by omega) (by omega)) ?_;refine sp2 hT ?_;refine sto hT kT4 ?_;refine dX<|bZ<|bC<|bB<|sr<|ss (ldO hT (bJ kT8)) ?_;refine bQ Tryz.func73 (gZ bl A c toks ((k+1)) e) rfl rfl (.cons .head .nil) ⟨Has.of mT8,trivial⟩ fun _=>?_;refine sto hT kT4 ?_;refine nn<|bU ?_
     obtain⟨kk,hkk⟩: ∃kk,kk=k:=⟨_,rfl⟩
     refine dC (ι:=Nat×Nat×List ItemV×List kL×Option Addr×Nat×Option Addr×Nat) [(1,_),(3,_),(4,_),(5,_),(7,_),(8,_),(9,_),(24,_),(25,_),(26,_),(29,_),(30,_),(31,_),(44,_),(45,_),(46,_),(99,_),(100,_),(101,_)] ⟨rfl,rfl,rfl,rfl,rfl,rfl,rfl,rfl,rfl,rfl,rfl,rfl,rfl,rfl,rfl,rfl,rfl,rfl,rfl,trivial⟩ (fun⟨k,o,out,st,C,e1,D,f⟩=>[(6,.int .i64 (o:Nat))]) (fun⟨k,o,out,st,C,e1,D,f⟩=>[.obj bl (.cells [.slice A toks.length c,.int .i64 (k:Nat),.int .i64 e].toArray 102),.obj b4 (.cells [.slice C out.length e1].toArray 47),lN.row (.slice C out.length e1) 52 out,.obj b5 (.cells [.slice D st.reverse.length f].toArray 208),(fnE b4).row (.slice D st.reverse.length f) 1 st.reverse,.obj b3 (.cells [.int .i64 (bR toks k).kind,.int .i64 (bR toks k).at_,.string (bs (bR toks k).word),.int .i64 (bR toks k).n].toArray 104)]) (fun⟨k,o,out,st,C,e1,D,f⟩=>[Fact.pure (wC toks e r k (out.map ItemV.it) (xR st) o∧opens st=o∧o≤32∧out.length+st.length≤k∧k≤toks.length∧kk<k),lS st,tnF st,mD out]) (fun⟨k,o,out,st,C,e1,D,f⟩=>toks.length-k) ((k+1),o,(out++[(⟨2,(bR toks k).at_,0,(bR toks k).word,⟨none,0,[]⟩⟩:ItemV)]),st,_,_,_,_) ⟨rfl,trivial⟩ (.cons kT1 (.cons kT1 (.cons kT1 (.cons kT2 (.cons kT2 (.cons .head .nil)))))) ⟨Has.pure (⟨hbi,hinv6.2.1,hinv6.2.2.1,by first | omega | (simp;omega),hbi.1,by omega⟩),Has.of mT2,Has.of mT3,Has.of mT0,trivial⟩ ?_;rintro⟨k,o,out,st,C,e1,D,f⟩;dsimp only;refine bP (Has.of mT0) fun hinv30=>?_;refine bB<|sr<|sp3 hT ?_;refine cB (fun hg128=>?_) (fun hg128=>?_)
     ·have hg128:=of_decide_eq_true hg128;refine sp hT ?_;refine ss (ldO hT (bJ kT5)) ?_;refine sp3 hT ?_;refine cB (fun hg133=>?_) (fun hg133=>?_)
      ·have hg133:=eq_of_beq hg133;refine sp hT ?_;refine ss (ldO hT (dH kT5)) ?_;refine sp2 hT ?_;refine nn<|bK rfl (fun hc137=>?_) (fun hc137=>?_)
       ·have hc137:(bR toks k).word=([41]:Bs):=eq_of_beq hc137;refine bM<|bC<|bB<|bU<|sr<|sp hT ?_;refine gF (cR Tryz.func136 rfl rfl) (nL b5 b4 _ _ st _ _ out (by omega)) rfl rfl rfl rfl rfl rfl rfl (.cons kT3 (.cons kT3 (.cons kT1 (.cons kT1 .nil)))) ⟨(Has.of mT1),trivial⟩ fun⟨⟨D14,f15⟩,⟨C16,e17⟩⟩=>?_;refine bH (mD (out++(finP st).1)) (tE (Has.of mT4) (Has.of mT3)) ?_;refine bH (tnF (finP st).2) (bCh (Has.of mT4)) ?_;have hfl:=uB st;obtain⟨s2,hs2,ho2⟩:=fin_open (st:=st) (by omega);have hb2:=b_closed hinv30.1 (by omega) ‹_› ‹_› hs2;rw [hs2] at hfl⊢;simp only [List.length_cons] at hfl;refine bH (lS s2) (bCs (Has.of mT2)) ?_;refine bH (tnF s2) (bFi (Has.of mT1)) ?_;refine nn<|sr<|ss (ldO hT (bJ .head)) ?_;refine ss (ldO hT (bJ .head)) ?_;refine sp hT ?_;refine bT (z':=(((s2.length+1):Nat):Int)) (congrArg Nat.cast (jK _ s2)) ?_;refine sp hT ?_;refine bT (z':=((((s2.length+1)-1):Nat):Int)) (cO (by omega) (by omega)) ?_;refine iQ hT (k:=((s2.length+1)-1)) kT1 rfl rfl rfl rfl rfl rfl rfl rfl rfl (by rw [jK];omega) ?_;rw [bCb];refine sto hT kT1 ?_;refine nn<|sr<|sp2 hT ?_;refine bT (z':=(((o-1):Nat):Int)) (cO (by omega) (by omega)) ?_;refine sp hT ?_;refine nn<|bD<|ss (ldO hT (bJ kT8)) ?_;refine sp2 hT ?_;refine ss (ldO hT (fK kT4)) ?_;refine sp hT ?_;refine bT (z':=(((k+1):Nat):Int)) (cO (by omega) (by omega)) ?_;refine sp2 hT ?_;refine sto hT kT4 ?_;refine dX<|bZ<|bC<|bD<|ss (ldO hT (bJ kT8)) ?_;refine bQ Tryz.func73 (gZ bl A c toks ((k+1)) e) rfl rfl (.cons .head .nil) ⟨Has.of (.tail _ (.tail _ (.tail _ (.tail _ (.tail _ (.tail _ (.tail _ (.tail _ (.tail _ (.tail _ (.tail _ (.tail _ (.tail _ (.tail _ (.tail _ (.tail _ (.tail _ mT0))))))))))))))))),trivial⟩ fun _=>?_;refine sto hT kT5 ?_;refine nn ?_;exact cL ((k+1),(o-1),(out++(finP st).1),s2,_,_,_,_) (by have:=hb2.1;dsimp only;omega) ⟨rfl,trivial⟩ ⟨rfl,rfl,rfl,rfl,rfl,rfl,rfl,rfl,rfl,rfl,rfl,rfl,rfl,rfl,rfl,rfl,rfl,rfl,rfl,trivial⟩ (.cons kT1 (.cons kT3 (.cons kT3 (.cons kT1 (.cons kT1 (.cons .head (.cons .head (.cons .head (.cons .head .nil))))))))) ⟨Has.pure (⟨hb2,by dsimp only;omega,by dsimp only;omega,by first | omega | (simp;omega),hb2.1,by dsimp only;omega⟩),Has.of mT1,Has.of mT0,Has.of mT3,trivial⟩ (bI.drop 9)
       have hc137:(bR toks k).word≠([41]:Bs):=fun h=>absurd (beq_iff_eq.2 h) (by rw [show((bR toks k).word==([41]:Bs))=false from hc137];simp);refine cY<|cJ<|cJ<|cZ<|bC<|bB<|bU<|sr<|sp hT ?_;refine ss (ldO hT (bJ kT5)) ?_;refine sp hT ?_;refine cA (t':=false) (by rw [hg133];rfl) ?_;refine sp hT ?_;refine sk2 ?_;refine sp2 hT ?_;refine nn<|cG rfl rfl ?_;refine sr<|sp hT ?_;refine ss (ldO hT (bJ kT5)) ?_;refine sp hT ?_;refine cA (t':=false) (by rw [hg133];rfl) ?_;refine sp hT ?_;refine nn<|cG rfl rfl ?_;refine sr<|sp hT ?_;refine ss (ldO hT (bJ kT5)) ?_;refine sp hT ?_;refine cA (t':=false) (by rw [hg133];rfl) ?_;refine sp2 hT ?_;refine ss (ldO hT (dH kT5)) ?_;refine bQ Tryz.func135 (nK _) rfl rfl .nil trivial fun _=>?_;refine sp3 hT ?_;refine nn<|bK rfl (fun hc174=>?_) (fun hc174=>?_)
       ·have hc174:=fT hc174;refine sr<|ss (ldO hT (bJ kT8)) ?_;refine bQ Tryz.func74 (cV bl A c toks (k) e _) rfl rfl (.cons .head .nil) ⟨Has.of kV,trivial⟩ fun _=>?_;refine sp hT ?_;refine sto hT kT7 ?_;refine nn<|bF<|bG<|bA<|bG<|bA<|bG ?_;have hr:=sI hinv30.1 (by first | exact .inl (by omega) | exact .inr (.inl ‹_›) | exact .inr (.inr ‹_›)) (by omega) (by first | exact .inr ‹_› | exact .inl (by omega));subst hr;exact bO (none,0,[],_) rfl (bE rfl) (bN hT (bJ .head) rfl rfl rfl rfl) (.cons kT1 .nil) ⟨dL,Has.each_nil,Has.pure rfl,trivial⟩ rfl
       have hc174:=fM hc174;refine bM<|bZ<|bC<|sr<|sp hT ?_;refine gF (cR Tryz.func137 rfl rfl) (nO bl A c toks (k) e b1 b5 b4 _ _ st (by omega) (by omega)) rfl rfl rfl rfl rfl rfl rfl (.cons .head (.cons kT7 (.cons kT2 (.cons kT2 .nil)))) ⟨(Has.of kV),(Has.of mT1),trivial⟩ fun⟨⟨A18,c19⟩,b20⟩=>?_;refine bH (tnF (some (b20,(qG (bW toks (k) e true)))::st)) (uK (Has.of mT3) dL) ?_;refine cC rfl rfl rfl rfl yT rfl fun b21=>?_;refine sto hT .head ?_;refine nn<|sr<|ss (ldN hT (bJ .head)) ?_;refine ss (cF rfl rfl (vW)) ?_;refine ss (fP ⟨(bW toks (k) e true).flt.1,(bW toks (k) e true).flt.2⟩ ⟨0,0⟩ rfl rfl rfl) ?_;refine nn<|bK rfl (fun hc190=>?_) (fun hc190=>?_)
       ·have hc190:=fT hc190;refine bB<|dD _ _ [(true,0),(true,1),(false,2)] dG (by decide+kernel) (.cons .head (.cons .head (.cons .head (.cons .head (.cons .head (.cons .head (.cons .head (.cons .head (.cons .head .nil))))))))) bI.self ?_;refine stM rfl (ldN hT (bJ .head)) ?_;refine puM hT ?_;refine cM (o:=_) rfl ?_;refine sto hT kT9 ?_;refine cN (.cons kT1 (.cons kT1 (.cons kT1 (.cons kT1 (.cons kT1 (.cons kT1 (.cons kT1 (.cons kT1 (.cons kT1 .nil))))))))) (bI.drop 0) ?_;refine cS<|bC<|bF<|bG<|bA<|bG ?_;have hr:=(pZ hinv30.1 (by first | exact .inl (by omega) | exact .inr (.inl ‹_›) | exact .inr (.inr ‹_›)) (by omega) (by omega) ‹_›).2 hc190;subst hr;exact bO (none,0,[],_) rfl (bE rfl) (bN hT (bJ .head) rfl rfl rfl rfl) (.cons kT2 .nil) ⟨dL,Has.each_nil,Has.pure rfl,trivial⟩ rfl
       have hc190:=fM hc190;have he:=(pZ hinv30.1 (by first | exact .inl (by omega) | exact .inr (.inl ‹_›) | exact .inr (.inr ‹_›)) (by omega) (by omega) ‹_›).1 hc190;refine bM<|bZ<|bC ?_;exact cL ((bW toks (k) e true).next,o,out,(some (b20,(qG (bW toks (k) e true)))::st),_,_,_,_) (by have:=he.1;first | (have:=dQ toks k e false;dsimp only;omega) | (have:=dQ toks k e true;dsimp only;omega)) ⟨rfl,trivial⟩ ⟨rfl,rfl,rfl,rfl,rfl,rfl,trivial⟩ (.cons kT1 (.cons kT4 (.cons kT4 (.cons kT2 (.cons kT2 (.cons kT4 (.cons kT1 .nil))))))) ⟨Has.pure (⟨he,hinv30.2.1,hinv30.2.2.1,by have:=dQ toks k e true;first | omega | (simp;omega),he.1⟩),Has.of mT1,Has.of mT0,Has.of mT5,trivial⟩ (bI.drop 11)
      have hg133:=beq_eq_false_iff_ne.1 hg133;refine sk3 ?_;refine sp hT ?_;refine nn<|cG rfl rfl ?_;refine cY<|cJ<|cJ<|cZ<|bC<|bB<|bU<|sr<|sp hT ?_;refine ss (ldO hT (bJ kT5)) ?_;refine sp2 hT ?_;refine cB (fun hg160=>?_) (fun hg160=>?_)
      ·have hg160:=eq_of_beq hg160;refine sp4 hT ?_;refine nn<|bK rfl (fun hc156=>?_) (fun hc156=>?_)
       ·have hc156:=of_decide_eq_true hc156;refine sr<|ss (ldO hT (bJ kT8)) ?_;refine bQ Tryz.func74 (cV bl A c toks (k) e _) rfl rfl (.cons .head .nil) ⟨Has.of kV,trivial⟩ fun _=>?_;refine sp hT ?_;refine sto hT kT7 ?_;refine nn<|bF<|bG<|bA<|bG<|bA<|bG ?_;have hr:=r_open hinv30.1 ‹_› (by omega);subst hr;exact bO (none,0,[],_) rfl (bE rfl) (bN hT (bJ .head) rfl rfl rfl rfl) (.cons kT1 .nil) ⟨dL,Has.each_nil,Has.pure rfl,trivial⟩ rfl
       have hc156:=Int.not_lt.1 (of_decide_eq_false hc156);refine sr<|sp hT ?_;refine ss (ldO hT (bJ kT5)) ?_;refine sp hT ?_;refine cA (t':=true) (by rw [hg160];rfl) ?_;refine sp hT ?_;refine nn<|cH rfl rfl ?_;refine sr<|sp hT ?_;refine gF (cR Tryz.func136 rfl rfl) (nL b5 b4 _ _ st _ _ out (by omega)) rfl rfl rfl rfl rfl rfl rfl (.cons kT3 (.cons kT3 (.cons kT1 (.cons kT1 .nil)))) ⟨(Has.of mT1),trivial⟩ fun⟨⟨D22,f23⟩,⟨C24,e25⟩⟩=>?_;refine bH (mD (out++(finP st).1)) (tE (Has.of mT4) (Has.of mT3)) ?_;refine bH (tnF (finP st).2) (bCh (Has.of mT4)) ?_;have hfl:=uB st;refine nn<|sr<|ss (ldO hT (bJ kT2)) ?_;refine ss (cF rfl rfl (vW)) ?_;refine sp hT ?_;refine sto hT kT7 ?_;refine nn<|bF<|bG<|bA<|bG<|bA<|bG ?_;have hr:=bEx hinv30.1 ‹_› (by omega);subst hr;refine cT kT4 ?_;exact bO (_,_,(out++(finP st).1),_) rfl (bE rfl) (bN hT (bJ .head) rfl rfl rfl rfl) (.cons kT4 .nil) ⟨Has.of mT0,(Has.of mT2),Has.pure rfl,trivial⟩ rfl
      have hg160:=beq_eq_false_iff_ne.1 hg160;refine sk2 ?_;refine sp2 hT ?_;refine nn<|cG rfl rfl ?_;refine sr<|sp hT ?_;refine ss (ldO hT (bJ kT5)) ?_;refine sp hT ?_;refine cA (t':=false) (beq_eq_false_iff_ne.2 hg160) ?_;refine sp hT ?_;refine nn<|cG rfl rfl ?_;refine sr<|sp hT ?_;refine ss (ldO hT (bJ kT5)) ?_;refine sp2 hT ?_;refine cB (fun hg178=>?_) (fun hg178=>?_)
      ·have hg178:=eq_of_beq hg178;refine sk4 ?_;refine sp2 hT ?_;refine nn<|cH rfl rfl ?_;refine sr<|ss (ldO hT (bJ kT8)) ?_;refine bQ Tryz.func74 (cV bl A c toks (k) e _) rfl rfl (.cons .head .nil) ⟨Has.of kV,trivial⟩ fun _=>?_;refine sp hT ?_;refine sto hT kT7 ?_;refine nn<|bF<|bG<|bA<|bG<|bA<|bG ?_;have hr:=sI hinv30.1 (by first | exact .inl (by omega) | exact .inr (.inl ‹_›) | exact .inr (.inr ‹_›)) (by omega) (by first | exact .inr ‹_› | exact .inl (by omega));subst hr;exact bO (none,0,[],_) rfl (bE rfl) (bN hT (bJ .head) rfl rfl rfl rfl) (.cons kT1 .nil) ⟨dL,Has.each_nil,Has.pure rfl,trivial⟩ rfl
      have hg178:=beq_eq_false_iff_ne.1 hg178;refine sp hT ?_;refine ss (ldO hT (dH kT5)) ?_;refine bQ Tryz.func135 (nK _) rfl rfl .nil trivial fun _=>?_;refine sp3 hT ?_;refine nn<|bK rfl (fun hc174=>?_) (fun hc174=>?_)
      ·have hc174:=fT hc174;refine sr<|ss (ldO hT (bJ kT8)) ?_;refine bQ Tryz.func74 (cV bl A c toks (k) e _) rfl rfl (.cons .head .nil) ⟨Has.of kV,trivial⟩ fun _=>?_;refine sp hT ?_;refine sto hT kT7 ?_;refine nn<|bF<|bG<|bA<|bG<|bA<|bG ?_;have hr:=sI hinv30.1 (by first | exact .inl (by omega) | exact .inr (.inl ‹_›) | exact .inr (.inr ‹_›)) (by omega) (by first | exact .inr ‹_› | exact .inl (by omega));subst hr;exact bO (none,0,[],_) rfl (bE rfl) (bN hT (bJ .head) rfl rfl rfl rfl) (.cons kT1 .nil) ⟨dL,Has.each_nil,Has.pure rfl,trivial⟩ rfl
      have hc174:=fM hc174;refine bM<|bZ<|bC<|sr<|sp hT ?_;refine gF (cR Tryz.func137 rfl rfl) (nO bl A c toks (k) e b1 b5 b4 _ _ st (by omega) (by omega)) rfl rfl rfl rfl rfl rfl rfl (.cons .head (.cons kT7 (.cons kT2 (.cons kT2 .nil)))) ⟨(Has.of kV),(Has.of mT1),trivial⟩ fun⟨⟨A26,c27⟩,b28⟩=>?_;refine bH (tnF (some (b28,(qG (bW toks (k) e true)))::st)) (uK (Has.of mT3) dL) ?_;refine cC rfl rfl rfl rfl yT rfl fun b29=>?_;refine sto hT .head ?_;refine nn<|sr<|ss (ldN hT (bJ .head)) ?_;refine ss (cF rfl rfl (vW)) ?_;refine ss (fP ⟨(bW toks (k) e true).flt.1,(bW toks (k) e true).flt.2⟩ ⟨0,0⟩ rfl rfl rfl) ?_;refine nn<|bK rfl (fun hc190=>?_) (fun hc190=>?_)
      ·have hc190:=fT hc190;refine bB<|dD _ _ [(true,0),(true,1),(false,2)] dG (by decide+kernel) (.cons .head (.cons .head (.cons .head (.cons .head (.cons .head (.cons .head (.cons .head (.cons .head (.cons .head .nil))))))))) bI.self ?_;refine stM rfl (ldN hT (bJ .head)) ?_;refine puM hT ?_;refine cM (o:=_) rfl ?_;refine sto hT kT9 ?_;refine cN (.cons kT1 (.cons kT1 (.cons kT1 (.cons kT1 (.cons kT1 (.cons kT1 (.cons kT1 (.cons kT1 (.cons kT1 .nil))))))))) (bI.drop 0) ?_;refine cS<|bC<|bF<|bG<|bA<|bG ?_;have hr:=(pZ hinv30.1 (by first | exact .inl (by omega) | exact .inr (.inl ‹_›) | exact .inr (.inr ‹_›)) (by omega) (by omega) ‹_›).2 hc190;subst hr;exact bO (none,0,[],_) rfl (bE rfl) (bN hT (bJ .head) rfl rfl rfl rfl) (.cons kT2 .nil) ⟨dL,Has.each_nil,Has.pure rfl,trivial⟩ rfl
      have hc190:=fM hc190;have he:=(pZ hinv30.1 (by first | exact .inl (by omega) | exact .inr (.inl ‹_›) | exact .inr (.inr ‹_›)) (by omega) (by omega) ‹_›).1 hc190;refine bM<|bZ<|bC ?_;exact cL ((bW toks (k) e true).next,o,out,(some (b28,(qG (bW toks (k) e true)))::st),_,_,_,_) (by have:=he.1;first | (have:=dQ toks k e false;dsimp only;omega) | (have:=dQ toks k e true;dsimp only;omega)) ⟨rfl,trivial⟩ ⟨rfl,rfl,rfl,rfl,rfl,rfl,trivial⟩ (.cons kT1 (.cons kT4 (.cons kT4 (.cons kT2 (.cons kT2 (.cons kT4 (.cons kT1 .nil))))))) ⟨Has.pure (⟨he,hinv30.2.1,hinv30.2.2.1,by have:=dQ toks k e true;first | omega | (simp;omega),he.1⟩),Has.of mT1,Has.of mT0,Has.of mT5,trivial⟩ (bI.drop 11)
     have hg128:=Int.not_lt.1 (of_decide_eq_false hg128);refine sk3 ?_;refine sp2 hT ?_;refine sk3 ?_;refine sp hT ?_;refine nn<|cG rfl rfl ?_;refine cY<|cJ<|cJ<|cZ<|bC<|bB<|bU<|sr<|sp hT ?_;refine ss (ldO hT (bJ kT5)) ?_;refine sp2 hT ?_;refine cB (fun hg160=>?_) (fun hg160=>?_)
     ·have hg160:=eq_of_beq hg160;refine sp4 hT ?_;refine nn<|bK rfl (fun hc156=>?_) (fun hc156=>?_)
      ·have hc156:=of_decide_eq_true hc156;refine sr<|ss (ldO hT (bJ kT8)) ?_;refine bQ Tryz.func74 (cV bl A c toks (k) e _) rfl rfl (.cons .head .nil) ⟨Has.of kV,trivial⟩ fun _=>?_;refine sp hT ?_;refine sto hT kT7 ?_;refine nn<|bF<|bG<|bA<|bG<|bA<|bG ?_;have hr:=r_open hinv30.1 ‹_› (by omega);subst hr;exact bO (none,0,[],_) rfl (bE rfl) (bN hT (bJ .head) rfl rfl rfl rfl) (.cons kT1 .nil) ⟨dL,Has.each_nil,Has.pure rfl,trivial⟩ rfl
      have hc156:=Int.not_lt.1 (of_decide_eq_false hc156);refine sr<|sp hT ?_;refine ss (ldO hT (bJ kT5)) ?_;refine sp hT ?_;refine cA (t':=true) (by rw [hg160];rfl) ?_;refine sp hT ?_;refine nn<|cH rfl rfl ?_;refine sr<|sp hT ?_;refine gF (cR Tryz.func136 rfl rfl) (nL b5 b4 _ _ st _ _ out (by omega)) rfl rfl rfl rfl rfl rfl rfl (.cons kT3 (.cons kT3 (.cons kT1 (.cons kT1 .nil)))) ⟨(Has.of mT1),trivial⟩ fun⟨⟨D30,f31⟩,⟨C32,e33⟩⟩=>?_;refine bH (mD (out++(finP st).1)) (tE (Has.of mT4) (Has.of mT3)) ?_;refine bH (tnF (finP st).2) (bCh (Has.of mT4)) ?_;have hfl:=uB st;refine nn<|sr<|ss (ldO hT (bJ kT2)) ?_;refine ss (cF rfl rfl (vW)) ?_;refine sp hT ?_;refine sto hT kT7 ?_;refine nn<|bF<|bG<|bA<|bG<|bA<|bG ?_;have hr:=bEx hinv30.1 ‹_› (by omega);subst hr;refine cT kT4 ?_;exact bO (_,_,(out++(finP st).1),_) rfl (bE rfl) (bN hT (bJ .head) rfl rfl rfl rfl) (.cons kT4 .nil) ⟨Has.of mT0,(Has.of mT2),Has.pure rfl,trivial⟩ rfl
     have hg160:=beq_eq_false_iff_ne.1 hg160;refine sk2 ?_;refine sp2 hT ?_;refine nn<|cG rfl rfl ?_;refine sr<|sp hT ?_;refine ss (ldO hT (bJ kT5)) ?_;refine sp hT ?_;refine cA (t':=false) (beq_eq_false_iff_ne.2 hg160) ?_;refine sp hT ?_;refine nn<|cG rfl rfl ?_;refine sr<|sp hT ?_;refine ss (ldO hT (bJ kT5)) ?_;refine sp2 hT ?_;refine cB (fun hg178=>?_) (fun hg178=>?_)
     ·have hg178:=eq_of_beq hg178;refine sk4 ?_;refine sp2 hT ?_;refine nn<|cH rfl rfl ?_;refine sr<|ss (ldO hT (bJ kT8)) ?_;refine bQ Tryz.func74 (cV bl A c toks (k) e _) rfl rfl (.cons .head .nil) ⟨Has.of kV,trivial⟩ fun _=>?_;refine sp hT ?_;refine sto hT kT7 ?_;refine nn<|bF<|bG<|bA<|bG<|bA<|bG ?_;have hr:=sI hinv30.1 (by first | exact .inl (by omega) | exact .inr (.inl ‹_›) | exact .inr (.inr ‹_›)) (by omega) (by first | exact .inr ‹_› | exact .inl (by omega));subst hr;exact bO (none,0,[],_) rfl (bE rfl) (bN hT (bJ .head) rfl rfl rfl rfl) (.cons kT1 .nil) ⟨dL,Has.each_nil,Has.pure rfl,trivial⟩ rfl
     have hg178:=beq_eq_false_iff_ne.1 hg178;refine sp hT ?_;refine ss (ldO hT (dH kT5)) ?_;refine bQ Tryz.func135 (nK _) rfl rfl .nil trivial fun _=>?_;refine sp3 hT ?_;refine nn<|bK rfl (fun hc174=>?_) (fun hc174=>?_)
     ·have hc174:=fT hc174;refine sr<|ss (ldO hT (bJ kT8)) ?_;refine bQ Tryz.func74 (cV bl A c toks (k) e _) rfl rfl (.cons .head .nil) ⟨Has.of kV,trivial⟩ fun _=>?_;refine sp hT ?_;refine sto hT kT7 ?_;refine nn<|bF<|bG<|bA<|bG<|bA<|bG ?_;have hr:=sI hinv30.1 (by first | exact .inl (by omega) | exact .inr (.inl ‹_›) | exact .inr (.inr ‹_›)) (by omega) (by first | exact .inr ‹_› | exact .inl (by omega));subst hr;exact bO (none,0,[],_) rfl (bE rfl) (bN hT (bJ .head) rfl rfl rfl rfl) (.cons kT1 .nil) ⟨dL,Has.each_nil,Has.pure rfl,trivial⟩ rfl
     have hc174:=fM hc174;refine bM<|bZ<|bC<|sr<|sp hT ?_;refine gF (cR Tryz.func137 rfl rfl) (nO bl A c toks (k) e b1 b5 b4 _ _ st (by omega) (by omega)) rfl rfl rfl rfl rfl rfl rfl (.cons .head (.cons kT7 (.cons kT2 (.cons kT2 .nil)))) ⟨(Has.of kV),(Has.of mT1),trivial⟩ fun⟨⟨A34,c35⟩,b36⟩=>?_;refine bH (tnF (some (b36,(qG (bW toks (k) e true)))::st)) (uK (Has.of mT3) dL) ?_;refine cC rfl rfl rfl rfl yT rfl fun b37=>?_;refine sto hT .head ?_;refine nn<|sr<|ss (ldN hT (bJ .head)) ?_;refine ss (cF rfl rfl (vW)) ?_;refine ss (fP ⟨(bW toks (k) e true).flt.1,(bW toks (k) e true).flt.2⟩ ⟨0,0⟩ rfl rfl rfl) ?_;refine nn<|bK rfl (fun hc190=>?_) (fun hc190=>?_)
     ·have hc190:=fT hc190;refine bB<|dD _ _ [(true,0),(true,1),(false,2)] dG (by decide+kernel) (.cons .head (.cons .head (.cons .head (.cons .head (.cons .head (.cons .head (.cons .head (.cons .head (.cons .head .nil))))))))) bI.self ?_;refine stM rfl (ldN hT (bJ .head)) ?_;refine puM hT ?_;refine cM (o:=_) rfl ?_;refine sto hT kT9 ?_;refine cN (.cons kT1 (.cons kT1 (.cons kT1 (.cons kT1 (.cons kT1 (.cons kT1 (.cons kT1 (.cons kT1 (.cons kT1 .nil))))))))) (bI.drop 0) ?_;refine cS<|bC<|bF<|bG<|bA<|bG ?_;have hr:=(pZ hinv30.1 (by first | exact .inl (by omega) | exact .inr (.inl ‹_›) | exact .inr (.inr ‹_›)) (by omega) (by omega) ‹_›).2 hc190;subst hr;exact bO (none,0,[],_) rfl (bE rfl) (bN hT (bJ .head) rfl rfl rfl rfl) (.cons kT2 .nil) ⟨dL,Has.each_nil,Has.pure rfl,trivial⟩ rfl
     have hc190:=fM hc190;have he:=(pZ hinv30.1 (by first | exact .inl (by omega) | exact .inr (.inl ‹_›) | exact .inr (.inr ‹_›)) (by omega) (by omega) ‹_›).1 hc190;refine bM<|bZ<|bC ?_;exact cL ((bW toks (k) e true).next,o,out,(some (b36,(qG (bW toks (k) e true)))::st),_,_,_,_) (by have:=he.1;first | (have:=dQ toks k e false;dsimp only;omega) | (have:=dQ toks k e true;dsimp only;omega)) ⟨rfl,trivial⟩ ⟨rfl,rfl,rfl,rfl,rfl,rfl,trivial⟩ (.cons kT1 (.cons kT4 (.cons kT4 (.cons kT2 (.cons kT2 (.cons kT4 (.cons kT1 .nil))))))) ⟨Has.pure (⟨he,hinv30.2.1,hinv30.2.2.1,by have:=dQ toks k e true;first | omega | (simp;omega),he.1⟩),Has.of mT1,Has.of mT0,Has.of mT5,trivial⟩ (bI.drop 11)
    refine sr<|sp hT ?_;refine ss (ldO hT (bJ .head)) ?_;refine sp hT ?_;refine cA (t':=true) (by rw [hg98];rfl) ?_;refine sp hT ?_;refine nn<|cH rfl rfl ?_;refine sr<|ss (ldO hT (bJ kT7)) ?_;refine bQ Tryz.func74 (cV bl A c toks (k) e _) rfl rfl (.cons kT1 .nil) ⟨Has.of mT7,trivial⟩ fun _=>?_;refine sp hT ?_;refine sto hT kT6 ?_;refine nn<|bF<|bG<|bA<|bG<|bA<|bG ?_;have hr:=e_word hinv6.1 ‹_› ‹_› ‹_›;subst hr;exact bO (none,0,[],_) rfl (bE rfl) (bN hT (bJ .head) rfl rfl rfl rfl) (.cons kT1 .nil) ⟨dL,Has.each_nil,Has.pure rfl,trivial⟩ rfl
   have hg98:=beq_eq_false_iff_ne.1 hg98;refine sk3 ?_;refine sp2 hT ?_;refine nn<|cG rfl rfl ?_;refine sr<|sp hT ?_;refine ss (ldO hT (bJ .head)) ?_;refine sp hT ?_;refine cA (t':=false) (beq_eq_false_iff_ne.2 hg98) ?_;refine sp hT ?_;refine nn<|cG rfl rfl ?_;refine sr<|ss (ldO hT (bJ kT7)) ?_;refine bQ Tryz.func74 (cV bl A c toks (k) e _) rfl rfl (.cons kT1 .nil) ⟨Has.of mT7,trivial⟩ fun _=>?_;refine sp hT ?_;refine sto hT kT6 ?_;refine nn<|bF<|bG<|bA<|bG<|bA<|bG ?_;have hr:=e_want hinv6.1 (by omega) (by omega) (by first | exact .inl ‹_› | exact .inr ‹_›) (by first | exact .inr ‹_› | exact .inl (by omega));subst hr;exact bO (none,0,[],_) rfl (bE rfl) (bN hT (bJ .head) rfl rfl rfl rfl) (.cons kT1 .nil) ⟨dL,Has.each_nil,Has.pure rfl,trivial⟩ rfl
  have hg28:=bne_eq_false_iff_eq.1 hg28;refine sk3 ?_;refine sp2 hT ?_;refine nn<|cG rfl rfl ?_;refine sr<|sp hT ?_;refine ss (ldO hT (bJ .head)) ?_;refine sp hT ?_;refine cA (t':=false) (by rw [hg28];rfl) ?_;refine sp hT ?_;refine sk3 ?_;refine sp2 hT ?_;refine nn<|cG rfl rfl ?_;refine sr<|sp hT ?_;refine ss (ldO hT (bJ .head)) ?_;refine sp hT ?_;refine cA (t':=false) (by rw [hg28];rfl) ?_;refine sp hT ?_;refine nn<|cG rfl rfl ?_;refine sr<|sp hT ?_;refine ss (ldO hT (bJ .head)) ?_;refine sp hT ?_;refine cA (t':=false) (by rw [hg28];rfl) ?_;refine sp hT ?_;refine sk3 ?_;refine sp2 hT ?_;refine nn<|cG rfl rfl ?_;refine sr<|sp hT ?_;refine ss (ldO hT (bJ .head)) ?_;refine sp hT ?_;refine cA (t':=false) (by rw [hg28];rfl) ?_;refine sp hT ?_;refine nn<|cG rfl rfl ?_;refine sr<|ss (ldO hT (bJ kT7)) ?_;refine bQ Tryz.func74 (cV bl A c toks (k) e _) rfl rfl (.cons kT1 .nil) ⟨Has.of mT7,trivial⟩ fun _=>?_;refine sp hT ?_;refine sto hT kT6 ?_;refine nn<|bF<|bG<|bA<|bG<|bA<|bG ?_;have hr:=e_want hinv6.1 (by omega) (by omega) (by first | exact .inl ‹_› | exact .inr ‹_›) (by first | exact .inr ‹_› | exact .inl (by omega));subst hr;exact bO (none,0,[],_) rfl (bE rfl) (bN hT (bJ .head) rfl rfl rfl rfl) (.cons kT1 .nil) ⟨dL,Has.each_nil,Has.pure rfl,trivial⟩ rfl
 have hg23:=bne_eq_false_iff_eq.1 hg23;refine sk3 ?_;refine sp2 hT ?_;refine sk3 ?_;refine sp2 hT ?_;refine nn<|cG rfl rfl ?_;refine sr<|sp hT ?_;refine ss (ldO hT (bJ .head)) ?_;refine sp hT ?_;refine cA (t':=false) (by rw [hg23];rfl) ?_;refine sp hT ?_;refine sk3 ?_;refine sp2 hT ?_;refine nn<|cG rfl rfl ?_;refine sr<|sp hT ?_;refine ss (ldO hT (bJ .head)) ?_;refine sp hT ?_;refine cA (t':=true) (by rw [hg23];rfl) ?_;refine sp hT ?_;refine nn<|cH rfl rfl ?_;refine sr<|sp hT ?_;refine ss (ldO hT (fK .head)) ?_;refine ss (cF rfl rfl (pP _ _)) ?_;refine cC rfl rfl rfl rfl lU rfl fun b38=>?_;refine sto hT .head ?_;refine nn<|bB<|bU<|dS (t:=2) mR ?_;refine dC (ι:=Nat×List Int×Option Addr×Nat) [(1,_),(3,_),(4,_),(5,_),(6,_),(7,_),(8,_),(9,_),(11,_),(24,_),(25,_),(26,_),(29,_),(30,_),(31,_),(44,_),(45,_),(46,_)] ⟨rfl,rfl,rfl,rfl,rfl,rfl,rfl,rfl,rfl,rfl,rfl,rfl,rfl,rfl,rfl,rfl,rfl,rfl,trivial⟩ (fun _=>[]) (fun⟨j,cur,C2,e2⟩=>[.obj bl (.cells [.slice A toks.length c,.int .i64 (j:Nat),.int .i64 e].toArray 102),.obj b38 (.cells [.int .i64 1,.int .i64 (bR toks k).at_,.int .u8 0,.string (bs []),.slice C2 cur.length e2].toArray 52),mR.row (.slice C2 cur.length e2) 2 cur]) (fun⟨j,cur,C2,e2⟩=>[Fact.pure (gG toks k=cur++gG toks j∧j=k+cur.length∧j≤toks.length)]) (fun⟨j,cur,C2,e2⟩=>toks.length-j) (k,[],none,0) trivial (.cons kT3 (.cons kT1 (.cons .head .nil))) ⟨Has.pure (⟨rfl,rfl,hinv6.2.2.2.2⟩),trivial⟩ ?_;rintro⟨j,cur,C2,e2⟩;dsimp only;refine bP (Has.of mT0) fun hinv20=>?_;refine bB<|sr<|ss (ldO hT (bJ kT9)) ?_;refine bQ Tryz.func73 (gZ bl A c toks (j) e) rfl rfl (.cons .head .nil) ⟨Has.of mT8,trivial⟩ fun _=>?_;refine sp2 hT ?_;refine nn<|bK rfl (fun hc74=>?_) (fun hc74=>?_)
 ·have hc74:=eq_of_beq hc74;refine bM<|bC<|bB<|bU<|rX 8 _ _ [(true,0),(true,1),(true,2),(false,3),(true,4),(false,5),(false,6),(true,7)] dG (by decide+kernel) (.cons .head (.cons .head (.cons kT1 (.cons kT1 (.cons kT1 (.cons kT1 (.cons kT1 (.cons kT1 (.cons kT1 .nil))))))))) bI.self ?_;refine puL hT ?_;refine stL rfl (ldO hT (bJt kT1)) ?_;refine stL rfl (ldO hT (bJ kT8)) ?_;refine nX (o:=_) rfl ?_;refine bQ Tryz.func73 (gZ bl A c toks (j) e) rfl rfl (.cons .head .nil) ⟨Has.of mT8,trivial⟩ fun _=>?_;refine nT (.cons .head (.cons .head (.cons kT1 (.cons kT1 (.cons kT1 (.cons kT1 (.cons kT1 (.cons kT1 (.cons kT1 .nil))))))))) (bI.drop 0) ?_;refine puL hT ?_;refine nX (o:=_) rfl ?_;refine at_one_int (m:=(bR toks (j)).n) rfl rfl rfl rfl rfl fun b39=>?_;refine nT (.cons kT1 (.cons kT1 (.cons kT2 (.cons kT2 (.cons kT2 (.cons kT2 (.cons kT2 (.cons kT2 (.cons kT2 .nil))))))))) (bI.drop 0) ?_;refine nX (o:=_) rfl ?_;refine at_app_int kT3 (dE .head rfl) rfl rfl rfl rfl rfl rfl rfl (by simp only [List.length_singleton];omega) fun A40 c41=>?_;refine nT (.cons kT2 (.cons kT2 (.cons kT2 (.cons kT2 (.cons kT2 (.cons kT2 (.cons kT2 (.cons kT2 (.cons kT2 .nil))))))))) (bI.drop 0) ?_;refine puL hT ?_;refine pO (o:=_) rfl ?_;refine sto hT kT3 ?_;refine sD<|bZ<|bC<|bD<|ss (ldO hT (bJ kT10)) ?_;refine sp2 hT ?_;refine ss (ldO hT (fK kT3)) ?_;refine sp hT ?_;refine bT (z':=(((j+1):Nat):Int)) (cO (by omega) (by omega)) ?_;refine sp2 hT ?_;refine sto hT kT3 ?_;refine nn ?_;exact cL (j+1,_,_,_) (by have:=iJ (toks:=toks) (k:=j) (by rw [hc74];decide);dsimp only;omega) trivial ⟨rfl,rfl,rfl,rfl,rfl,rfl,rfl,rfl,rfl,rfl,rfl,rfl,rfl,rfl,rfl,rfl,rfl,rfl,trivial⟩ (.cons .head (.cons .head (.cons .head (.cons kT1 (.cons kT1 (.cons kT1 (.cons kT1 (.cons kT1 (.cons kT1 (.cons kT1 .nil)))))))))) ⟨Has.pure (⟨by rw [hinv20.1,tB hc74];simp,by simp;omega,iJ (by rw [hc74];decide)⟩),trivial⟩ (bI.drop 1)
 have hc74:=beq_eq_false_iff_ne.1 hc74;refine cY<|cJ<|cJ<|cZ<|bC ?_;have hcur:gG toks k=cur:=by rw [hinv20.1,nums_end hc74,List.append_nil]
 have hbi:=b_num (C:=C2) (c:=e2) hinv6.1 ‹_› hinv20.2.1 hcur;have hcl:1≤cur.length:=by rw [←hcur,tB ‹_›];simp
 refine cT kT2 ?_;refine bD<|ss (ldO hT (bJ kT3)) ?_;refine ss (ldN hT (bJ kT1)) ?_;refine wD (m:=(⟨1,(bR toks k).at_,0,[],⟨C2,e2,cur⟩⟩:ItemV)) rfl rfl rfl rfl rfl fun b42=>?_;refine vQ kT5 (dE .head rfl) rfl rfl rfl rfl rfl rfl rfl (by simp only [List.length_singleton];omega) fun A43 c44=>?_;refine bH (mD (out++[(⟨1,(bR toks k).at_,0,[],⟨C2,e2,cur⟩⟩:ItemV)])) (bGc (Has.of mT5) (Has.of mT0)) ?_;refine sto hT kT5 ?_;refine dX<|bZ<|bC<|bB<|sr<|ss (ldO hT (bJ kT9)) ?_;refine bQ Tryz.func73 (gZ bl A c toks (j) e) rfl rfl (.cons kT3 .nil) ⟨Has.of rO,trivial⟩ fun _=>?_;refine sto hT kT5 ?_;refine nn<|bU ?_
 obtain⟨kk,hkk⟩: ∃kk,kk=k:=⟨_,rfl⟩
 refine dC (ι:=Nat×Nat×List ItemV×List kL×Option Addr×Nat×Option Addr×Nat) [(1,_),(3,_),(4,_),(5,_),(7,_),(8,_),(9,_),(24,_),(25,_),(26,_),(29,_),(30,_),(31,_),(44,_),(45,_),(46,_)] ⟨rfl,rfl,rfl,rfl,rfl,rfl,rfl,rfl,rfl,rfl,rfl,rfl,rfl,rfl,rfl,rfl,trivial⟩ (fun⟨k,o,out,st,C,e1,D,f⟩=>[(6,.int .i64 (o:Nat))]) (fun⟨k,o,out,st,C,e1,D,f⟩=>[.obj bl (.cells [.slice A toks.length c,.int .i64 (k:Nat),.int .i64 e].toArray 102),.obj b4 (.cells [.slice C out.length e1].toArray 47),lN.row (.slice C out.length e1) 52 out,.obj b5 (.cells [.slice D st.reverse.length f].toArray 208),(fnE b4).row (.slice D st.reverse.length f) 1 st.reverse,.obj b3 (.cells [.int .i64 (bR toks k).kind,.int .i64 (bR toks k).at_,.string (bs (bR toks k).word),.int .i64 (bR toks k).n].toArray 104)]) (fun⟨k,o,out,st,C,e1,D,f⟩=>[Fact.pure (wC toks e r k (out.map ItemV.it) (xR st) o∧opens st=o∧o≤32∧out.length+st.length≤k∧k≤toks.length∧kk<k),lS st,tnF st,mD out]) (fun⟨k,o,out,st,C,e1,D,f⟩=>toks.length-k) (j,o,(out++[(⟨1,(bR toks k).at_,0,[],⟨C2,e2,cur⟩⟩:ItemV)]),st,_,_,_,_) ⟨rfl,trivial⟩ (.cons kT1 (.cons kT1 (.cons kT1 (.cons kT3 (.cons kT3 (.cons .head .nil)))))) ⟨Has.pure (⟨hbi,hinv6.2.1,hinv6.2.2.1,by first | omega | (simp;omega),hbi.1,by omega⟩),Has.of mT4,Has.of mT5,Has.of mT0,trivial⟩ ?_;rintro⟨k,o,out,st,C,e1,D,f⟩;dsimp only;refine bP (Has.of mT0) fun hinv30=>?_;refine bB<|sr<|sp3 hT ?_;refine cB (fun hg128=>?_) (fun hg128=>?_)
 ·have hg128:=of_decide_eq_true hg128;refine sp hT ?_;refine ss (ldO hT (bJ kT5)) ?_;refine sp3 hT ?_;refine cB (fun hg133=>?_) (fun hg133=>?_)
  ·have hg133:=eq_of_beq hg133;refine sp hT ?_;refine ss (ldO hT (dH kT5)) ?_;refine sp2 hT ?_;refine nn<|bK rfl (fun hc137=>?_) (fun hc137=>?_)
   ·have hc137:(bR toks k).word=([41]:Bs):=eq_of_beq hc137;refine bM<|bC<|bB<|bU<|sr<|sp hT ?_;refine gF (cR Tryz.func136 rfl rfl) (nL b5 b4 _ _ st _ _ out (by omega)) rfl rfl rfl rfl rfl rfl rfl (.cons kT3 (.cons kT3 (.cons kT1 (.cons kT1 .nil)))) ⟨(Has.of mT1),trivial⟩ fun⟨⟨D45,f46⟩,⟨C47,e48⟩⟩=>?_;refine bH (mD (out++(finP st).1)) (tE (Has.of mT4) (Has.of mT3)) ?_;refine bH (tnF (finP st).2) (bCh (Has.of mT4)) ?_;have hfl:=uB st;obtain⟨s2,hs2,ho2⟩:=fin_open (st:=st) (by omega);have hb2:=b_closed hinv30.1 (by omega) ‹_› ‹_› hs2;rw [hs2] at hfl⊢;simp only [List.length_cons] at hfl;refine bH (lS s2) (bCs (Has.of mT2)) ?_;refine bH (tnF s2) (bFi (Has.of mT1)) ?_;refine nn<|sr<|ss (ldO hT (bJ .head)) ?_;refine ss (ldO hT (bJ .head)) ?_;refine sp hT ?_;refine bT (z':=(((s2.length+1):Nat):Int)) (congrArg Nat.cast (jK _ s2)) ?_;refine sp hT ?_;refine bT (z':=((((s2.length+1)-1):Nat):Int)) (cO (by omega) (by omega)) ?_;refine iQ hT (k:=((s2.length+1)-1)) kT1 rfl rfl rfl rfl rfl rfl rfl rfl rfl (by rw [jK];omega) ?_;rw [bCb];refine sto hT kT1 ?_;refine nn<|sr<|sp2 hT ?_;refine bT (z':=(((o-1):Nat):Int)) (cO (by omega) (by omega)) ?_;refine sp hT ?_;refine nn<|bD<|ss (ldO hT (bJ kT9)) ?_;refine sp2 hT ?_;refine ss (ldO hT (fK kT4)) ?_;refine sp hT ?_;refine bT (z':=(((k+1):Nat):Int)) (cO (by omega) (by omega)) ?_;refine sp2 hT ?_;refine sto hT kT4 ?_;refine dX<|bZ<|bC<|bD<|ss (ldO hT (bJ kT9)) ?_;refine bQ Tryz.func73 (gZ bl A c toks ((k+1)) e) rfl rfl (.cons .head .nil) ⟨Has.of (.tail _ (.tail _ (.tail _ (.tail _ (.tail _ (.tail _ (.tail _ (.tail _ (.tail _ (.tail _ (.tail _ (.tail _ (.tail _ (.tail _ (.tail _ (.tail _ (.tail _ (.tail _ (.tail _ mT0))))))))))))))))))),trivial⟩ fun _=>?_;refine sto hT kT5 ?_;refine nn ?_;exact cL ((k+1),(o-1),(out++(finP st).1),s2,_,_,_,_) (by have:=hb2.1;dsimp only;omega) ⟨rfl,trivial⟩ ⟨rfl,rfl,rfl,rfl,rfl,rfl,rfl,rfl,rfl,rfl,rfl,rfl,rfl,rfl,rfl,rfl,trivial⟩ (.cons kT1 (.cons kT3 (.cons kT3 (.cons kT1 (.cons kT1 (.cons .head (.cons .head (.cons .head (.cons .head (.cons .head .nil)))))))))) ⟨Has.pure (⟨hb2,by dsimp only;omega,by dsimp only;omega,by first | omega | (simp;omega),hb2.1,by dsimp only;omega⟩),Has.of mT1,Has.of mT0,Has.of mT3,trivial⟩ (bI.drop 9)
   have hc137:(bR toks k).word≠([41]:Bs):=fun h=>absurd (beq_iff_eq.2 h) (by rw [show((bR toks k).word==([41]:Bs))=false from hc137];simp);refine cY<|cJ<|cJ<|cZ<|bC<|bB<|bU<|sr<|sp hT ?_;refine ss (ldO hT (bJ kT5)) ?_;refine sp hT ?_;refine cA (t':=false) (by rw [hg133];rfl) ?_;refine sp hT ?_;refine sk2 ?_;refine sp2 hT ?_;refine nn<|cG rfl rfl ?_;refine sr<|sp hT ?_;refine ss (ldO hT (bJ kT5)) ?_;refine sp hT ?_;refine cA (t':=false) (by rw [hg133];rfl) ?_;refine sp hT ?_;refine nn<|cG rfl rfl ?_;refine sr<|sp hT ?_;refine ss (ldO hT (bJ kT5)) ?_;refine sp hT ?_;refine cA (t':=false) (by rw [hg133];rfl) ?_;refine sp2 hT ?_;refine ss (ldO hT (dH kT5)) ?_;refine bQ Tryz.func135 (nK _) rfl rfl .nil trivial fun _=>?_;refine sp3 hT ?_;refine nn<|bK rfl (fun hc174=>?_) (fun hc174=>?_)
   ·have hc174:=fT hc174;refine sr<|ss (ldO hT (bJ kT9)) ?_;refine bQ Tryz.func74 (cV bl A c toks (k) e _) rfl rfl (.cons .head .nil) ⟨Has.of yG,trivial⟩ fun _=>?_;refine sp hT ?_;refine sto hT kT8 ?_;refine nn<|bF<|bG<|bA<|bG<|bA<|bG ?_;have hr:=sI hinv30.1 (by first | exact .inl (by omega) | exact .inr (.inl ‹_›) | exact .inr (.inr ‹_›)) (by omega) (by first | exact .inr ‹_› | exact .inl (by omega));subst hr;exact bO (none,0,[],_) rfl (bE rfl) (bN hT (bJ .head) rfl rfl rfl rfl) (.cons kT1 .nil) ⟨dL,Has.each_nil,Has.pure rfl,trivial⟩ rfl
   have hc174:=fM hc174;refine bM<|bZ<|bC<|sr<|sp hT ?_;refine gF (cR Tryz.func137 rfl rfl) (nO bl A c toks (k) e b1 b5 b4 _ _ st (by omega) (by omega)) rfl rfl rfl rfl rfl rfl rfl (.cons .head (.cons kT8 (.cons kT2 (.cons kT2 .nil)))) ⟨(Has.of yG),(Has.of mT1),trivial⟩ fun⟨⟨A49,c50⟩,b51⟩=>?_;refine bH (tnF (some (b51,(qG (bW toks (k) e true)))::st)) (uK (Has.of mT3) dL) ?_;refine cC rfl rfl rfl rfl yT rfl fun b52=>?_;refine sto hT .head ?_;refine nn<|sr<|ss (ldN hT (bJ .head)) ?_;refine ss (cF rfl rfl (vW)) ?_;refine ss (fP ⟨(bW toks (k) e true).flt.1,(bW toks (k) e true).flt.2⟩ ⟨0,0⟩ rfl rfl rfl) ?_;refine nn<|bK rfl (fun hc190=>?_) (fun hc190=>?_)
   ·have hc190:=fT hc190;refine bB<|dD _ _ [(true,0),(true,1),(false,2)] dG (by decide+kernel) (.cons .head (.cons .head (.cons .head (.cons .head (.cons .head (.cons .head (.cons .head (.cons .head (.cons .head (.cons .head .nil)))))))))) bI.self ?_;refine stM rfl (ldN hT (bJ .head)) ?_;refine puM hT ?_;refine cM (o:=_) rfl ?_;refine sto hT kT10 ?_;refine cN (.cons kT1 (.cons kT1 (.cons kT1 (.cons kT1 (.cons kT1 (.cons kT1 (.cons kT1 (.cons kT1 (.cons kT1 (.cons kT1 .nil)))))))))) (bI.drop 0) ?_;refine cS<|bC<|bF<|bG<|bA<|bG ?_;have hr:=(pZ hinv30.1 (by first | exact .inl (by omega) | exact .inr (.inl ‹_›) | exact .inr (.inr ‹_›)) (by omega) (by omega) ‹_›).2 hc190;subst hr;exact bO (none,0,[],_) rfl (bE rfl) (bN hT (bJ .head) rfl rfl rfl rfl) (.cons kT2 .nil) ⟨dL,Has.each_nil,Has.pure rfl,trivial⟩ rfl
   have hc190:=fM hc190;have he:=(pZ hinv30.1 (by first | exact .inl (by omega) | exact .inr (.inl ‹_›) | exact .inr (.inr ‹_›)) (by omega) (by omega) ‹_›).1 hc190;refine bM<|bZ<|bC ?_;exact cL ((bW toks (k) e true).next,o,out,(some (b51,(qG (bW toks (k) e true)))::st),_,_,_,_) (by have:=he.1;first | (have:=dQ toks k e false;dsimp only;omega) | (have:=dQ toks k e true;dsimp only;omega)) ⟨rfl,trivial⟩ ⟨rfl,rfl,rfl,rfl,rfl,rfl,trivial⟩ (.cons kT1 (.cons kT4 (.cons kT4 (.cons kT2 (.cons kT2 (.cons kT5 (.cons kT1 .nil))))))) ⟨Has.pure (⟨he,hinv30.2.1,hinv30.2.2.1,by have:=dQ toks k e true;first | omega | (simp;omega),he.1⟩),Has.of mT1,Has.of mT0,Has.of mT5,trivial⟩ (bI.drop 13)
  have hg133:=beq_eq_false_iff_ne.1 hg133;refine sk3 ?_;refine sp hT ?_;refine nn<|cG rfl rfl ?_;refine cY<|cJ<|cJ<|cZ<|bC<|bB<|bU<|sr<|sp hT ?_;refine ss (ldO hT (bJ kT5)) ?_;refine sp2 hT ?_;refine cB (fun hg160=>?_) (fun hg160=>?_)
  ·have hg160:=eq_of_beq hg160;refine sp4 hT ?_;refine nn<|bK rfl (fun hc156=>?_) (fun hc156=>?_)
   ·have hc156:=of_decide_eq_true hc156;refine sr<|ss (ldO hT (bJ kT9)) ?_;refine bQ Tryz.func74 (cV bl A c toks (k) e _) rfl rfl (.cons .head .nil) ⟨Has.of yG,trivial⟩ fun _=>?_;refine sp hT ?_;refine sto hT kT8 ?_;refine nn<|bF<|bG<|bA<|bG<|bA<|bG ?_;have hr:=r_open hinv30.1 ‹_› (by omega);subst hr;exact bO (none,0,[],_) rfl (bE rfl) (bN hT (bJ .head) rfl rfl rfl rfl) (.cons kT1 .nil) ⟨dL,Has.each_nil,Has.pure rfl,trivial⟩ rfl
   have hc156:=Int.not_lt.1 (of_decide_eq_false hc156);refine sr<|sp hT ?_;refine ss (ldO hT (bJ kT5)) ?_;refine sp hT ?_;refine cA (t':=true) (by rw [hg160];rfl) ?_;refine sp hT ?_;refine nn<|cH rfl rfl ?_;refine sr<|sp hT ?_;refine gF (cR Tryz.func136 rfl rfl) (nL b5 b4 _ _ st _ _ out (by omega)) rfl rfl rfl rfl rfl rfl rfl (.cons kT3 (.cons kT3 (.cons kT1 (.cons kT1 .nil)))) ⟨(Has.of mT1),trivial⟩ fun⟨⟨D53,f54⟩,⟨C55,e56⟩⟩=>?_;refine bH (mD (out++(finP st).1)) (tE (Has.of mT4) (Has.of mT3)) ?_;refine bH (tnF (finP st).2) (bCh (Has.of mT4)) ?_;have hfl:=uB st;refine nn<|sr<|ss (ldO hT (bJ kT2)) ?_;refine ss (cF rfl rfl (vW)) ?_;refine sp hT ?_;refine sto hT kT8 ?_;refine nn<|bF<|bG<|bA<|bG<|bA<|bG ?_;have hr:=bEx hinv30.1 ‹_› (by omega);subst hr;refine cT kT4 ?_;exact bO (_,_,(out++(finP st).1),_) rfl (bE rfl) (bN hT (bJ .head) rfl rfl rfl rfl) (.cons kT4 .nil) ⟨Has.of mT0,(Has.of mT2),Has.pure rfl,trivial⟩ rfl
  have hg160:=beq_eq_false_iff_ne.1 hg160;refine sk2 ?_;refine sp2 hT ?_;refine nn<|cG rfl rfl ?_;refine sr<|sp hT ?_;refine ss (ldO hT (bJ kT5)) ?_;refine sp hT ?_;refine cA (t':=false) (beq_eq_false_iff_ne.2 hg160) ?_;refine sp hT ?_;refine nn<|cG rfl rfl ?_;refine sr<|sp hT ?_;refine ss (ldO hT (bJ kT5)) ?_;refine sp2 hT ?_;refine cB (fun hg178=>?_) (fun hg178=>?_)
  ·have hg178:=eq_of_beq hg178;refine sk4 ?_;refine sp2 hT ?_;refine nn<|cH rfl rfl ?_;refine sr<|ss (ldO hT (bJ kT9)) ?_;refine bQ Tryz.func74 (cV bl A c toks (k) e _) rfl rfl (.cons .head .nil) ⟨Has.of yG,trivial⟩ fun _=>?_;refine sp hT ?_;refine sto hT kT8 ?_;refine nn<|bF<|bG<|bA<|bG<|bA<|bG ?_;have hr:=sI hinv30.1 (by first | exact .inl (by omega) | exact .inr (.inl ‹_›) | exact .inr (.inr ‹_›)) (by omega) (by first | exact .inr ‹_› | exact .inl (by omega));subst hr;exact bO (none,0,[],_) rfl (bE rfl) (bN hT (bJ .head) rfl rfl rfl rfl) (.cons kT1 .nil) ⟨dL,Has.each_nil,Has.pure rfl,trivial⟩ rfl
  have hg178:=beq_eq_false_iff_ne.1 hg178;refine sp hT ?_;refine ss (ldO hT (dH kT5)) ?_;refine bQ Tryz.func135 (nK _) rfl rfl .nil trivial fun _=>?_;refine sp3 hT ?_;refine nn<|bK rfl (fun hc174=>?_) (fun hc174=>?_)
  ·have hc174:=fT hc174;refine sr<|ss (ldO hT (bJ kT9)) ?_;refine bQ Tryz.func74 (cV bl A c toks (k) e _) rfl rfl (.cons .head .nil) ⟨Has.of yG,trivial⟩ fun _=>?_;refine sp hT ?_;refine sto hT kT8 ?_;refine nn<|bF<|bG<|bA<|bG<|bA<|bG ?_;have hr:=sI hinv30.1 (by first | exact .inl (by omega) | exact .inr (.inl ‹_›) | exact .inr (.inr ‹_›)) (by omega) (by first | exact .inr ‹_› | exact .inl (by omega));subst hr;exact bO (none,0,[],_) rfl (bE rfl) (bN hT (bJ .head) rfl rfl rfl rfl) (.cons kT1 .nil) ⟨dL,Has.each_nil,Has.pure rfl,trivial⟩ rfl
  have hc174:=fM hc174;refine bM<|bZ<|bC<|sr<|sp hT ?_;refine gF (cR Tryz.func137 rfl rfl) (nO bl A c toks (k) e b1 b5 b4 _ _ st (by omega) (by omega)) rfl rfl rfl rfl rfl rfl rfl (.cons .head (.cons kT8 (.cons kT2 (.cons kT2 .nil)))) ⟨(Has.of yG),(Has.of mT1),trivial⟩ fun⟨⟨A57,c58⟩,b59⟩=>?_;refine bH (tnF (some (b59,(qG (bW toks (k) e true)))::st)) (uK (Has.of mT3) dL) ?_;refine cC rfl rfl rfl rfl yT rfl fun b60=>?_;refine sto hT .head ?_;refine nn<|sr<|ss (ldN hT (bJ .head)) ?_;refine ss (cF rfl rfl (vW)) ?_;refine ss (fP ⟨(bW toks (k) e true).flt.1,(bW toks (k) e true).flt.2⟩ ⟨0,0⟩ rfl rfl rfl) ?_;refine nn<|bK rfl (fun hc190=>?_) (fun hc190=>?_)
  ·have hc190:=fT hc190;refine bB<|dD _ _ [(true,0),(true,1),(false,2)] dG (by decide+kernel) (.cons .head (.cons .head (.cons .head (.cons .head (.cons .head (.cons .head (.cons .head (.cons .head (.cons .head (.cons .head .nil)))))))))) bI.self ?_;refine stM rfl (ldN hT (bJ .head)) ?_;refine puM hT ?_;refine cM (o:=_) rfl ?_;refine sto hT kT10 ?_;refine cN (.cons kT1 (.cons kT1 (.cons kT1 (.cons kT1 (.cons kT1 (.cons kT1 (.cons kT1 (.cons kT1 (.cons kT1 (.cons kT1 .nil)))))))))) (bI.drop 0) ?_;refine cS<|bC<|bF<|bG<|bA<|bG ?_;have hr:=(pZ hinv30.1 (by first | exact .inl (by omega) | exact .inr (.inl ‹_›) | exact .inr (.inr ‹_›)) (by omega) (by omega) ‹_›).2 hc190;subst hr;exact bO (none,0,[],_) rfl (bE rfl) (bN hT (bJ .head) rfl rfl rfl rfl) (.cons kT2 .nil) ⟨dL,Has.each_nil,Has.pure rfl,trivial⟩ rfl
  have hc190:=fM hc190;have he:=(pZ hinv30.1 (by first | exact .inl (by omega) | exact .inr (.inl ‹_›) | exact .inr (.inr ‹_›)) (by omega) (by omega) ‹_›).1 hc190;refine bM<|bZ<|bC ?_;exact cL ((bW toks (k) e true).next,o,out,(some (b59,(qG (bW toks (k) e true)))::st),_,_,_,_) (by have:=he.1;first | (have:=dQ toks k e false;dsimp only;omega) | (have:=dQ toks k e true;dsimp only;omega)) ⟨rfl,trivial⟩ ⟨rfl,rfl,rfl,rfl,rfl,rfl,trivial⟩ (.cons kT1 (.cons kT4 (.cons kT4 (.cons kT2 (.cons kT2 (.cons kT5 (.cons kT1 .nil))))))) ⟨Has.pure (⟨he,hinv30.2.1,hinv30.2.2.1,by have:=dQ toks k e true;first | omega | (simp;omega),he.1⟩),Has.of mT1,Has.of mT0,Has.of mT5,trivial⟩ (bI.drop 13)
 have hg128:=Int.not_lt.1 (of_decide_eq_false hg128);refine sk3 ?_;refine sp2 hT ?_;refine sk3 ?_;refine sp hT ?_;refine nn<|cG rfl rfl ?_;refine cY<|cJ<|cJ<|cZ<|bC<|bB<|bU<|sr<|sp hT ?_;refine ss (ldO hT (bJ kT5)) ?_;refine sp2 hT ?_;refine cB (fun hg160=>?_) (fun hg160=>?_)
 ·have hg160:=eq_of_beq hg160;refine sp4 hT ?_;refine nn<|bK rfl (fun hc156=>?_) (fun hc156=>?_)
  ·have hc156:=of_decide_eq_true hc156;refine sr<|ss (ldO hT (bJ kT9)) ?_;refine bQ Tryz.func74 (cV bl A c toks (k) e _) rfl rfl (.cons .head .nil) ⟨Has.of yG,trivial⟩ fun _=>?_;refine sp hT ?_;refine sto hT kT8 ?_;refine nn<|bF<|bG<|bA<|bG<|bA<|bG ?_;have hr:=r_open hinv30.1 ‹_› (by omega);subst hr;exact bO (none,0,[],_) rfl (bE rfl) (bN hT (bJ .head) rfl rfl rfl rfl) (.cons kT1 .nil) ⟨dL,Has.each_nil,Has.pure rfl,trivial⟩ rfl
  have hc156:=Int.not_lt.1 (of_decide_eq_false hc156);refine sr<|sp hT ?_;refine ss (ldO hT (bJ kT5)) ?_;refine sp hT ?_;refine cA (t':=true) (by rw [hg160];rfl) ?_;refine sp hT ?_;refine nn<|cH rfl rfl ?_;refine sr<|sp hT ?_;refine gF (cR Tryz.func136 rfl rfl) (nL b5 b4 _ _ st _ _ out (by omega)) rfl rfl rfl rfl rfl rfl rfl (.cons kT3 (.cons kT3 (.cons kT1 (.cons kT1 .nil)))) ⟨(Has.of mT1),trivial⟩ fun⟨⟨D61,f62⟩,⟨C63,e64⟩⟩=>?_;refine bH (mD (out++(finP st).1)) (tE (Has.of mT4) (Has.of mT3)) ?_;refine bH (tnF (finP st).2) (bCh (Has.of mT4)) ?_;have hfl:=uB st;refine nn<|sr<|ss (ldO hT (bJ kT2)) ?_;refine ss (cF rfl rfl (vW)) ?_;refine sp hT ?_;refine sto hT kT8 ?_;refine nn<|bF<|bG<|bA<|bG<|bA<|bG ?_;have hr:=bEx hinv30.1 ‹_› (by omega);subst hr;refine cT kT4 ?_;exact bO (_,_,(out++(finP st).1),_) rfl (bE rfl) (bN hT (bJ .head) rfl rfl rfl rfl) (.cons kT4 .nil) ⟨Has.of mT0,(Has.of mT2),Has.pure rfl,trivial⟩ rfl
 have hg160:=beq_eq_false_iff_ne.1 hg160;refine sk2 ?_;refine sp2 hT ?_;refine nn<|cG rfl rfl ?_;refine sr<|sp hT ?_;refine ss (ldO hT (bJ kT5)) ?_;refine sp hT ?_;refine cA (t':=false) (beq_eq_false_iff_ne.2 hg160) ?_;refine sp hT ?_;refine nn<|cG rfl rfl ?_;refine sr<|sp hT ?_;refine ss (ldO hT (bJ kT5)) ?_;refine sp2 hT ?_;refine cB (fun hg178=>?_) (fun hg178=>?_)
 ·have hg178:=eq_of_beq hg178;refine sk4 ?_;refine sp2 hT ?_;refine nn<|cH rfl rfl ?_;refine sr<|ss (ldO hT (bJ kT9)) ?_;refine bQ Tryz.func74 (cV bl A c toks (k) e _) rfl rfl (.cons .head .nil) ⟨Has.of yG,trivial⟩ fun _=>?_;refine sp hT ?_;refine sto hT kT8 ?_;refine nn<|bF<|bG<|bA<|bG<|bA<|bG ?_;have hr:=sI hinv30.1 (by first | exact .inl (by omega) | exact .inr (.inl ‹_›) | exact .inr (.inr ‹_›)) (by omega) (by first | exact .inr ‹_› | exact .inl (by omega));subst hr;exact bO (none,0,[],_) rfl (bE rfl) (bN hT (bJ .head) rfl rfl rfl rfl) (.cons kT1 .nil) ⟨dL,Has.each_nil,Has.pure rfl,trivial⟩ rfl
 have hg178:=beq_eq_false_iff_ne.1 hg178;refine sp hT ?_;refine ss (ldO hT (dH kT5)) ?_;refine bQ Tryz.func135 (nK _) rfl rfl .nil trivial fun _=>?_;refine sp3 hT ?_;refine nn<|bK rfl (fun hc174=>?_) (fun hc174=>?_)
 ·have hc174:=fT hc174;refine sr<|ss (ldO hT (bJ kT9)) ?_;refine bQ Tryz.func74 (cV bl A c toks (k) e _) rfl rfl (.cons .head .nil) ⟨Has.of yG,trivial⟩ fun _=>?_;refine sp hT ?_;refine sto hT kT8 ?_;refine nn<|bF<|bG<|bA<|bG<|bA<|bG ?_;have hr:=sI hinv30.1 (by first | exact .inl (by omega) | exact .inr (.inl ‹_›) | exact .inr (.inr ‹_›)) (by omega) (by first | exact .inr ‹_› | exact .inl (by omega));subst hr;exact bO (none,0,[],_) rfl (bE rfl) (bN hT (bJ .head) rfl rfl rfl rfl) (.cons kT1 .nil) ⟨dL,Has.each_nil,Has.pure rfl,trivial⟩ rfl
 have hc174:=fM hc174;refine bM<|bZ<|bC<|sr<|sp hT ?_;refine gF (cR Tryz.func137 rfl rfl) (nO bl A c toks (k) e b1 b5 b4 _ _ st (by omega) (by omega)) rfl rfl rfl rfl rfl rfl rfl (.cons .head (.cons kT8 (.cons kT2 (.cons kT2 .nil)))) ⟨(Has.of yG),(Has.of mT1),trivial⟩ fun⟨⟨A65,c66⟩,b67⟩=>?_;refine bH (tnF (some (b67,(qG (bW toks (k) e true)))::st)) (uK (Has.of mT3) dL) ?_;refine cC rfl rfl rfl rfl yT rfl fun b68=>?_;refine sto hT .head ?_;refine nn<|sr<|ss (ldN hT (bJ .head)) ?_;refine ss (cF rfl rfl (vW)) ?_;refine ss (fP ⟨(bW toks (k) e true).flt.1,(bW toks (k) e true).flt.2⟩ ⟨0,0⟩ rfl rfl rfl) ?_;refine nn<|bK rfl (fun hc190=>?_) (fun hc190=>?_)
 ·have hc190:=fT hc190;refine bB<|dD _ _ [(true,0),(true,1),(false,2)] dG (by decide+kernel) (.cons .head (.cons .head (.cons .head (.cons .head (.cons .head (.cons .head (.cons .head (.cons .head (.cons .head (.cons .head .nil)))))))))) bI.self ?_;refine stM rfl (ldN hT (bJ .head)) ?_;refine puM hT ?_;refine cM (o:=_) rfl ?_;refine sto hT kT10 ?_;refine cN (.cons kT1 (.cons kT1 (.cons kT1 (.cons kT1 (.cons kT1 (.cons kT1 (.cons kT1 (.cons kT1 (.cons kT1 (.cons kT1 .nil)))))))))) (bI.drop 0) ?_;refine cS<|bC<|bF<|bG<|bA<|bG ?_;have hr:=(pZ hinv30.1 (by first | exact .inl (by omega) | exact .inr (.inl ‹_›) | exact .inr (.inr ‹_›)) (by omega) (by omega) ‹_›).2 hc190;subst hr;exact bO (none,0,[],_) rfl (bE rfl) (bN hT (bJ .head) rfl rfl rfl rfl) (.cons kT2 .nil) ⟨dL,Has.each_nil,Has.pure rfl,trivial⟩ rfl
 have hc190:=fM hc190;have he:=(pZ hinv30.1 (by first | exact .inl (by omega) | exact .inr (.inl ‹_›) | exact .inr (.inr ‹_›)) (by omega) (by omega) ‹_›).1 hc190;refine bM<|bZ<|bC ?_;exact cL ((bW toks (k) e true).next,o,out,(some (b67,(qG (bW toks (k) e true)))::st),_,_,_,_) (by have:=he.1;first | (have:=dQ toks k e false;dsimp only;omega) | (have:=dQ toks k e true;dsimp only;omega)) ⟨rfl,trivial⟩ ⟨rfl,rfl,rfl,rfl,rfl,rfl,trivial⟩ (.cons kT1 (.cons kT4 (.cons kT4 (.cons kT2 (.cons kT2 (.cons kT5 (.cons kT1 .nil))))))) ⟨Has.pure (⟨he,hinv30.2.1,hinv30.2.2.1,by have:=dQ toks k e true;first | omega | (simp;omega),he.1⟩),Has.of mT1,Has.of mT0,Has.of mT5,trivial⟩ (bI.drop 13)
structure qL where
 name:Bs
 n:Int
 deriving Inhabited,DecidableEq
structure iS where
 name:Bs
 at_:Int
 sides:List qL
 deriving Inhabited,DecidableEq
structure pC where
 name:Bs
 at_:Int
 items:List fI
 deriving Inhabited,DecidableEq
structure iM where
 inputs:List iS
 lines:List pC
 deriving Inhabited,DecidableEq
def verbWords:List Bs:=[[43],[45],[42],[37],[124],[109,105,110],[109,97,120],[61],[126],[60],[60,61],[62,61],[62],[97,110,100],[111,114],[112,111,119],[114,104,111],[116,97,107,101],[100,114,111,112],[99,97,116],[105,111,116,97],[115,104,97,112,101],[114,97,118,101,108],[114,101,118],[116,117,114,110]]
def bCt (two:Bool)(f:Int):List Bs→Bs→Bs
 | [],acc=>acc
 | s::r,acc=>bCt two f r (if gI s two !=0&&gI s two==f then s else acc)
def kD (two:Bool)(f:Int):Bs:=bCt two f verbWords []
structure fS where
 words:List Bs
 nest:Nat
 tokens:Nat
 plain:Bool
 deriving Inhabited,DecidableEq
def operandS(it:fI):Option fS:=
 if it.how=2 then (if it.fn=0∧it.nums=[]∧fJ it.name=true then some ⟨[it.name],0,1,true⟩ else none)
 else if it.fn≠0∨it.name≠[]∨it.nums=[]∨256<it.nums.length then none
 else some ⟨it.nums.map fW,0,it.nums.length,true⟩
def bMu (how:Int):Bs:=if how=5 then [47] else if how=6 then [92] else if how=7 then [46] else []
def verbS (it:fI):Bs×Nat:=
 if it.how=3 then (kD false it.fn,1)
 else if kD true it.fn=[]∨it.how=4 then (kD true it.fn,1)
 else if 17<it.fn then ([],0)
 else (kD true it.fn++bMu it.how,2)
def brkEnd:List Bs→List Bs
 | []=>[]
 | [w]=>[w++[41]]
 | w::r=>w::brkEnd r
def brk:List Bs→List Bs
 | []=>[]
 | w::r=>brkEnd (([40]++w)::r)
def leftS (p:fS):fS:=if p.plain then p else ⟨brk p.words,p.nest+1,p.tokens+2,p.plain⟩
def uX (how:Int):Bool:=how==4 || how==7
def oQ (it:fI)(st:List fS):Option (List fS):=
 if uX it.how then match st with
  | p::q::r=>some (⟨(leftS q).words++(verbS it).1::p.words,max p.nest (leftS q).nest,p.tokens+(verbS it).2+(leftS q).tokens,false⟩::r)
  | _=>none
 else match st with
  | p::r=>some (⟨(verbS it).1::p.words,p.nest,p.tokens+(verbS it).2,false⟩::r)
  | []=>none
def iK (st:List fS)(it:fI):Option (List fS):=
 if it.how=1∨it.how=2 then (operandS it).map (· ::st)
 else if it.how<3∨7<it.how∨it.nums≠[]∨it.name≠[]∨(verbS it).1=[] then none
 else oQ it st
def gB:List fI→List fS→Option (List fS)
 | [],st=>some st
 | it::r,st=>match iK st it with
  | none=>none
  | some st'=>gB r st'
def joinSp:List Bs→Bs
 | []=>[]
 | [w]=>w
 | w::r=>w++32::joinSp r
def hU (l:List fI)(most:Nat):Option Bs:=
 if most<l.length then none else match gB l [] with
  | some [p]=>if most<p.tokens∨32<p.nest then none else some (joinSp p.words)
  | _=>none
def kY:List qL→Bs→Option Bs
 | [],t=>some t
 | d::r,t=>if d.name=[] then kY r (t++([32]++fW d.n)) else if d.n=0∧fJ d.name=true then kY r (t++([32]++d.name)) else none
def pT (x:iS):Option Bs:=if fJ x.name=false∨4<x.sides.length then none else kY x.sides x.name
def nU:List iS→Bs→Bs×Bool
 | [],o=>(o,true)
 | x::r,o=>match pT x with
  | none=>(o,false)
  | some t=>nU r (o++(([105,110,32]++t)++[10]))
def gA:List pC→Bs→Bs×Bool
 | [],o=>(o,true)
 | [l],o=>match hU l.items 255 with
  | none=>(o,false)
  | some t=>if l.name≠[] then (o,false) else (o++(([111,117,116,32]++t)++[10]),true)
 | l::r,o=>match hU l.items 254 with
  | none=>(o,false)
  | some t=>if fJ l.name=false then (o,false) else gA r (o++(((l.name++[58,32])++t)++[10]))
def fH (p:iM):Bs×Bool:=
 if p.lines=[]∨64<p.inputs.length+p.lines.length then ([],false) else match nU p.inputs [] with
  | (o,false)=>(o,false)
  | (o,true)=>gA p.lines o
def mX (two:Bool)(f:Int):List Bs→Bs
 | []=>[]
 | s::r=>if gI s two !=0&&gI s two==f then s else mX two f r
structure Part where
 s:Bs
 plain:Bool
 tokens:Nat
 nest:Nat
 deriving Inhabited,DecidableEq
def brkR (p:Part):Part:=if p.plain then p else ⟨([40]++p.s)++[41],false,p.tokens+2,p.nest+1⟩
def hitB (two:Bool)(f:Int)(s:Bs):Bool:=gI s two !=0&&gI s two==f
theorem bJn(two:Bool)(f:Int): ∀l:List Bs,l.Pairwise (fun s t=>gI s two=0∨gI s two≠gI t two)→ ∀acc,bCt two f l acc=if l.any (hitB two f) then mX two f l else acc
 | [],_,acc=>rfl
 | s::r,h,acc=>by
  obtain⟨h1,h2⟩:=List.pairwise_cons.1 h;rw [bCt,mX,bJn two f r h2]
  by_cases hs:(gI s two !=0&&gI s two==f)=true
  ·have hn:r.any (hitB two f)=false:=by
    rw [List.any_eq_false];intro t ht hb;simp only [hitB,Bool.and_eq_true,bne_iff_ne,beq_iff_eq] at hb hs
    rcases h1 t ht with h | h
    ·exact hs.1 h
    ·exact h (hs.2.trans hb.2.symm)
   simp [hs,hn,hitB]
  ·simp only [Bool.not_eq_true] at hs;simp [hs,hitB]
theorem bGr(two:Bool)(f:Int): ∀l:List Bs,l.any (hitB two f)=false→mX two f l=[]
 | [],_=>rfl
 | s::r,h=>by
  rw [List.any_cons,Bool.or_eq_false_iff] at h;rw [mX];have:(gI s two !=0&&gI s two==f)=false:=h.1;rw [this,bGr two f r h.2];rfl
theorem bIx(two:Bool)(f:Int):mX two f verbWords=kD two f:=by
 unfold kD;rw [bJn two f verbWords (by cases two<;>decide)];cases h:verbWords.any (hitB two f)
 ·rw [bGr two f _ h];rfl
 ·rfl
theorem bKt(two:Bool)(f:Int): ∀l:List Bs,mX two f l≠[]→mX two f l∈l∧hitB two f (mX two f l)=true
 | [],h=>absurd rfl h
 | s::r,h=>by
  rw [mX] at h⊢
  by_cases hs:(gI s two !=0&&gI s two==f)=true
  ·rw [if_pos hs];exact⟨List.mem_cons_self ..,hs⟩
  ·rw [if_neg hs] at h⊢;obtain⟨h1,h2⟩:=bKt two f r h;exact⟨List.mem_cons_of_mem _ h1,h2⟩
theorem textF_hit{two:Bool}{f:Int}(h:kD two f≠[]):kD two f∈verbWords∧gI (kD two f) two=f∧f≠0:=by
 rw [←bIx] at h⊢;obtain⟨h1,h2⟩:=bKt two f _ h;simp only [hitB,Bool.and_eq_true,bne_iff_ne,beq_iff_eq] at h2;exact⟨h1,h2.2,fun e=>h2.1 (h2.2.trans e)⟩
theorem rR(w:Bs){r:List Bs}(h:r≠[]):joinSp (w::r)=w++32::joinSp r:=by
 cases r with
 | nil=>exact absurd rfl h
 | cons x r=>rfl
theorem bLl{l:List Bs}(h:l≠[]):brkEnd l≠[]:=by
 match l,h with
 | [w],_=>simp [brkEnd]
 | w::x::r,_=>simp [brkEnd]
theorem bDf: ∀l:List Bs,l≠[]→joinSp (brkEnd l)=joinSp l++[41]
 | [],h=>absurd rfl h
 | [w],_=>rfl
 | w::x::r,_=>by
  show joinSp (w::brkEnd (x::r))=_;rw [rR w (bLl (by simp)),bDf (x::r) (by simp),rR w (by simp)];simp
theorem join_brk{l:List Bs}(h:l≠[]):joinSp (brk l)=([40]++joinSp l)++[41]:=by
 cases l with
 | nil=>exact absurd rfl h
 | cons w r=>
  show joinSp (brkEnd _)=_;rw [bDf _ (by simp)]
  cases r with
  | nil=>simp [joinSp]
  | cons x r=>simp [joinSp]
theorem brk_ne{l:List Bs}(h:l≠[]):brk l≠[]:=by
 cases l with
 | nil=>exact absurd rfl h
 | cons w r=>exact bLl (by simp)
structure Like (p:Part) (q:fS):Prop where
 s:p.s=joinSp q.words
 plain:p.plain=q.plain
 tokens:p.tokens=q.tokens
 nest:p.nest=q.nest
 ne:q.words≠[]
theorem Like.brk{p:Part}{q:fS}(h:Like p q):Like (brkR p) (leftS q):=by
 unfold brkR leftS;rw [h.plain];cases hq:q.plain
 ·simp only [Bool.false_eq_true,if_false];exact⟨by rw [h.s,join_brk h.ne],by simp,by simp [h.tokens],by simp [h.nest],brk_ne h.ne⟩
 ·simp only [if_true];exact h
inductive bAz:List Part→List fS→Prop
 | nil:bAz [] []
 | cons {p q a b}:Like p q→bAz a b→bAz (p::a) (q::b)
theorem bAz.len{a:List Part}{b:List fS}(h:bAz a b):a.length=b.length:=by induction h<;>simp_all
theorem step_tokens{st st':List fS}{x:fI}(h:iK st x=some st'):(st.map (·.tokens)).sum+1≤(st'.map (·.tokens)).sum:=by
 unfold iK at h;split at h
 ·unfold operandS at h;split at h
  ·split at h
   ·simp at h;subst h;simp;omega
   ·simp at h
  ·split at h
   ·simp at h
   ·rename_i hn;simp at h;subst h;have:0<x.nums.length:=List.length_pos_iff.2 fun e=>hn (by simp [e]);simp;omega
 ·split at h
  ·cases h
  ·have hv:1≤(verbS x).2∨(verbS x).1=[]:=by
    unfold verbS;split
    ·exact .inl (by simp)
    ·split
     ·exact .inl (by simp)
     ·split
      ·exact .inr rfl
      ·exact .inl (by simp)
   rename_i hn;have hv:1≤(verbS x).2:=hv.resolve_right fun e=>hn (by simp [e]);unfold oQ at h;split at h
   ·split at h
    ·rename_i p q r;simp at h;subst h;have:q.tokens≤(leftS q).tokens:=by unfold leftS;split<;>simp
     simp only [List.map_cons,List.sum_cons];omega
    ·cases h
   ·split at h
    ·simp at h;subst h;simp;omega
    ·cases h
theorem zQ: ∀{l:List fI} {st st':List fS},gB l st=some st'→(st.map (·.tokens)).sum+l.length≤(st'.map (·.tokens)).sum
 | [],st,st',h=>by simp [gB] at h;subst h;simp
 | x::r,st,st',h=>by
  rw [gB] at h
  cases h1:iK st x with
  | none=>rw [h1] at h;cases h
  | some s1=>
   rw [h1] at h;have:=zQ h;have:=step_tokens h1;simp only [List.length_cons];omega
def iX.sd (x:iX):qL:=⟨x.name,x.n⟩
def InputV.inp(x:InputV):iS:=⟨x.name,x.at_,x.sides.list.map iX.sd⟩
def LineV.ln(x:LineV):pC:=⟨x.name,x.at_,x.items.list.map ItemV.it⟩
def ProgV.pr(x:ProgV):iM:=⟨x.inputs.list.map InputV.inp,x.lines.list.map LineV.ln⟩
def lQ:List TokV→List qL→List qL×Flt
 | [],acc=>(acc,(0,0))
 | t::r,acc=>
  if t.kind≠2∧(t.kind≠1∨fJ t.word=false) then (acc,(t.at_,41))
  else if acc.length=4 then (acc,(t.at_,45)) else lQ r (acc++[⟨t.word,t.n⟩])
section
variable (toks : List TokV) (e : Int)
def jU:iS×Flt:=
 if toks.length=1 then (⟨(bR toks 1).word,atP toks 1 e,[]⟩,(atP toks 1 e,42))
 else if (bR toks 1).kind≠1∨fJ (bR toks 1).word=false then (⟨(bR toks 1).word,atP toks 1 e,[]⟩,(atP toks 1 e,41))
 else (⟨(bR toks 1).word,atP toks 1 e,(lQ (toks.drop 2) []).1⟩,(lQ (toks.drop 2) []).2)
def isW (t:TokV)(w:Bs):Bool:=t.kind==1&&t.word==w
def rW (name:Bs)(k:Nat):pC×Flt:=(⟨name,(bR toks 0).at_,(qU toks e k).1⟩,(qU toks e k).2)
def gJ (p:iM)(n:Nat)(over:Bool):iM×Flt:=
 if n=64 then (p,(atP toks 0 e,45))
 else if 256<toks.length then (p,(atP toks 256 e,45))
 else if over=true∨isW (bR toks 0) [105,110]=true∧p.lines≠[] then (p,(atP toks 0 e,40))
 else if isW (bR toks 0) [105,110]=true then (⟨p.inputs++[(jU toks e).1],p.lines⟩,(jU toks e).2)
 else if isW (bR toks 0) [111,117,116]=true then (⟨p.inputs,p.lines++[(rW toks e [] 1).1]⟩,(rW toks e [] 1).2)
 else if (bR toks 0).kind≠1∨fJ (bR toks 0).word=false then (p,(atP toks 0 e,40))
 else if (bR toks 1).kind≠3∨(bR toks 1).word≠[58] then (p,(atP toks 1 e,42))
 else (⟨p.inputs,p.lines++[(rW toks e (bR toks 0).word 2).1]⟩,(rW toks e (bR toks 0).word 2).2)
end
def ownP (toks:List TokV):List TokV:=toks.takeWhile fun t=>t.kind !=4
def endP (toks:List TokV)(len:Int):Int:=atP toks (ownP toks).length len
def pD (p:iM):Bool:=match p.lines.getLast? with
 | none=>false
 | some l=>l.name==[]
def qM (len:Int):Nat→List TokV→iM→Nat→Bool→iM×Flt
 | 0,_,_,_,_=>(⟨[],[]⟩,(0,0))
 | f+1,toks,p,n,over=>
  if toks=[] then (if over=true then (p,(0,0)) else (⟨[],[]⟩,(len,42)))
  else if ownP toks=[] then qM len f (toks.drop 1) p n over
  else if kU (gJ (ownP toks) (endP toks len) p n over).2 then
   qM len f (toks.drop ((ownP toks).length+1)) (gJ (ownP toks) (endP toks len) p n over).1 (n+1) (pD (gJ (ownP toks) (endP toks len) p n over).1)
  else (⟨[],[]⟩,(gJ (ownP toks) (endP toks len) p n over).2)
def gP (text:Bs):iM×Flt:=
 if kU (lexP text).2 then qM text.length ((lexP text).1.length+1) (lexP text).1 ⟨[],[]⟩ 0 false else (⟨[],[]⟩,(lexP text).2)
def PInv (r:iM×Flt)(len:Int)(toks:List TokV)(p:iM)(n:Nat)(over:Bool):Prop:= ∃f,toks.length+1≤f∧qM len f toks p n over=r
section
variable {r : iM × Flt} {len : Int} {toks : List TokV} {p : iM} {n : Nat} {over : Bool}
theorem p_end(h:PInv r len toks p n over)(h0:toks=[]):r=if over=true then (p,(0,0)) else (⟨[],[]⟩,(len,42)):=by
 obtain⟨f,hf,h⟩:=h
 obtain⟨f,rfl⟩: ∃g,f=g+1:=⟨f-1,by omega⟩
 rw [qM,if_pos h0] at h;exact h.symm
theorem p_skip(h:PInv r len toks p n over)(h0:toks≠[])(h1:ownP toks=[]):PInv r len (toks.drop 1) p n over:=by
 obtain⟨f,hf,h⟩:=h;have:0<toks.length:=List.length_pos_iff.2 h0
 obtain⟨f,rfl⟩: ∃g,f=g+1:=⟨f-1,by omega⟩
 rw [qM,if_neg h0,if_pos h1] at h;exact⟨f,by rw [List.length_drop];omega,h⟩
theorem p_line(h:PInv r len toks p n over)(h0:toks≠[])(h1:ownP toks≠[]){q:iM}{f:Flt}(hq:gJ (ownP toks) (endP toks len) p n over=(q,f)):
  (kU f=true→PInv r len (toks.drop ((ownP toks).length+1)) q (n+1) (pD q))∧(kU f=false→r=(⟨[],[]⟩,f)):=by
 obtain⟨g,hg,h⟩:=h;have:0<toks.length:=List.length_pos_iff.2 h0
 obtain⟨g,rfl⟩: ∃k,g=k+1:=⟨g-1,by omega⟩
 rw [qM,if_neg h0,if_neg h1,hq] at h;refine⟨fun hi=>?_,fun hi=>?_⟩
 ·rw [if_pos hi] at h;exact⟨g,by rw [List.length_drop];omega,h⟩
 ·rw [if_neg (by rw [hi];simp)] at h;exact h.symm
end
structure bBl (t:TokV):Prop where
 word:t.word.length≤16
 lo: -9223372036854775808≤t.n
 hi:t.n≤9223372036854775807
theorem bIv{neg:Bool}{ds:Bs}{v:Int}(h:rN neg ds=some v): -9223372036854775808≤v∧v≤9223372036854775807:=by
 unfold rN at h;split at h
 ·split at h
  ·injection h with h
   omega
  ·cases h
 ·split at h
  ·injection h with h
   omega
  ·cases h
theorem numTok_ok{b:UInt8}{r:Bs}{t:TokR}(h:gY b r= .ok (some t)):t.2.1=[]∧ -9223372036854775808≤t.2.2.1∧t.2.2.1≤9223372036854775807:=by
 unfold gY at h;dsimp only at h
 by_cases hb:(b==95)=true
 ·simp only [hb,if_true] at h;split at h
  ·cases h
  ·split at h
   ·cases h
   ·rename_i hv;simp only [Except.ok.injEq,Option.some.injEq] at h;subst h;exact⟨rfl,bIv hv⟩
 ·simp only [hb,Bool.false_eq_true,if_false] at h;split at h
  ·cases h
  ·split at h
   ·cases h
   ·rename_i hv;simp only [Except.ok.injEq,Option.some.injEq] at h;subst h;exact⟨rfl,bIv hv⟩
theorem bKx{s:Bs}{k v:Int}{wd:Bs}{m:Nat}(h:fU s= .ok (k,wd,v,m)):wd.length≤16∧ -9223372036854775808≤v∧v≤9223372036854775807:=by
 cases s with
 | nil=>cases h
 | cons b r=>
  simp only [fU] at h;split at h
  ·cases h;decide
  ·split at h
   ·split at h
    ·cases h
    ·cases h;rename_i h16
     have:=(List.length_take_le (runB mS (b::r)) (b::r))
     exact⟨by omega,by decide,by decide⟩
   ·split at h
    ·cases h
    ·rename_i t' ht;simp only [Except.ok.injEq] at h;subst h;obtain⟨h1,h2,h3⟩:=numTok_ok ht;simp only at h1 h2 h3;exact⟨by rw [h1];decide,h2,h3⟩
    ·split at h
     ·cases h
     ·cases h
      have h2:kK (b::r)≤2:=by
       simp only [kK];split
       ·omega
       ·split<;>omega
      have:=(List.length_take_le (kK (b::r)) (b::r))
      exact⟨by omega,by decide,by decide⟩
theorem zO: ∀(f i:Nat) (s:Bs) (out:List Tok),(∀t∈out,bBl t)→ ∀t∈(lexGo f i s out).1,bBl t
 | 0,_,_,out,h=>h
 | _+1,_,[],out,h=>h
 | f+1,i,b::r,out,h=>by
  unfold lexGo;split
  ·exact zO f _ _ _ h
  ·split
   ·exact zO f _ _ _ h
   ·split
    ·exact fun t ht=>by simp at ht
    ·rename_i ht;refine zO f _ _ _ fun t hm=>?_
     rcases List.mem_append.1 hm with hm | hm
     ·exact h t hm
     ·rw [List.mem_singleton.1 hm];obtain⟨h1,h2,h3⟩:=bKx ht;exact⟨h1,h2,h3⟩
theorem lex_ok(s:Bs): ∀t∈(lexP s).1,bBl t:=by
 unfold lexP;split
 ·exact fun t ht=>by simp at ht
 ·exact zO _ _ _ _ fun t ht=>by simp at ht
theorem peek_ok{toks:List TokV}(h: ∀t∈toks,bBl t)(k:Nat):bBl (bR toks k):=by
 unfold bR;split
 ·rename_i ht;exact h _ (List.mem_of_getElem? ht)
 ·exact⟨by decide,by decide,by decide⟩
theorem xG{toks:List TokV}(h: ∀t∈toks,bBl t)(k:Nat):(bR toks k).word.length≤65536:=Nat.le_trans (peek_ok h k).word (by decide)
theorem bGm(toks:List TokV):(ownP toks).length≤toks.length:=(List.takeWhile_sublist _).length_le
theorem zS(toks:List TokV):toks.take (ownP toks).length=ownP toks:=by
 unfold ownP
 induction toks with
 | nil=>rfl
 | cons t r ih=>
  rw [List.takeWhile_cons];split
  ·rw [List.length_cons,List.take_succ_cons,ih]
  ·rfl
theorem own_more{toks:List TokV}{n:Nat}{x:TokV}(hn:n≤(ownP toks).length)(hx:toks[n]?=some x)(h4:x.kind≠4):n+1≤(ownP toks).length:=by
 unfold ownP at*
 induction toks generalizing n with
 | nil=>simp at hx
 | cons t r ih=>
  rw [List.takeWhile_cons] at hn⊢;split at hn
  ·rename_i ht;rw [if_pos ht]
   cases n with
   | zero=>simp
   | succ n=>
    have:=ih (n:=n) (by simpa using hn) (by simpa using hx);simp;omega
  ·rename_i ht;have:n=0:=by simpa using hn
   subst this;simp at hx;subst hx;simp [h4] at ht
theorem own_stop{toks:List TokV}{n:Nat}(hn:n≤(ownP toks).length)(h:toks.length≤n∨ ∃x:TokV,toks[n]?=some x∧x.kind=4):n=(ownP toks).length:=by
 have hl:=bGm toks
 rcases h with h | ⟨x,hx,h4⟩
 ·omega
 ·rcases Nat.lt_or_ge n (ownP toks).length with hlt | hge
  ·exfalso
   have hm:(ownP toks)[n]?=some x:=by
    rw [←zS toks,List.getElem?_take,if_pos hlt];exact hx
   have:=List.all_takeWhile (p:=fun t:TokV=>t.kind !=4) (l:=toks);have:=List.all_eq_true.1 this x (List.mem_of_getElem? hm);simp [h4] at this
  ·omega
structure Tk where
 kind:Int
 word:Bs
 n:Int
 deriving Inhabited,DecidableEq
def TokV.tk(t:TokV):Tk:=⟨t.kind,t.word,t.n⟩
def Lx (s:Bs)(T:List Tk)(rest:Bs):Prop:= ∀i out,∃L:List Tok,L.map TokV.tk=T∧lexGo (s++rest).length i (s++rest) out=lexGo rest.length (i+s.length) rest (out++L)
section
variable {a b s rest : Bs} {A B : List Tk}
theorem Lx.nil:Lx [] [] rest:=fun i out=>⟨[],rfl,by simp⟩
theorem Lx.append(h:Lx a A (b++rest))(k:Lx b B rest):Lx (a++b) (A++B) rest:=fun i out=>by
 obtain⟨L,hL,e⟩:=h i out;obtain⟨M,hM,e'⟩:=k (i+a.length) (out++L);exact⟨L++M,by simp [hL,hM],by rw [List.append_assoc,e,e',List.length_append,Nat.add_assoc,List.append_assoc]⟩
theorem Lx.tok{k v:Int}{wd:Bs}{b:UInt8}(h:fU ((b::s)++rest)= .ok (k,wd,v,(b::s).length))(hb:mI b=false)(h35:(b==35)=false):Lx (b::s) [⟨k,wd,v⟩] rest:=fun i out=>
 ⟨[⟨k,i,wd,v⟩],rfl,by
  rw [List.cons_append,nD,hb,if_neg (by simp),h35,if_neg (by simp)];rw [List.cons_append] at h;rw [h];simp only;have e:(b::(s++rest)).drop (b::s).length=rest:=by rw [←List.cons_append,List.drop_left]
  rw [e]⟩
end
theorem bFx{p:UInt8→Bool}: ∀{s:Bs},runB p s=s.length→ ∀b∈s,p b=true
 | [],_,b,hb=>by simp at hb
 | c::s,h,b,hb=>by
  rw [runB] at h;split at h
  ·rename_i hc
   rcases List.mem_cons.1 hb with rfl | hb
   ·exact hc
   ·exact bFx (by simpa using h) b hb
  ·simp at h
structure WordB (s:Bs):Prop where
 head: ∃b r,s=b::r∧mY b=true
 all: ∀b∈s,mS b=true
 len:s.length≤16
theorem numTok_kind{b:UInt8}{r:Bs}{t:TokR}(h:gY b r= .ok (some t)):t.1=2∧t.2.1=[]:=by
 unfold gY at h;dsimp only at h
 by_cases hb:(b==95)=true
 ·simp only [hb,if_true] at h;split at h
  ·cases h
  ·split at h
   ·cases h
   ·simp only [Except.ok.injEq,Option.some.injEq] at h;subst h;exact⟨rfl,rfl⟩
 ·simp only [hb,Bool.false_eq_true,if_false] at h;split at h
  ·cases h
  ·split at h
   ·cases h
   ·simp only [Except.ok.injEq,Option.some.injEq] at h;subst h;exact⟨rfl,rfl⟩
structure TokIs (k:Int) (wd:Bs) (v:Int) (s:Bs):Prop where
 len:wd.length≤s.length
 num:k=2→wd=[]
 word:k=1→v=0
 spell:k=1→wd=s→WordB s
theorem take_len(n:Nat)(s:Bs):(s.take n).length≤s.length:=by simp;omega
theorem bBz{s:Bs}{k v:Int}{wd:Bs}{m:Nat}(h:fU s= .ok (k,wd,v,m)):TokIs k wd v s:=by
 cases s with
 | nil=>cases h
 | cons b r=>
  simp only [fU] at h;split at h
  ·cases h;exact⟨by simp,fun h=>absurd h (by decide),fun h=>absurd h (by decide),fun h=>absurd h (by decide)⟩
  ·split at h
   ·rename_i hl;split at h
    ·cases h
    ·cases h;rename_i h16;refine⟨take_len _ _,fun h=>absurd h (by decide),fun _=>rfl,fun _ e=>?_⟩;have hr:=jT mS (b::r)
     have he:runB mS (b::r)=(b::r).length:=by
      have:=congrArg List.length e;rw [List.length_take] at this;omega
     exact⟨⟨b,r,rfl,hl⟩,bFx he,by omega⟩
   ·split at h
    ·cases h
    ·rename_i t' ht;simp only [Except.ok.injEq] at h;subst h;obtain⟨h1,h2⟩:=numTok_kind ht;simp only at h1 h2;subst h1;subst h2;exact⟨by simp,fun _=>rfl,fun h=>absurd h (by decide),fun h=>absurd h (by decide)⟩
    ·split at h
     ·cases h
     ·cases h;exact⟨take_len _ _,fun h=>absurd h (by decide),fun h=>absurd h (by decide),fun h=>absurd h (by decide)⟩
theorem nM: ∀(f i:Nat) (s:Bs) (out:List Tok),kU (lexGo f i s out).2=true→ ∃L,(lexGo f i s out).1=out++L∧ ∀t∈L,t.word.length≤s.length
 | 0,_,_,out,_=>⟨[],by simp [lexGo],by simp⟩
 | _+1,_,[],out,_=>⟨[],by simp [lexGo],by simp⟩
 | f+1,i,b::r,out,h=>by
  unfold lexGo at h⊢;split at h
  ·rename_i hb;rw [if_pos hb];obtain⟨L,h1,h2⟩:=nM f _ _ _ h;exact⟨L,h1,fun t ht=>by have:=h2 t ht;simp;omega⟩
  ·rename_i hb;rw [if_neg hb];split at h
   ·rename_i h35;rw [if_pos h35];obtain⟨L,h1,h2⟩:=nM f _ _ _ h;exact⟨L,h1,fun t ht=>by have:=h2 t ht;rw [List.length_drop] at this;omega⟩
   ·rename_i h35;rw [if_neg h35];split at h
    ·rename_i e he
     exact absurd h (by
      have:=tok_code he
      simp [kU,pF,this])
    ·rename_i k wd v m ht;obtain⟨L,h1,h2⟩:=nM f _ _ _ h;refine⟨⟨k,i,wd,v⟩::L,by rw [h1];simp,fun t hm=>?_⟩
     rcases List.mem_cons.1 hm with rfl | hm
     ·exact(bBz ht).len
     ·have:=h2 t hm;rw [List.length_drop] at this;omega
theorem tI{s:Bs}(h:fJ s=true):WordB s:=by
 simp only [fJ,bBt,Bool.and_eq_true] at h;obtain⟨_,_,_,hf,hm⟩:=h;have hok:kU (lexP s).2=true:=hf;unfold lexP at hok hm
 by_cases hlen:65536<s.length
 ·rw [if_pos hlen] at hok;exact absurd hok (by decide)
 ·rw [if_neg hlen] at hok hm
  cases s with
  | nil=>simp [lexGo] at hm
  | cons b r=>
   rw [nD] at hok hm
   by_cases hb:mI b=true
   ·rw [if_pos hb] at hok hm;obtain⟨L,h1,h2⟩:=nM _ _ _ _ hok;rw [h1] at hm
    match L,hm,h2 with
    | [t],hm,h2=>
     simp only [List.nil_append,Bool.and_eq_true,beq_iff_eq] at hm;have:=h2 t (by simp);rw [hm.2] at this;simp at this;omega
   ·rw [if_neg hb] at hok hm
    by_cases h35:(b==35)=true
    ·rw [if_pos h35] at hok hm;have hp:1≤runB (· !=10) (b::r):=bBj (bHk h35);obtain⟨L,h1,h2⟩:=nM _ _ _ _ hok;rw [h1] at hm
     match L,hm,h2 with
     | [t],hm,h2=>
      simp only [List.nil_append,Bool.and_eq_true,beq_iff_eq] at hm;have:=h2 t (by simp);rw [hm.2,List.length_drop] at this;simp at this;omega
    ·rw [if_neg h35] at hok hm
     cases ht:fU (b::r) with
     | error e=>
      rw [ht] at hm;simp at hm
     | ok q=>
      obtain⟨k,wd,v,m⟩:=q;rw [ht] at hok hm;simp only at hok hm;obtain⟨L,h1,h2⟩:=nM _ _ _ _ hok;rw [h1] at hm
      have hw:k=1∧wd=b::r:=by
       cases L with
       | nil=>simpa using hm
       | cons t L=>simp at hm
      obtain⟨rfl,rfl⟩:=hw;exact(bBz ht).spell rfl rfl
def fI.un (x:fI):fI:=⟨x.how,0,x.fn,x.name,x.nums⟩
def vT (l:List fI):List fI:=l.map fI.un
theorem bBd(a b:List fI):vT (a++b)=vT a++vT b:=List.map_append
def OpenT:Tk:=⟨3,[40],0⟩
def CloseT:Tk:=⟨3,[41],0⟩
def kZ (toks:List TokV)(k:Nat)(T:List Tk):Prop:=k≤toks.length∧(toks.drop k).map TokV.tk=T
section
variable {toks : List TokV} {k : Nat} {t : Tk} {T R : List Tk}
theorem kZ.lt(h:kZ toks k (t::T)):k<toks.length:=by
 rcases Nat.lt_or_ge k toks.length with h' | h'
 ·exact h'
 ·rw [kZ,List.drop_of_length_le h'] at h;simp at h
theorem kZ.peek(h:kZ toks k (t::T)):(bR toks k).tk=t:=by
 have hk:=h.lt;rw [rL (List.getElem?_eq_getElem hk)];have:=h.2;rw [List.drop_eq_getElem_cons hk] at this;exact(List.cons.inj this).1
theorem kZ.next(h:kZ toks k (t::T)):kZ toks (k+1) T:=by
 have hk:=h.lt;have:=h.2;rw [List.drop_eq_getElem_cons hk] at this;exact⟨hk,(List.cons.inj this).2⟩
theorem kZ.kind(h:kZ toks k (t::T)):(bR toks k).kind=t.kind:=by rw [←h.peek];rfl
theorem kZ.word(h:kZ toks k (t::T)):(bR toks k).word=t.word:=by rw [←h.peek];rfl
theorem kZ.num(h:kZ toks k (t::T)):(bR toks k).n=t.n:=by rw [←h.peek];rfl
theorem kZ.nil(h:kZ toks k []):bR toks k=⟨4,0,[],0⟩∧k=toks.length:=by
 have e:(toks.drop k).length=0:=by
  have:=congrArg List.length h.2
  simpa using this
 rw [List.length_drop] at e;have:=h.1;exact⟨yS (by omega),by omega⟩
theorem kZ.skip: ∀(T:List Tk) {k:Nat},kZ toks k (T++R)→kZ toks (k+T.length) R
 | [],_,h=>h
 | t::T,k,h=>by
  have:=kZ.skip T (kZ.next (t:=t) (T:=T++R) h);rw [List.length_cons,show k+(T.length+1)=k+1+T.length from by omega];exact this
theorem kZ.kindR(h:kZ toks k R){c:Int}(hc:c≠4)(hR: ∀t∈R.head?,t.kind≠c):(bR toks k).kind≠c:=by
 cases R with
 | nil=>rw [h.nil.1];exact hc.symm
 | cons t R=>rw [h.kind];exact hR t rfl
end
def Mark (t:Tk):Prop:=t.kind=3∧(t.word=[47]∨t.word=[92]∨t.word=[46])
def Ps (T:List Tk)(I:List fI)(nest:Nat)(plain:Bool):Prop:=
 ∀{toks:List TokV} {e:Int} {r:uQ} {k:Nat} {out:List fI} {st:Stk} {o:Nat} {R:List Tk},kZ toks k (T++R)→(∀t∈R.head?,t.kind≠2)→o+nest≤32→bBo toks e r k out st o→
  ∃out' S,(plain=true→S=[])∧vT (out'++S)=vT I∧wC toks e r (k+T.length) (out++out') (S.map some++st) o
structure Vb (T:List Tk) (it:fI) (two:Bool):Prop where
 head: ∃t T',T=t::T'∧t.kind≠2∧t.kind≠4∧qF t.word=true∧ ¬Mark t
 phrase: ∀{toks:List TokV} {k:Nat} {e:Int} {R:List Tk},kZ toks k (T++R)→(∀t∈R.head?,¬Mark t)→kU (bW toks k e two).flt=true∧(bW toks k e two).next=k+T.length∧(bW toks k e two).it.un=it.un
def Hd (T:List Tk):Prop:= ∃t T',T=t::T'∧ ¬Mark t
theorem bKh(S:List fI)(st:Stk):mQ (S.map some++st)=(S++(mQ st).1,(mQ st).2):=by
 induction S with
 | nil=>rfl
 | cons x S ih=>rw [List.map_cons,List.cons_append,mQ,ih];rfl
theorem bKy{toks:List TokV}{R:List Tk}(hR: ∀t∈R.head?,t.kind≠2): ∀(ns:List Int) {k:Nat},kZ toks k (ns.map (fun n=>(⟨2,[],n⟩:Tk))++R)→gG toks k=ns
 | [],k,h=>nums_end (kZ.kindR (R:=R) h (by decide) hR)
 | n::ns,k,h=>by
  have h':kZ toks k (⟨2,[],n⟩::(ns.map (fun n=>(⟨2,[],n⟩:Tk))++R)):=h;rw [tB h'.kind,bKy hR ns h'.next,h'.num]
theorem Ps.nums{ns:List Int}{a:Int}(h:ns≠[]):Ps (ns.map fun n=>⟨2,[],n⟩) [⟨1,a,0,[],ns⟩] 0 true:=by
 intro toks e r k out st o R hF hR _ hE;have hn:=bKy hR ns hF
 obtain⟨n,ns',rfl⟩: ∃n ns',ns=n::ns':=by
  cases ns with
  | nil=>exact absurd rfl h
  | cons n ns'=>exact⟨n,ns',rfl⟩
 have hk:(bR toks k).kind=2:=kZ.kind (t:=⟨2,[],n⟩) (T:=_) hF;have:=e_num hE hk;rw [hn] at this;refine⟨[xI toks k],[],fun _=>rfl,?_,?_⟩
 ·simp [vT,xI,fI.un,hn]
 ·rw [List.length_map];exact this
theorem Ps.name{s:Bs}{a:Int}(h:fJ s=true):Ps [⟨1,s,0⟩] [⟨2,a,0,s,[]⟩] 0 true:=by
 intro toks e r k out st o R hF hR _ hE;have hF':kZ toks k (⟨1,s,0⟩::R):=hF;have:=e_name hE hF'.kind (by rw [hF'.word];exact h);refine⟨[qS toks k],[],fun _=>rfl,?_,this⟩;simp [vT,qS,fI.un,hF'.word]
theorem Ps.brk{T:List Tk}{I:List fI}{n:Nat}{p:Bool}(h:Ps T I n p):Ps (OpenT::(T++[CloseT])) I (n+1) true:=by
 intro toks e r k out st o R hF hR ho hE;have hF':kZ toks k (OpenT::(T++(CloseT::R))):=by simpa using hF
 have h1:=(e_open hE hF'.kind hF'.word).1 (by omega);obtain⟨out',S,_,hu,hB⟩:=h hF'.next (by simp [CloseT]) (by omega) h1
 have hc:=kZ.skip T hF'.next
 have:=b_close hB (by omega) hc.kind hc.word;rw [bKh] at this;refine⟨out'++S,[],fun _=>rfl,by rw [List.append_nil];exact hu,?_⟩;have e1:k+1+T.length+1=k+(OpenT::(T++[CloseT])).length:=by simp;omega
 rw [e1] at this;simp only [mQ,List.append_nil,List.tail_cons,Nat.add_sub_cancel,List.append_assoc] at this;exact this
theorem Ps.mono{V T:List Tk}{I:List fI}{it:fI}{n:Nat}{p:Bool}(hv:Vb V it false)(hd:Hd T)(h:Ps T I n p):Ps (V++T) (I++[it]) n false:=by
 intro toks e r k out st o R hF hR ho hE;rw [List.append_assoc] at hF;obtain⟨t,V',hV,h2,h4,hvb,_⟩:=hv.head;obtain⟨u,T',hT,hm⟩:=hd;have hF':kZ toks k (t::(V'++(T++R))):=by rw [hV] at hF;exact hF
 obtain⟨p1,p2,p3⟩:=hv.phrase (e:=e) hF (by rw [hT];simpa using hm);have h1:=(e_verb hE (by rw [hF'.kind];exact h2) (by rw [hF'.kind];exact h4) (by rw [hF'.word];exact hvb)).1 p1;rw [p2] at h1;obtain⟨out',S,_,hu,hB⟩:=h (kZ.skip V hF) hR ho h1;refine⟨out',S++[(bW toks k e false).it],by simp,?_,?_⟩
 ·rw [←List.append_assoc,bBd,hu,bBd];show vT I++[_]=_;rw [p3];rfl
 ·rw [List.length_append,←Nat.add_assoc,List.map_append,List.append_assoc];exact hB
theorem Ps.whole{T:List Tk}{I:List fI}{n:Nat}{p:Bool}(h:Ps T I n p)(hn:n≤32){toks:List TokV}{e:Int}{k:Nat}(hF:kZ toks k T):vT (qU toks e k).1=vT I∧(qU toks e k).2=(0,0):=by
 have hF':kZ toks k (T++[]):=by rw [List.append_nil];exact hF
 obtain⟨out',S,_,hu,hB⟩:=h hF' (by simp) (by omega) (e_start (e:=e) hF.1);have:=r_end hB (by rw [(kZ.skip T hF').nil.1]) (by omega);rw [bKh] at this;rw [this];simp only [mQ,List.append_nil,List.nil_append];exact⟨hu,trivial⟩
end Go.Proofs.YtbgdphbebhjpiaaGreatDoor
