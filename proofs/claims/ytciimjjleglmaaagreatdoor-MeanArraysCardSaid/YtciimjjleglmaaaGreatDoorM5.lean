/- Texts of one proof, one behind the other: ExprB, ShowP, ParseP, BackL, BackP. -/
import Derived.Test.YtciimjjleglmaaaGreatDoorM4
namespace Go.Proofs.YtciimjjleglmaaaGreatDoor
open Go.RowKit
def numF (it:ItemV):Fact:=cT.sl (.slice it.nums.addr it.nums.list.length it.nums.cap) it.nums.list
def lX (l:List ItemV):Fact:=Fact.each l numF
def tnF (st:List kL):Fact:=Fact.each st fun o=>match o with
  | none=>Fact.true
  | some x=>numF x.2
section
variable {F : List Fact} {b : Nat} {it : ItemV} {o : kL} {l : List ItemV} {st : List kL}
theorem tn_none(h:Has F (tnF st)):Has F (tnF (none::st)):=Has.each_cons Has.true h
theorem sZ(h:Has F (tnF st))(hx:Has F (numF it)):Has F (tnF (some (b,it)::st)):=Has.each_cons hx h
theorem bEb(h:Has F (tnF (o::st))):Has F (tnF st):=Has.each_tail h
theorem bHl(h:Has F (lX l))(hx:Has F (numF it)):Has F (lX (l++[it])):=Has.each_snoc h hx
theorem sE(hn:Has F (lX l))(h:Has F (tnF st)):Has F (lX (l++(finP st).1)):=by
  induction st generalizing l with
  | nil=>rw [finP,List.append_nil];exact hn
  | cons o st ih=>
    cases o with
    | none=>rw [finP,List.append_nil];exact hn
    | some x=>
      have:=ih (bHl hn (fun S w k=>h S w k (some x) (List.mem_cons_self ..))) (bEb h);rw [List.append_assoc] at this;exact this
theorem bAt(h:Has F (tnF st)):Has F (tnF (finP st).2):=by
  induction st with
  | nil=>exact h
  | cons o st ih=>
    cases o with
    | none=>exact h
    | some x=>exact ih (bEb h)
end
section
variable {toks : List TokV} {e : Int} {r : vL} {k o : Nat} {out : List ItemV} {st s2 : List kL}
theorem b_num{s:Stk}(h:yB toks e r k (out.map ItemV.it) s o)(h2:(bT toks k).kind=2){j:Nat}{cur:List Int}{C:Option Addr}{c:Nat}(hj:j=k+cur.length)(hc:iG toks k=cur):
    vG toks e r j ((out++[(⟨1,(bT toks k).at_,0,[],⟨C,c,cur⟩⟩:ItemV)]).map ItemV.it) s o:=by
  have:=e_num h h2;subst hc;subst hj;rw [List.map_append];exact this
theorem b_name{s:Stk}(h:yB toks e r k (out.map ItemV.it) s o)(h1:(bT toks k).kind=1)(hn:fC (bT toks k).word=true):
    vG toks e r (k+1) ((out++[(⟨2,(bT toks k).at_,0,(bT toks k).word,⟨none,0,[]⟩⟩:ItemV)]).map ItemV.it) s o:=by
  rw [List.map_append];exact e_name h h1 hn
theorem b_closed(h:vG toks e r k (out.map ItemV.it) (wT st) o)(ho:0<o)(h3:(bT toks k).kind=3)(hw:(bT toks k).word=[41])(hs:(finP st).2=none::s2):
    vG toks e r (k+1) ((out++(finP st).1).map ItemV.it) (wT s2) (o-1):=by
  have h1:=b_close h ho h3 hw;rw [←(wD st).2,hs] at h1;rw [List.map_append,(wD st).1];exact h1
theorem bEf(h:vG toks e r k (out.map ItemV.it) (wT st) o)(h4:(bT toks k).kind=4)(ho: ¬0<o):r=((out++(finP st).1).map ItemV.it,(0,0)):=by
  rw [List.map_append,(wD st).1];exact r_end h h4 ho
end
theorem sC(z0:Int)(z1:Int)(s3:ByteArray):Tryz.prog.built 49 [(0,.int .i64 z0),(1,.int .i64 z1),(3,.string s3)]=some #[.int .i64 z0,.int .i64 z1,.int .u8 0,.string s3,.slice none 0 0]:=by kernel_rfl
set_option maxRecDepth 100000 in
theorem bLc(bl:Nat)(A:Option Addr)(c:Nat)(toks:List TokV)(k0:Nat)(e:Int)(hk:k0≤toks.length)(hl:toks.length≤1000)(hw: ∀k,(bT toks k).word.length≤65536):dH Tryz.prog 65 [.pointer (some ⟨bl,0,none⟩)] [.obj bl (.cells [.slice A toks.length c,.int .i64 (k0:Nat),.int .i64 e].toArray 93)] [kO.sl (.slice A toks.length c) toks,gW] (fun(x:Option Addr×Nat×List ItemV×Nat)=> .tuple #[.slice x.1 x.2.2.1.length x.2.1,.agg #[.int .i64 (yX toks e k0).2.1,.int .i64 (yX toks e k0).2.2]]) (fun(x:Option Addr×Nat×List ItemV×Nat)=>[.obj bl (.cells [.slice A toks.length c,.int .i64 (x.2.2.2:Nat),.int .i64 e].toArray 93)]) (fun(x:Option Addr×Nat×List ItemV×Nat)=>[kP.sl (.slice x.1 x.2.2.1.length x.2.1) x.2.2.1,lX x.2.2.1,Fact.pure (x.2.2.1.map ItemV.it=(yX toks e k0).1)]):=by
  have hT:=fG;have he0:=e_start (e:=e) hk;generalize yX toks e k0=r at he0⊢;refine cQ Tryz.func65 rfl Tryz.ntmps65 rfl ?_;intro β hM;refine sr<|fH rfl rfl rfl rfl rfl rfl fun b1=>?_;refine sp hT ?_;refine cF rfl rfl rfl rfl xF rfl fun b2=>?_;refine nn<|sr<|cF rfl rfl rfl rfl itemZ rfl fun b4=>?_;refine nn<|sr<|cF rfl rfl rfl rfl funcZ rfl fun b5=>?_;refine nn<|sr<|sp hT ?_;refine nn<|sr<|sp2 hT ?_;refine nn<|sr<|sp2 hT ?_;refine nn<|bR<|dM (t:=49) kP ?_;refine dM (t:=1) (fnE b4) ?_;refine bV (lX []) (Has.each_nil) ?_;refine bV (tnF []) (Has.each_nil) ?_;refine bV (lG []) (todo_nil) ?_;refine dC (ι:=Nat×Nat×List ItemV×List kL×Option Addr×Nat×Option Addr×Nat) [(1,_),(3,_),(4,_),(5,_),(7,_),(8,_)] ⟨rfl,rfl,rfl,rfl,rfl,rfl,trivial⟩ (fun⟨k,o,out,st,C,e1,D,f⟩=>[(6,.int .i64 (o:Nat))]) (fun⟨k,o,out,st,C,e1,D,f⟩=>[.obj bl (.cells [.slice A toks.length c,.int .i64 (k:Nat),.int .i64 e].toArray 93),.obj b4 (.cells [.slice C out.length e1].toArray 44),kP.row (.slice C out.length e1) 49 out,.obj b5 (.cells [.slice D st.reverse.length f].toArray 162),(fnE b4).row (.slice D st.reverse.length f) 1 st.reverse]) (fun⟨k,o,out,st,C,e1,D,f⟩=>[Fact.pure (yB toks e r k (out.map ItemV.it) (wT st) o∧opens st=o∧o≤32∧out.length+st.length≤k∧k≤toks.length),lG st,tnF st,lX out]) (fun⟨k,o,out,st,C,e1,D,f⟩=>toks.length-k) (k0,0,[],[],none,0,none,0) ⟨rfl,trivial⟩ (.cons kT6 (.cons kT3 (.cons kT1 (.cons kT1 (.cons .head .nil))))) ⟨Has.pure (⟨he0,rfl,by omega,by simp,hk⟩),Has.of mT0,Has.of mT1,Has.of mT2,trivial⟩ ?_;rintro⟨k,o,out,st,C,e1,D,f⟩;dsimp only;refine cE (Has.of mT0) fun hinv6=>?_;refine bR<|sr<|ss (ldO hT (bM kT6)) ?_;refine bO Tryz.func61 (gY bl A c toks (k) e) rfl rfl (.cons .head .nil) ⟨Has.of mT7,trivial⟩ fun _=>?_;refine cF rfl rfl rfl rfl vO rfl fun b3=>?_;refine sto hT .head ?_;refine nn<|bA<|bR<|sr<|sp hT ?_;refine ss (ldO hT (bM .head)) ?_;refine sp2 hT ?_;refine cH (fun hg23=>?_) (fun hg23=>?_)
  · have hg23:=bne_iff_ne.1 hg23;refine sp hT ?_;refine ss (ldO hT (bM .head)) ?_;refine sp3 hT ?_;refine cH (fun hg28=>?_) (fun hg28=>?_)
    · have hg28:=bne_iff_ne.1 hg28;refine sp hT ?_;refine ss (ldO hT (dZ .head)) ?_;refine bO Tryz.func96 (nK _) rfl rfl .nil trivial fun _=>?_;refine sp2 hT ?_;refine nn<|bH rfl (fun hc19=>?_) (fun hc19=>?_)
      · refine bA<|sr<|sp hT ?_;refine gQ (cS Tryz.func98 rfl rfl) (laterF_spec bl A c toks (k) e b1 b5 b4 _ _ st (by omega) (by omega)) rfl rfl rfl rfl rfl rfl rfl (.cons kT1 (.cons kT6 (.cons kT3 (.cons kT3 .nil)))) ⟨(Has.of mT7),(Has.of mT1),trivial⟩ fun⟨⟨A4,c5⟩,b6⟩=>?_;refine bV (tnF (some (b6,(qB (bX toks (k) e false)))::st)) (sZ (Has.of mT3) dN) ?_;refine cF rfl rfl rfl rfl xF rfl fun b7=>?_;refine sto hT .head ?_;refine nn<|sr<|ss (ldN hT (bM .head)) ?_;refine ss (bZ rfl rfl (uT)) ?_;refine ss (fJ ⟨(bX toks (k) e false).flt.1,(bX toks (k) e false).flt.2⟩ ⟨0,0⟩ rfl rfl rfl) ?_;refine nn<|bH rfl (fun hc37=>?_) (fun hc37=>?_)
        · have hc37:=fW hc37;refine bA<|cU _ _ [(true,0),(true,1),(false,2)] cY (by decide+kernel) (.cons .head (.cons .head (.cons .head (.cons .head (.cons .head (.cons .head (.cons .head (.cons .head .nil)))))))) bE.self ?_;refine stM rfl (ldN hT (bM .head)) ?_;refine puM hT ?_;refine cC (o:=_) rfl ?_;refine sto hT kT8 ?_;refine cB (.cons kT1 (.cons kT1 (.cons kT1 (.cons kT1 (.cons kT1 (.cons kT1 (.cons kT1 (.cons kT1 .nil)))))))) (bE.drop 0) ?_;refine cM<|bB<|bG<|bC<|bI<|bC<|bI<|bC<|bI ?_;have hr:=(e_verb hinv6.1 (by assumption) (by assumption) (by assumption)).2 hc37;subst hr;exact bL (none,0,[],_) rfl (bD rfl) (bN hT (bM .head) rfl rfl rfl rfl) (.cons kT2 .nil) ⟨dN,Has.each_nil,Has.pure rfl,trivial⟩ rfl
        have hc37:=fL hc37;have he:=(e_verb hinv6.1 (by assumption) (by assumption) (by assumption)).1 hc37;refine bK<|bB<|cW<|bFj rfl ?_;refine cJ<|cX<|bB ?_;exact cP ((bX toks (k) e false).next,o,out,(some (b6,(qB (bX toks (k) e false)))::st),_,_,_,_) (by have:=he.1;first | (have:=dU toks k e false;dsimp only;omega) | (have:=dU toks k e true;dsimp only;omega)) ⟨rfl,trivial⟩ ⟨rfl,rfl,rfl,rfl,rfl,rfl,trivial⟩ (.cons kT1 (.cons kT5 (.cons kT5 (.cons kT2 (.cons kT2 (.cons kT3 (.cons kT1 .nil))))))) ⟨Has.pure (⟨he,hinv6.2.1,hinv6.2.2.1,by have:=dU toks k e false;first | omega | (simp;omega),he.1⟩),Has.of mT1,Has.of mT0,Has.of mT5,trivial⟩ (bE.drop 6)
      refine sr<|sp hT ?_;refine ss (ldO hT (bM .head)) ?_;refine sp2 hT ?_;refine cH (fun hg43=>?_) (fun hg43=>?_)
      · have hg43:=eq_of_beq hg43;refine sp hT ?_;refine ss (ldO hT (dZ .head)) ?_;refine sp3 hT ?_;refine nn<|bH rfl (fun hc39=>?_) (fun hc39=>?_)
        · have hc39:(bT toks (k)).word=([40]:Bs):=eq_of_beq hc39;refine bA<|sr<|sp2 hT ?_;refine nn<|bH rfl (fun hc49=>?_) (fun hc49=>?_)
          · have hc49:=eq_of_beq hc49;refine sr<|ss (ldO hT (bM kT7)) ?_;refine bO Tryz.func62 (cV bl A c toks (k) e _) rfl rfl (.cons kT1 .nil) ⟨Has.of mT7,trivial⟩ fun _=>?_;refine sp hT ?_;refine sto hT kT6 ?_;refine nn<|bG<|bC<|bI<|bC<|bI<|bC<|bI ?_;have hr:=(e_open hinv6.1 (by assumption) (by assumption)).2 (by omega);subst hr;exact bL (none,0,[],_) rfl (bD rfl) (bN hT (bM .head) rfl rfl rfl rfl) (.cons kT1 .nil) ⟨dN,Has.each_nil,Has.pure rfl,trivial⟩ rfl
          have hc49:=beq_eq_false_iff_ne.1 hc49;have he:=(e_open hinv6.1 (by assumption) (by assumption)).1 (by omega);refine bK<|bB<|sr<|sp2 hT ?_;refine bP (z':=(((o+1):Nat):Int)) (cK (by omega) (by omega)) ?_;refine sp hT ?_;refine nn<|sr<|ss (ldO hT (bM kT7)) ?_;refine sp2 hT ?_;refine ss (ldO hT (dE kT1)) ?_;refine sp hT ?_;refine bP (z':=(((k+1):Nat):Int)) (cK (by omega) (by omega)) ?_;refine sp2 hT ?_;refine sto hT kT1 ?_;refine nn<|sr<|ss (ldO hT (bM kT4)) ?_;refine bAn (b4:=b4) (m:=(none:kL)) rfl rfl rfl rfl rfl fun b8=>?_;refine zX kT6 (dF .head rfl) rfl rfl rfl rfl rfl rfl rfl (by simp only [List.length_singleton,List.length_reverse];omega) fun A9 c10=>?_;rw [←List.reverse_cons];refine bV (lG (none::st)) (todo_none (Has.of mT1)) ?_;refine bV (tnF (none::st)) (tn_none (Has.of mT3)) ?_;refine sto hT kT6 ?_;refine nn<|cW<|bFj rfl ?_;refine cJ<|cX<|bB ?_;exact cP ((k+1),(o+1),out,(none::st),_,_,_,_) (by have:=he.1;first | (have:=dU toks k e false;dsimp only;omega) | (have:=dU toks k e true;dsimp only;omega)) ⟨rfl,trivial⟩ ⟨rfl,rfl,rfl,rfl,rfl,rfl,trivial⟩ (.cons kT3 (.cons kT4 (.cons kT4 (.cons .head (.cons .head (.cons kT2 (.cons kT2 .nil))))))) ⟨Has.pure (⟨he,by show opens st+1=_;rw [hinv6.2.1],by dsimp only;omega,by first | omega | (simp;omega),he.1⟩),Has.of mT1,Has.of mT0,Has.of mT5,trivial⟩ (bE.drop 6)
        have hc39:(bT toks (k)).word≠([40]:Bs):=fun h=>absurd (beq_iff_eq.2 h) (by rw [show((bT toks (k)).word==([40]:Bs))=false from hc39];simp);refine sr<|sp hT ?_;refine ss (ldO hT (bM .head)) ?_;refine sp hT ?_;refine cI (t':=false) (by rw [hg43];rfl) ?_;refine sp hT ?_;refine nn<|cN rfl rfl ?_;refine sr<|sp hT ?_;refine ss (ldO hT (bM .head)) ?_;refine sp hT ?_;refine cI (t':=false) (by rw [hg43];rfl) ?_;refine sp hT ?_;refine sk3 ?_;refine sp2 hT ?_;refine nn<|cN rfl rfl ?_;refine sr<|sp hT ?_;refine ss (ldO hT (bM .head)) ?_;refine sp hT ?_;refine cI (t':=false) (by rw [hg43];rfl) ?_;refine sp hT ?_;refine nn<|cN rfl rfl ?_;refine sr<|ss (ldO hT (bM kT7)) ?_;refine bO Tryz.func62 (cV bl A c toks (k) e _) rfl rfl (.cons kT1 .nil) ⟨Has.of mT7,trivial⟩ fun _=>?_;refine sp hT ?_;refine sto hT kT6 ?_;refine nn<|bG<|bI<|bC<|bI<|bC<|bI ?_;have hr:=e_want hinv6.1 (by omega) (by omega) (by first | exact .inl (by assumption) | exact .inr (by assumption)) (by first | exact .inr (by assumption) | exact .inl (by omega));subst hr;exact bL (none,0,[],_) rfl (bD rfl) (bN hT (bM .head) rfl rfl rfl rfl) (.cons kT1 .nil) ⟨dN,Has.each_nil,Has.pure rfl,trivial⟩ rfl
      have hg43:=beq_eq_false_iff_ne.1 hg43;refine sk3 ?_;refine sp2 hT ?_;refine nn<|cN rfl rfl ?_;refine sr<|sp hT ?_;refine ss (ldO hT (bM .head)) ?_;refine sp hT ?_;refine cI (t':=false) (beq_eq_false_iff_ne.2 hg23) ?_;refine sp hT ?_;refine nn<|cN rfl rfl ?_;refine sr<|sp hT ?_;refine ss (ldO hT (bM .head)) ?_;refine sp2 hT ?_;refine cH (fun hg98=>?_) (fun hg98=>?_)
      · have hg98:=eq_of_beq hg98;refine sp hT ?_;refine ss (ldO hT (dZ .head)) ?_;refine bO Tryz.func64 (lU _ (by have:=hw k;omega)) rfl rfl .nil ⟨Has.of mT8,trivial⟩ fun _=>?_;refine sp2 hT ?_;refine nn<|bH rfl (fun hc94=>?_) (fun hc94=>?_)
        · refine bA ?_;have hbi:=b_name hinv6.1 (by assumption) (by assumption);refine bF<|ss (ldO hT (bM kT2)) ?_;refine sp hT ?_;refine ss (ldO hT (dE .head)) ?_;refine sp hT ?_;refine ss (ldO hT (dZ .head)) ?_;refine ss (bZ rfl rfl (sC _ _ _)) ?_;refine vN (m:=(⟨2,(bT toks k).at_,0,(bT toks k).word,⟨none,0,[]⟩⟩:ItemV)) rfl rfl rfl rfl rfl fun b11=>?_;refine uQ kT4 (dF .head rfl) rfl rfl rfl rfl rfl rfl rfl (by simp only [List.length_singleton];omega) fun A12 c13=>?_;refine bV (lX (out++[(⟨2,(bT toks k).at_,0,(bT toks k).word,⟨none,0,[]⟩⟩:ItemV)])) (bHl (Has.of mT3) dN) ?_;refine sto hT kT4 ?_;refine nn<|bF<|ss (ldO hT (bM kT8)) ?_;refine sp2 hT ?_;refine ss (ldO hT (dE kT4)) ?_;refine sp hT ?_;refine bP (z':=(((k+1):Nat):Int)) (cK (by omega) (by omega)) ?_;refine sp2 hT ?_;refine sto hT kT4 ?_;refine dT<|bY<|bB<|bA<|sr<|ss (ldO hT (bM kT8)) ?_;refine bO Tryz.func61 (gY bl A c toks ((k+1)) e) rfl rfl (.cons .head .nil) ⟨Has.of mT8,trivial⟩ fun _=>?_;refine sto hT kT4 ?_;refine nn<|bR ?_
          obtain⟨kk,hkk⟩: ∃kk,kk=k:=⟨_,rfl⟩
          refine dC (ι:=Nat×Nat×List ItemV×List kL×Option Addr×Nat×Option Addr×Nat) [(1,_),(3,_),(4,_),(5,_),(7,_),(8,_),(9,_),(24,_),(25,_),(26,_),(29,_),(30,_),(31,_),(44,_),(45,_),(46,_),(99,_),(100,_),(101,_)] ⟨rfl,rfl,rfl,rfl,rfl,rfl,rfl,rfl,rfl,rfl,rfl,rfl,rfl,rfl,rfl,rfl,rfl,rfl,rfl,trivial⟩ (fun⟨k,o,out,st,C,e1,D,f⟩=>[(6,.int .i64 (o:Nat))]) (fun⟨k,o,out,st,C,e1,D,f⟩=>[.obj bl (.cells [.slice A toks.length c,.int .i64 (k:Nat),.int .i64 e].toArray 93),.obj b4 (.cells [.slice C out.length e1].toArray 44),kP.row (.slice C out.length e1) 49 out,.obj b5 (.cells [.slice D st.reverse.length f].toArray 162),(fnE b4).row (.slice D st.reverse.length f) 1 st.reverse,.obj b3 (.cells [.int .i64 (bT toks k).kind,.int .i64 (bT toks k).at_,.string (bs (bT toks k).word),.int .i64 (bT toks k).n].toArray 95)]) (fun⟨k,o,out,st,C,e1,D,f⟩=>[Fact.pure (vG toks e r k (out.map ItemV.it) (wT st) o∧opens st=o∧o≤32∧out.length+st.length≤k∧k≤toks.length∧kk<k),lG st,tnF st,lX out]) (fun⟨k,o,out,st,C,e1,D,f⟩=>toks.length-k) ((k+1),o,(out++[(⟨2,(bT toks k).at_,0,(bT toks k).word,⟨none,0,[]⟩⟩:ItemV)]),st,_,_,_,_) ⟨rfl,trivial⟩ (.cons kT1 (.cons kT1 (.cons kT1 (.cons kT2 (.cons kT2 (.cons .head .nil)))))) ⟨Has.pure (⟨hbi,hinv6.2.1,hinv6.2.2.1,by first | omega | (simp;omega),hbi.1,by omega⟩),Has.of mT2,Has.of mT3,Has.of mT0,trivial⟩ ?_;rintro⟨k,o,out,st,C,e1,D,f⟩;dsimp only;refine cE (Has.of mT0) fun hinv30=>?_;refine bA<|sr<|sp3 hT ?_;refine cH (fun hg128=>?_) (fun hg128=>?_)
          · have hg128:=of_decide_eq_true hg128;refine sp hT ?_;refine ss (ldO hT (bM kT5)) ?_;refine sp3 hT ?_;refine cH (fun hg133=>?_) (fun hg133=>?_)
            · have hg133:=eq_of_beq hg133;refine sp hT ?_;refine ss (ldO hT (dZ kT5)) ?_;refine sp2 hT ?_;refine nn<|bH rfl (fun hc137=>?_) (fun hc137=>?_)
              · have hc137:(bT toks k).word=([41]:Bs):=eq_of_beq hc137;refine bK<|bB<|bA<|bR<|sr<|sp hT ?_;refine gQ (cS Tryz.func97 rfl rfl) (nN b5 b4 _ _ st _ _ out (by omega)) rfl rfl rfl rfl rfl rfl rfl (.cons kT3 (.cons kT3 (.cons kT1 (.cons kT1 .nil)))) ⟨(Has.of mT1),trivial⟩ fun⟨⟨D14,f15⟩,⟨C16,e17⟩⟩=>?_;refine bV (lX (out++(finP st).1)) (sE (Has.of mT4) (Has.of mT3)) ?_;refine bV (tnF (finP st).2) (bAt (Has.of mT4)) ?_;have hfl:=tC st;obtain⟨s2,hs2,ho2⟩:=fin_open (st:=st) (by omega);have hb2:=b_closed hinv30.1 (by omega) (by assumption) (by assumption) hs2;rw [hs2] at hfl⊢;simp only [List.length_cons] at hfl;refine bV (lG s2) (bBg (Has.of mT2)) ?_;refine bV (tnF s2) (bEb (Has.of mT1)) ?_;refine nn<|sr<|ss (ldO hT (bM .head)) ?_;refine ss (ldO hT (bM .head)) ?_;refine sp hT ?_;refine bP (z':=(((s2.length+1):Nat):Int)) (congrArg Nat.cast (jB _ s2)) ?_;refine sp hT ?_;refine bP (z':=((((s2.length+1)-1):Nat):Int)) (cK (by omega) (by omega)) ?_;refine jC hT (k:=((s2.length+1)-1)) kT1 rfl rfl rfl rfl rfl rfl rfl rfl rfl (by rw [jB];omega) ?_;rw [bAb];refine sto hT kT1 ?_;refine nn<|sr<|sp2 hT ?_;refine bP (z':=(((o-1):Nat):Int)) (cK (by omega) (by omega)) ?_;refine sp hT ?_;refine nn<|bF<|ss (ldO hT (bM kT8)) ?_;refine sp2 hT ?_;refine ss (ldO hT (dE kT4)) ?_;refine sp hT ?_;refine bP (z':=(((k+1):Nat):Int)) (cK (by omega) (by omega)) ?_;refine sp2 hT ?_;refine sto hT kT4 ?_;refine dT<|bY<|bB<|bF<|ss (ldO hT (bM kT8)) ?_;refine bO Tryz.func61 (gY bl A c toks ((k+1)) e) rfl rfl (.cons .head .nil) ⟨Has.of (.tail _ (.tail _ (.tail _ (.tail _ (.tail _ (.tail _ (.tail _ (.tail _ (.tail _ (.tail _ (.tail _ (.tail _ (.tail _ (.tail _ (.tail _ (.tail _ (.tail _ mT0))))))))))))))))),trivial⟩ fun _=>?_;refine sto hT kT5 ?_;refine nn ?_;exact cP ((k+1),(o-1),(out++(finP st).1),s2,_,_,_,_) (by have:=hb2.1;dsimp only;omega) ⟨rfl,trivial⟩ ⟨rfl,rfl,rfl,rfl,rfl,rfl,rfl,rfl,rfl,rfl,rfl,rfl,rfl,rfl,rfl,rfl,rfl,rfl,rfl,trivial⟩ (.cons kT1 (.cons kT3 (.cons kT3 (.cons kT1 (.cons kT1 (.cons .head (.cons .head (.cons .head (.cons .head .nil))))))))) ⟨Has.pure (⟨hb2,by dsimp only;omega,by dsimp only;omega,by first | omega | (simp;omega),hb2.1,by dsimp only;omega⟩),Has.of mT1,Has.of mT0,Has.of mT3,trivial⟩ (bE.drop 9)
              have hc137:(bT toks k).word≠([41]:Bs):=fun h=>absurd (beq_iff_eq.2 h) (by rw [show((bT toks k).word==([41]:Bs))=false from hc137];simp);refine cW<|cJ<|cJ<|cX<|bB<|bA<|bR<|sr<|sp hT ?_;refine ss (ldO hT (bM kT5)) ?_;refine sp hT ?_;refine cI (t':=false) (by rw [hg133];rfl) ?_;refine sp hT ?_;refine sk2 ?_;refine sp2 hT ?_;refine nn<|cN rfl rfl ?_;refine sr<|sp hT ?_;refine ss (ldO hT (bM kT5)) ?_;refine sp hT ?_;refine cI (t':=false) (by rw [hg133];rfl) ?_;refine sp hT ?_;refine nn<|cN rfl rfl ?_;refine sr<|sp hT ?_;refine ss (ldO hT (bM kT5)) ?_;refine sp hT ?_;refine cI (t':=false) (by rw [hg133];rfl) ?_;refine sp2 hT ?_;refine ss (ldO hT (dZ kT5)) ?_;refine bO Tryz.func96 (nK _) rfl rfl .nil trivial fun _=>?_;refine sp3 hT ?_;refine nn<|bH rfl (fun hc174=>?_) (fun hc174=>?_)
              · have hc174:=fW hc174;refine sr<|ss (ldO hT (bM kT8)) ?_;refine bO Tryz.func62 (cV bl A c toks (k) e _) rfl rfl (.cons .head .nil) ⟨Has.of uE,trivial⟩ fun _=>?_;refine sp hT ?_;refine sto hT kT7 ?_;refine nn<|bG<|bI<|bC<|bI<|bC<|bI ?_;have hr:=rV hinv30.1 (by first | exact .inl (by omega) | exact .inr (.inl (by assumption)) | exact .inr (.inr (by assumption))) (by omega) (by first | exact .inr (by assumption) | exact .inl (by omega));subst hr;exact bL (none,0,[],_) rfl (bD rfl) (bN hT (bM .head) rfl rfl rfl rfl) (.cons kT1 .nil) ⟨dN,Has.each_nil,Has.pure rfl,trivial⟩ rfl
              have hc174:=fL hc174;refine bK<|bY<|bB<|sr<|sp hT ?_;refine gQ (cS Tryz.func98 rfl rfl) (nL bl A c toks (k) e b1 b5 b4 _ _ st (by omega) (by omega)) rfl rfl rfl rfl rfl rfl rfl (.cons .head (.cons kT7 (.cons kT2 (.cons kT2 .nil)))) ⟨(Has.of uE),(Has.of mT1),trivial⟩ fun⟨⟨A18,c19⟩,b20⟩=>?_;refine bV (tnF (some (b20,(qB (bX toks (k) e true)))::st)) (sZ (Has.of mT3) dN) ?_;refine cF rfl rfl rfl rfl xF rfl fun b21=>?_;refine sto hT .head ?_;refine nn<|sr<|ss (ldN hT (bM .head)) ?_;refine ss (bZ rfl rfl (uT)) ?_;refine ss (fJ ⟨(bX toks (k) e true).flt.1,(bX toks (k) e true).flt.2⟩ ⟨0,0⟩ rfl rfl rfl) ?_;refine nn<|bH rfl (fun hc190=>?_) (fun hc190=>?_)
              · have hc190:=fW hc190;refine bA<|cU _ _ [(true,0),(true,1),(false,2)] cY (by decide+kernel) (.cons .head (.cons .head (.cons .head (.cons .head (.cons .head (.cons .head (.cons .head (.cons .head (.cons .head .nil))))))))) bE.self ?_;refine stM rfl (ldN hT (bM .head)) ?_;refine puM hT ?_;refine cC (o:=_) rfl ?_;refine sto hT kT9 ?_;refine cB (.cons kT1 (.cons kT1 (.cons kT1 (.cons kT1 (.cons kT1 (.cons kT1 (.cons kT1 (.cons kT1 (.cons kT1 .nil))))))))) (bE.drop 0) ?_;refine cM<|bB<|bG<|bI<|bC<|bI ?_;have hr:=(pQ hinv30.1 (by first | exact .inl (by omega) | exact .inr (.inl (by assumption)) | exact .inr (.inr (by assumption))) (by omega) (by omega) (by assumption)).2 hc190;subst hr;exact bL (none,0,[],_) rfl (bD rfl) (bN hT (bM .head) rfl rfl rfl rfl) (.cons kT2 .nil) ⟨dN,Has.each_nil,Has.pure rfl,trivial⟩ rfl
              have hc190:=fL hc190;have he:=(pQ hinv30.1 (by first | exact .inl (by omega) | exact .inr (.inl (by assumption)) | exact .inr (.inr (by assumption))) (by omega) (by omega) (by assumption)).1 hc190;refine bK<|bY<|bB ?_;exact cP ((bX toks (k) e true).next,o,out,(some (b20,(qB (bX toks (k) e true)))::st),_,_,_,_) (by have:=he.1;first | (have:=dU toks k e false;dsimp only;omega) | (have:=dU toks k e true;dsimp only;omega)) ⟨rfl,trivial⟩ ⟨rfl,rfl,rfl,rfl,rfl,rfl,trivial⟩ (.cons kT1 (.cons kT4 (.cons kT4 (.cons kT2 (.cons kT2 (.cons kT4 (.cons kT1 .nil))))))) ⟨Has.pure (⟨he,hinv30.2.1,hinv30.2.2.1,by have:=dU toks k e true;first | omega | (simp;omega),he.1⟩),Has.of mT1,Has.of mT0,Has.of mT5,trivial⟩ (bE.drop 11)
            have hg133:=beq_eq_false_iff_ne.1 hg133;refine sk3 ?_;refine sp hT ?_;refine nn<|cN rfl rfl ?_;refine cW<|cJ<|cJ<|cX<|bB<|bA<|bR<|sr<|sp hT ?_;refine ss (ldO hT (bM kT5)) ?_;refine sp2 hT ?_;refine cH (fun hg160=>?_) (fun hg160=>?_)
            · have hg160:=eq_of_beq hg160;refine sp4 hT ?_;refine nn<|bH rfl (fun hc156=>?_) (fun hc156=>?_)
              · have hc156:=of_decide_eq_true hc156;refine sr<|ss (ldO hT (bM kT8)) ?_;refine bO Tryz.func62 (cV bl A c toks (k) e _) rfl rfl (.cons .head .nil) ⟨Has.of uE,trivial⟩ fun _=>?_;refine sp hT ?_;refine sto hT kT7 ?_;refine nn<|bG<|bI<|bC<|bI<|bC<|bI ?_;have hr:=r_open hinv30.1 (by assumption) (by omega);subst hr;exact bL (none,0,[],_) rfl (bD rfl) (bN hT (bM .head) rfl rfl rfl rfl) (.cons kT1 .nil) ⟨dN,Has.each_nil,Has.pure rfl,trivial⟩ rfl
              have hc156:=Int.not_lt.1 (of_decide_eq_false hc156);refine sr<|sp hT ?_;refine ss (ldO hT (bM kT5)) ?_;refine sp hT ?_;refine cI (t':=true) (by rw [hg160];rfl) ?_;refine sp hT ?_;refine nn<|cL rfl rfl ?_;refine sr<|sp hT ?_;refine gQ (cS Tryz.func97 rfl rfl) (nN b5 b4 _ _ st _ _ out (by omega)) rfl rfl rfl rfl rfl rfl rfl (.cons kT3 (.cons kT3 (.cons kT1 (.cons kT1 .nil)))) ⟨(Has.of mT1),trivial⟩ fun⟨⟨D22,f23⟩,⟨C24,e25⟩⟩=>?_;refine bV (lX (out++(finP st).1)) (sE (Has.of mT4) (Has.of mT3)) ?_;refine bV (tnF (finP st).2) (bAt (Has.of mT4)) ?_;have hfl:=tC st;refine nn<|sr<|ss (ldO hT (bM kT2)) ?_;refine ss (bZ rfl rfl (uT)) ?_;refine sp hT ?_;refine sto hT kT7 ?_;refine nn<|bG<|bI<|bC<|bI<|bC<|bI ?_;have hr:=bEf hinv30.1 (by assumption) (by omega);subst hr;refine bW kT4 ?_;exact bL (_,_,(out++(finP st).1),_) rfl (bD rfl) (bN hT (bM .head) rfl rfl rfl rfl) (.cons kT4 .nil) ⟨Has.of mT0,(Has.of mT2),Has.pure rfl,trivial⟩ rfl
            have hg160:=beq_eq_false_iff_ne.1 hg160;refine sk2 ?_;refine sp2 hT ?_;refine nn<|cN rfl rfl ?_;refine sr<|sp hT ?_;refine ss (ldO hT (bM kT5)) ?_;refine sp hT ?_;refine cI (t':=false) (beq_eq_false_iff_ne.2 hg160) ?_;refine sp hT ?_;refine nn<|cN rfl rfl ?_;refine sr<|sp hT ?_;refine ss (ldO hT (bM kT5)) ?_;refine sp2 hT ?_;refine cH (fun hg178=>?_) (fun hg178=>?_)
            · have hg178:=eq_of_beq hg178;refine sk4 ?_;refine sp2 hT ?_;refine nn<|cL rfl rfl ?_;refine sr<|ss (ldO hT (bM kT8)) ?_;refine bO Tryz.func62 (cV bl A c toks (k) e _) rfl rfl (.cons .head .nil) ⟨Has.of uE,trivial⟩ fun _=>?_;refine sp hT ?_;refine sto hT kT7 ?_;refine nn<|bG<|bI<|bC<|bI<|bC<|bI ?_;have hr:=rV hinv30.1 (by first | exact .inl (by omega) | exact .inr (.inl (by assumption)) | exact .inr (.inr (by assumption))) (by omega) (by first | exact .inr (by assumption) | exact .inl (by omega));subst hr;exact bL (none,0,[],_) rfl (bD rfl) (bN hT (bM .head) rfl rfl rfl rfl) (.cons kT1 .nil) ⟨dN,Has.each_nil,Has.pure rfl,trivial⟩ rfl
            have hg178:=beq_eq_false_iff_ne.1 hg178;refine sp hT ?_;refine ss (ldO hT (dZ kT5)) ?_;refine bO Tryz.func96 (nK _) rfl rfl .nil trivial fun _=>?_;refine sp3 hT ?_;refine nn<|bH rfl (fun hc174=>?_) (fun hc174=>?_)
            · have hc174:=fW hc174;refine sr<|ss (ldO hT (bM kT8)) ?_;refine bO Tryz.func62 (cV bl A c toks (k) e _) rfl rfl (.cons .head .nil) ⟨Has.of uE,trivial⟩ fun _=>?_;refine sp hT ?_;refine sto hT kT7 ?_;refine nn<|bG<|bI<|bC<|bI<|bC<|bI ?_;have hr:=rV hinv30.1 (by first | exact .inl (by omega) | exact .inr (.inl (by assumption)) | exact .inr (.inr (by assumption))) (by omega) (by first | exact .inr (by assumption) | exact .inl (by omega));subst hr;exact bL (none,0,[],_) rfl (bD rfl) (bN hT (bM .head) rfl rfl rfl rfl) (.cons kT1 .nil) ⟨dN,Has.each_nil,Has.pure rfl,trivial⟩ rfl
            have hc174:=fL hc174;refine bK<|bY<|bB<|sr<|sp hT ?_;refine gQ (cS Tryz.func98 rfl rfl) (nL bl A c toks (k) e b1 b5 b4 _ _ st (by omega) (by omega)) rfl rfl rfl rfl rfl rfl rfl (.cons .head (.cons kT7 (.cons kT2 (.cons kT2 .nil)))) ⟨(Has.of uE),(Has.of mT1),trivial⟩ fun⟨⟨A26,c27⟩,b28⟩=>?_;refine bV (tnF (some (b28,(qB (bX toks (k) e true)))::st)) (sZ (Has.of mT3) dN) ?_;refine cF rfl rfl rfl rfl xF rfl fun b29=>?_;refine sto hT .head ?_;refine nn<|sr<|ss (ldN hT (bM .head)) ?_;refine ss (bZ rfl rfl (uT)) ?_;refine ss (fJ ⟨(bX toks (k) e true).flt.1,(bX toks (k) e true).flt.2⟩ ⟨0,0⟩ rfl rfl rfl) ?_;refine nn<|bH rfl (fun hc190=>?_) (fun hc190=>?_)
            · have hc190:=fW hc190;refine bA<|cU _ _ [(true,0),(true,1),(false,2)] cY (by decide+kernel) (.cons .head (.cons .head (.cons .head (.cons .head (.cons .head (.cons .head (.cons .head (.cons .head (.cons .head .nil))))))))) bE.self ?_;refine stM rfl (ldN hT (bM .head)) ?_;refine puM hT ?_;refine cC (o:=_) rfl ?_;refine sto hT kT9 ?_;refine cB (.cons kT1 (.cons kT1 (.cons kT1 (.cons kT1 (.cons kT1 (.cons kT1 (.cons kT1 (.cons kT1 (.cons kT1 .nil))))))))) (bE.drop 0) ?_;refine cM<|bB<|bG<|bI<|bC<|bI ?_;have hr:=(pQ hinv30.1 (by first | exact .inl (by omega) | exact .inr (.inl (by assumption)) | exact .inr (.inr (by assumption))) (by omega) (by omega) (by assumption)).2 hc190;subst hr;exact bL (none,0,[],_) rfl (bD rfl) (bN hT (bM .head) rfl rfl rfl rfl) (.cons kT2 .nil) ⟨dN,Has.each_nil,Has.pure rfl,trivial⟩ rfl
            have hc190:=fL hc190;have he:=(pQ hinv30.1 (by first | exact .inl (by omega) | exact .inr (.inl (by assumption)) | exact .inr (.inr (by assumption))) (by omega) (by omega) (by assumption)).1 hc190;refine bK<|bY<|bB ?_;exact cP ((bX toks (k) e true).next,o,out,(some (b28,(qB (bX toks (k) e true)))::st),_,_,_,_) (by have:=he.1;first | (have:=dU toks k e false;dsimp only;omega) | (have:=dU toks k e true;dsimp only;omega)) ⟨rfl,trivial⟩ ⟨rfl,rfl,rfl,rfl,rfl,rfl,trivial⟩ (.cons kT1 (.cons kT4 (.cons kT4 (.cons kT2 (.cons kT2 (.cons kT4 (.cons kT1 .nil))))))) ⟨Has.pure (⟨he,hinv30.2.1,hinv30.2.2.1,by have:=dU toks k e true;first | omega | (simp;omega),he.1⟩),Has.of mT1,Has.of mT0,Has.of mT5,trivial⟩ (bE.drop 11)
          have hg128:=Int.not_lt.1 (of_decide_eq_false hg128);refine sk3 ?_;refine sp2 hT ?_;refine sk3 ?_;refine sp hT ?_;refine nn<|cN rfl rfl ?_;refine cW<|cJ<|cJ<|cX<|bB<|bA<|bR<|sr<|sp hT ?_;refine ss (ldO hT (bM kT5)) ?_;refine sp2 hT ?_;refine cH (fun hg160=>?_) (fun hg160=>?_)
          · have hg160:=eq_of_beq hg160;refine sp4 hT ?_;refine nn<|bH rfl (fun hc156=>?_) (fun hc156=>?_)
            · have hc156:=of_decide_eq_true hc156;refine sr<|ss (ldO hT (bM kT8)) ?_;refine bO Tryz.func62 (cV bl A c toks (k) e _) rfl rfl (.cons .head .nil) ⟨Has.of uE,trivial⟩ fun _=>?_;refine sp hT ?_;refine sto hT kT7 ?_;refine nn<|bG<|bI<|bC<|bI<|bC<|bI ?_;have hr:=r_open hinv30.1 (by assumption) (by omega);subst hr;exact bL (none,0,[],_) rfl (bD rfl) (bN hT (bM .head) rfl rfl rfl rfl) (.cons kT1 .nil) ⟨dN,Has.each_nil,Has.pure rfl,trivial⟩ rfl
            have hc156:=Int.not_lt.1 (of_decide_eq_false hc156);refine sr<|sp hT ?_;refine ss (ldO hT (bM kT5)) ?_;refine sp hT ?_;refine cI (t':=true) (by rw [hg160];rfl) ?_;refine sp hT ?_;refine nn<|cL rfl rfl ?_;refine sr<|sp hT ?_;refine gQ (cS Tryz.func97 rfl rfl) (nN b5 b4 _ _ st _ _ out (by omega)) rfl rfl rfl rfl rfl rfl rfl (.cons kT3 (.cons kT3 (.cons kT1 (.cons kT1 .nil)))) ⟨(Has.of mT1),trivial⟩ fun⟨⟨D30,f31⟩,⟨C32,e33⟩⟩=>?_;refine bV (lX (out++(finP st).1)) (sE (Has.of mT4) (Has.of mT3)) ?_;refine bV (tnF (finP st).2) (bAt (Has.of mT4)) ?_;have hfl:=tC st;refine nn<|sr<|ss (ldO hT (bM kT2)) ?_;refine ss (bZ rfl rfl (uT)) ?_;refine sp hT ?_;refine sto hT kT7 ?_;refine nn<|bG<|bI<|bC<|bI<|bC<|bI ?_;have hr:=bEf hinv30.1 (by assumption) (by omega);subst hr;refine bW kT4 ?_;exact bL (_,_,(out++(finP st).1),_) rfl (bD rfl) (bN hT (bM .head) rfl rfl rfl rfl) (.cons kT4 .nil) ⟨Has.of mT0,(Has.of mT2),Has.pure rfl,trivial⟩ rfl
          have hg160:=beq_eq_false_iff_ne.1 hg160;refine sk2 ?_;refine sp2 hT ?_;refine nn<|cN rfl rfl ?_;refine sr<|sp hT ?_;refine ss (ldO hT (bM kT5)) ?_;refine sp hT ?_;refine cI (t':=false) (beq_eq_false_iff_ne.2 hg160) ?_;refine sp hT ?_;refine nn<|cN rfl rfl ?_;refine sr<|sp hT ?_;refine ss (ldO hT (bM kT5)) ?_;refine sp2 hT ?_;refine cH (fun hg178=>?_) (fun hg178=>?_)
          · have hg178:=eq_of_beq hg178;refine sk4 ?_;refine sp2 hT ?_;refine nn<|cL rfl rfl ?_;refine sr<|ss (ldO hT (bM kT8)) ?_;refine bO Tryz.func62 (cV bl A c toks (k) e _) rfl rfl (.cons .head .nil) ⟨Has.of uE,trivial⟩ fun _=>?_;refine sp hT ?_;refine sto hT kT7 ?_;refine nn<|bG<|bI<|bC<|bI<|bC<|bI ?_;have hr:=rV hinv30.1 (by first | exact .inl (by omega) | exact .inr (.inl (by assumption)) | exact .inr (.inr (by assumption))) (by omega) (by first | exact .inr (by assumption) | exact .inl (by omega));subst hr;exact bL (none,0,[],_) rfl (bD rfl) (bN hT (bM .head) rfl rfl rfl rfl) (.cons kT1 .nil) ⟨dN,Has.each_nil,Has.pure rfl,trivial⟩ rfl
          have hg178:=beq_eq_false_iff_ne.1 hg178;refine sp hT ?_;refine ss (ldO hT (dZ kT5)) ?_;refine bO Tryz.func96 (nK _) rfl rfl .nil trivial fun _=>?_;refine sp3 hT ?_;refine nn<|bH rfl (fun hc174=>?_) (fun hc174=>?_)
          · have hc174:=fW hc174;refine sr<|ss (ldO hT (bM kT8)) ?_;refine bO Tryz.func62 (cV bl A c toks (k) e _) rfl rfl (.cons .head .nil) ⟨Has.of uE,trivial⟩ fun _=>?_;refine sp hT ?_;refine sto hT kT7 ?_;refine nn<|bG<|bI<|bC<|bI<|bC<|bI ?_;have hr:=rV hinv30.1 (by first | exact .inl (by omega) | exact .inr (.inl (by assumption)) | exact .inr (.inr (by assumption))) (by omega) (by first | exact .inr (by assumption) | exact .inl (by omega));subst hr;exact bL (none,0,[],_) rfl (bD rfl) (bN hT (bM .head) rfl rfl rfl rfl) (.cons kT1 .nil) ⟨dN,Has.each_nil,Has.pure rfl,trivial⟩ rfl
          have hc174:=fL hc174;refine bK<|bY<|bB<|sr<|sp hT ?_;refine gQ (cS Tryz.func98 rfl rfl) (nL bl A c toks (k) e b1 b5 b4 _ _ st (by omega) (by omega)) rfl rfl rfl rfl rfl rfl rfl (.cons .head (.cons kT7 (.cons kT2 (.cons kT2 .nil)))) ⟨(Has.of uE),(Has.of mT1),trivial⟩ fun⟨⟨A34,c35⟩,b36⟩=>?_;refine bV (tnF (some (b36,(qB (bX toks (k) e true)))::st)) (sZ (Has.of mT3) dN) ?_;refine cF rfl rfl rfl rfl xF rfl fun b37=>?_;refine sto hT .head ?_;refine nn<|sr<|ss (ldN hT (bM .head)) ?_;refine ss (bZ rfl rfl (uT)) ?_;refine ss (fJ ⟨(bX toks (k) e true).flt.1,(bX toks (k) e true).flt.2⟩ ⟨0,0⟩ rfl rfl rfl) ?_;refine nn<|bH rfl (fun hc190=>?_) (fun hc190=>?_)
          · have hc190:=fW hc190;refine bA<|cU _ _ [(true,0),(true,1),(false,2)] cY (by decide+kernel) (.cons .head (.cons .head (.cons .head (.cons .head (.cons .head (.cons .head (.cons .head (.cons .head (.cons .head .nil))))))))) bE.self ?_;refine stM rfl (ldN hT (bM .head)) ?_;refine puM hT ?_;refine cC (o:=_) rfl ?_;refine sto hT kT9 ?_;refine cB (.cons kT1 (.cons kT1 (.cons kT1 (.cons kT1 (.cons kT1 (.cons kT1 (.cons kT1 (.cons kT1 (.cons kT1 .nil))))))))) (bE.drop 0) ?_;refine cM<|bB<|bG<|bI<|bC<|bI ?_;have hr:=(pQ hinv30.1 (by first | exact .inl (by omega) | exact .inr (.inl (by assumption)) | exact .inr (.inr (by assumption))) (by omega) (by omega) (by assumption)).2 hc190;subst hr;exact bL (none,0,[],_) rfl (bD rfl) (bN hT (bM .head) rfl rfl rfl rfl) (.cons kT2 .nil) ⟨dN,Has.each_nil,Has.pure rfl,trivial⟩ rfl
          have hc190:=fL hc190;have he:=(pQ hinv30.1 (by first | exact .inl (by omega) | exact .inr (.inl (by assumption)) | exact .inr (.inr (by assumption))) (by omega) (by omega) (by assumption)).1 hc190;refine bK<|bY<|bB ?_;exact cP ((bX toks (k) e true).next,o,out,(some (b36,(qB (bX toks (k) e true)))::st),_,_,_,_) (by have:=he.1;first | (have:=dU toks k e false;dsimp only;omega) | (have:=dU toks k e true;dsimp only;omega)) ⟨rfl,trivial⟩ ⟨rfl,rfl,rfl,rfl,rfl,rfl,trivial⟩ (.cons kT1 (.cons kT4 (.cons kT4 (.cons kT2 (.cons kT2 (.cons kT4 (.cons kT1 .nil))))))) ⟨Has.pure (⟨he,hinv30.2.1,hinv30.2.2.1,by have:=dU toks k e true;first | omega | (simp;omega),he.1⟩),Has.of mT1,Has.of mT0,Has.of mT5,trivial⟩ (bE.drop 11)
        refine sr<|sp hT ?_;refine ss (ldO hT (bM .head)) ?_;refine sp hT ?_;refine cI (t':=true) (by rw [hg98];rfl) ?_;refine sp hT ?_;refine nn<|cL rfl rfl ?_;refine sr<|ss (ldO hT (bM kT7)) ?_;refine bO Tryz.func62 (cV bl A c toks (k) e _) rfl rfl (.cons kT1 .nil) ⟨Has.of mT7,trivial⟩ fun _=>?_;refine sp hT ?_;refine sto hT kT6 ?_;refine nn<|bG<|bI<|bC<|bI<|bC<|bI ?_;have hr:=e_word hinv6.1 (by assumption) (by assumption) (by assumption);subst hr;exact bL (none,0,[],_) rfl (bD rfl) (bN hT (bM .head) rfl rfl rfl rfl) (.cons kT1 .nil) ⟨dN,Has.each_nil,Has.pure rfl,trivial⟩ rfl
      have hg98:=beq_eq_false_iff_ne.1 hg98;refine sk3 ?_;refine sp2 hT ?_;refine nn<|cN rfl rfl ?_;refine sr<|sp hT ?_;refine ss (ldO hT (bM .head)) ?_;refine sp hT ?_;refine cI (t':=false) (beq_eq_false_iff_ne.2 hg98) ?_;refine sp hT ?_;refine nn<|cN rfl rfl ?_;refine sr<|ss (ldO hT (bM kT7)) ?_;refine bO Tryz.func62 (cV bl A c toks (k) e _) rfl rfl (.cons kT1 .nil) ⟨Has.of mT7,trivial⟩ fun _=>?_;refine sp hT ?_;refine sto hT kT6 ?_;refine nn<|bG<|bI<|bC<|bI<|bC<|bI ?_;have hr:=e_want hinv6.1 (by omega) (by omega) (by first | exact .inl (by assumption) | exact .inr (by assumption)) (by first | exact .inr (by assumption) | exact .inl (by omega));subst hr;exact bL (none,0,[],_) rfl (bD rfl) (bN hT (bM .head) rfl rfl rfl rfl) (.cons kT1 .nil) ⟨dN,Has.each_nil,Has.pure rfl,trivial⟩ rfl
    have hg28:=bne_eq_false_iff_eq.1 hg28;refine sk3 ?_;refine sp2 hT ?_;refine nn<|cN rfl rfl ?_;refine sr<|sp hT ?_;refine ss (ldO hT (bM .head)) ?_;refine sp hT ?_;refine cI (t':=false) (by rw [hg28];rfl) ?_;refine sp hT ?_;refine sk3 ?_;refine sp2 hT ?_;refine nn<|cN rfl rfl ?_;refine sr<|sp hT ?_;refine ss (ldO hT (bM .head)) ?_;refine sp hT ?_;refine cI (t':=false) (by rw [hg28];rfl) ?_;refine sp hT ?_;refine nn<|cN rfl rfl ?_;refine sr<|sp hT ?_;refine ss (ldO hT (bM .head)) ?_;refine sp hT ?_;refine cI (t':=false) (by rw [hg28];rfl) ?_;refine sp hT ?_;refine sk3 ?_;refine sp2 hT ?_;refine nn<|cN rfl rfl ?_;refine sr<|sp hT ?_;refine ss (ldO hT (bM .head)) ?_;refine sp hT ?_;refine cI (t':=false) (by rw [hg28];rfl) ?_;refine sp hT ?_;refine nn<|cN rfl rfl ?_;refine sr<|ss (ldO hT (bM kT7)) ?_;refine bO Tryz.func62 (cV bl A c toks (k) e _) rfl rfl (.cons kT1 .nil) ⟨Has.of mT7,trivial⟩ fun _=>?_;refine sp hT ?_;refine sto hT kT6 ?_;refine nn<|bG<|bI<|bC<|bI<|bC<|bI ?_;have hr:=e_want hinv6.1 (by omega) (by omega) (by first | exact .inl (by assumption) | exact .inr (by assumption)) (by first | exact .inr (by assumption) | exact .inl (by omega));subst hr;exact bL (none,0,[],_) rfl (bD rfl) (bN hT (bM .head) rfl rfl rfl rfl) (.cons kT1 .nil) ⟨dN,Has.each_nil,Has.pure rfl,trivial⟩ rfl
  have hg23:=bne_eq_false_iff_eq.1 hg23;refine sk3 ?_;refine sp2 hT ?_;refine sk3 ?_;refine sp2 hT ?_;refine nn<|cN rfl rfl ?_;refine sr<|sp hT ?_;refine ss (ldO hT (bM .head)) ?_;refine sp hT ?_;refine cI (t':=false) (by rw [hg23];rfl) ?_;refine sp hT ?_;refine sk3 ?_;refine sp2 hT ?_;refine nn<|cN rfl rfl ?_;refine sr<|sp hT ?_;refine ss (ldO hT (bM .head)) ?_;refine sp hT ?_;refine cI (t':=true) (by rw [hg23];rfl) ?_;refine sp hT ?_;refine nn<|cL rfl rfl ?_;refine sr<|sp hT ?_;refine ss (ldO hT (dE .head)) ?_;refine ss (bZ rfl rfl (pJ _ _)) ?_;refine cF rfl rfl rfl rfl lN rfl fun b38=>?_;refine sto hT .head ?_;refine nn<|bA<|bR<|dM (t:=2) cT ?_;refine dC (ι:=Nat×List Int×Option Addr×Nat) [(1,_),(3,_),(4,_),(5,_),(6,_),(7,_),(8,_),(9,_),(11,_),(24,_),(25,_),(26,_),(29,_),(30,_),(31,_),(44,_),(45,_),(46,_)] ⟨rfl,rfl,rfl,rfl,rfl,rfl,rfl,rfl,rfl,rfl,rfl,rfl,rfl,rfl,rfl,rfl,rfl,rfl,trivial⟩ (fun _=>[]) (fun⟨j,cur,C2,e2⟩=>[.obj bl (.cells [.slice A toks.length c,.int .i64 (j:Nat),.int .i64 e].toArray 93),.obj b38 (.cells [.int .i64 1,.int .i64 (bT toks k).at_,.int .u8 0,.string (bs []),.slice C2 cur.length e2].toArray 49),cT.row (.slice C2 cur.length e2) 2 cur]) (fun⟨j,cur,C2,e2⟩=>[Fact.pure (iG toks k=cur++iG toks j∧j=k+cur.length∧j≤toks.length)]) (fun⟨j,cur,C2,e2⟩=>toks.length-j) (k,[],none,0) trivial (.cons kT3 (.cons kT1 (.cons .head .nil))) ⟨Has.pure (⟨rfl,rfl,hinv6.2.2.2.2⟩),trivial⟩ ?_;rintro⟨j,cur,C2,e2⟩;dsimp only;refine cE (Has.of mT0) fun hinv20=>?_;refine bA<|sr<|ss (ldO hT (bM kT9)) ?_;refine bO Tryz.func61 (gY bl A c toks (j) e) rfl rfl (.cons .head .nil) ⟨Has.of mT8,trivial⟩ fun _=>?_;refine sp2 hT ?_;refine nn<|bH rfl (fun hc74=>?_) (fun hc74=>?_)
  · have hc74:=eq_of_beq hc74;refine bK<|bB<|bA<|bR<|pZ 8 _ _ [(true,0),(true,1),(true,2),(false,3),(true,4),(false,5),(false,6),(true,7)] cY (by decide+kernel) (.cons .head (.cons .head (.cons kT1 (.cons kT1 (.cons kT1 (.cons kT1 (.cons kT1 (.cons kT1 (.cons kT1 .nil))))))))) bE.self ?_;refine puL hT ?_;refine stL rfl (ldO hT (bIj kT1)) ?_;refine stL rfl (ldO hT (bM kT8)) ?_;refine iX (o:=_) rfl ?_;refine bO Tryz.func61 (gY bl A c toks (j) e) rfl rfl (.cons .head .nil) ⟨Has.of mT8,trivial⟩ fun _=>?_;refine iY (.cons .head (.cons .head (.cons kT1 (.cons kT1 (.cons kT1 (.cons kT1 (.cons kT1 (.cons kT1 (.cons kT1 .nil))))))))) (bE.drop 0) ?_;refine puL hT ?_;refine iX (o:=_) rfl ?_;refine fQ (m:=(bT toks (j)).n) rfl rfl rfl rfl rfl fun b39=>?_;refine iY (.cons kT1 (.cons kT1 (.cons kT2 (.cons kT2 (.cons kT2 (.cons kT2 (.cons kT2 (.cons kT2 (.cons kT2 .nil))))))))) (bE.drop 0) ?_;refine iX (o:=_) rfl ?_;refine gO kT3 (dF .head rfl) rfl rfl rfl rfl rfl rfl rfl (by simp only [List.length_singleton];omega) fun A40 c41=>?_;refine iY (.cons kT2 (.cons kT2 (.cons kT2 (.cons kT2 (.cons kT2 (.cons kT2 (.cons kT2 (.cons kT2 (.cons kT2 .nil))))))))) (bE.drop 0) ?_;refine puL hT ?_;refine kM (o:=_) rfl ?_;refine sto hT kT3 ?_;refine mQ<|bY<|bB<|bF<|ss (ldO hT (bM kT10)) ?_;refine sp2 hT ?_;refine ss (ldO hT (dE kT3)) ?_;refine sp hT ?_;refine bP (z':=(((j+1):Nat):Int)) (cK (by omega) (by omega)) ?_;refine sp2 hT ?_;refine sto hT kT3 ?_;refine nn ?_;exact cP (j+1,_,_,_) (by have:=lR (toks:=toks) (k:=j) (by rw [hc74];decide);dsimp only;omega) trivial ⟨rfl,rfl,rfl,rfl,rfl,rfl,rfl,rfl,rfl,rfl,rfl,rfl,rfl,rfl,rfl,rfl,rfl,rfl,trivial⟩ (.cons .head (.cons .head (.cons .head (.cons kT1 (.cons kT1 (.cons kT1 (.cons kT1 (.cons kT1 (.cons kT1 (.cons kT1 .nil)))))))))) ⟨Has.pure (⟨by rw [hinv20.1,vY hc74];simp,by simp;omega,lR (by rw [hc74];decide)⟩),trivial⟩ (bE.drop 1)
  have hc74:=beq_eq_false_iff_ne.1 hc74;refine cW<|cJ<|cJ<|cX<|bB ?_;have hcur:iG toks k=cur:=by rw [hinv20.1,nums_end hc74,List.append_nil]
  have hbi:=b_num (C:=C2) (c:=e2) hinv6.1 (by assumption) hinv20.2.1 hcur;have hcl:1≤cur.length:=by rw [←hcur,vY (by assumption)];simp
  refine bW kT2 ?_;refine bF<|ss (ldO hT (bM kT3)) ?_;refine ss (ldN hT (bM kT1)) ?_;refine vN (m:=(⟨1,(bT toks k).at_,0,[],⟨C2,e2,cur⟩⟩:ItemV)) rfl rfl rfl rfl rfl fun b42=>?_;refine uQ kT5 (dF .head rfl) rfl rfl rfl rfl rfl rfl rfl (by simp only [List.length_singleton];omega) fun A43 c44=>?_;refine bV (lX (out++[(⟨1,(bT toks k).at_,0,[],⟨C2,e2,cur⟩⟩:ItemV)])) (bHl (Has.of mT5) (Has.of mT0)) ?_;refine sto hT kT5 ?_;refine dT<|bY<|bB<|bA<|sr<|ss (ldO hT (bM kT9)) ?_;refine bO Tryz.func61 (gY bl A c toks (j) e) rfl rfl (.cons kT3 .nil) ⟨Has.of mT10,trivial⟩ fun _=>?_;refine sto hT kT5 ?_;refine nn<|bR ?_
  obtain⟨kk,hkk⟩: ∃kk,kk=k:=⟨_,rfl⟩
  refine dC (ι:=Nat×Nat×List ItemV×List kL×Option Addr×Nat×Option Addr×Nat) [(1,_),(3,_),(4,_),(5,_),(7,_),(8,_),(9,_),(24,_),(25,_),(26,_),(29,_),(30,_),(31,_),(44,_),(45,_),(46,_)] ⟨rfl,rfl,rfl,rfl,rfl,rfl,rfl,rfl,rfl,rfl,rfl,rfl,rfl,rfl,rfl,rfl,trivial⟩ (fun⟨k,o,out,st,C,e1,D,f⟩=>[(6,.int .i64 (o:Nat))]) (fun⟨k,o,out,st,C,e1,D,f⟩=>[.obj bl (.cells [.slice A toks.length c,.int .i64 (k:Nat),.int .i64 e].toArray 93),.obj b4 (.cells [.slice C out.length e1].toArray 44),kP.row (.slice C out.length e1) 49 out,.obj b5 (.cells [.slice D st.reverse.length f].toArray 162),(fnE b4).row (.slice D st.reverse.length f) 1 st.reverse,.obj b3 (.cells [.int .i64 (bT toks k).kind,.int .i64 (bT toks k).at_,.string (bs (bT toks k).word),.int .i64 (bT toks k).n].toArray 95)]) (fun⟨k,o,out,st,C,e1,D,f⟩=>[Fact.pure (vG toks e r k (out.map ItemV.it) (wT st) o∧opens st=o∧o≤32∧out.length+st.length≤k∧k≤toks.length∧kk<k),lG st,tnF st,lX out]) (fun⟨k,o,out,st,C,e1,D,f⟩=>toks.length-k) (j,o,(out++[(⟨1,(bT toks k).at_,0,[],⟨C2,e2,cur⟩⟩:ItemV)]),st,_,_,_,_) ⟨rfl,trivial⟩ (.cons kT1 (.cons kT1 (.cons kT1 (.cons kT3 (.cons kT3 (.cons .head .nil)))))) ⟨Has.pure (⟨hbi,hinv6.2.1,hinv6.2.2.1,by first | omega | (simp;omega),hbi.1,by omega⟩),Has.of mT4,Has.of mT5,Has.of mT0,trivial⟩ ?_;rintro⟨k,o,out,st,C,e1,D,f⟩;dsimp only;refine cE (Has.of mT0) fun hinv30=>?_;refine bA<|sr<|sp3 hT ?_;refine cH (fun hg128=>?_) (fun hg128=>?_)
  · have hg128:=of_decide_eq_true hg128;refine sp hT ?_;refine ss (ldO hT (bM kT5)) ?_;refine sp3 hT ?_;refine cH (fun hg133=>?_) (fun hg133=>?_)
    · have hg133:=eq_of_beq hg133;refine sp hT ?_;refine ss (ldO hT (dZ kT5)) ?_;refine sp2 hT ?_;refine nn<|bH rfl (fun hc137=>?_) (fun hc137=>?_)
      · have hc137:(bT toks k).word=([41]:Bs):=eq_of_beq hc137;refine bK<|bB<|bA<|bR<|sr<|sp hT ?_;refine gQ (cS Tryz.func97 rfl rfl) (nN b5 b4 _ _ st _ _ out (by omega)) rfl rfl rfl rfl rfl rfl rfl (.cons kT3 (.cons kT3 (.cons kT1 (.cons kT1 .nil)))) ⟨(Has.of mT1),trivial⟩ fun⟨⟨D45,f46⟩,⟨C47,e48⟩⟩=>?_;refine bV (lX (out++(finP st).1)) (sE (Has.of mT4) (Has.of mT3)) ?_;refine bV (tnF (finP st).2) (bAt (Has.of mT4)) ?_;have hfl:=tC st;obtain⟨s2,hs2,ho2⟩:=fin_open (st:=st) (by omega);have hb2:=b_closed hinv30.1 (by omega) (by assumption) (by assumption) hs2;rw [hs2] at hfl⊢;simp only [List.length_cons] at hfl;refine bV (lG s2) (bBg (Has.of mT2)) ?_;refine bV (tnF s2) (bEb (Has.of mT1)) ?_;refine nn<|sr<|ss (ldO hT (bM .head)) ?_;refine ss (ldO hT (bM .head)) ?_;refine sp hT ?_;refine bP (z':=(((s2.length+1):Nat):Int)) (congrArg Nat.cast (jB _ s2)) ?_;refine sp hT ?_;refine bP (z':=((((s2.length+1)-1):Nat):Int)) (cK (by omega) (by omega)) ?_;refine jC hT (k:=((s2.length+1)-1)) kT1 rfl rfl rfl rfl rfl rfl rfl rfl rfl (by rw [jB];omega) ?_;rw [bAb];refine sto hT kT1 ?_;refine nn<|sr<|sp2 hT ?_;refine bP (z':=(((o-1):Nat):Int)) (cK (by omega) (by omega)) ?_;refine sp hT ?_;refine nn<|bF<|ss (ldO hT (bM kT9)) ?_;refine sp2 hT ?_;refine ss (ldO hT (dE kT4)) ?_;refine sp hT ?_;refine bP (z':=(((k+1):Nat):Int)) (cK (by omega) (by omega)) ?_;refine sp2 hT ?_;refine sto hT kT4 ?_;refine dT<|bY<|bB<|bF<|ss (ldO hT (bM kT9)) ?_;refine bO Tryz.func61 (gY bl A c toks ((k+1)) e) rfl rfl (.cons .head .nil) ⟨Has.of (.tail _ (.tail _ (.tail _ (.tail _ (.tail _ (.tail _ (.tail _ (.tail _ (.tail _ (.tail _ (.tail _ (.tail _ (.tail _ (.tail _ (.tail _ (.tail _ (.tail _ (.tail _ (.tail _ mT0))))))))))))))))))),trivial⟩ fun _=>?_;refine sto hT kT5 ?_;refine nn ?_;exact cP ((k+1),(o-1),(out++(finP st).1),s2,_,_,_,_) (by have:=hb2.1;dsimp only;omega) ⟨rfl,trivial⟩ ⟨rfl,rfl,rfl,rfl,rfl,rfl,rfl,rfl,rfl,rfl,rfl,rfl,rfl,rfl,rfl,rfl,trivial⟩ (.cons kT1 (.cons kT3 (.cons kT3 (.cons kT1 (.cons kT1 (.cons .head (.cons .head (.cons .head (.cons .head (.cons .head .nil)))))))))) ⟨Has.pure (⟨hb2,by dsimp only;omega,by dsimp only;omega,by first | omega | (simp;omega),hb2.1,by dsimp only;omega⟩),Has.of mT1,Has.of mT0,Has.of mT3,trivial⟩ (bE.drop 9)
      have hc137:(bT toks k).word≠([41]:Bs):=fun h=>absurd (beq_iff_eq.2 h) (by rw [show((bT toks k).word==([41]:Bs))=false from hc137];simp);refine cW<|cJ<|cJ<|cX<|bB<|bA<|bR<|sr<|sp hT ?_;refine ss (ldO hT (bM kT5)) ?_;refine sp hT ?_;refine cI (t':=false) (by rw [hg133];rfl) ?_;refine sp hT ?_;refine sk2 ?_;refine sp2 hT ?_;refine nn<|cN rfl rfl ?_;refine sr<|sp hT ?_;refine ss (ldO hT (bM kT5)) ?_;refine sp hT ?_;refine cI (t':=false) (by rw [hg133];rfl) ?_;refine sp hT ?_;refine nn<|cN rfl rfl ?_;refine sr<|sp hT ?_;refine ss (ldO hT (bM kT5)) ?_;refine sp hT ?_;refine cI (t':=false) (by rw [hg133];rfl) ?_;refine sp2 hT ?_;refine ss (ldO hT (dZ kT5)) ?_;refine bO Tryz.func96 (nK _) rfl rfl .nil trivial fun _=>?_;refine sp3 hT ?_;refine nn<|bH rfl (fun hc174=>?_) (fun hc174=>?_)
      · have hc174:=fW hc174;refine sr<|ss (ldO hT (bM kT9)) ?_;refine bO Tryz.func62 (cV bl A c toks (k) e _) rfl rfl (.cons .head .nil) ⟨Has.of bFl,trivial⟩ fun _=>?_;refine sp hT ?_;refine sto hT kT8 ?_;refine nn<|bG<|bI<|bC<|bI<|bC<|bI ?_;have hr:=rV hinv30.1 (by first | exact .inl (by omega) | exact .inr (.inl (by assumption)) | exact .inr (.inr (by assumption))) (by omega) (by first | exact .inr (by assumption) | exact .inl (by omega));subst hr;exact bL (none,0,[],_) rfl (bD rfl) (bN hT (bM .head) rfl rfl rfl rfl) (.cons kT1 .nil) ⟨dN,Has.each_nil,Has.pure rfl,trivial⟩ rfl
      have hc174:=fL hc174;refine bK<|bY<|bB<|sr<|sp hT ?_;refine gQ (cS Tryz.func98 rfl rfl) (nL bl A c toks (k) e b1 b5 b4 _ _ st (by omega) (by omega)) rfl rfl rfl rfl rfl rfl rfl (.cons .head (.cons kT8 (.cons kT2 (.cons kT2 .nil)))) ⟨(Has.of bFl),(Has.of mT1),trivial⟩ fun⟨⟨A49,c50⟩,b51⟩=>?_;refine bV (tnF (some (b51,(qB (bX toks (k) e true)))::st)) (sZ (Has.of mT3) dN) ?_;refine cF rfl rfl rfl rfl xF rfl fun b52=>?_;refine sto hT .head ?_;refine nn<|sr<|ss (ldN hT (bM .head)) ?_;refine ss (bZ rfl rfl (uT)) ?_;refine ss (fJ ⟨(bX toks (k) e true).flt.1,(bX toks (k) e true).flt.2⟩ ⟨0,0⟩ rfl rfl rfl) ?_;refine nn<|bH rfl (fun hc190=>?_) (fun hc190=>?_)
      · have hc190:=fW hc190;refine bA<|cU _ _ [(true,0),(true,1),(false,2)] cY (by decide+kernel) (.cons .head (.cons .head (.cons .head (.cons .head (.cons .head (.cons .head (.cons .head (.cons .head (.cons .head (.cons .head .nil)))))))))) bE.self ?_;refine stM rfl (ldN hT (bM .head)) ?_;refine puM hT ?_;refine cC (o:=_) rfl ?_;refine sto hT kT10 ?_;refine cB (.cons kT1 (.cons kT1 (.cons kT1 (.cons kT1 (.cons kT1 (.cons kT1 (.cons kT1 (.cons kT1 (.cons kT1 (.cons kT1 .nil)))))))))) (bE.drop 0) ?_;refine cM<|bB<|bG<|bI<|bC<|bI ?_;have hr:=(pQ hinv30.1 (by first | exact .inl (by omega) | exact .inr (.inl (by assumption)) | exact .inr (.inr (by assumption))) (by omega) (by omega) (by assumption)).2 hc190;subst hr;exact bL (none,0,[],_) rfl (bD rfl) (bN hT (bM .head) rfl rfl rfl rfl) (.cons kT2 .nil) ⟨dN,Has.each_nil,Has.pure rfl,trivial⟩ rfl
      have hc190:=fL hc190;have he:=(pQ hinv30.1 (by first | exact .inl (by omega) | exact .inr (.inl (by assumption)) | exact .inr (.inr (by assumption))) (by omega) (by omega) (by assumption)).1 hc190;refine bK<|bY<|bB ?_;exact cP ((bX toks (k) e true).next,o,out,(some (b51,(qB (bX toks (k) e true)))::st),_,_,_,_) (by have:=he.1;first | (have:=dU toks k e false;dsimp only;omega) | (have:=dU toks k e true;dsimp only;omega)) ⟨rfl,trivial⟩ ⟨rfl,rfl,rfl,rfl,rfl,rfl,trivial⟩ (.cons kT1 (.cons kT4 (.cons kT4 (.cons kT2 (.cons kT2 (.cons kT5 (.cons kT1 .nil))))))) ⟨Has.pure (⟨he,hinv30.2.1,hinv30.2.2.1,by have:=dU toks k e true;first | omega | (simp;omega),he.1⟩),Has.of mT1,Has.of mT0,Has.of mT5,trivial⟩ (bE.drop 13)
    have hg133:=beq_eq_false_iff_ne.1 hg133;refine sk3 ?_;refine sp hT ?_;refine nn<|cN rfl rfl ?_;refine cW<|cJ<|cJ<|cX<|bB<|bA<|bR<|sr<|sp hT ?_;refine ss (ldO hT (bM kT5)) ?_;refine sp2 hT ?_;refine cH (fun hg160=>?_) (fun hg160=>?_)
    · have hg160:=eq_of_beq hg160;refine sp4 hT ?_;refine nn<|bH rfl (fun hc156=>?_) (fun hc156=>?_)
      · have hc156:=of_decide_eq_true hc156;refine sr<|ss (ldO hT (bM kT9)) ?_;refine bO Tryz.func62 (cV bl A c toks (k) e _) rfl rfl (.cons .head .nil) ⟨Has.of bFl,trivial⟩ fun _=>?_;refine sp hT ?_;refine sto hT kT8 ?_;refine nn<|bG<|bI<|bC<|bI<|bC<|bI ?_;have hr:=r_open hinv30.1 (by assumption) (by omega);subst hr;exact bL (none,0,[],_) rfl (bD rfl) (bN hT (bM .head) rfl rfl rfl rfl) (.cons kT1 .nil) ⟨dN,Has.each_nil,Has.pure rfl,trivial⟩ rfl
      have hc156:=Int.not_lt.1 (of_decide_eq_false hc156);refine sr<|sp hT ?_;refine ss (ldO hT (bM kT5)) ?_;refine sp hT ?_;refine cI (t':=true) (by rw [hg160];rfl) ?_;refine sp hT ?_;refine nn<|cL rfl rfl ?_;refine sr<|sp hT ?_;refine gQ (cS Tryz.func97 rfl rfl) (nN b5 b4 _ _ st _ _ out (by omega)) rfl rfl rfl rfl rfl rfl rfl (.cons kT3 (.cons kT3 (.cons kT1 (.cons kT1 .nil)))) ⟨(Has.of mT1),trivial⟩ fun⟨⟨D53,f54⟩,⟨C55,e56⟩⟩=>?_;refine bV (lX (out++(finP st).1)) (sE (Has.of mT4) (Has.of mT3)) ?_;refine bV (tnF (finP st).2) (bAt (Has.of mT4)) ?_;have hfl:=tC st;refine nn<|sr<|ss (ldO hT (bM kT2)) ?_;refine ss (bZ rfl rfl (uT)) ?_;refine sp hT ?_;refine sto hT kT8 ?_;refine nn<|bG<|bI<|bC<|bI<|bC<|bI ?_;have hr:=bEf hinv30.1 (by assumption) (by omega);subst hr;refine bW kT4 ?_;exact bL (_,_,(out++(finP st).1),_) rfl (bD rfl) (bN hT (bM .head) rfl rfl rfl rfl) (.cons kT4 .nil) ⟨Has.of mT0,(Has.of mT2),Has.pure rfl,trivial⟩ rfl
    have hg160:=beq_eq_false_iff_ne.1 hg160;refine sk2 ?_;refine sp2 hT ?_;refine nn<|cN rfl rfl ?_;refine sr<|sp hT ?_;refine ss (ldO hT (bM kT5)) ?_;refine sp hT ?_;refine cI (t':=false) (beq_eq_false_iff_ne.2 hg160) ?_;refine sp hT ?_;refine nn<|cN rfl rfl ?_;refine sr<|sp hT ?_;refine ss (ldO hT (bM kT5)) ?_;refine sp2 hT ?_;refine cH (fun hg178=>?_) (fun hg178=>?_)
    · have hg178:=eq_of_beq hg178;refine sk4 ?_;refine sp2 hT ?_;refine nn<|cL rfl rfl ?_;refine sr<|ss (ldO hT (bM kT9)) ?_;refine bO Tryz.func62 (cV bl A c toks (k) e _) rfl rfl (.cons .head .nil) ⟨Has.of bFl,trivial⟩ fun _=>?_;refine sp hT ?_;refine sto hT kT8 ?_;refine nn<|bG<|bI<|bC<|bI<|bC<|bI ?_;have hr:=rV hinv30.1 (by first | exact .inl (by omega) | exact .inr (.inl (by assumption)) | exact .inr (.inr (by assumption))) (by omega) (by first | exact .inr (by assumption) | exact .inl (by omega));subst hr;exact bL (none,0,[],_) rfl (bD rfl) (bN hT (bM .head) rfl rfl rfl rfl) (.cons kT1 .nil) ⟨dN,Has.each_nil,Has.pure rfl,trivial⟩ rfl
    have hg178:=beq_eq_false_iff_ne.1 hg178;refine sp hT ?_;refine ss (ldO hT (dZ kT5)) ?_;refine bO Tryz.func96 (nK _) rfl rfl .nil trivial fun _=>?_;refine sp3 hT ?_;refine nn<|bH rfl (fun hc174=>?_) (fun hc174=>?_)
    · have hc174:=fW hc174;refine sr<|ss (ldO hT (bM kT9)) ?_;refine bO Tryz.func62 (cV bl A c toks (k) e _) rfl rfl (.cons .head .nil) ⟨Has.of bFl,trivial⟩ fun _=>?_;refine sp hT ?_;refine sto hT kT8 ?_;refine nn<|bG<|bI<|bC<|bI<|bC<|bI ?_;have hr:=rV hinv30.1 (by first | exact .inl (by omega) | exact .inr (.inl (by assumption)) | exact .inr (.inr (by assumption))) (by omega) (by first | exact .inr (by assumption) | exact .inl (by omega));subst hr;exact bL (none,0,[],_) rfl (bD rfl) (bN hT (bM .head) rfl rfl rfl rfl) (.cons kT1 .nil) ⟨dN,Has.each_nil,Has.pure rfl,trivial⟩ rfl
    have hc174:=fL hc174;refine bK<|bY<|bB<|sr<|sp hT ?_;refine gQ (cS Tryz.func98 rfl rfl) (nL bl A c toks (k) e b1 b5 b4 _ _ st (by omega) (by omega)) rfl rfl rfl rfl rfl rfl rfl (.cons .head (.cons kT8 (.cons kT2 (.cons kT2 .nil)))) ⟨(Has.of bFl),(Has.of mT1),trivial⟩ fun⟨⟨A57,c58⟩,b59⟩=>?_;refine bV (tnF (some (b59,(qB (bX toks (k) e true)))::st)) (sZ (Has.of mT3) dN) ?_;refine cF rfl rfl rfl rfl xF rfl fun b60=>?_;refine sto hT .head ?_;refine nn<|sr<|ss (ldN hT (bM .head)) ?_;refine ss (bZ rfl rfl (uT)) ?_;refine ss (fJ ⟨(bX toks (k) e true).flt.1,(bX toks (k) e true).flt.2⟩ ⟨0,0⟩ rfl rfl rfl) ?_;refine nn<|bH rfl (fun hc190=>?_) (fun hc190=>?_)
    · have hc190:=fW hc190;refine bA<|cU _ _ [(true,0),(true,1),(false,2)] cY (by decide+kernel) (.cons .head (.cons .head (.cons .head (.cons .head (.cons .head (.cons .head (.cons .head (.cons .head (.cons .head (.cons .head .nil)))))))))) bE.self ?_;refine stM rfl (ldN hT (bM .head)) ?_;refine puM hT ?_;refine cC (o:=_) rfl ?_;refine sto hT kT10 ?_;refine cB (.cons kT1 (.cons kT1 (.cons kT1 (.cons kT1 (.cons kT1 (.cons kT1 (.cons kT1 (.cons kT1 (.cons kT1 (.cons kT1 .nil)))))))))) (bE.drop 0) ?_;refine cM<|bB<|bG<|bI<|bC<|bI ?_;have hr:=(pQ hinv30.1 (by first | exact .inl (by omega) | exact .inr (.inl (by assumption)) | exact .inr (.inr (by assumption))) (by omega) (by omega) (by assumption)).2 hc190;subst hr;exact bL (none,0,[],_) rfl (bD rfl) (bN hT (bM .head) rfl rfl rfl rfl) (.cons kT2 .nil) ⟨dN,Has.each_nil,Has.pure rfl,trivial⟩ rfl
    have hc190:=fL hc190;have he:=(pQ hinv30.1 (by first | exact .inl (by omega) | exact .inr (.inl (by assumption)) | exact .inr (.inr (by assumption))) (by omega) (by omega) (by assumption)).1 hc190;refine bK<|bY<|bB ?_;exact cP ((bX toks (k) e true).next,o,out,(some (b59,(qB (bX toks (k) e true)))::st),_,_,_,_) (by have:=he.1;first | (have:=dU toks k e false;dsimp only;omega) | (have:=dU toks k e true;dsimp only;omega)) ⟨rfl,trivial⟩ ⟨rfl,rfl,rfl,rfl,rfl,rfl,trivial⟩ (.cons kT1 (.cons kT4 (.cons kT4 (.cons kT2 (.cons kT2 (.cons kT5 (.cons kT1 .nil))))))) ⟨Has.pure (⟨he,hinv30.2.1,hinv30.2.2.1,by have:=dU toks k e true;first | omega | (simp;omega),he.1⟩),Has.of mT1,Has.of mT0,Has.of mT5,trivial⟩ (bE.drop 13)
  have hg128:=Int.not_lt.1 (of_decide_eq_false hg128);refine sk3 ?_;refine sp2 hT ?_;refine sk3 ?_;refine sp hT ?_;refine nn<|cN rfl rfl ?_;refine cW<|cJ<|cJ<|cX<|bB<|bA<|bR<|sr<|sp hT ?_;refine ss (ldO hT (bM kT5)) ?_;refine sp2 hT ?_;refine cH (fun hg160=>?_) (fun hg160=>?_)
  · have hg160:=eq_of_beq hg160;refine sp4 hT ?_;refine nn<|bH rfl (fun hc156=>?_) (fun hc156=>?_)
    · have hc156:=of_decide_eq_true hc156;refine sr<|ss (ldO hT (bM kT9)) ?_;refine bO Tryz.func62 (cV bl A c toks (k) e _) rfl rfl (.cons .head .nil) ⟨Has.of bFl,trivial⟩ fun _=>?_;refine sp hT ?_;refine sto hT kT8 ?_;refine nn<|bG<|bI<|bC<|bI<|bC<|bI ?_;have hr:=r_open hinv30.1 (by assumption) (by omega);subst hr;exact bL (none,0,[],_) rfl (bD rfl) (bN hT (bM .head) rfl rfl rfl rfl) (.cons kT1 .nil) ⟨dN,Has.each_nil,Has.pure rfl,trivial⟩ rfl
    have hc156:=Int.not_lt.1 (of_decide_eq_false hc156);refine sr<|sp hT ?_;refine ss (ldO hT (bM kT5)) ?_;refine sp hT ?_;refine cI (t':=true) (by rw [hg160];rfl) ?_;refine sp hT ?_;refine nn<|cL rfl rfl ?_;refine sr<|sp hT ?_;refine gQ (cS Tryz.func97 rfl rfl) (nN b5 b4 _ _ st _ _ out (by omega)) rfl rfl rfl rfl rfl rfl rfl (.cons kT3 (.cons kT3 (.cons kT1 (.cons kT1 .nil)))) ⟨(Has.of mT1),trivial⟩ fun⟨⟨D61,f62⟩,⟨C63,e64⟩⟩=>?_;refine bV (lX (out++(finP st).1)) (sE (Has.of mT4) (Has.of mT3)) ?_;refine bV (tnF (finP st).2) (bAt (Has.of mT4)) ?_;have hfl:=tC st;refine nn<|sr<|ss (ldO hT (bM kT2)) ?_;refine ss (bZ rfl rfl (uT)) ?_;refine sp hT ?_;refine sto hT kT8 ?_;refine nn<|bG<|bI<|bC<|bI<|bC<|bI ?_;have hr:=bEf hinv30.1 (by assumption) (by omega);subst hr;refine bW kT4 ?_;exact bL (_,_,(out++(finP st).1),_) rfl (bD rfl) (bN hT (bM .head) rfl rfl rfl rfl) (.cons kT4 .nil) ⟨Has.of mT0,(Has.of mT2),Has.pure rfl,trivial⟩ rfl
  have hg160:=beq_eq_false_iff_ne.1 hg160;refine sk2 ?_;refine sp2 hT ?_;refine nn<|cN rfl rfl ?_;refine sr<|sp hT ?_;refine ss (ldO hT (bM kT5)) ?_;refine sp hT ?_;refine cI (t':=false) (beq_eq_false_iff_ne.2 hg160) ?_;refine sp hT ?_;refine nn<|cN rfl rfl ?_;refine sr<|sp hT ?_;refine ss (ldO hT (bM kT5)) ?_;refine sp2 hT ?_;refine cH (fun hg178=>?_) (fun hg178=>?_)
  · have hg178:=eq_of_beq hg178;refine sk4 ?_;refine sp2 hT ?_;refine nn<|cL rfl rfl ?_;refine sr<|ss (ldO hT (bM kT9)) ?_;refine bO Tryz.func62 (cV bl A c toks (k) e _) rfl rfl (.cons .head .nil) ⟨Has.of bFl,trivial⟩ fun _=>?_;refine sp hT ?_;refine sto hT kT8 ?_;refine nn<|bG<|bI<|bC<|bI<|bC<|bI ?_;have hr:=rV hinv30.1 (by first | exact .inl (by omega) | exact .inr (.inl (by assumption)) | exact .inr (.inr (by assumption))) (by omega) (by first | exact .inr (by assumption) | exact .inl (by omega));subst hr;exact bL (none,0,[],_) rfl (bD rfl) (bN hT (bM .head) rfl rfl rfl rfl) (.cons kT1 .nil) ⟨dN,Has.each_nil,Has.pure rfl,trivial⟩ rfl
  have hg178:=beq_eq_false_iff_ne.1 hg178;refine sp hT ?_;refine ss (ldO hT (dZ kT5)) ?_;refine bO Tryz.func96 (nK _) rfl rfl .nil trivial fun _=>?_;refine sp3 hT ?_;refine nn<|bH rfl (fun hc174=>?_) (fun hc174=>?_)
  · have hc174:=fW hc174;refine sr<|ss (ldO hT (bM kT9)) ?_;refine bO Tryz.func62 (cV bl A c toks (k) e _) rfl rfl (.cons .head .nil) ⟨Has.of bFl,trivial⟩ fun _=>?_;refine sp hT ?_;refine sto hT kT8 ?_;refine nn<|bG<|bI<|bC<|bI<|bC<|bI ?_;have hr:=rV hinv30.1 (by first | exact .inl (by omega) | exact .inr (.inl (by assumption)) | exact .inr (.inr (by assumption))) (by omega) (by first | exact .inr (by assumption) | exact .inl (by omega));subst hr;exact bL (none,0,[],_) rfl (bD rfl) (bN hT (bM .head) rfl rfl rfl rfl) (.cons kT1 .nil) ⟨dN,Has.each_nil,Has.pure rfl,trivial⟩ rfl
  have hc174:=fL hc174;refine bK<|bY<|bB<|sr<|sp hT ?_;refine gQ (cS Tryz.func98 rfl rfl) (nL bl A c toks (k) e b1 b5 b4 _ _ st (by omega) (by omega)) rfl rfl rfl rfl rfl rfl rfl (.cons .head (.cons kT8 (.cons kT2 (.cons kT2 .nil)))) ⟨(Has.of bFl),(Has.of mT1),trivial⟩ fun⟨⟨A65,c66⟩,b67⟩=>?_;refine bV (tnF (some (b67,(qB (bX toks (k) e true)))::st)) (sZ (Has.of mT3) dN) ?_;refine cF rfl rfl rfl rfl xF rfl fun b68=>?_;refine sto hT .head ?_;refine nn<|sr<|ss (ldN hT (bM .head)) ?_;refine ss (bZ rfl rfl (uT)) ?_;refine ss (fJ ⟨(bX toks (k) e true).flt.1,(bX toks (k) e true).flt.2⟩ ⟨0,0⟩ rfl rfl rfl) ?_;refine nn<|bH rfl (fun hc190=>?_) (fun hc190=>?_)
  · have hc190:=fW hc190;refine bA<|cU _ _ [(true,0),(true,1),(false,2)] cY (by decide+kernel) (.cons .head (.cons .head (.cons .head (.cons .head (.cons .head (.cons .head (.cons .head (.cons .head (.cons .head (.cons .head .nil)))))))))) bE.self ?_;refine stM rfl (ldN hT (bM .head)) ?_;refine puM hT ?_;refine cC (o:=_) rfl ?_;refine sto hT kT10 ?_;refine cB (.cons kT1 (.cons kT1 (.cons kT1 (.cons kT1 (.cons kT1 (.cons kT1 (.cons kT1 (.cons kT1 (.cons kT1 (.cons kT1 .nil)))))))))) (bE.drop 0) ?_;refine cM<|bB<|bG<|bI<|bC<|bI ?_;have hr:=(pQ hinv30.1 (by first | exact .inl (by omega) | exact .inr (.inl (by assumption)) | exact .inr (.inr (by assumption))) (by omega) (by omega) (by assumption)).2 hc190;subst hr;exact bL (none,0,[],_) rfl (bD rfl) (bN hT (bM .head) rfl rfl rfl rfl) (.cons kT2 .nil) ⟨dN,Has.each_nil,Has.pure rfl,trivial⟩ rfl
  have hc190:=fL hc190;have he:=(pQ hinv30.1 (by first | exact .inl (by omega) | exact .inr (.inl (by assumption)) | exact .inr (.inr (by assumption))) (by omega) (by omega) (by assumption)).1 hc190;refine bK<|bY<|bB ?_;exact cP ((bX toks (k) e true).next,o,out,(some (b67,(qB (bX toks (k) e true)))::st),_,_,_,_) (by have:=he.1;first | (have:=dU toks k e false;dsimp only;omega) | (have:=dU toks k e true;dsimp only;omega)) ⟨rfl,trivial⟩ ⟨rfl,rfl,rfl,rfl,rfl,rfl,trivial⟩ (.cons kT1 (.cons kT4 (.cons kT4 (.cons kT2 (.cons kT2 (.cons kT5 (.cons kT1 .nil))))))) ⟨Has.pure (⟨he,hinv30.2.1,hinv30.2.2.1,by have:=dU toks k e true;first | omega | (simp;omega),he.1⟩),Has.of mT1,Has.of mT0,Has.of mT5,trivial⟩ (bE.drop 13)
end Go.Proofs.YtciimjjleglmaaaGreatDoor
namespace Go.Proofs.YtciimjjleglmaaaGreatDoor
open Go.RowKit
structure pK where
  name:Bs
  n:Int
  deriving Inhabited,DecidableEq
structure gF where
  name:Bs
  at_:Int
  sides:List pK
  deriving Inhabited,DecidableEq
structure rF where
  name:Bs
  at_:Int
  items:List fB
  deriving Inhabited,DecidableEq
structure iK where
  inputs:List gF
  lines:List rF
  deriving Inhabited,DecidableEq
def verbWords:List Bs:=[[43],[45],[42],[37],[124],[109,105,110],[109,97,120],[61],[126],[60],[60,61],[62,61],[62],[97,110,100],[111,114],[112,111,119],[114,104,111],[116,97,107,101],[100,114,111,112],[99,97,116],[105,111,116,97],[115,104,97,112,101],[114,97,118,101,108],[114,101,118],[116,117,114,110]]
def bAu (two:Bool)(f:Int):List Bs→Bs→Bs
  | [],acc=>acc
  | s::r,acc=>bAu two f r (if gT s two !=0&&gT s two==f then s else acc)
def lA (two:Bool)(f:Int):Bs:=bAu two f verbWords []
structure gE where
  words:List Bs
  nest:Nat
  tokens:Nat
  plain:Bool
  deriving Inhabited,DecidableEq
def operandS(it:fB):Option gE:=
  if it.how=2 then (if it.fn=0∧it.nums=[]∧fC it.name=true then some ⟨[it.name],0,1,true⟩ else none)
  else if it.fn≠0∨it.name≠[]∨it.nums=[]∨256<it.nums.length then none
  else some ⟨it.nums.map fY,0,it.nums.length,true⟩
def bLm (how:Int):Bs:=if how=5 then [47] else if how=6 then [92] else if how=7 then [46] else []
def verbS (it:fB):Bs×Nat:=
  if it.how=3 then (lA false it.fn,1)
  else if lA true it.fn=[]∨it.how=4 then (lA true it.fn,1)
  else if 17<it.fn then ([],0)
  else (lA true it.fn++bLm it.how,2)
def brkEnd:List Bs→List Bs
  | []=>[]
  | [w]=>[w++[41]]
  | w::r=>w::brkEnd r
def brk:List Bs→List Bs
  | []=>[]
  | w::r=>brkEnd (([40]++w)::r)
def leftS (p:gE):gE:=if p.plain then p else ⟨brk p.words,p.nest+1,p.tokens+2,p.plain⟩
def uJ (how:Int):Bool:=how==4 || how==7
def oS (it:fB)(st:List gE):Option (List gE):=
  if uJ it.how then match st with
    | p::q::r=>some (⟨(leftS q).words++(verbS it).1::p.words,max p.nest (leftS q).nest,p.tokens+(verbS it).2+(leftS q).tokens,false⟩::r)
    | _=>none
  else match st with
    | p::r=>some (⟨(verbS it).1::p.words,p.nest,p.tokens+(verbS it).2,false⟩::r)
    | []=>none
def iV (st:List gE)(it:fB):Option (List gE):=
  if it.how=1∨it.how=2 then (operandS it).map (· ::st)
  else if it.how<3∨7<it.how∨it.nums≠[]∨it.name≠[]∨(verbS it).1=[] then none
  else oS it st
def gD:List fB→List gE→Option (List gE)
  | [],st=>some st
  | it::r,st=>match iV st it with
    | none=>none
    | some st'=>gD r st'
def joinSp:List Bs→Bs
  | []=>[]
  | [w]=>w
  | w::r=>w++32::joinSp r
def hU (l:List fB)(most:Nat):Option Bs:=
  if most<l.length then none else match gD l [] with
    | some [p]=>if most<p.tokens∨32<p.nest then none else some (joinSp p.words)
    | _=>none
def kV:List pK→Bs→Option Bs
  | [],t=>some t
  | d::r,t=>if d.name=[] then kV r (t++([32]++fY d.n)) else if d.n=0∧fC d.name=true then kV r (t++([32]++d.name)) else none
def pP (x:gF):Option Bs:=if fC x.name=false∨4<x.sides.length then none else kV x.sides x.name
def nX:List gF→Bs→Bs×Bool
  | [],o=>(o,true)
  | x::r,o=>match pP x with
    | none=>(o,false)
    | some t=>nX r (o++(([105,110,32]++t)++[10]))
def fX:List rF→Bs→Bs×Bool
  | [],o=>(o,true)
  | [l],o=>match hU l.items 255 with
    | none=>(o,false)
    | some t=>if l.name≠[] then (o,false) else (o++(([111,117,116,32]++t)++[10]),true)
  | l::r,o=>match hU l.items 254 with
    | none=>(o,false)
    | some t=>if fC l.name=false then (o,false) else fX r (o++(((l.name++[58,32])++t)++[10]))
def dX (p:iK):Bs×Bool:=
  if p.lines=[]∨64<p.inputs.length+p.lines.length then ([],false) else match nX p.inputs [] with
    | (o,false)=>(o,false)
    | (o,true)=>fX p.lines o
def oU (two:Bool)(f:Int):List Bs→Bs
  | []=>[]
  | s::r=>if gT s two !=0&&gT s two==f then s else oU two f r
structure Part where
  s:Bs
  plain:Bool
  tokens:Nat
  nest:Nat
  deriving Inhabited,DecidableEq
def brkR (p:Part):Part:=if p.plain then p else ⟨([40]++p.s)++[41],false,p.tokens+2,p.nest+1⟩
def hitB (two:Bool)(f:Int)(s:Bs):Bool:=gT s two !=0&&gT s two==f
theorem bEj(two:Bool)(f:Int): ∀l:List Bs,l.Pairwise (fun s t=>gT s two=0∨gT s two≠gT t two)→ ∀acc,bAu two f l acc=if l.any (hitB two f) then oU two f l else acc
  | [],_,acc=>rfl
  | s::r,h,acc=>by
    obtain⟨h1,h2⟩:=List.pairwise_cons.1 h;rw [bAu,oU,bEj two f r h2]
    by_cases hs:(gT s two !=0&&gT s two==f)=true
    · have hn:r.any (hitB two f)=false:=by
        rw [List.any_eq_false];intro t ht hb;simp only [hitB,Bool.and_eq_true,bne_iff_ne,beq_iff_eq] at hb hs
        rcases h1 t ht with h | h
        · exact hs.1 h
        · exact h (hs.2.trans hb.2.symm)
      simp [hs,hn,hitB]
    · simp only [Bool.not_eq_true] at hs;simp [hs,hitB]
theorem bFw(two:Bool)(f:Int): ∀l:List Bs,l.any (hitB two f)=false→oU two f l=[]
  | [],_=>rfl
  | s::r,h=>by
    rw [List.any_cons,Bool.or_eq_false_iff] at h;rw [oU];have:(gT s two !=0&&gT s two==f)=false:=h.1;rw [this,bFw two f r h.2];rfl
theorem first_text(two:Bool)(f:Int):oU two f verbWords=lA two f:=by
  unfold lA;rw [bEj two f verbWords (by cases two<;>decide)];cases h:verbWords.any (hitB two f)
  · rw [bFw two f _ h];rfl
  · rfl
theorem bJm(two:Bool)(f:Int): ∀l:List Bs,oU two f l≠[]→oU two f l∈l∧hitB two f (oU two f l)=true
  | [],h=>absurd rfl h
  | s::r,h=>by
    rw [oU] at h⊢
    by_cases hs:(gT s two !=0&&gT s two==f)=true
    · rw [if_pos hs];exact⟨List.mem_cons_self ..,hs⟩
    · rw [if_neg hs] at h⊢;obtain⟨h1,h2⟩:=bJm two f r h;exact⟨List.mem_cons_of_mem _ h1,h2⟩
theorem textF_hit{two:Bool}{f:Int}(h:lA two f≠[]):lA two f∈verbWords∧gT (lA two f) two=f∧f≠0:=by
  rw [←first_text] at h⊢;obtain⟨h1,h2⟩:=bJm two f _ h;simp only [hitB,Bool.and_eq_true,bne_iff_ne,beq_iff_eq] at h2;exact⟨h1,h2.2,fun e=>h2.1 (h2.2.trans e)⟩
theorem rN(w:Bs){r:List Bs}(h:r≠[]):joinSp (w::r)=w++32::joinSp r:=by
  cases r with
  | nil=>exact absurd rfl h
  | cons x r=>rfl
theorem bJn{l:List Bs}(h:l≠[]):brkEnd l≠[]:=by
  match l,h with
  | [w],_=>simp [brkEnd]
  | w::x::r,_=>simp [brkEnd]
theorem bCl: ∀l:List Bs,l≠[]→joinSp (brkEnd l)=joinSp l++[41]
  | [],h=>absurd rfl h
  | [w],_=>rfl
  | w::x::r,_=>by
    show joinSp (w::brkEnd (x::r))=_;rw [rN w (bJn (by simp)),bCl (x::r) (by simp),rN w (by simp)];simp
theorem join_brk{l:List Bs}(h:l≠[]):joinSp (brk l)=([40]++joinSp l)++[41]:=by
  cases l with
  | nil=>exact absurd rfl h
  | cons w r=>
    show joinSp (brkEnd _)=_;rw [bCl _ (by simp)]
    cases r with
    | nil=>simp [joinSp]
    | cons x r=>simp [joinSp]
theorem brk_ne{l:List Bs}(h:l≠[]):brk l≠[]:=by
  cases l with
  | nil=>exact absurd rfl h
  | cons w r=>exact bJn (by simp)
structure Like (p:Part) (q:gE):Prop where
  s:p.s=joinSp q.words
  plain:p.plain=q.plain
  tokens:p.tokens=q.tokens
  nest:p.nest=q.nest
  ne:q.words≠[]
theorem Like.brk{p:Part}{q:gE}(h:Like p q):Like (brkR p) (leftS q):=by
  unfold brkR leftS;rw [h.plain];cases hq:q.plain
  · simp only [Bool.false_eq_true,if_false];exact⟨by rw [h.s,join_brk h.ne],by simp,by simp [h.tokens],by simp [h.nest],brk_ne h.ne⟩
  · simp only [if_true];exact h
inductive yQ:List Part→List gE→Prop
  | nil:yQ [] []
  | cons {p q a b}:Like p q→yQ a b→yQ (p::a) (q::b)
theorem yQ.len{a:List Part}{b:List gE}(h:yQ a b):a.length=b.length:=by induction h<;>simp_all
theorem step_tokens{st st':List gE}{x:fB}(h:iV st x=some st'):(st.map (·.tokens)).sum+1≤(st'.map (·.tokens)).sum:=by
  unfold iV at h;split at h
  · unfold operandS at h;split at h
    · split at h
      · simp at h;subst h;simp;omega
      · simp at h
    · split at h
      · simp at h
      · rename_i hn;simp at h;subst h;have:0<x.nums.length:=List.length_pos_iff.2 fun e=>hn (by simp [e]);simp;omega
  · split at h
    · cases h
    · have hv:1≤(verbS x).2∨(verbS x).1=[]:=by
        unfold verbS;split
        · exact .inl (by simp)
        · split
          · exact .inl (by simp)
          · split
            · exact .inr rfl
            · exact .inl (by simp)
      rename_i hn;have hv:1≤(verbS x).2:=hv.resolve_right fun e=>hn (by simp [e]);unfold oS at h;split at h
      · split at h
        · rename_i p q r;simp at h;subst h;have:q.tokens≤(leftS q).tokens:=by unfold leftS;split<;>simp
          simp only [List.map_cons,List.sum_cons];omega
        · cases h
      · split at h
        · simp at h;subst h;simp;omega
        · cases h
theorem zS: ∀{l:List fB} {st st':List gE},gD l st=some st'→(st.map (·.tokens)).sum+l.length≤(st'.map (·.tokens)).sum
  | [],st,st',h=>by simp [gD] at h;subst h;simp
  | x::r,st,st',h=>by
    rw [gD] at h
    cases h1:iV st x with
    | none=>rw [h1] at h;cases h
    | some s1=>
      rw [h1] at h;have:=zS h;have:=step_tokens h1;simp only [List.length_cons];omega
end Go.Proofs.YtciimjjleglmaaaGreatDoor
namespace Go.Proofs.YtciimjjleglmaaaGreatDoor
open Go.RowKit
def iP.sd (x:iP):pK:=⟨x.name,x.n⟩
def InputV.inp(x:InputV):gF:=⟨x.name,x.at_,x.sides.list.map iP.sd⟩
def LineV.ln(x:LineV):rF:=⟨x.name,x.at_,x.items.list.map ItemV.it⟩
def ProgV.pr(x:ProgV):iK:=⟨x.inputs.list.map InputV.inp,x.lines.list.map LineV.ln⟩
def oO:List TokV→List pK→List pK×Flt
  | [],acc=>(acc,(0,0))
  | t::r,acc=>
    if t.kind≠2∧(t.kind≠1∨fC t.word=false) then (acc,(t.at_,41))
    else if acc.length=4 then (acc,(t.at_,45)) else oO r (acc++[⟨t.word,t.n⟩])
section
variable (toks : List TokV) (e : Int)
def mA:gF×Flt:=
  if toks.length=1 then (⟨(bT toks 1).word,atP toks 1 e,[]⟩,(atP toks 1 e,42))
  else if (bT toks 1).kind≠1∨fC (bT toks 1).word=false then (⟨(bT toks 1).word,atP toks 1 e,[]⟩,(atP toks 1 e,41))
  else (⟨(bT toks 1).word,atP toks 1 e,(oO (toks.drop 2) []).1⟩,(oO (toks.drop 2) []).2)
def isW (t:TokV)(w:Bs):Bool:=t.kind==1&&t.word==w
def wU (name:Bs)(k:Nat):rF×Flt:=(⟨name,(bT toks 0).at_,(yX toks e k).1⟩,(yX toks e k).2)
def gP (p:iK)(n:Nat)(over:Bool):iK×Flt:=
  if n=64 then (p,(atP toks 0 e,45))
  else if 256<toks.length then (p,(atP toks 256 e,45))
  else if over=true∨isW (bT toks 0) [105,110]=true∧p.lines≠[] then (p,(atP toks 0 e,40))
  else if isW (bT toks 0) [105,110]=true then (⟨p.inputs++[(mA toks e).1],p.lines⟩,(mA toks e).2)
  else if isW (bT toks 0) [111,117,116]=true then (⟨p.inputs,p.lines++[(wU toks e [] 1).1]⟩,(wU toks e [] 1).2)
  else if (bT toks 0).kind≠1∨fC (bT toks 0).word=false then (p,(atP toks 0 e,40))
  else if (bT toks 1).kind≠3∨(bT toks 1).word≠[58] then (p,(atP toks 1 e,42))
  else (⟨p.inputs,p.lines++[(wU toks e (bT toks 0).word 2).1]⟩,(wU toks e (bT toks 0).word 2).2)
end
def ownP (toks:List TokV):List TokV:=toks.takeWhile fun t=>t.kind !=4
def endP (toks:List TokV)(len:Int):Int:=atP toks (ownP toks).length len
def sR (p:iK):Bool:=match p.lines.getLast? with
  | none=>false
  | some l=>l.name==[]
def tA (len:Int):Nat→List TokV→iK→Nat→Bool→iK×Flt
  | 0,_,_,_,_=>(⟨[],[]⟩,(0,0))
  | f+1,toks,p,n,over=>
    if toks=[] then (if over=true then (p,(0,0)) else (⟨[],[]⟩,(len,42)))
    else if ownP toks=[] then tA len f (toks.drop 1) p n over
    else if oP (gP (ownP toks) (endP toks len) p n over).2 then
      tA len f (toks.drop ((ownP toks).length+1)) (gP (ownP toks) (endP toks len) p n over).1 (n+1) (sR (gP (ownP toks) (endP toks len) p n over).1)
    else (⟨[],[]⟩,(gP (ownP toks) (endP toks len) p n over).2)
def rY (text:Bs):iK×Flt:=
  if oP (lexP text).2 then tA text.length ((lexP text).1.length+1) (lexP text).1 ⟨[],[]⟩ 0 false else (⟨[],[]⟩,(lexP text).2)
def PInv (r:iK×Flt)(len:Int)(toks:List TokV)(p:iK)(n:Nat)(over:Bool):Prop:= ∃f,toks.length+1≤f∧tA len f toks p n over=r
section
variable {r : iK × Flt} {len : Int} {toks : List TokV} {p : iK} {n : Nat} {over : Bool}
theorem p_end(h:PInv r len toks p n over)(h0:toks=[]):r=if over=true then (p,(0,0)) else (⟨[],[]⟩,(len,42)):=by
  obtain⟨f,hf,h⟩:=h
  obtain⟨f,rfl⟩: ∃g,f=g+1:=⟨f-1,by omega⟩
  rw [tA,if_pos h0] at h;exact h.symm
theorem p_skip(h:PInv r len toks p n over)(h0:toks≠[])(h1:ownP toks=[]):PInv r len (toks.drop 1) p n over:=by
  obtain⟨f,hf,h⟩:=h;have:0<toks.length:=List.length_pos_iff.2 h0
  obtain⟨f,rfl⟩: ∃g,f=g+1:=⟨f-1,by omega⟩
  rw [tA,if_neg h0,if_pos h1] at h;exact⟨f,by rw [List.length_drop];omega,h⟩
theorem p_line(h:PInv r len toks p n over)(h0:toks≠[])(h1:ownP toks≠[]){q:iK}{f:Flt}(hq:gP (ownP toks) (endP toks len) p n over=(q,f)):
    (oP f=true→PInv r len (toks.drop ((ownP toks).length+1)) q (n+1) (sR q))∧(oP f=false→r=(⟨[],[]⟩,f)):=by
  obtain⟨g,hg,h⟩:=h;have:0<toks.length:=List.length_pos_iff.2 h0
  obtain⟨g,rfl⟩: ∃k,g=k+1:=⟨g-1,by omega⟩
  rw [tA,if_neg h0,if_neg h1,hq] at h;refine⟨fun hi=>?_,fun hi=>?_⟩
  · rw [if_pos hi] at h;exact⟨g,by rw [List.length_drop];omega,h⟩
  · rw [if_neg (by rw [hi];simp)] at h;exact h.symm
end
structure yI (t:TokV):Prop where
  word:t.word.length≤16
  lo: -9223372036854775808≤t.n
  hi:t.n≤9223372036854775807
theorem bHv{neg:Bool}{ds:Bs}{v:Int}(h:rG neg ds=some v): -9223372036854775808≤v∧v≤9223372036854775807:=by
  unfold rG at h;split at h
  · split at h
    · injection h with h
      omega
    · cases h
  · split at h
    · injection h with h
      omega
    · cases h
theorem numTok_ok{b:UInt8}{r:Bs}{t:TokR}(h:gU b r= .ok (some t)):t.2.1=[]∧ -9223372036854775808≤t.2.2.1∧t.2.2.1≤9223372036854775807:=by
  unfold gU at h;dsimp only at h
  by_cases hb:(b==95)=true
  · simp only [hb,if_true] at h;split at h
    · cases h
    · split at h
      · cases h
      · rename_i hv;simp only [Except.ok.injEq,Option.some.injEq] at h;subst h;exact⟨rfl,bHv hv⟩
  · simp only [hb,Bool.false_eq_true,if_false] at h;split at h
    · cases h
    · split at h
      · cases h
      · rename_i hv;simp only [Except.ok.injEq,Option.some.injEq] at h;subst h;exact⟨rfl,bHv hv⟩
theorem tokenP_ok{s:Bs}{k v:Int}{wd:Bs}{m:Nat}(h:fT s= .ok (k,wd,v,m)):wd.length≤16∧ -9223372036854775808≤v∧v≤9223372036854775807:=by
  cases s with
  | nil=>cases h
  | cons b r=>
    simp only [fT] at h;split at h
    · cases h;decide
    · split at h
      · split at h
        · cases h
        · cases h;rename_i h16
          have:=(List.length_take_le (runB mL (b::r)) (b::r))
          exact⟨by omega,by decide,by decide⟩
      · split at h
        · cases h
        · rename_i t' ht;simp only [Except.ok.injEq] at h;subst h;obtain⟨h1,h2,h3⟩:=numTok_ok ht;simp only at h1 h2 h3;exact⟨by rw [h1];decide,h2,h3⟩
        · split at h
          · cases h
          · cases h
            have h2:kJ (b::r)≤2:=by
              simp only [kJ];split
              · omega
              · split<;>omega
            have:=(List.length_take_le (kJ (b::r)) (b::r))
            exact⟨by omega,by decide,by decide⟩
theorem zA: ∀(f i:Nat) (s:Bs) (out:List Tok),(∀t∈out,yI t)→ ∀t∈(lexGo f i s out).1,yI t
  | 0,_,_,out,h=>h
  | _+1,_,[],out,h=>h
  | f+1,i,b::r,out,h=>by
    unfold lexGo;split
    · exact zA f _ _ _ h
    · split
      · exact zA f _ _ _ h
      · split
        · exact fun t ht=>by simp at ht
        · rename_i ht;refine zA f _ _ _ fun t hm=>?_
          rcases List.mem_append.1 hm with hm | hm
          · exact h t hm
          · rw [List.mem_singleton.1 hm];obtain⟨h1,h2,h3⟩:=tokenP_ok ht;exact⟨h1,h2,h3⟩
theorem lex_ok(s:Bs): ∀t∈(lexP s).1,yI t:=by
  unfold lexP;split
  · exact fun t ht=>by simp at ht
  · exact zA _ _ _ _ fun t ht=>by simp at ht
theorem peek_ok{toks:List TokV}(h: ∀t∈toks,yI t)(k:Nat):yI (bT toks k):=by
  unfold bT;split
  · rename_i ht;exact h _ (List.mem_of_getElem? ht)
  · exact⟨by decide,by decide,by decide⟩
theorem wL{toks:List TokV}(h: ∀t∈toks,yI t)(k:Nat):(bT toks k).word.length≤65536:=Nat.le_trans (peek_ok h k).word (by decide)
theorem own_le(toks:List TokV):(ownP toks).length≤toks.length:=(List.takeWhile_sublist _).length_le
theorem bEs(toks:List TokV):toks.take (ownP toks).length=ownP toks:=by
  unfold ownP
  induction toks with
  | nil=>rfl
  | cons t r ih=>
    rw [List.takeWhile_cons];split
    · rw [List.length_cons,List.take_succ_cons,ih]
    · rfl
theorem own_more{toks:List TokV}{n:Nat}{x:TokV}(hn:n≤(ownP toks).length)(hx:toks[n]?=some x)(h4:x.kind≠4):n+1≤(ownP toks).length:=by
  unfold ownP at*
  induction toks generalizing n with
  | nil=>simp at hx
  | cons t r ih=>
    rw [List.takeWhile_cons] at hn⊢;split at hn
    · rename_i ht;rw [if_pos ht]
      cases n with
      | zero=>simp
      | succ n=>
        have:=ih (n:=n) (by simpa using hn) (by simpa using hx);simp;omega
    · rename_i ht;have:n=0:=by simpa using hn
      subst this;simp at hx;subst hx;simp [h4] at ht
theorem own_stop{toks:List TokV}{n:Nat}(hn:n≤(ownP toks).length)(h:toks.length≤n∨ ∃x:TokV,toks[n]?=some x∧x.kind=4):n=(ownP toks).length:=by
  have hl:=own_le toks
  rcases h with h | ⟨x,hx,h4⟩
  · omega
  · rcases Nat.lt_or_ge n (ownP toks).length with hlt | hge
    · exfalso
      have hm:(ownP toks)[n]?=some x:=by
        rw [←bEs toks,List.getElem?_take,if_pos hlt];exact hx
      have:=List.all_takeWhile (p:=fun t:TokV=>t.kind !=4) (l:=toks);have:=List.all_eq_true.1 this x (List.mem_of_getElem? hm);simp [h4] at this
    · omega
end Go.Proofs.YtciimjjleglmaaaGreatDoor
namespace Go.Proofs.YtciimjjleglmaaaGreatDoor
open Go.RowKit
structure Tk where
  kind:Int
  word:Bs
  n:Int
  deriving Inhabited,DecidableEq
def TokV.tk(t:TokV):Tk:=⟨t.kind,t.word,t.n⟩
def Lx (s:Bs)(T:List Tk)(rest:Bs):Prop:= ∀i out,∃L:List Tok,L.map TokV.tk=T∧lexGo (s++rest).length i (s++rest) out=lexGo rest.length (i+s.length) rest (out++L)
section
variable {a b s rest : Bs} {A B : List Tk}
theorem Lx.nil:Lx [] [] rest:=fun i out=>⟨[],rfl,by simp⟩
theorem Lx.append(h:Lx a A (b++rest))(k:Lx b B rest):Lx (a++b) (A++B) rest:=fun i out=>by
  obtain⟨L,hL,e⟩:=h i out;obtain⟨M,hM,e'⟩:=k (i+a.length) (out++L);exact⟨L++M,by simp [hL,hM],by rw [List.append_assoc,e,e',List.length_append,Nat.add_assoc,List.append_assoc]⟩
end
theorem bHw{p:UInt8→Bool}: ∀{s:Bs},runB p s=s.length→ ∀b∈s,p b=true
  | [],_,b,hb=>by simp at hb
  | c::s,h,b,hb=>by
    rw [runB] at h;split at h
    · rename_i hc
      rcases List.mem_cons.1 hb with rfl | hb
      · exact hc
      · exact bHw (by simpa using h) b hb
    · simp at h
structure WordB (s:Bs):Prop where
  head: ∃b r,s=b::r∧mP b=true
  all: ∀b∈s,mL b=true
  len:s.length≤16
theorem numTok_kind{b:UInt8}{r:Bs}{t:TokR}(h:gU b r= .ok (some t)):t.1=2∧t.2.1=[]:=by
  unfold gU at h;dsimp only at h
  by_cases hb:(b==95)=true
  · simp only [hb,if_true] at h;split at h
    · cases h
    · split at h
      · cases h
      · simp only [Except.ok.injEq,Option.some.injEq] at h;subst h;exact⟨rfl,rfl⟩
  · simp only [hb,Bool.false_eq_true,if_false] at h;split at h
    · cases h
    · split at h
      · cases h
      · simp only [Except.ok.injEq,Option.some.injEq] at h;subst h;exact⟨rfl,rfl⟩
structure TokIs (k:Int) (wd:Bs) (v:Int) (s:Bs):Prop where
  len:wd.length≤s.length
  num:k=2→wd=[]
  word:k=1→v=0
  spell:k=1→wd=s→WordB s
theorem take_len(n:Nat)(s:Bs):(s.take n).length≤s.length:=by simp;omega
theorem bKk{s:Bs}{k v:Int}{wd:Bs}{m:Nat}(h:fT s= .ok (k,wd,v,m)):TokIs k wd v s:=by
  cases s with
  | nil=>cases h
  | cons b r=>
    simp only [fT] at h;split at h
    · cases h;exact⟨by simp,fun h=>absurd h (by decide),fun h=>absurd h (by decide),fun h=>absurd h (by decide)⟩
    · split at h
      · rename_i hl;split at h
        · cases h
        · cases h;rename_i h16;refine⟨take_len _ _,fun h=>absurd h (by decide),fun _=>rfl,fun _ e=>?_⟩;have hr:=jN mL (b::r)
          have he:runB mL (b::r)=(b::r).length:=by
            have:=congrArg List.length e;rw [List.length_take] at this;omega
          exact⟨⟨b,r,rfl,hl⟩,bHw he,by omega⟩
      · split at h
        · cases h
        · rename_i t' ht;simp only [Except.ok.injEq] at h;subst h;obtain⟨h1,h2⟩:=numTok_kind ht;simp only at h1 h2;subst h1;subst h2;exact⟨by simp,fun _=>rfl,fun h=>absurd h (by decide),fun h=>absurd h (by decide)⟩
        · split at h
          · cases h
          · cases h;exact⟨take_len _ _,fun h=>absurd h (by decide),fun h=>absurd h (by decide),fun h=>absurd h (by decide)⟩
theorem nM: ∀(f i:Nat) (s:Bs) (out:List Tok),oP (lexGo f i s out).2=true→ ∃L,(lexGo f i s out).1=out++L∧ ∀t∈L,t.word.length≤s.length
  | 0,_,_,out,_=>⟨[],by simp [lexGo],by simp⟩
  | _+1,_,[],out,_=>⟨[],by simp [lexGo],by simp⟩
  | f+1,i,b::r,out,h=>by
    unfold lexGo at h⊢;split at h
    · rename_i hb;rw [if_pos hb];obtain⟨L,h1,h2⟩:=nM f _ _ _ h;exact⟨L,h1,fun t ht=>by have:=h2 t ht;simp;omega⟩
    · rename_i hb;rw [if_neg hb];split at h
      · rename_i h35;rw [if_pos h35];obtain⟨L,h1,h2⟩:=nM f _ _ _ h;exact⟨L,h1,fun t ht=>by have:=h2 t ht;rw [List.length_drop] at this;omega⟩
      · rename_i h35;rw [if_neg h35];split at h
        · rename_i e he
          exact absurd h (by
            have:=tok_code he
            simp [oP,pH,this])
        · rename_i k wd v m ht;obtain⟨L,h1,h2⟩:=nM f _ _ _ h;refine⟨⟨k,i,wd,v⟩::L,by rw [h1];simp,fun t hm=>?_⟩
          rcases List.mem_cons.1 hm with rfl | hm
          · exact(bKk ht).len
          · have:=h2 t hm;rw [List.length_drop] at this;omega
theorem wC{s:Bs}(h:fC s=true):WordB s:=by
  simp only [fC,bAm,Bool.and_eq_true] at h;obtain⟨_,_,_,hf,hm⟩:=h;have hok:oP (lexP s).2=true:=hf;unfold lexP at hok hm
  by_cases hlen:65536<s.length
  · rw [if_pos hlen] at hok;exact absurd hok (by decide)
  · rw [if_neg hlen] at hok hm
    cases s with
    | nil=>simp [lexGo] at hm
    | cons b r=>
      rw [oR] at hok hm
      by_cases hb:mZ b=true
      · rw [if_pos hb] at hok hm;obtain⟨L,h1,h2⟩:=nM _ _ _ _ hok;rw [h1] at hm
        match L,hm,h2 with
        | [t],hm,h2=>
          simp only [List.nil_append,Bool.and_eq_true,beq_iff_eq] at hm;have:=h2 t (by simp);rw [hm.2] at this;simp at this;omega
      · rw [if_neg hb] at hok hm
        by_cases h35:(b==35)=true
        · rw [if_pos h35] at hok hm;have hp:1≤runB (· !=10) (b::r):=zE (bHj h35);obtain⟨L,h1,h2⟩:=nM _ _ _ _ hok;rw [h1] at hm
          match L,hm,h2 with
          | [t],hm,h2=>
            simp only [List.nil_append,Bool.and_eq_true,beq_iff_eq] at hm;have:=h2 t (by simp);rw [hm.2,List.length_drop] at this;simp at this;omega
        · rw [if_neg h35] at hok hm
          cases ht:fT (b::r) with
          | error e=>
            rw [ht] at hm;simp at hm
          | ok q=>
            obtain⟨k,wd,v,m⟩:=q;rw [ht] at hok hm;simp only at hok hm;obtain⟨L,h1,h2⟩:=nM _ _ _ _ hok;rw [h1] at hm
            have hw:k=1∧wd=b::r:=by
              cases L with
              | nil=>simpa using hm
              | cons t L=>simp at hm
            obtain⟨rfl,rfl⟩:=hw;exact(bKk ht).spell rfl rfl
end Go.Proofs.YtciimjjleglmaaaGreatDoor
namespace Go.Proofs.YtciimjjleglmaaaGreatDoor
open Go.RowKit
def fB.un (x:fB):fB:=⟨x.how,0,x.fn,x.name,x.nums⟩
def uS (l:List fB):List fB:=l.map fB.un
theorem yV(a b:List fB):uS (a++b)=uS a++uS b:=List.map_append
def OpenT:Tk:=⟨3,[40],0⟩
def CloseT:Tk:=⟨3,[41],0⟩
def kU (toks:List TokV)(k:Nat)(T:List Tk):Prop:=k≤toks.length∧(toks.drop k).map TokV.tk=T
section
variable {toks : List TokV} {k : Nat} {t : Tk} {T R : List Tk}
theorem kU.lt(h:kU toks k (t::T)):k<toks.length:=by
  rcases Nat.lt_or_ge k toks.length with h' | h'
  · exact h'
  · rw [kU,List.drop_of_length_le h'] at h;simp at h
theorem kU.peek(h:kU toks k (t::T)):(bT toks k).tk=t:=by
  have hk:=h.lt;rw [qK (List.getElem?_eq_getElem hk)];have:=h.2;rw [List.drop_eq_getElem_cons hk] at this;exact(List.cons.inj this).1
theorem kU.next(h:kU toks k (t::T)):kU toks (k+1) T:=by
  have hk:=h.lt;have:=h.2;rw [List.drop_eq_getElem_cons hk] at this;exact⟨hk,(List.cons.inj this).2⟩
theorem kU.kind(h:kU toks k (t::T)):(bT toks k).kind=t.kind:=by rw [←h.peek];rfl
theorem kU.word(h:kU toks k (t::T)):(bT toks k).word=t.word:=by rw [←h.peek];rfl
theorem kU.num(h:kU toks k (t::T)):(bT toks k).n=t.n:=by rw [←h.peek];rfl
theorem kU.nil(h:kU toks k []):bT toks k=⟨4,0,[],0⟩∧k=toks.length:=by
  have e:(toks.drop k).length=0:=by
    have:=congrArg List.length h.2
    simpa using this
  rw [List.length_drop] at e;have:=h.1;exact⟨xU (by omega),by omega⟩
theorem kU.skip: ∀(T:List Tk) {k:Nat},kU toks k (T++R)→kU toks (k+T.length) R
  | [],_,h=>h
  | t::T,k,h=>by
    have:=kU.skip T (kU.next (t:=t) (T:=T++R) h);rw [List.length_cons,show k+(T.length+1)=k+1+T.length from by omega];exact this
theorem kU.kindR(h:kU toks k R){c:Int}(hc:c≠4)(hR: ∀t∈R.head?,t.kind≠c):(bT toks k).kind≠c:=by
  cases R with
  | nil=>rw [h.nil.1];exact hc.symm
  | cons t R=>rw [h.kind];exact hR t rfl
end
def Mark (t:Tk):Prop:=t.kind=3∧(t.word=[47]∨t.word=[92]∨t.word=[46])
def Ps (T:List Tk)(I:List fB)(nest:Nat)(plain:Bool):Prop:=
  ∀{toks:List TokV} {e:Int} {r:vL} {k:Nat} {out:List fB} {st:Stk} {o:Nat} {R:List Tk},kU toks k (T++R)→(∀t∈R.head?,t.kind≠2)→o+nest≤32→yB toks e r k out st o→
    ∃out' S,(plain=true→S=[])∧uS (out'++S)=uS I∧vG toks e r (k+T.length) (out++out') (S.map some++st) o
structure Vb (T:List Tk) (it:fB) (two:Bool):Prop where
  head: ∃t T',T=t::T'∧t.kind≠2∧t.kind≠4∧pY t.word=true∧ ¬Mark t
  phrase: ∀{toks:List TokV} {k:Nat} {e:Int} {R:List Tk},kU toks k (T++R)→(∀t∈R.head?,¬Mark t)→oP (bX toks k e two).flt=true∧(bX toks k e two).next=k+T.length∧(bX toks k e two).it.un=it.un
def Hd (T:List Tk):Prop:= ∃t T',T=t::T'∧ ¬Mark t
theorem bKu(S:List fB)(st:Stk):nP (S.map some++st)=(S++(nP st).1,(nP st).2):=by
  induction S with
  | nil=>rfl
  | cons x S ih=>rw [List.map_cons,List.cons_append,nP,ih];rfl
theorem bKm{toks:List TokV}{R:List Tk}(hR: ∀t∈R.head?,t.kind≠2): ∀(ns:List Int) {k:Nat},kU toks k (ns.map (fun n=>(⟨2,[],n⟩:Tk))++R)→iG toks k=ns
  | [],k,h=>nums_end (kU.kindR (R:=R) h (by decide) hR)
  | n::ns,k,h=>by
    have h':kU toks k (⟨2,[],n⟩::(ns.map (fun n=>(⟨2,[],n⟩:Tk))++R)):=h;rw [vY h'.kind,bKm hR ns h'.next,h'.num]
theorem Ps.nums{ns:List Int}{a:Int}(h:ns≠[]):Ps (ns.map fun n=>⟨2,[],n⟩) [⟨1,a,0,[],ns⟩] 0 true:=by
  intro toks e r k out st o R hF hR _ hE;have hn:=bKm hR ns hF
  obtain⟨n,ns',rfl⟩: ∃n ns',ns=n::ns':=by
    cases ns with
    | nil=>exact absurd rfl h
    | cons n ns'=>exact⟨n,ns',rfl⟩
  have hk:(bT toks k).kind=2:=kU.kind (t:=⟨2,[],n⟩) (T:=_) hF;have:=e_num hE hk;rw [hn] at this;refine⟨[bDw toks k],[],fun _=>rfl,?_,?_⟩
  · simp [uS,bDw,fB.un,hn]
  · rw [List.length_map];exact this
theorem Ps.name{s:Bs}{a:Int}(h:fC s=true):Ps [⟨1,s,0⟩] [⟨2,a,0,s,[]⟩] 0 true:=by
  intro toks e r k out st o R hF hR _ hE;have hF':kU toks k (⟨1,s,0⟩::R):=hF;have:=e_name hE hF'.kind (by rw [hF'.word];exact h);refine⟨[yM toks k],[],fun _=>rfl,?_,this⟩;simp [uS,yM,fB.un,hF'.word]
theorem Ps.brk{T:List Tk}{I:List fB}{n:Nat}{p:Bool}(h:Ps T I n p):Ps (OpenT::(T++[CloseT])) I (n+1) true:=by
  intro toks e r k out st o R hF hR ho hE;have hF':kU toks k (OpenT::(T++(CloseT::R))):=by simpa using hF
  have h1:=(e_open hE hF'.kind hF'.word).1 (by omega);obtain⟨out',S,_,hu,hB⟩:=h hF'.next (by simp [CloseT]) (by omega) h1
  have hc:=kU.skip T hF'.next
  have:=b_close hB (by omega) hc.kind hc.word;rw [bKu] at this;refine⟨out'++S,[],fun _=>rfl,by rw [List.append_nil];exact hu,?_⟩;have e1:k+1+T.length+1=k+(OpenT::(T++[CloseT])).length:=by simp;omega
  rw [e1] at this;simp only [nP,List.append_nil,List.tail_cons,Nat.add_sub_cancel,List.append_assoc] at this;exact this
theorem Ps.mono{V T:List Tk}{I:List fB}{it:fB}{n:Nat}{p:Bool}(hv:Vb V it false)(hd:Hd T)(h:Ps T I n p):Ps (V++T) (I++[it]) n false:=by
  intro toks e r k out st o R hF hR ho hE;rw [List.append_assoc] at hF;obtain⟨t,V',hV,h2,h4,hvb,_⟩:=hv.head;obtain⟨u,T',hT,hm⟩:=hd;have hF':kU toks k (t::(V'++(T++R))):=by rw [hV] at hF;exact hF
  obtain⟨p1,p2,p3⟩:=hv.phrase (e:=e) hF (by rw [hT];simpa using hm);have h1:=(e_verb hE (by rw [hF'.kind];exact h2) (by rw [hF'.kind];exact h4) (by rw [hF'.word];exact hvb)).1 p1;rw [p2] at h1;obtain⟨out',S,_,hu,hB⟩:=h (kU.skip V hF) hR ho h1;refine⟨out',S++[(bX toks k e false).it],by simp,?_,?_⟩
  · rw [←List.append_assoc,yV,hu,yV];show uS I++[_]=_;rw [p3];rfl
  · rw [List.length_append,←Nat.add_assoc,List.map_append,List.append_assoc];exact hB
theorem Ps.whole{T:List Tk}{I:List fB}{n:Nat}{p:Bool}(h:Ps T I n p)(hn:n≤32){toks:List TokV}{e:Int}{k:Nat}(hF:kU toks k T):uS (yX toks e k).1=uS I∧(yX toks e k).2=(0,0):=by
  have hF':kU toks k (T++[]):=by rw [List.append_nil];exact hF
  obtain⟨out',S,_,hu,hB⟩:=h hF' (by simp) (by omega) (e_start (e:=e) hF.1);have:=r_end hB (by rw [(kU.skip T hF').nil.1]) (by omega);rw [bKu] at this;rw [this];simp only [nP,List.append_nil,List.nil_append];exact⟨hu,trivial⟩
end Go.Proofs.YtciimjjleglmaaaGreatDoor
