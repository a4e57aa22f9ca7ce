/- Texts of one proof, one behind the other: ParseB, ParseC, TysS, BuildA. -/
import Derived.Test.YtakphiannlpnfaaGreatDoorM2
import Derived.Test.YtakphiannlpnfaaGreatDoorM7
import Derived.Test.YtakphiannlpnfaaGreatDoorM4
import Derived.Test.YtakphiannlpnfaaGreatDoorM5
import Derived.Lib.Fields
namespace Go.Proofs.YtakphiannlpnfaaGreatDoor
section
open Go.RowKit Go.Proofs.Tryz
set_option maxRecDepth 100000
def qQ (x:InputV):Fact:=bEg.sl (.slice x.sides.addr x.sides.list.length x.sides.cap) x.sides.list
def iO (l:List InputV):Fact:=Fact.each l qQ
def bNf (x:LineV):Fact:=(jZ.sl (.slice x.items.addr x.items.list.length x.items.cap) x.items.list).and (lH x.items.list)
def kK (l:List LineV):Fact:=Fact.each l bNf
theorem bKf{F:List Fact}{l:List InputV}{x:InputV}(h:Has F (iO l))(hx:Has F (qQ x)):Has F (iO (l++[x])):=Has.each_snoc h hx
theorem bQl{F:List Fact}{l:List LineV}{x:LineV}(h:Has F (kK l))(hx:Has F (bNf x)):Has F (kK (l++[x])):=Has.each_snoc h hx
section
variable {toks : List TokV} {e : Int} {k : Nat} {acc : List jF}
theorem uM(hk:k<toks.length):toks.drop k=bG toks k::toks.drop (k+1)∧(bG toks k).at_=atP toks k e:=by
 have h:toks[k]?=some toks[k]:=List.getElem?_eq_getElem hk;rw [sN h,bDi h];exact⟨List.drop_eq_getElem_cons hk,rfl⟩
theorem bSf(hk:k<toks.length)(h2:(bG toks k).kind≠2)(hn:(bG toks k).kind≠1∨cZ (bG toks k).word=false){a:List rE}:mK (toks.drop k) a=(a,(atP toks k e,41)):=by
 rw [(uM (e:=e) hk).1,mK,if_pos ⟨h2,hn⟩,(uM (e:=e) hk).2]
theorem sides_ok(hn:(bG toks k).kind=2∨(bG toks k).kind=1∧cZ (bG toks k).word=true): ¬((bG toks k).kind≠2∧((bG toks k).kind≠1∨cZ (bG toks k).word=false)):=by
 rintro⟨h1,h2⟩
 rcases hn with hn | ⟨a,b⟩
 ·exact h1 hn
 ·rcases h2 with h2 | h2
  ·exact h2 a
  ·rw [b] at h2;cases h2
theorem bMv(hk:k<toks.length)(hn:(bG toks k).kind=2∨(bG toks k).kind=1∧cZ (bG toks k).word=true){a:List rE}(h4:a.length=4):mK (toks.drop k) a=(a,(atP toks k e,45)):=by
 rw [(uM (e:=e) hk).1,mK,if_neg (sides_ok hn),if_pos h4,(uM (e:=e) hk).2]
theorem bNl(hk:k<toks.length)(hn:(bG toks k).kind=2∨(bG toks k).kind=1∧cZ (bG toks k).word=true){a:List rE}(h4:a.length≠4):mK (toks.drop k) a=mK (toks.drop (k+1)) (a++[⟨(bG toks k).word,(bG toks k).n⟩]):=by
 rw [(uM (e:=0) hk).1,mK,if_neg (sides_ok hn),if_neg h4]
theorem sides_end(hk:toks.length≤k){a:List rE}:mK (toks.drop k) a=(a,(0,0)):=by
 rw [List.drop_of_length_le hk];rfl
variable {p : gQ} {n : Nat} {over : Bool}
theorem bGr(hn:n=64):gB toks e p n over=(p,(atP toks 0 e,45)):=by rw [gB,if_pos hn]
variable (hn : n ≠ 64)
include hn
theorem bMd(hl:256<toks.length):gB toks e p n over=(p,(atP toks 256 e,45)):=by rw [gB,if_neg hn,if_pos hl]
variable (hl : ¬ 256 < toks.length)
include hl
theorem vM(h:over=true∨isW (bG toks 0) [105,110]=true∧p.lines≠[]):gB toks e p n over=(p,(atP toks 0 e,40)):=by rw [gB,if_neg hn,if_neg hl,if_pos h]
variable (ho : over = false)
include ho
theorem i_in(hi:isW (bG toks 0) [105,110]=true)(h0:p.lines=[]):gB toks e p n over=(⟨p.inputs++[(kV toks e).1],p.lines⟩,(kV toks e).2):=by
 rw [gB,if_neg hn,if_neg hl,if_neg (by rw [ho,h0];simp),if_pos hi]
variable (hi : isW (bG toks 0) [105, 110] = false)
include hi
theorem i_out(hu:isW (bG toks 0) [111,117,116]=true):gB toks e p n over=(⟨p.inputs,p.lines++[(tU toks e [] 1).1]⟩,(tU toks e [] 1).2):=by
 rw [gB,if_neg hn,if_neg hl,if_neg ai2,if_neg ag4,if_pos hu]
variable (hu : isW (bG toks 0) [111, 117, 116] = false)
include hu
theorem i_none(h:(bG toks 0).kind≠1∨cZ (bG toks 0).word=false):gB toks e p n over=(p,(atP toks 0 e,40)):=by
 rw [gB,if_neg hn,if_neg hl,if_neg ai2,if_neg ag4,if_neg (by rw [hu];simp),if_pos h]
variable (h1 : (bG toks 0).kind = 1) (hm : cZ (bG toks 0).word = true)
include h1 hm
theorem i_want(h:(bG toks 1).kind≠3∨(bG toks 1).word≠[58]):gB toks e p n over=(p,(atP toks 1 e,42)):=by
 rw [gB,if_neg hn,if_neg hl,if_neg ai2,if_neg ag4,if_neg (by rw [hu];simp),if_neg (by rw [h1,hm];simp),if_pos h]
theorem i_line(h3:(bG toks 1).kind=3)(hw:(bG toks 1).word=[58]):gB toks e p n over=(⟨p.inputs,p.lines++[(tU toks e (bG toks 0).word 2).1]⟩,(tU toks e (bG toks 0).word 2).2):=by
 rw [gB,if_neg hn,if_neg hl,if_neg ai2,if_neg ag4,if_neg (by rw [hu];simp),if_neg (by rw [h1,hm];simp),if_neg (by rw [h3,hw];simp)]
end
theorem bJk{toks:List TokV}{e:Int}{p:gQ}{n:Nat}{over:Bool}(h:mT (gB toks e p n over).2=true):n≠64∧(gB toks e p n over).1.inputs.length+(gB toks e p n over).1.lines.length≤p.inputs.length+p.lines.length+1:=by
 refine⟨fun hn=>?_,?_⟩
 ·rw [bGr hn] at h;simp [mT,nU] at h
 ·unfold gB
  repeat' split
  all_goals (first | (simp;done) | (simp;omega))
theorem isW_ne{t:TokV}{w:Bs}(h:t.kind≠1):isW t w=false:=by simp [isW,h]
theorem isW_is{t:TokV}{w:Bs}(h:t.kind=1)(hw:t.word=w):isW t w=true:=by simp [isW,h,hw]
theorem isW_no{t:TokV}{w:Bs}(hw:t.word≠w):isW t w=false:=by simp [isW,hw]
theorem bAg{i:List hO}{l:List LineV}(h: ¬0<l.length):false=qV ⟨i,l.map LineV.ln⟩:=by
 have:l=[]:=List.eq_nil_of_length_eq_zero n9;subst this;rfl
theorem zU{i:List hO}{l:List LineV}{x:LineV}(h:l[l.length-1]?=some x):(x.name==[])=qV ⟨i,l.map LineV.ln⟩:=by
 unfold qV;dsimp only;rw [List.getLast?_map,List.getLast?_eq_getElem?,h];rfl
theorem bJi{toks:List TokV}{n:Nat}(hn:n=(dG toks).length)(h:toks.length≤n):toks.drop n=toks.drop ((dG toks).length+1):=by
 rw [List.drop_of_length_le h,List.drop_of_length_le n9]
theorem bCl{α β:Type}{f:α→β}{l:List α}(h:0<l.length):l.map f≠[]:=fun e=>by
 have:l=[]:=List.map_eq_nil_iff.1 e;subst this;simp at h
theorem map_nil{α β:Type}{f:α→β}{l:List α}(h: ¬0<l.length):l.map f=[]:=by
 have:l=[]:=List.eq_nil_of_length_eq_zero n9;subst this;rfl
def progFct(x:ProgV):Fact:=((jT.sl (.slice x.inputs.addr x.inputs.list.length x.inputs.cap) x.inputs.list).and (iO x.inputs.list)).and ((nM.sl (.slice x.lines.addr x.lines.list.length x.lines.cap) x.lines.list).and (kK x.lines.list))
theorem zH: ∀(f i:Nat) (s:Bs) (out:List Tok),(lexGo f i s out).1.length≤out.length+s.length
 | 0,_,_,out=>by simp [lexGo]
 | _+1,_,[],out=>by simp [lexGo]
 | f+1,i,b::r,out=>by
  unfold lexGo;split
  ·have:=zH f (i+1) r out;simp only [List.length_cons];omega
  ·split
   ·have:=zH f (i+runB (· !=10) (b::r)) ((b::r).drop (runB (· !=10) (b::r))) out;rw [List.length_drop] at this;omega
   ·split
    ·simp
    ·rename_i k wd v m ht;have h1:=zH f (i+m) ((b::r).drop m) (out++[⟨k,i,wd,v⟩]);have h2:=wK ht;simp only [List.length_append,List.length_drop,List.length_cons,List.length_nil] at h1 h2⊢;omega
theorem lex_count(s:Bs):(gA s).1.length≤65536:=by
 unfold gA;split
 ·simp
 ·have:=zH s.length 0 s [];simp only [List.length_nil] at this;omega
theorem bJf{toks:List TokV}(h: ∀t∈toks,bEi t): ∀t∈dG toks,bEi t:=fun t ht=>h t (List.mem_of_mem_take (by rw [bCu];exact ht))
theorem p_start{text:Bs}{r:gQ×Flt}(hR:jV text=r)(h:mT (gA text).2=true):PInv r text.length (gA text).1 ⟨[],[]⟩ 0 false:=⟨_,Nat.le_refl _,by rw [←hR,jV,if_pos h]⟩
theorem p_lexed{text:Bs}{r:gQ×Flt}(hR:jV text=r)(h:mT (gA text).2=false):r=(⟨[],[]⟩,(gA text).2):=by rw [←hR,jV,if_neg (by rw [h];simp)]
theorem uI{α:Type}{l:List α}(h:0<l.length):l≠[]:=List.length_pos_iff.1 h
theorem bJh{α:Type}{l:List α}(h:((l.length:Nat):Int)=0):l=[]:=List.eq_nil_of_length_eq_zero n9
theorem kD:(prog.info? 50).bind (·.zero)=some (.agg #[.string (bs []),.int .i64 0,.slice none 0 0]):=o0
theorem tX(s0:ByteArray)(z1:Int):prog.built 50 [(1,.int .i64 z1),(0,.string s0)]=some #[.string s0,.int .i64 z1,.slice none 0 0]:=o0
theorem oR(s0:ByteArray)(z1:Int):prog.built 76 [(0,.string s0),(1,.int .i64 z1)]=some #[.string s0,.int .i64 z1]:=o0
theorem pF(z1:Int):prog.built 54 [(1,.int .i64 z1)]=some #[.string (bs []),.int .i64 z1,.slice none 0 0]:=o0
theorem rT:(prog.info? 54).bind (·.zero)=some (.agg #[.string (bs []),.int .i64 0,.slice none 0 0]):=o0
theorem bOl(bl:Nat)(A:Option Addr)(c:Nat)(toks:List TokV)(k0:Nat)(e:Int)(h0:0<toks.length)(hl:toks.length≤1000)(hw: ∀k,(bG toks k).word.length≤65536):cN prog 62 [.pointer (some ⟨bl,0,none⟩)] [.obj bl (.cells [.slice A toks.length c,.int .i64 (k0:Nat),.int .i64 e].toArray 110)] [lS.sl (.slice A toks.length c) toks,iD] (fun(x:InputV×Nat)=> .tuple #[.agg #[.string (bs x.1.name),.int .i64 x.1.at_,.slice x.1.sides.addr x.1.sides.list.length x.1.sides.cap],.agg #[.int .i64 (kV toks e).2.1,.int .i64 (kV toks e).2.2]]) (fun(x:InputV×Nat)=>[.obj bl (.cells [.slice A toks.length c,.int .i64 (x.2:Nat),.int .i64 e].toArray 110)]) (fun(x:InputV×Nat)=>[qQ x.1,Fact.pure (x.1.inp=(kV toks e).1)]):=by
 have hT:=dY;generalize hR:kV toks e=r;refine k8 func62 ntmps62 ?_;intro β hM;refine g2 ?_;refine j6 kD fun b1=>?_;refine j6 bCd fun b2=>?_;refine g13 ?_;refine bD func101 (at_spec bl A c toks (1) e) rfl rfl (.c0 .nil) ⟨d7,j2⟩ fun _=>?_;refine one ?_;refine bD func60 (hJ bl A c toks (1) e) rfl rfl (.c0 .nil) ⟨d7,j2⟩ fun _=>?_;refine one ?_;refine ss (k7 (tX _ _)) ?_;refine j6 kD fun b3=>?_;refine g5 ?_;refine bU _ _ [(true,0),(true,1),(true,2),(true,3),(true,4),(true,5),(true,6),(true,7),(true,8),(true,9)] bX o6 (.c0 (.c0 (.c0 (.c0 .nil)))) bA.self ?_;refine g12 ?_;refine fE (fun hc24=>?_) fun hc24=>?_
 ·refine cL<|bU _ _ [(true,0),(true,1),(false,2),(false,3),(false,4)] bX o6 (.c0 (.c0 .nil)) bA.self ?_;refine g3 ?_;refine bD func61 (bY bl A c toks (1) e _) rfl rfl (.c1 .nil) ⟨d7,j2⟩ fun _=>?_;refine g11 ?_;have hr:=hR.symm.trans (by rw [kV,if_pos n9]);subst hr;exact rs2 (⟨(bG toks 1).word,atP toks 1 e,⟨none,0,[]⟩⟩,_) ⟨cQ,j3 rfl,j2⟩
 refine g6 ?_;refine bD func60 (hJ bl A c toks (1) e) rfl rfl (.c1 .nil) ⟨d7,j2⟩ fun _=>?_;refine g3 ?_;refine bEt (fun hg32=>?_) fun hg32=>?_
 ·refine g9 ?_;refine bU _ _ [(true,0),(true,1),(false,2),(false,3),(false,4)] bX o6 (.c0 (.c0 .nil)) bA.self ?_;refine g3 ?_;refine bD func61 (bY bl A c toks (1) e _) rfl rfl (.c0 .nil) ⟨d7,j2⟩ fun _=>?_;refine g11 ?_;have hr:=hR.symm.trans ae1;subst hr;exact rs2 (⟨(bG toks 1).word,atP toks 1 e,⟨none,0,[]⟩⟩,_) ⟨cQ,j3 rfl,j2⟩
 refine g2 ?_;refine bD func63 (mX _ (Nat.le_trans (hw _) p7)) rfl rfl .nil ⟨d8,j2⟩ fun _=>?_;refine g4 ?_;refine jB (fun hc37=>?_) fun hc37=>?_
 ·refine cL<|bU _ _ [(true,0),(true,1),(false,2),(false,3),(false,4)] bX o6 (.c0 (.c0 .nil)) bA.self ?_;refine g3 ?_;refine bD func61 (bY bl A c toks (1) e _) rfl rfl (.c0 .nil) ⟨d7,j2⟩ fun _=>?_;refine g11 ?_;have hr:=hR.symm.trans ae1;subst hr;exact rs2 (⟨(bG toks 1).word,atP toks 1 e,⟨none,0,[]⟩⟩,_) ⟨cQ,j3 rfl,j2⟩
 refine g12 ?_;refine cH (t:=76) bEg ?_;refine cE (ι:=Nat×List jF×Option Addr×Nat) [(0,_),(2,_),(3,_),(4,_)] ⟨rfl,rfl,rfl,rfl,j2⟩ (fun _=>[]) (fun⟨k,sides,S,c2⟩=>[.obj bl (.cells [.slice A toks.length c,.int .i64 (k:Nat),.int .i64 e].toArray 110),.obj b3 (.cells [.string (bs (bG toks 1).word),.int .i64 (atP toks 1 e),.slice S sides.length c2].toArray 50),bEg.row (.slice S sides.length c2) 76 sides]) (fun⟨k,sides,S,c2⟩=>[Fact.pure (mK (toks.drop k) (sides.map jF.sd)=mK (toks.drop 2) []∧k≤toks.length∧sides.length≤4)]) (fun⟨k,sides,S,c2⟩=>toks.length-k) (2,[],none,0) j2 (.c1 (.c1 (.c0 .nil))) ⟨j3 (⟨rfl,iP (toks:=toks) (k:=1) n9,o9⟩),j2⟩ ?_;rintro⟨k,sides,S,c2⟩;dsimp only;refine bC d7 fun hinv8=>?_;refine g2 ?_;refine bU _ _ [(true,0),(true,1),(true,2),(true,3),(true,4),(true,5),(true,6),(true,7),(true,8),(true,9)] bX o6 (.c0 (.c0 (.c0 (.c0 (.c0 .nil))))) bA.self ?_;refine g12 ?_;refine dM (fun hc53=>?_) fun hc53=>?_
 ·refine g7 ?_;refine bD func60 (hJ bl A c toks (k) e) rfl rfl (.c0 .nil) ⟨d8,j2⟩ fun _=>?_;refine j6 yS fun b4=>?_;refine g10 ?_;refine bEt (fun hg66=>?_) fun hg66=>?_
  ·refine g4 ?_;refine bEt (fun hg70=>?_) fun hg70=>?_
   ·refine g10 ?_;refine bU _ _ [(true,0),(true,1),(false,2),(false,3),(false,4)] bX o6 (.c0 (.c0 (.c0 (.c0 .nil)))) bA.self ?_;refine g3 ?_;refine bD func61 (bY bl A c toks (k) e _) rfl rfl (.c1 .nil) ⟨d8,j2⟩ fun _=>?_;refine g16 ?_;have hr:=hR.symm.trans ab6;subst hr;refine bE kT5 ?_;exact rs2 (⟨(bG toks 1).word,atP toks 1 e,⟨_,_,sides⟩⟩,_) ⟨d7,j3 rfl,j2⟩
   refine g2 ?_;refine bD func63 (mX _ (Nat.le_trans (hw _) p7)) rfl rfl .nil ⟨d9,j2⟩ fun _=>?_;refine g5 ?_;refine jB (fun hc76=>?_) fun hc76=>?_
   ·refine cL<|bU _ _ [(true,0),(true,1),(false,2),(false,3),(false,4)] bX o6 (.c0 (.c0 (.c0 (.c0 .nil)))) bA.self ?_;refine g3 ?_;refine bD func61 (bY bl A c toks (k) e _) rfl rfl (.c1 .nil) ⟨d8,j2⟩ fun _=>?_;refine g16 ?_;have hr:=hR.symm.trans ab6;subst hr;refine bE kT5 ?_;exact rs2 (⟨(bG toks 1).word,atP toks 1 e,⟨_,_,sides⟩⟩,_) ⟨d7,j3 rfl,j2⟩
   refine g11 ?_;refine fE (fun hc83=>?_) fun hc83=>?_
   ·refine cL<|bU _ _ [(true,0),(true,1),(false,2),(false,3),(false,4)] bX o6 (.c0 (.c0 (.c0 (.c0 .nil)))) bA.self ?_;refine g3 ?_;refine bD func61 (bY bl A c toks (k) e _) rfl rfl (.c1 .nil) ⟨d8,j2⟩ fun _=>?_;refine g16 ?_;have hr:=hR.symm.trans aa6;subst hr;refine bE kT5 ?_;exact rs2 (⟨(bG toks 1).word,atP toks 1 e,⟨_,_,sides⟩⟩,_) ⟨d7,j3 rfl,j2⟩
   refine g9 ?_;refine ss (k7 (oR _ _)) ?_;refine bIm (m:=⟨_,_⟩) rfl rfl rfl rfl rfl fun b5=>?_;refine bIk kT4 (cA .head rfl) rfl rfl rfl rfl rfl rfl rfl w9 fun A6 c7=>?_;refine g11 ?_;refine inc (k+1) ?_;refine g5 ?_;exact dN (k+1,sides++[⟨(bG toks k).word,(bG toks k).n⟩],_,_) z7 j2 ⟨rfl,rfl,rfl,rfl,j2⟩ (.c0 (.c0 (.c0 (.c2 (.c2 .nil))))) ⟨j3 (⟨by rw [←hinv8.1,List.map_append];exact(bNl n9 ab8 r8).symm,by dsimp only;omega,by simp;omega⟩),j2⟩ (bA.drop 1)
  refine g24 ?_;refine fE (fun hc83=>?_) fun hc83=>?_
  ·refine cL<|bU _ _ [(true,0),(true,1),(false,2),(false,3),(false,4)] bX o6 (.c0 (.c0 (.c0 (.c0 .nil)))) bA.self ?_;refine g3 ?_;refine bD func61 (bY bl A c toks (k) e _) rfl rfl (.c1 .nil) ⟨d8,j2⟩ fun _=>?_;refine g16 ?_;have hr:=hR.symm.trans aa6;subst hr;refine bE kT5 ?_;exact rs2 (⟨(bG toks 1).word,atP toks 1 e,⟨_,_,sides⟩⟩,_) ⟨d7,j3 rfl,j2⟩
  refine g9 ?_;refine ss (k7 (oR _ _)) ?_;refine bIm (m:=⟨_,_⟩) rfl rfl rfl rfl rfl fun b8=>?_;refine bIk kT4 (cA .head rfl) rfl rfl rfl rfl rfl rfl rfl w9 fun A9 c10=>?_;refine g11 ?_;refine inc (k+1) ?_;refine g5 ?_;exact dN (k+1,sides++[⟨(bG toks k).word,(bG toks k).n⟩],_,_) z7 j2 ⟨rfl,rfl,rfl,rfl,j2⟩ (.c0 (.c0 (.c0 (.c2 (.c2 .nil))))) ⟨j3 (⟨by rw [←hinv8.1,List.map_append];exact(bNl n9 ab8 r8).symm,by dsimp only;omega,by simp;omega⟩),j2⟩ (bA.drop 1)
 refine g8 ?_;refine ss (k7 (yN)) ?_;refine g5 ?_;have hr:=hR.symm.trans (by rw [kV,if_neg n9,if_neg ae7,←hinv8.1,sides_end n9]);subst hr;refine bE kT4 ?_;exact rs2 (⟨(bG toks 1).word,atP toks 1 e,⟨_,_,sides⟩⟩,_) ⟨d7,j3 rfl,j2⟩
theorem bAh(bl:Nat)(A:Option Addr)(c:Nat)(toks:List TokV)(e:Int)(bp:Nat)(I:Option Addr)(ci:Nat)(ins:List InputV)(J:Option Addr)(cj:Nat)(lns:List LineV)(n:Nat)(over:Bool)(h0:0<toks.length)(hn:n≤64)(hil:ins.length+lns.length≤n)(hw: ∀k,(bG toks k).word.length≤65536):cN prog 29 [.pointer (some ⟨bl,0,none⟩),.pointer (some ⟨bp,0,none⟩),.int .i64 (n:Nat),.bool over] [.obj bl (.cells [.slice A toks.length c,.int .i64 (0:Nat),.int .i64 e].toArray 110),.obj bp (.cells [.slice I ins.length ci,.slice J lns.length cj].toArray 25),jT.row (.slice I ins.length ci) 50 ins,nM.row (.slice J lns.length cj) 54 lns] [lS.sl (.slice A toks.length c) toks,iD,iO ins,kK lns] (fun(_:List InputV×List LineV×(Option Addr×Nat)×(Option Addr×Nat)×Nat)=> .agg #[.int .i64 (gB toks e ⟨ins.map InputV.inp,lns.map LineV.ln⟩ n over).2.1,.int .i64 (gB toks e ⟨ins.map InputV.inp,lns.map LineV.ln⟩ n over).2.2]) (fun(x:List InputV×List LineV×(Option Addr×Nat)×(Option Addr×Nat)×Nat)=>[.obj bl (.cells [.slice A toks.length c,.int .i64 (x.2.2.2.2:Nat),.int .i64 e].toArray 110),.obj bp (.cells [.slice x.2.2.1.1 x.1.length x.2.2.1.2,.slice x.2.2.2.1.1 x.2.1.length x.2.2.2.1.2].toArray 25),jT.row (.slice x.2.2.1.1 x.1.length x.2.2.1.2) 50 x.1,nM.row (.slice x.2.2.2.1.1 x.2.1.length x.2.2.2.1.2) 54 x.2.1]) (fun(x:List InputV×List LineV×(Option Addr×Nat)×(Option Addr×Nat)×Nat)=>[iO x.1,kK x.2.1,Fact.pure ((⟨x.1.map InputV.inp,x.2.1.map LineV.ln⟩:gQ)=(gB toks e ⟨ins.map InputV.inp,lns.map LineV.ln⟩ n over).1)]):=by
 have hT:=dY;generalize hR:gB toks e ⟨ins.map InputV.inp,lns.map LineV.ln⟩ n over=r;refine k8 func29 ntmps29 ?_;intro β hM;refine g2 ?_;refine j6 bCd fun b1=>?_;refine g5 ?_;refine bD func60 (hJ bl A c toks (0) e) rfl rfl (.c1 .nil) ⟨d7,j2⟩ fun _=>?_;refine j6 yS fun b2=>?_;refine g4 ?_;refine bU _ _ [(true,0),(true,1),(true,2),(true,3),(true,4),(true,5),(true,6),(true,7),(true,8),(true,9),(true,10),(true,11),(true,12),(true,13),(true,14),(true,15),(true,16),(true,17)] bX o6 (.c0 (.c0 (.c0 (.c0 (.c0 (.c0 .nil)))))) bA.self ?_;refine g4 ?_;refine mY (fun hg20=>?_) fun hg20=>?_
 ·refine g7 ?_;refine bL (t':=true) (by rw [hg20];rfl) ?_;refine g6 ?_;refine dP (fun hg10=>?_) (fun hg10=>?_)
  ·have hg10:(bG toks (0)).word=([105,110]:Bs):=eq_of_beq hg10;have hin:=isW_is (t:=bG toks 0) (w:=[105,110]) ‹_› ‹_›;refine one ?_;refine dP (fun hg11=>?_) (fun hg11=>?_)
   ·have hg11:(bG toks (0)).word=([111,117,116]:Bs):=eq_of_beq hg11;have hout:=isW_is (t:=bG toks 0) (w:=[111,117,116]) ‹_› ‹_›;refine g11 ?_;refine fE (fun hc33=>?_) fun hc33=>?_
    ·refine g3 ?_;refine bD func61 (bY bl A c toks (0) e _) rfl rfl (.c1 .nil) ⟨d7,j2⟩ fun _=>?_;refine g6 ?_;have hr:=hR.symm.trans (bGr n9);subst hr;exact rs1 (ins,lns,(_,_),(_,_),_) ⟨d9,e6,j3 (rfl),j2⟩
    refine g11 ?_;refine dM (fun hc38=>?_) fun hc38=>?_
    ·refine g11 ?_;refine bD func61 (bY bl A c toks (256) e _) rfl rfl (.c0 .nil) ⟨d7,j2⟩ fun _=>?_;refine g6 ?_;have hr:=hR.symm.trans (bMd n9 n9);subst hr;exact rs1 (ins,lns,(_,_),(_,_),_) ⟨d9,e6,j3 (rfl),j2⟩
    refine g4 ?_;refine dP (fun hg52=>?_) (fun hg52=>?_)
    ·refine g17 ?_;refine bD func61 (bY bl A c toks (0) e _) rfl rfl (.c1 .nil) ⟨d7,j2⟩ fun _=>?_;refine g6 ?_;have hr:=hR.symm.trans (vM n9 n9 aa1);subst hr;exact rs1 (ins,lns,(_,_),(_,_),_) ⟨d9,e6,j3 (rfl),j2⟩
    refine g13 ?_;refine dM (fun hc50=>?_) fun hc50=>?_
    ·refine g3 ?_;refine bD func61 (bY bl A c toks (0) e _) rfl rfl (.c1 .nil) ⟨d7,j2⟩ fun _=>?_;refine g6 ?_;have hr:=hR.symm.trans (vM n9 n9 aa1);subst hr;exact rs1 (ins,lns,(_,_),(_,_),_) ⟨d9,e6,j3 (rfl),j2⟩
    refine g9 ?_;refine j6 kD fun b3=>?_;refine g5 ?_;refine bD func62 (bOl bl A c toks 0 e h0 n9 hw) rfl rfl (.c2 .nil) ⟨d7,d8,j2⟩ fun⟨x4,k5⟩=>?_;refine bC d8 fun hx=>?_;dsimp only at hx;refine bB (iO (ins++[x4])) (bKf e7 d7) ?_;refine g8 ?_;refine nX 10 _ _ [(true,0),(true,1),(true,2),(true,3),(true,4),(true,5),(false,6),(false,7),(true,8),(true,9)] bX o6 (.c0 (.c0 (.c0 (.c0 (.c0 (.c1 .nil)))))) bA.self ?_;refine g7 ?_;refine bEs (m:=x4) rfl rfl rfl rfl rfl fun b6=>?_;refine g2 ?_;refine bEm kT6 (cA .head rfl) rfl rfl rfl rfl rfl rfl rfl w9 fun A7 c8=>?_;refine g16 ?_;have hr:=hR.symm.trans (i_in n9 n9 ‹_› hin (map_nil n9));subst hr;exact rs1 ((ins++[x4]),lns,(_,_),(_,_),_) ⟨d7,e9,j3 (by rw [List.map_append,←hx];rfl),j2⟩
   have hg11:(bG toks (0)).word≠([111,117,116]:Bs):=fun h=>absurd (beq_iff_eq.2 h) ae6;have hout:=isW_no (t:=bG toks 0) (w:=[111,117,116]) ‹_›;refine g11 ?_;refine fE (fun hc33=>?_) fun hc33=>?_
   ·refine g3 ?_;refine bD func61 (bY bl A c toks (0) e _) rfl rfl (.c1 .nil) ⟨d7,j2⟩ fun _=>?_;refine g6 ?_;have hr:=hR.symm.trans (bGr n9);subst hr;exact rs1 (ins,lns,(_,_),(_,_),_) ⟨d9,e6,j3 (rfl),j2⟩
   refine g11 ?_;refine dM (fun hc38=>?_) fun hc38=>?_
   ·refine g11 ?_;refine bD func61 (bY bl A c toks (256) e _) rfl rfl (.c0 .nil) ⟨d7,j2⟩ fun _=>?_;refine g6 ?_;have hr:=hR.symm.trans (bMd n9 n9);subst hr;exact rs1 (ins,lns,(_,_),(_,_),_) ⟨d9,e6,j3 (rfl),j2⟩
   refine g4 ?_;refine dP (fun hg52=>?_) (fun hg52=>?_)
   ·refine g17 ?_;refine bD func61 (bY bl A c toks (0) e _) rfl rfl (.c1 .nil) ⟨d7,j2⟩ fun _=>?_;refine g6 ?_;have hr:=hR.symm.trans (vM n9 n9 aa1);subst hr;exact rs1 (ins,lns,(_,_),(_,_),_) ⟨d9,e6,j3 (rfl),j2⟩
   refine g13 ?_;refine dM (fun hc50=>?_) fun hc50=>?_
   ·refine g3 ?_;refine bD func61 (bY bl A c toks (0) e _) rfl rfl (.c1 .nil) ⟨d7,j2⟩ fun _=>?_;refine g6 ?_;have hr:=hR.symm.trans (vM n9 n9 aa1);subst hr;exact rs1 (ins,lns,(_,_),(_,_),_) ⟨d9,e6,j3 (rfl),j2⟩
   refine g9 ?_;refine j6 kD fun b9=>?_;refine g5 ?_;refine bD func62 (bOl bl A c toks 0 e h0 n9 hw) rfl rfl (.c2 .nil) ⟨d7,d8,j2⟩ fun⟨x10,k11⟩=>?_;refine bC d8 fun hx=>?_;dsimp only at hx;refine bB (iO (ins++[x10])) (bKf e7 d7) ?_;refine g8 ?_;refine nX 10 _ _ [(true,0),(true,1),(true,2),(true,3),(true,4),(true,5),(false,6),(false,7),(true,8),(true,9)] bX o6 (.c0 (.c0 (.c0 (.c0 (.c0 (.c1 .nil)))))) bA.self ?_;refine g7 ?_;refine bEs (m:=x10) rfl rfl rfl rfl rfl fun b12=>?_;refine g2 ?_;refine bEm kT6 (cA .head rfl) rfl rfl rfl rfl rfl rfl rfl w9 fun A13 c14=>?_;refine g16 ?_;have hr:=hR.symm.trans (i_in n9 n9 ‹_› hin (map_nil n9));subst hr;exact rs1 ((ins++[x10]),lns,(_,_),(_,_),_) ⟨d7,e9,j3 (by rw [List.map_append,←hx];rfl),j2⟩
  have hg10:(bG toks (0)).word≠([105,110]:Bs):=fun h=>absurd (beq_iff_eq.2 h) (by rw [show((bG toks (0)).word==([105,110]:Bs))=false from hg10];simp);have hin:=isW_no (t:=bG toks 0) (w:=[105,110]) ‹_›;refine one ?_;refine dP (fun hg11=>?_) (fun hg11=>?_)
  ·have hg11:(bG toks (0)).word=([111,117,116]:Bs):=eq_of_beq hg11;have hout:=isW_is (t:=bG toks 0) (w:=[111,117,116]) ‹_› ‹_›;refine g11 ?_;refine fE (fun hc33=>?_) fun hc33=>?_
   ·refine g3 ?_;refine bD func61 (bY bl A c toks (0) e _) rfl rfl (.c1 .nil) ⟨d7,j2⟩ fun _=>?_;refine g6 ?_;have hr:=hR.symm.trans (bGr n9);subst hr;exact rs1 (ins,lns,(_,_),(_,_),_) ⟨d9,e6,j3 (rfl),j2⟩
   refine g11 ?_;refine dM (fun hc38=>?_) fun hc38=>?_
   ·refine g11 ?_;refine bD func61 (bY bl A c toks (256) e _) rfl rfl (.c0 .nil) ⟨d7,j2⟩ fun _=>?_;refine g6 ?_;have hr:=hR.symm.trans (bMd n9 n9);subst hr;exact rs1 (ins,lns,(_,_),(_,_),_) ⟨d9,e6,j3 (rfl),j2⟩
   refine g4 ?_;refine dP (fun hg52=>?_) (fun hg52=>?_)
   ·refine g17 ?_;refine bD func61 (bY bl A c toks (0) e _) rfl rfl (.c1 .nil) ⟨d7,j2⟩ fun _=>?_;refine g6 ?_;have hr:=hR.symm.trans (vM n9 n9 aa1);subst hr;exact rs1 (ins,lns,(_,_),(_,_),_) ⟨d9,e6,j3 (rfl),j2⟩
   refine g40 ?_;refine g7 ?_;refine ss (k7 (pF _)) ?_;refine j6 rT fun b15=>?_;refine g24 ?_;refine bD func64 (bQp bl A c toks (1) e n9 n9 hw) rfl rfl (.c0 .nil) ⟨d7,d8,j2⟩ fun⟨C16,e17,its18,k19⟩=>?_;refine bC d9 fun hits=>?_;dsimp only at hits;refine bB (kK (lns++[(⟨[],(bG toks 0).at_,⟨C16,e17,its18⟩⟩:LineV)])) (bQl e9 (Has.and d7 d8)) ?_;refine g9 ?_;refine nX 10 _ _ [(true,0),(true,1),(true,2),(true,3),(true,4),(true,5),(false,6),(false,7),(true,8),(true,9)] bX o6 (.c0 (.c0 (.c0 (.c0 (.c0 (.c0 .nil)))))) bA.self ?_;refine g7 ?_;refine yQ (m:=(⟨[],(bG toks 0).at_,⟨C16,e17,its18⟩⟩:LineV)) rfl rfl rfl rfl rfl fun b20=>?_;refine g2 ?_;refine tM kT7 (cA .head rfl) rfl rfl rfl rfl rfl rfl rfl w9 fun A21 c22=>?_;refine g14 ?_;have hr:=hR.symm.trans (i_out n9 n9 ‹_› hin hout);subst hr;exact rs1 (ins,(lns++[(⟨[],(bG toks 0).at_,⟨C16,e17,its18⟩⟩:LineV)]),(_,_),(_,_),_) ⟨e9,d7,j3 (by rw [List.map_append,tU,←hits];rfl),j2⟩
  have hg11:(bG toks (0)).word≠([111,117,116]:Bs):=fun h=>absurd (beq_iff_eq.2 h) ae6;have hout:=isW_no (t:=bG toks 0) (w:=[111,117,116]) ‹_›;refine g11 ?_;refine fE (fun hc33=>?_) fun hc33=>?_
  ·refine g3 ?_;refine bD func61 (bY bl A c toks (0) e _) rfl rfl (.c1 .nil) ⟨d7,j2⟩ fun _=>?_;refine g6 ?_;have hr:=hR.symm.trans (bGr n9);subst hr;exact rs1 (ins,lns,(_,_),(_,_),_) ⟨d9,e6,j3 (rfl),j2⟩
  refine g11 ?_;refine dM (fun hc38=>?_) fun hc38=>?_
  ·refine g11 ?_;refine bD func61 (bY bl A c toks (256) e _) rfl rfl (.c0 .nil) ⟨d7,j2⟩ fun _=>?_;refine g6 ?_;have hr:=hR.symm.trans (bMd n9 n9);subst hr;exact rs1 (ins,lns,(_,_),(_,_),_) ⟨d9,e6,j3 (rfl),j2⟩
  refine g4 ?_;refine dP (fun hg52=>?_) (fun hg52=>?_)
  ·refine g17 ?_;refine bD func61 (bY bl A c toks (0) e _) rfl rfl (.c1 .nil) ⟨d7,j2⟩ fun _=>?_;refine g6 ?_;have hr:=hR.symm.trans (vM n9 n9 aa1);subst hr;exact rs1 (ins,lns,(_,_),(_,_),_) ⟨d9,e6,j3 (rfl),j2⟩
  refine g29 ?_;refine bL (t':=false) ((congrArg not (show((bG toks (0)).kind==1)=true from (by rw [hg20];rfl)):(!_)=_)) ?_;refine g3 ?_;refine bD func63 (mX _ (Nat.le_trans (hw _) p7)) rfl rfl .nil ⟨d8,j2⟩ fun _=>?_;refine g6 ?_;refine jB (fun hc83=>?_) fun hc83=>?_
  ·refine g3 ?_;refine bD func61 (bY bl A c toks (0) e _) rfl rfl (.c1 .nil) ⟨d7,j2⟩ fun _=>?_;refine g6 ?_;have hr:=hR.symm.trans (i_none n9 n9 ‹_› hin hout o7);subst hr;exact rs1 (ins,lns,(_,_),(_,_),_) ⟨d9,e6,j3 (rfl),j2⟩
  refine g7 ?_;refine ss (k7 (pF _)) ?_;refine j6 rT fun b23=>?_;refine g31 ?_;refine bD func60 (hJ bl A c toks (1) e) rfl rfl (.c1 .nil) ⟨d7,j2⟩ fun _=>?_;refine j6 yS fun b24=>?_;refine g9 ?_;refine bEt (fun hg115=>?_) fun hg115=>?_
  ·refine g10 ?_;refine bD func61 (bY bl A c toks (1) e _) rfl rfl (.c1 .nil) ⟨d7,j2⟩ fun _=>?_;refine g6 ?_;have hr:=hR.symm.trans (i_want n9 n9 ‹_› hin hout ‹_› ‹_› o7);subst hr;exact rs1 (ins,lns,(_,_),(_,_),_) ⟨d9,e6,j3 (rfl),j2⟩
  refine g6 ?_;refine iV (fun hc119=>?_) fun hc119=>?_
  ·have hc119:(bG toks (1)).word≠([58]:Bs):=fun h=>by rw [h] at hc119;first | (simp at hc119;done) | exact absurd hc119 p7
   refine g3 ?_;refine bD func61 (bY bl A c toks (1) e _) rfl rfl (.c1 .nil) ⟨d7,j2⟩ fun _=>?_;refine g6 ?_;have hr:=hR.symm.trans (i_want n9 n9 ‹_› hin hout ‹_› ‹_› o7);subst hr;exact rs1 (ins,lns,(_,_),(_,_),_) ⟨d9,e6,j3 (rfl),j2⟩
  have hc119:(bG toks (1)).word=([58]:Bs):=eq_of_beq (bLm hc119);refine g12 ?_;refine bD func64 (bQp bl A c toks (2) e (by have:=iP (toks:=toks) (k:=1) n9;omega) n9 hw) rfl rfl (.c0 .nil) ⟨d7,d8,j2⟩ fun⟨C25,e26,its27,k28⟩=>?_;refine bC d9 fun hits=>?_;dsimp only at hits;refine bB (kK (lns++[(⟨(bG toks 0).word,(bG toks 0).at_,⟨C25,e26,its27⟩⟩:LineV)])) (bQl e9 (Has.and d7 d8)) ?_;refine g9 ?_;refine nX 10 _ _ [(true,0),(true,1),(true,2),(true,3),(true,4),(true,5),(false,6),(false,7),(true,8),(true,9)] bX o6 (.c0 (.c0 (.c0 (.c0 (.c0 (.c0 (.c0 .nil))))))) bA.self ?_;refine g7 ?_;refine yQ (m:=(⟨(bG toks 0).word,(bG toks 0).at_,⟨C25,e26,its27⟩⟩:LineV)) rfl rfl rfl rfl rfl fun b29=>?_;refine g2 ?_;refine tM kT8 (cA .head rfl) rfl rfl rfl rfl rfl rfl rfl w9 fun A30 c31=>?_;refine g14 ?_;have hr:=hR.symm.trans (i_line n9 n9 ‹_› hin hout ‹_› ‹_› ‹_› ‹_›);subst hr;exact rs1 (ins,(lns++[(⟨(bG toks 0).word,(bG toks 0).at_,⟨C25,e26,its27⟩⟩:LineV)]),(_,_),(_,_),_) ⟨e9,d7,j3 (by rw [List.map_append,tU,←hits];rfl),j2⟩
 refine g7 ?_;refine bL (t':=false) (beq_eq_false_iff_ne.2 hg20) ?_;refine g12 ?_;have hin:=isW_ne (t:=bG toks 0) (w:=[105,110]) ‹_›;have hout:=isW_ne (t:=bG toks 0) (w:=[111,117,116]) ‹_›;refine g6 ?_;refine fE (fun hc33=>?_) fun hc33=>?_
 ·refine g3 ?_;refine bD func61 (bY bl A c toks (0) e _) rfl rfl (.c1 .nil) ⟨d7,j2⟩ fun _=>?_;refine g6 ?_;have hr:=hR.symm.trans (bGr n9);subst hr;exact rs1 (ins,lns,(_,_),(_,_),_) ⟨d9,e6,j3 (rfl),j2⟩
 refine g11 ?_;refine dM (fun hc38=>?_) fun hc38=>?_
 ·refine g11 ?_;refine bD func61 (bY bl A c toks (256) e _) rfl rfl (.c0 .nil) ⟨d7,j2⟩ fun _=>?_;refine g6 ?_;have hr:=hR.symm.trans (bMd n9 n9);subst hr;exact rs1 (ins,lns,(_,_),(_,_),_) ⟨d9,e6,j3 (rfl),j2⟩
 refine g4 ?_;refine dP (fun hg52=>?_) (fun hg52=>?_)
 ·refine g17 ?_;refine bD func61 (bY bl A c toks (0) e _) rfl rfl (.c1 .nil) ⟨d7,j2⟩ fun _=>?_;refine g6 ?_;have hr:=hR.symm.trans (vM n9 n9 aa1);subst hr;exact rs1 (ins,lns,(_,_),(_,_),_) ⟨d9,e6,j3 (rfl),j2⟩
 refine g29 ?_;refine bL (t':=true) ((congrArg not (show((bG toks (0)).kind==1)=false from (beq_eq_false_iff_ne.2 hg20)):(!_)=_)) ?_;refine g14 ?_;refine bD func61 (bY bl A c toks (0) e _) rfl rfl (.c1 .nil) ⟨d7,j2⟩ fun _=>?_;refine g6 ?_;have hr:=hR.symm.trans (i_none n9 n9 ‹_› hin hout o7);subst hr;exact rs1 (ins,lns,(_,_),(_,_),_) ⟨d9,e6,j3 (rfl),j2⟩
section
variable {F : List Fact} {A : Option Addr} {c k : Nat} {toks : List TokV}
theorem own_fact(h:Has F (lS.sl (.slice A toks.length c) toks)):Has F (lS.sl (.slice A (dG toks).length c) (dG toks)):=by
 have:=bMu h (bNg toks)
 rwa [bCu] at this
theorem zX(h:Has F (lS.sl (.slice A toks.length c) toks))(hc:toks.length≤c)(hk:k≤toks.length):Has F (lS.sl (.slice (gV A k lS.size c) (toks.drop k).length (c-k)) (toks.drop k)):=by
 have:=kG h hc hk
 rwa [←List.length_drop] at this
end
theorem pA:(prog.info? 25).bind (·.zero)=some (.agg #[.slice none 0 0,.slice none 0 0]):=o0
theorem fS:prog.built 25 []=some #[.slice none 0 0,.slice none 0 0]:=o0
theorem uJ(z2:Int):prog.built 110 [(2,.int .i64 z2)]=some #[.slice none 0 0,.int .i64 0,.int .i64 z2]:=o0
theorem bMt(text:Bs)(hs:text.length≤140737488355328):cN prog 13 [.string (bs text)] [] [iD] (fun(x:ProgV)=> .tuple #[.agg #[.slice x.inputs.addr x.inputs.list.length x.inputs.cap,.slice x.lines.addr x.lines.list.length x.lines.cap],.agg #[.int .i64 (jV text).2.1,.int .i64 (jV text).2.2]]) (fun _=>[]) (fun(x:ProgV)=>[progFct x,Fact.pure (x.pr=(jV text).1)]):=by
 have hT:=dY;generalize hR:jV text=r;refine k8 func13 ntmps13 ?_;intro β hM;refine g2 ?_;refine j6 pA fun b1=>?_;refine j6 bCd fun b2=>?_;refine g5 ?_;refine j5 func28 (bMl text n9) ⟨d7,j2⟩ fun⟨A3,c4⟩=>?_;refine g3 ?_;refine j6 bCd fun b5=>?_;refine g8 ?_;refine ss (k7 (yN)) ?_;refine ss (fK ⟨(gA text).2.1,(gA text).2.2⟩ ⟨0,0⟩ rfl rfl rfl) ?_;refine g2 ?_;refine jB (fun hc18=>?_) fun hc18=>?_
 ·refine cL<|bU _ _ [(true,0),(true,1),(false,2),(false,3)] bX o6 (.c0 .nil) bA.self ?_;refine stM rfl (k7 (fS)) ?_;refine g11 ?_;obtain rfl:=p_lexed hR hc18;exact rs2 (⟨⟨none,0,[]⟩,⟨none,0,[]⟩⟩:ProgV) ⟨Has.and (Has.and cQ Has.each_nil) (Has.and cQ Has.each_nil),j3 rfl,j2⟩
 refine g3 ?_;have hp:=p_start hR hc18;refine one ?_;refine j6 pA fun b6=>?_;refine g10 ?_;have hlc:=lex_count text;refine bC d8 fun hcap=>cH (t:=50) jT<|cH (t:=54) nM<|bB (iO []) (Has.each_nil)<|bB (kK []) (Has.each_nil) ?_;refine cE (ι:=List TokV×Option Addr×Nat×List InputV×List LineV×Option Addr×Nat×Option Addr×Nat×Nat×Bool×Int×Int) [(0,_),(2,_),(3,_),(5,_),(6,_)] ⟨rfl,rfl,rfl,rfl,rfl,j2⟩ (fun⟨toks,A,c,ins,lns,I,ci,J,cj,n,ov,f1,f2⟩=>[(4,.slice A toks.length c),(7,.int .i64 (n:Nat)),(8,.bool ov)]) (fun⟨toks,A,c,ins,lns,I,ci,J,cj,n,ov,f1,f2⟩=>[.obj b6 (.cells [.slice I ins.length ci,.slice J lns.length cj].toArray 25),jT.row (.slice I ins.length ci) 50 ins,nM.row (.slice J lns.length cj) 54 lns,.obj b5 (.cells [.int .i64 f1,.int .i64 f2].toArray 34)]) (fun⟨toks,A,c,ins,lns,I,ci,J,cj,n,ov,f1,f2⟩=>[Fact.pure (PInv r text.length toks ⟨ins.map InputV.inp,lns.map LineV.ln⟩ n ov∧(∀t∈toks,bEi t)∧toks.length≤c∧toks.length≤65536∧n≤64∧ins.length+lns.length≤n),lS.sl (.slice A toks.length c) toks,iO ins,kK lns]) (fun⟨toks,A,c,ins,lns,I,ci,J,cj,n,ov,f1,f2⟩=>toks.length) ((gA text).1,A3,c4,[],[],none,0,none,0,0,false,(gA text).2.1,(gA text).2.2) ⟨rfl,rfl,rfl,j2⟩ (.c2 (.c1 (.c0 (.c0 .nil)))) ⟨j3 (⟨hp,lex_ok text,hcap,hlc,n9,o9⟩),d9,d8,d7,j2⟩ ?_;rintro⟨toks,A,c,ins,lns,I,ci,J,cj,n,ov,f1,f2⟩;dsimp only;refine bC d7 fun hinv6=>?_;refine g8 ?_;refine dM (fun hc23=>?_) fun hc23=>?_
 ·refine g7 ?_;refine cP (z':=((text.length:Nat):Int)) rfl ?_;refine ss (k7 (uJ _)) ?_;refine j9 fun b7=>?_;refine g10 ?_;refine cE (ι:=Nat) [(0,_),(2,_),(3,_),(4,_),(5,_),(6,_),(7,_),(8,_),(9,_)] ⟨rfl,rfl,rfl,rfl,rfl,rfl,rfl,rfl,rfl,j2⟩ (fun j=>[(10,.int .i64 (j:Nat))]) (fun _=>[]) (fun j=>[Fact.pure (j≤(dG toks).length)]) (fun j=>toks.length-j) 0 ⟨rfl,j2⟩ .nil ⟨j3 n9,j2⟩ ?_;rintro j;refine bC d7 fun hinv9=>?_;refine g8 ?_;refine lR (fun hg32=>?_) fun hg32=>?_
  ·refine g2 ?_;obtain⟨x8,hx9⟩:=gx toks j;refine ss (ixs j) ?_;refine one ?_;refine ss (dH hx9 0) ?_;refine g4 ?_;refine vC (fun hc39=>?_) fun hc39=>?_
   ·refine g6 ?_;refine inc (j+1) ?_;refine g4 ?_;exact bk2 (j+1) ⟨j3 (own_more hinv9 ‹_› ‹_›),j2⟩
   refine g6 ?_;have hj:=own_stop hinv9 ae3;subst hj;have hol:=bNg toks;refine g4 ?_;refine ss (iQ hT (k:=(dG toks).length) rfl rfl rfl rfl rfl rfl n9) ?_;refine g7 ?_;refine bB (lS.sl (.slice A (dG toks).length c) (dG toks)) (own_fact d9) ?_;refine g7 ?_;refine dM (fun hc51=>?_) fun hc51=>?_
   ·refine g5 ?_;refine ss (cJ hT (k:=(dG toks).length) (cD e6) rfl rfl rfl rfl rfl rfl rfl n9) ?_;refine one ?_;refine ss (j7 hT (dQ.knows (cD e6) (k:=(dG toks).length) (x:=x8) hx9 1)) ?_;refine g8 ?_;refine inc ((dG toks).length+1) ?_;refine g7 ?_;refine ss (dL hT (k:=((dG toks).length+1)) rfl rfl rfl rfl rfl rfl n9) ?_;refine jO (v':= .slice (gV A ((dG toks).length+1) lS.size c) (toks.drop ((dG toks).length+1)).length (c-((dG toks).length+1))) ac1 ?_;refine g5 ?_;refine bB (lS.sl (.slice (gV A ((dG toks).length+1) lS.size c) (toks.drop ((dG toks).length+1)).length (c-((dG toks).length+1))) (toks.drop ((dG toks).length+1))) (zX e6 hinv6.2.2.1 n9) ?_;refine g9 ?_;refine fE (fun hc70=>?_) fun hc70=>?_
    ·have hon:=bJh hc70;have hsk:PInv r text.length (toks.drop ((dG toks).length+1)) ⟨ins.map InputV.inp,lns.map LineV.ln⟩ n ov:=by have:=p_skip hinv6.1 (uI n9) hon;rw [hon];exact this
     refine g4 ?_;exact dN (toks.drop ((dG toks).length+1),_,_,ins,lns,_,_,_,_,n,_,_,_) aa0 ⟨rfl,rfl,rfl,j2⟩ ⟨rfl,rfl,rfl,rfl,rfl,j2⟩ (.c1 (.c1 (.c1 (.c1 (.c1 (.c1 .nil)))))) ⟨j3 (⟨hsk,fun t ht=>hinv6.2.1 t (List.mem_of_mem_drop ht),by dsimp only;rw [List.length_drop];omega,by dsimp only;rw [List.length_drop];omega,hinv6.2.2.2.2.1,hinv6.2.2.2.2.2⟩),d7,e8,e9,j2⟩ (bA.drop 7)
    refine g8 ?_;have hon:0<(dG toks).length:=n9
    refine bD func29 (bAh _ A c (dG toks) _ _ I ci ins J cj lns n ov hon hinv6.2.2.2.2.1 hinv6.2.2.2.2.2 (zW (bJf hinv6.2.1))) rfl rfl (.c0 (.c0 (.c0 (.c0 .nil)))) ⟨d8,i6,e8,e9,j2⟩ fun⟨ins10,lns11,⟨I12,ci13⟩,⟨J14,cj15⟩,k16⟩=>?_;refine bC d9 fun hq=>?_;dsimp only at hq;have hE:x8.at_=endP toks text.length:=(bDi hx9).symm;have hpl:=p_line (q:=⟨ins10.map InputV.inp,lns11.map LineV.ln⟩) (f:=(gB (dG toks) x8.at_ ⟨ins.map InputV.inp,lns.map LineV.ln⟩ n ov).2) hinv6.1 (uI n9) (uI hon) ae2;refine g6 ?_;refine ss (k7 (yN)) ?_;refine ss (fK ⟨(gB (dG toks) x8.at_ ⟨ins.map InputV.inp,lns.map LineV.ln⟩ n ov).2.1,(gB (dG toks) x8.at_ ⟨ins.map InputV.inp,lns.map LineV.ln⟩ n ov).2.2⟩ ⟨0,0⟩ rfl rfl rfl) ?_;refine g2 ?_;refine jB (fun hc77=>?_) fun hc77=>?_
    ·refine cL<|bU _ _ [(true,0),(true,1),(false,2),(false,3)] bX o6 (.c0 (.c0 (.c0 (.c0 (.c0 .nil))))) bA.self ?_;refine stM rfl (k7 (fS)) ?_;refine g15 ?_;obtain rfl:=hpl.2 hc77;exact rs2 (⟨⟨none,0,[]⟩,⟨none,0,[]⟩⟩:ProgV) ⟨Has.and (Has.and cQ Has.each_nil) (Has.and cQ Has.each_nil),j3 rfl,j2⟩
    refine g3 ?_;have hp2:=hpl.1 hc77;have hio:=bJk hc77;have hlen:ins10.length+lns11.length≤n+1:=by have:=hio.2;rw [←hq] at this;dsimp only at this;simp only [List.length_map] at this;omega
    refine g3 ?_;refine inc (n+1) ?_;refine g7 ?_;refine cP (z':=((lns11.length:Nat):Int)) (rfl) ?_;refine g2 ?_;refine lR (fun hg86=>?_) fun hg86=>?_
    ·refine g5 ?_;refine cP (z':=((lns11.length:Nat):Int)) (rfl) ?_;refine one ?_;refine inc (lns11.length-1) ?_;obtain⟨x17,hx18⟩:=gx lns11 (lns11.length-1) (show lns11.length-1<lns11.length from by omega);refine ss (cJ hT (k:=(lns11.length-1)) (cM kT4) rfl rfl rfl rfl rfl rfl rfl (show lns11.length-1<lns11.length from by omega)) ?_;refine one ?_;refine ss (dH hx18 0) ?_;refine g3 ?_;refine bL (t':=qV ⟨ins10.map InputV.inp,lns11.map LineV.ln⟩) (zU ‹_›) ?_;refine g3 ?_;exact dN (toks.drop ((dG toks).length+1),_,_,ins10,lns11,_,_,_,_,(n+1),_,_,_) aa0 ⟨rfl,rfl,rfl,j2⟩ ⟨rfl,rfl,rfl,rfl,rfl,j2⟩ (.c2 (.c2 (.c2 (.c0 (.c1 (.c1 .nil)))))) ⟨j3 (⟨hp2,fun t ht=>hinv6.2.1 t (List.mem_of_mem_drop ht),by dsimp only;rw [List.length_drop];omega,by dsimp only;rw [List.length_drop];omega,by have:=hio.1;dsimp only;omega,by dsimp only;omega⟩),e6,d7,d8,j2⟩ (bA.drop 10)
    refine g12 ?_;refine bL (t':=qV ⟨ins10.map InputV.inp,lns11.map LineV.ln⟩) (bAg n9) ?_;refine g3 ?_;exact dN (toks.drop ((dG toks).length+1),_,_,ins10,lns11,_,_,_,_,(n+1),_,_,_) aa0 ⟨rfl,rfl,rfl,j2⟩ ⟨rfl,rfl,rfl,rfl,rfl,j2⟩ (.c2 (.c2 (.c2 (.c0 (.c1 (.c1 .nil)))))) ⟨j3 (⟨hp2,fun t ht=>hinv6.2.1 t (List.mem_of_mem_drop ht),by dsimp only;rw [List.length_drop];omega,by dsimp only;rw [List.length_drop];omega,by have:=hio.1;dsimp only;omega,by dsimp only;omega⟩),e6,d7,d8,j2⟩ (bA.drop 10)
   refine g6 ?_;refine ss (dL hT (k:=(dG toks).length) rfl rfl rfl rfl rfl rfl n9) ?_;refine jO (v':= .slice (gV A (dG toks).length lS.size c) (toks.drop (dG toks).length).length (c-(dG toks).length)) ac1 ?_;refine g5 ?_;refine bB (lS.sl (.slice (gV A (dG toks).length lS.size c) (toks.drop (dG toks).length).length (c-(dG toks).length)) (toks.drop (dG toks).length)) (zX e6 hinv6.2.2.1 n9) ?_;refine g9 ?_;refine fE (fun hc70=>?_) fun hc70=>?_
   ·have hon:=bJh hc70;exact absurd hc70 n9
   refine g8 ?_;have hon:0<(dG toks).length:=n9
   refine bD func29 (bAh _ A c (dG toks) _ _ I ci ins J cj lns n ov hon hinv6.2.2.2.2.1 hinv6.2.2.2.2.2 (zW (bJf hinv6.2.1))) rfl rfl (.c0 (.c0 (.c0 (.c0 .nil)))) ⟨d8,i6,e8,e9,j2⟩ fun⟨ins19,lns20,⟨I21,ci22⟩,⟨J23,cj24⟩,k25⟩=>?_;refine bC d9 fun hq=>?_;dsimp only at hq;have hE:((text.length:Nat):Int)=endP toks text.length:=(bOq n9).symm;have hpl:=p_line (q:=⟨ins19.map InputV.inp,lns20.map LineV.ln⟩) (f:=(gB (dG toks) ((text.length:Nat):Int) ⟨ins.map InputV.inp,lns.map LineV.ln⟩ n ov).2) hinv6.1 (uI n9) (uI hon) ae2;refine g6 ?_;refine ss (k7 (yN)) ?_;refine ss (fK ⟨(gB (dG toks) ((text.length:Nat):Int) ⟨ins.map InputV.inp,lns.map LineV.ln⟩ n ov).2.1,(gB (dG toks) ((text.length:Nat):Int) ⟨ins.map InputV.inp,lns.map LineV.ln⟩ n ov).2.2⟩ ⟨0,0⟩ rfl rfl rfl) ?_;refine g2 ?_;refine jB (fun hc77=>?_) fun hc77=>?_
   ·refine cL<|bU _ _ [(true,0),(true,1),(false,2),(false,3)] bX o6 (.c0 (.c0 (.c0 (.c0 (.c0 .nil))))) bA.self ?_;refine stM rfl (k7 (fS)) ?_;refine g15 ?_;obtain rfl:=hpl.2 hc77;exact rs2 (⟨⟨none,0,[]⟩,⟨none,0,[]⟩⟩:ProgV) ⟨Has.and (Has.and cQ Has.each_nil) (Has.and cQ Has.each_nil),j3 rfl,j2⟩
   refine g3 ?_;have hp2:=hpl.1 hc77;have hio:=bJk hc77;have hlen:ins19.length+lns20.length≤n+1:=by have:=hio.2;rw [←hq] at this;dsimp only at this;simp only [List.length_map] at this;omega
   refine g3 ?_;refine inc (n+1) ?_;refine g7 ?_;refine cP (z':=((lns20.length:Nat):Int)) (rfl) ?_;refine g2 ?_;refine lR (fun hg86=>?_) fun hg86=>?_
   ·refine g5 ?_;refine cP (z':=((lns20.length:Nat):Int)) (rfl) ?_;refine one ?_;refine inc (lns20.length-1) ?_;obtain⟨x26,hx27⟩:=gx lns20 (lns20.length-1) (show lns20.length-1<lns20.length from by omega);refine ss (cJ hT (k:=(lns20.length-1)) (cM kT4) rfl rfl rfl rfl rfl rfl rfl (show lns20.length-1<lns20.length from by omega)) ?_;refine one ?_;refine ss (dH hx27 0) ?_;refine g3 ?_;refine bL (t':=qV ⟨ins19.map InputV.inp,lns20.map LineV.ln⟩) (zU ‹_›) ?_;refine g3 ?_;exact dN (toks.drop (dG toks).length,_,_,ins19,lns20,_,_,_,_,(n+1),_,_,_) aa0 ⟨rfl,rfl,rfl,j2⟩ ⟨rfl,rfl,rfl,rfl,rfl,j2⟩ (.c2 (.c2 (.c2 (.c0 (.c1 (.c1 .nil)))))) ⟨j3 (⟨by dsimp only;rw [bJi (toks:=toks) rfl n9];exact hp2,fun t ht=>hinv6.2.1 t (List.mem_of_mem_drop ht),by dsimp only;rw [List.length_drop];omega,by dsimp only;rw [List.length_drop];omega,by have:=hio.1;dsimp only;omega,by dsimp only;omega⟩),e6,d7,d8,j2⟩ (bA.drop 10)
   refine g12 ?_;refine bL (t':=qV ⟨ins19.map InputV.inp,lns20.map LineV.ln⟩) (bAg n9) ?_;refine g3 ?_;exact dN (toks.drop (dG toks).length,_,_,ins19,lns20,_,_,_,_,(n+1),_,_,_) aa0 ⟨rfl,rfl,rfl,j2⟩ ⟨rfl,rfl,rfl,rfl,rfl,j2⟩ (.c2 (.c2 (.c2 (.c0 (.c1 (.c1 .nil)))))) ⟨j3 (⟨by dsimp only;rw [bJi (toks:=toks) rfl n9];exact hp2,fun t ht=>hinv6.2.1 t (List.mem_of_mem_drop ht),by dsimp only;rw [List.length_drop];omega,by dsimp only;rw [List.length_drop];omega,by have:=hio.1;dsimp only;omega,by dsimp only;omega⟩),e6,d7,d8,j2⟩ (bA.drop 10)
  refine g16 ?_;have hj:=own_stop hinv9 ae3;subst hj;have hol:=bNg toks;refine g4 ?_;refine ss (iQ hT (k:=(dG toks).length) rfl rfl rfl rfl rfl rfl n9) ?_;refine g7 ?_;refine bB (lS.sl (.slice A (dG toks).length c) (dG toks)) (own_fact d9) ?_;refine g7 ?_;refine dM (fun hc51=>?_) fun hc51=>?_
  ·refine g5 ?_;obtain⟨x28,hx29⟩:=gx toks ((dG toks).length);refine ss (cJ hT (k:=(dG toks).length) (cD e6) rfl rfl rfl rfl rfl rfl rfl n9) ?_;refine one ?_;refine ss (j7 hT (dQ.knows (cD e6) (k:=(dG toks).length) (x:=x28) hx29 1)) ?_;refine g8 ?_;refine inc ((dG toks).length+1) ?_;refine g7 ?_;refine ss (dL hT (k:=((dG toks).length+1)) rfl rfl rfl rfl rfl rfl n9) ?_;refine jO (v':= .slice (gV A ((dG toks).length+1) lS.size c) (toks.drop ((dG toks).length+1)).length (c-((dG toks).length+1))) ac1 ?_;refine g5 ?_;refine bB (lS.sl (.slice (gV A ((dG toks).length+1) lS.size c) (toks.drop ((dG toks).length+1)).length (c-((dG toks).length+1))) (toks.drop ((dG toks).length+1))) (zX e6 hinv6.2.2.1 n9) ?_;refine g9 ?_;refine fE (fun hc70=>?_) fun hc70=>?_
   ·have hon:=bJh hc70;have hsk:PInv r text.length (toks.drop ((dG toks).length+1)) ⟨ins.map InputV.inp,lns.map LineV.ln⟩ n ov:=by have:=p_skip hinv6.1 (uI n9) hon;rw [hon];exact this
    refine g4 ?_;exact dN (toks.drop ((dG toks).length+1),_,_,ins,lns,_,_,_,_,n,_,_,_) aa0 ⟨rfl,rfl,rfl,j2⟩ ⟨rfl,rfl,rfl,rfl,rfl,j2⟩ (.c1 (.c1 (.c1 (.c1 (.c1 (.c1 .nil)))))) ⟨j3 (⟨hsk,fun t ht=>hinv6.2.1 t (List.mem_of_mem_drop ht),by dsimp only;rw [List.length_drop];omega,by dsimp only;rw [List.length_drop];omega,hinv6.2.2.2.2.1,hinv6.2.2.2.2.2⟩),d7,e8,e9,j2⟩ (bA.drop 7)
   refine g8 ?_;have hon:0<(dG toks).length:=n9
   refine bD func29 (bAh _ A c (dG toks) _ _ I ci ins J cj lns n ov hon hinv6.2.2.2.2.1 hinv6.2.2.2.2.2 (zW (bJf hinv6.2.1))) rfl rfl (.c0 (.c0 (.c0 (.c0 .nil)))) ⟨d8,i6,e8,e9,j2⟩ fun⟨ins30,lns31,⟨I32,ci33⟩,⟨J34,cj35⟩,k36⟩=>?_;refine bC d9 fun hq=>?_;dsimp only at hq;have hE:x28.at_=endP toks text.length:=(bDi hx29).symm;have hpl:=p_line (q:=⟨ins30.map InputV.inp,lns31.map LineV.ln⟩) (f:=(gB (dG toks) x28.at_ ⟨ins.map InputV.inp,lns.map LineV.ln⟩ n ov).2) hinv6.1 (uI n9) (uI hon) ae2;refine g6 ?_;refine ss (k7 (yN)) ?_;refine ss (fK ⟨(gB (dG toks) x28.at_ ⟨ins.map InputV.inp,lns.map LineV.ln⟩ n ov).2.1,(gB (dG toks) x28.at_ ⟨ins.map InputV.inp,lns.map LineV.ln⟩ n ov).2.2⟩ ⟨0,0⟩ rfl rfl rfl) ?_;refine g2 ?_;refine jB (fun hc77=>?_) fun hc77=>?_
   ·refine cL<|bU _ _ [(true,0),(true,1),(false,2),(false,3)] bX o6 (.c0 (.c0 (.c0 (.c0 (.c0 .nil))))) bA.self ?_;refine stM rfl (k7 (fS)) ?_;refine g15 ?_;obtain rfl:=hpl.2 hc77;exact rs2 (⟨⟨none,0,[]⟩,⟨none,0,[]⟩⟩:ProgV) ⟨Has.and (Has.and cQ Has.each_nil) (Has.and cQ Has.each_nil),j3 rfl,j2⟩
   refine g3 ?_;have hp2:=hpl.1 hc77;have hio:=bJk hc77;have hlen:ins30.length+lns31.length≤n+1:=by have:=hio.2;rw [←hq] at this;dsimp only at this;simp only [List.length_map] at this;omega
   refine g3 ?_;refine inc (n+1) ?_;refine g7 ?_;refine cP (z':=((lns31.length:Nat):Int)) (rfl) ?_;refine g2 ?_;refine lR (fun hg86=>?_) fun hg86=>?_
   ·refine g5 ?_;refine cP (z':=((lns31.length:Nat):Int)) (rfl) ?_;refine one ?_;refine inc (lns31.length-1) ?_;obtain⟨x37,hx38⟩:=gx lns31 (lns31.length-1) (show lns31.length-1<lns31.length from by omega);refine ss (cJ hT (k:=(lns31.length-1)) (cM kT4) rfl rfl rfl rfl rfl rfl rfl (show lns31.length-1<lns31.length from by omega)) ?_;refine one ?_;refine ss (dH hx38 0) ?_;refine g3 ?_;refine bL (t':=qV ⟨ins30.map InputV.inp,lns31.map LineV.ln⟩) (zU ‹_›) ?_;refine g3 ?_;exact dN (toks.drop ((dG toks).length+1),_,_,ins30,lns31,_,_,_,_,(n+1),_,_,_) aa0 ⟨rfl,rfl,rfl,j2⟩ ⟨rfl,rfl,rfl,rfl,rfl,j2⟩ (.c2 (.c2 (.c2 (.c0 (.c1 (.c1 .nil)))))) ⟨j3 (⟨hp2,fun t ht=>hinv6.2.1 t (List.mem_of_mem_drop ht),by dsimp only;rw [List.length_drop];omega,by dsimp only;rw [List.length_drop];omega,by have:=hio.1;dsimp only;omega,by dsimp only;omega⟩),e6,d7,d8,j2⟩ (bA.drop 10)
   refine g12 ?_;refine bL (t':=qV ⟨ins30.map InputV.inp,lns31.map LineV.ln⟩) (bAg n9) ?_;refine g3 ?_;exact dN (toks.drop ((dG toks).length+1),_,_,ins30,lns31,_,_,_,_,(n+1),_,_,_) aa0 ⟨rfl,rfl,rfl,j2⟩ ⟨rfl,rfl,rfl,rfl,rfl,j2⟩ (.c2 (.c2 (.c2 (.c0 (.c1 (.c1 .nil)))))) ⟨j3 (⟨hp2,fun t ht=>hinv6.2.1 t (List.mem_of_mem_drop ht),by dsimp only;rw [List.length_drop];omega,by dsimp only;rw [List.length_drop];omega,by have:=hio.1;dsimp only;omega,by dsimp only;omega⟩),e6,d7,d8,j2⟩ (bA.drop 10)
  refine g6 ?_;refine ss (dL hT (k:=(dG toks).length) rfl rfl rfl rfl rfl rfl n9) ?_;refine jO (v':= .slice (gV A (dG toks).length lS.size c) (toks.drop (dG toks).length).length (c-(dG toks).length)) ac1 ?_;refine g5 ?_;refine bB (lS.sl (.slice (gV A (dG toks).length lS.size c) (toks.drop (dG toks).length).length (c-(dG toks).length)) (toks.drop (dG toks).length)) (zX e6 hinv6.2.2.1 n9) ?_;refine g9 ?_;refine fE (fun hc70=>?_) fun hc70=>?_
  ·have hon:=bJh hc70;exact absurd hc70 n9
  refine g8 ?_;have hon:0<(dG toks).length:=n9
  refine bD func29 (bAh _ A c (dG toks) _ _ I ci ins J cj lns n ov hon hinv6.2.2.2.2.1 hinv6.2.2.2.2.2 (zW (bJf hinv6.2.1))) rfl rfl (.c0 (.c0 (.c0 (.c0 .nil)))) ⟨d8,i6,e8,e9,j2⟩ fun⟨ins39,lns40,⟨I41,ci42⟩,⟨J43,cj44⟩,k45⟩=>?_;refine bC d9 fun hq=>?_;dsimp only at hq;have hE:((text.length:Nat):Int)=endP toks text.length:=(bOq n9).symm;have hpl:=p_line (q:=⟨ins39.map InputV.inp,lns40.map LineV.ln⟩) (f:=(gB (dG toks) ((text.length:Nat):Int) ⟨ins.map InputV.inp,lns.map LineV.ln⟩ n ov).2) hinv6.1 (uI n9) (uI hon) ae2;refine g6 ?_;refine ss (k7 (yN)) ?_;refine ss (fK ⟨(gB (dG toks) ((text.length:Nat):Int) ⟨ins.map InputV.inp,lns.map LineV.ln⟩ n ov).2.1,(gB (dG toks) ((text.length:Nat):Int) ⟨ins.map InputV.inp,lns.map LineV.ln⟩ n ov).2.2⟩ ⟨0,0⟩ rfl rfl rfl) ?_;refine g2 ?_;refine jB (fun hc77=>?_) fun hc77=>?_
  ·refine cL<|bU _ _ [(true,0),(true,1),(false,2),(false,3)] bX o6 (.c0 (.c0 (.c0 (.c0 (.c0 .nil))))) bA.self ?_;refine stM rfl (k7 (fS)) ?_;refine g15 ?_;obtain rfl:=hpl.2 hc77;exact rs2 (⟨⟨none,0,[]⟩,⟨none,0,[]⟩⟩:ProgV) ⟨Has.and (Has.and cQ Has.each_nil) (Has.and cQ Has.each_nil),j3 rfl,j2⟩
  refine g3 ?_;have hp2:=hpl.1 hc77;have hio:=bJk hc77;have hlen:ins39.length+lns40.length≤n+1:=by have:=hio.2;rw [←hq] at this;dsimp only at this;simp only [List.length_map] at this;omega
  refine g3 ?_;refine inc (n+1) ?_;refine g7 ?_;refine cP (z':=((lns40.length:Nat):Int)) (rfl) ?_;refine g2 ?_;refine lR (fun hg86=>?_) fun hg86=>?_
  ·refine g5 ?_;refine cP (z':=((lns40.length:Nat):Int)) (rfl) ?_;refine one ?_;refine inc (lns40.length-1) ?_;obtain⟨x46,hx47⟩:=gx lns40 (lns40.length-1) (show lns40.length-1<lns40.length from by omega);refine ss (cJ hT (k:=(lns40.length-1)) (cM kT4) rfl rfl rfl rfl rfl rfl rfl (show lns40.length-1<lns40.length from by omega)) ?_;refine one ?_;refine ss (dH hx47 0) ?_;refine g3 ?_;refine bL (t':=qV ⟨ins39.map InputV.inp,lns40.map LineV.ln⟩) (zU ‹_›) ?_;refine g3 ?_;exact dN (toks.drop (dG toks).length,_,_,ins39,lns40,_,_,_,_,(n+1),_,_,_) aa0 ⟨rfl,rfl,rfl,j2⟩ ⟨rfl,rfl,rfl,rfl,rfl,j2⟩ (.c2 (.c2 (.c2 (.c0 (.c1 (.c1 .nil)))))) ⟨j3 (⟨by dsimp only;rw [bJi (toks:=toks) rfl n9];exact hp2,fun t ht=>hinv6.2.1 t (List.mem_of_mem_drop ht),by dsimp only;rw [List.length_drop];omega,by dsimp only;rw [List.length_drop];omega,by have:=hio.1;dsimp only;omega,by dsimp only;omega⟩),e6,d7,d8,j2⟩ (bA.drop 10)
  refine g12 ?_;refine bL (t':=qV ⟨ins39.map InputV.inp,lns40.map LineV.ln⟩) (bAg n9) ?_;refine g3 ?_;exact dN (toks.drop (dG toks).length,_,_,ins39,lns40,_,_,_,_,(n+1),_,_,_) aa0 ⟨rfl,rfl,rfl,j2⟩ ⟨rfl,rfl,rfl,rfl,rfl,j2⟩ (.c2 (.c2 (.c2 (.c0 (.c1 (.c1 .nil)))))) ⟨j3 (⟨by dsimp only;rw [bJi (toks:=toks) rfl n9];exact hp2,fun t ht=>hinv6.2.1 t (List.mem_of_mem_drop ht),by dsimp only;rw [List.length_drop];omega,by dsimp only;rw [List.length_drop];omega,by have:=hio.1;dsimp only;omega,by dsimp only;omega⟩),e6,d7,d8,j2⟩ (bA.drop 10)
 refine g12 ?_;refine jB (fun hc99=>?_) fun hc99=>?_
 ·refine g2 ?_;refine ss (k7 (fS)) ?_;refine g2 ?_;refine cP (z':=((text.length:Nat):Int)) rfl ?_;refine ss (k7 (vN _ _)) ?_;refine g6 ?_;have hr:=by have:=p_end hinv6.1 (List.eq_nil_of_length_eq_zero n9);rw [if_neg af4] at this;exact this
  subst hr;exact rs2 (⟨⟨none,0,[]⟩,⟨none,0,[]⟩⟩:ProgV) ⟨Has.and (Has.and cQ Has.each_nil) (Has.and cQ Has.each_nil),j3 rfl,j2⟩
 refine g5 ?_;refine ss (k7 (yN)) ?_;refine g5 ?_;have hr:=p_end hinv6.1 (List.eq_nil_of_length_eq_zero n9);rw [if_pos ‹_›] at hr;subst hr;refine bE kT3<|bE kT3 ?_;exact rs2 (⟨⟨_,_,ins⟩,⟨_,_,lns⟩⟩:ProgV) ⟨Has.and (Has.and d8 e7) (Has.and d7 e8),j3 rfl,j2⟩
end
section
open Go.RowKit Go.ChangeShapes Go.WideShapes Go.Proofs.Tryz
structure PieceV where
 words:(Sl Bs)
 nest:Nat
 tokens:Nat
 plain:Bool
 deriving Inhabited
def bFk:Flat PieceV where
 size:=4
 cells:=fun x=>[.slice x.words.addr x.words.list.length x.words.cap,.int .i64 (x.nest:Nat),.int .i64 (x.tokens:Nat),.bool x.plain]
 len:=fun _=>rfl
 one:=fun x u hu=>by
  simp at hu
  rcases hu with rfl | rfl | rfl | rfl<;>rfl
 pos:=p7
def show2T:Tab:=[(3,⟨.int .i64,1⟩),(2,⟨.int .i64,1⟩),(5,⟨.int .u8,1⟩),(9,⟨.string,1⟩),(4,⟨.bool,1⟩),(62,⟨.int .u8,1⟩),(32,⟨.int .i64,1⟩),(85,⟨.slice 2,1⟩),(69,⟨.slice 9,1⟩),(112,⟨.struct [(3,0),(3,1),(9,2),(2,3)],4⟩),(105,⟨.slice 112,1⟩),(34,⟨.struct [(3,0),(32,1)],2⟩),(76,⟨.struct [(9,0),(2,1)],2⟩),(48,⟨.slice 76,1⟩),(50,⟨.struct [(9,0),(3,1),(48,2)],3⟩),(22,⟨.slice 50,1⟩),(87,⟨.struct [(3,0),(3,1),(62,2),(9,3),(85,4)],5⟩),(52,⟨.slice 87,1⟩),(54,⟨.struct [(9,0),(3,1),(52,2)],3⟩),(23,⟨.slice 54,1⟩),(25,⟨.struct [(22,0),(23,1)],2⟩),(110,⟨.struct [(105,0),(3,1),(3,2)],3⟩),(221,⟨.struct [(69,0),(3,1),(3,2),(4,3)],4⟩),(219,⟨.slice 221,1⟩),(108,⟨.other,1⟩),(196,⟨.slice 1,1⟩),(1,⟨.other,1⟩),(149,⟨.other,1⟩),(150,⟨.slice 5,1⟩),(147,⟨.map 62 9,1⟩),(247,⟨.map 3 9,1⟩),(152,⟨.struct [(149,0),(150,1)],2⟩),(154,⟨.struct [(147,0),(147,1),(152,2)],4⟩)]
theorem jG:fW prog show2T:=vY.ok
 ⟨⟨by rw [underlying3];rfl,o0⟩,
  ⟨by rw [underlying2];rfl,o0⟩,
  ⟨by rw [underlying5];rfl,o0⟩,
  ⟨by rw [underlying9];rfl,o0⟩,
  ⟨by rw [underlying4];rfl,o0⟩,
  ⟨by rw [underlying62];rfl,o0⟩,
  ⟨by rw [underlying32];rfl,o0⟩,
  ⟨by rw [underlying85];rfl,o0⟩,
  ⟨by rw [underlying69];rfl,o0⟩,
  ⟨by rw [underlying112];rfl,o0⟩,
  ⟨by rw [underlying105];rfl,o0⟩,
  ⟨by rw [underlying34];rfl,o0⟩,
  ⟨by rw [underlying76];rfl,o0⟩,
  ⟨by rw [underlying48];rfl,o0⟩,
  ⟨by rw [underlying50];rfl,o0⟩,
  ⟨by rw [underlying22];rfl,o0⟩,
  ⟨by rw [underlying87];rfl,o0⟩,
  ⟨by rw [underlying52];rfl,o0⟩,
  ⟨by rw [underlying54];rfl,o0⟩,
  ⟨by rw [underlying23];rfl,o0⟩,
  ⟨by rw [underlying25];rfl,o0⟩,
  ⟨by rw [underlying110];rfl,o0⟩,
  ⟨by rw [underlying221];rfl,o0⟩,
  ⟨by rw [underlying219];rfl,o0⟩,
  ⟨by rw [underlying108];rfl,o0⟩,
  ⟨by rw [underlying196];rfl,o0⟩,
  ⟨by rw [underlying1];rfl,o0⟩,
  ⟨by rw [underlying149];rfl,o0⟩,
  ⟨by rw [underlying150];rfl,o0⟩,
  ⟨by rw [underlying147];rfl,o0⟩,
  ⟨by rw [underlying247];rfl,o0⟩,
  ⟨by rw [underlying152];rfl,o0⟩,
  ⟨by rw [underlying154];rfl,o0⟩,j2⟩
theorem bRn: ∃i:TypeInfo,prog.info? 221=some i∧i.zero=some (.agg #[.slice none 0 0,.int .i64 0,.int .i64 0,.bool false])∧i.size=4∧i.bytes=48:=by
 have h:(prog.info? 221).map (fun i=>(i.zero,i.size,i.bytes))=some (some (.agg #[.slice none 0 0,.int .i64 0,.int .i64 0,.bool false]),4,48):=o0
 cases hi:prog.info? 221 with
 | none=>simp [hi] at h
 | some i=>simp [hi] at h;exact⟨i,rfl,h.1,h.2.1,h.2.2⟩
theorem gM{β:dE}{n:Nat}{Γ:Env}{H:List bH}{F:List Fact}{Q:Exit→Act→World→Prop}{ops:Array Oper}{rest:List Oper}{o:Oper}{d:Nat}{x:Operand}{m:PieceV}(hw:want ops Γ o=some true)(ho:o.op= .buildSlice 219 1 #[(0,x)])(hd:o.dst=some d)(hn:Nat.blt d n=true)
  (hx:Γ.ev x=some (.agg #[.slice m.words.addr m.words.list.length m.words.cap,.int .i64 (m.nest:Nat),.int .i64 (m.tokens:Nat),.bool m.plain])) (k: ∀b,At β n ((d,.slice (some ⟨b,0,none⟩) 1 1)::Γ) (.obj b (.cells (bFk.all [m]).toArray 221)::H) F (wpList prog ops Q rest)):At β n Γ H F (wpList prog ops Q (o::rest)):=by
 obtain⟨i,hi,hz,hs,_⟩:=bRn;refine gD hw ho hd hn hx underlying219 hi hz n9 n9 ?_ k;rw [hs]
 kernel_rfl
theorem gN{β:dE}{n:Nat}{Γ:Env}{H:List bH}{F:List Fact}{Q:Exit→Act→World→Prop}{ops:Array Oper}{rest:List Oper}{o:Oper}{d:Nat}{x y:Operand}{c q:Nat}{v:Value}{A:Option Addr}{xs ys:List PieceV}{H':List bH}(hH:cB H (bFk.row v 221 xs) H')(hr:dQ β H F bFk A ys)(hg:o.guard=none)
  (ho:o.op= .call {callee:= .builtin .append,args:= #[x,y],argTypes:= #[219,219]}) (hd:o.dst=some d) (hn:Nat.blt d n=true)
  (hx:Γ.ev x=some v) (hy:Γ.ev y=some (.slice A q c)) (hq:q=ys.length) (hl:xs.length+ys.length≤2932031007402)
  (k: ∀A' cap',At β n ((d,.slice A' (xs++ys).length cap')::Γ) (bFk.row (.slice A' (xs++ys).length cap') 221 (xs++ys)::H') F (wpList prog ops Q rest)):At β n Γ H F (wpList prog ops Q (o::rest)):=by
 obtain⟨i,hi,hz,hs,hb⟩:=bRn;exact dK hH hr hg ho hd hn underlying219 hi hz hs hb rfl hx hy hq n9 p7 k
end
section
open Go.RowKit Go.Proofs.Tryz
theorem Sel.skip{H R:List bH}{c:bH}(h:Sel H R):Sel (c::H) R:=by
 induction h generalizing c with
 | nil=>exact .nil
 | cons h _ ih=>exact .cons (.tail h) ih
def PieceV.pc(x:PieceV):dZ:=⟨x.words.list,x.nest,x.tokens,x.plain⟩
def bOr (u:Bool)(b:Nat):Value:=if u then .pointer (some ⟨b,2,none⟩) else .pointer none
section
variable {P : Program} {β : dE} {n : Nat} {Γ : Env} {H : List bH} {F : List Fact} {Q : Exit → Act → World → Prop} {K : Act → World → Prop} {ops : Array Oper} {rest : List Oper} {o : Oper} {d : Nat} {α : Type} {E : Flat α}
theorem sti_noescape{x:Operand}{ts:Array TypeId}{v:Value}(ho:o.op= .call ⟨.value (.func 164),#[x],ts⟩)(hx:Γ.ev x=some v):Sti prog β n Γ H F o v:=fun a w S f s _=>by
 have hr:(callFunc 164 #[v]).run prog w= .ok (.value v) w:=by
  rw [run_callFunc_extern func164 o0 o0 o0 (e:=Extern.AbiNoEscape.same) o0];rw [Lib.run_noEscape];rfl
 unfold execOp;simp only [ho,resolve,Act.eval,Deferred.ofValue,Sem.run_bind,Sem.run_pure,Result.andThen_ok,invoke];simp [f.ev hx,hr]
theorem u8Info: ∃i:TypeInfo,prog.info? 5=some i∧i.zero=some (.int .u8 0)∧i.size=1∧i.bytes=1:=by
 have h:(prog.info? 5).map (fun i=>(i.zero,i.size,i.bytes))=some (some (.int .u8 0),1,1):=o0
 cases hi:prog.info? 5 with
 | none=>simp [hi] at h
 | some i=>simp [hi] at h;exact⟨i,rfl,h.1,h.2.1,h.2.2⟩
theorem bHj{x y:Operand}{v:Value}{xs ys:Bs}{H':List bH}(hH:cB H (oU.row v 5 xs) H')(hw:want ops Γ o=some true)
  (ho:o.op= .call {callee:= .builtin .append,args:= #[x,y],argTypes:= #[150,9]}) (hd:o.dst=some d) (hn:Nat.blt d n=true) (hx:Γ.ev x=some v) (hy:Γ.ev y=some (.string (bs ys))) (hl:xs.length+ys.length≤140737488355328)
  (k: ∀A' cap',At β n ((d,.slice A' (xs++ys).length cap')::Γ) (oU.row (.slice A' (xs++ys).length cap') 5 (xs++ys)::H') F (wpList prog ops Q rest)):At β n Γ H F (wpList prog ops Q (o::rest)):=by
 obtain⟨i,hi,hz,hs,hb⟩:=u8Info;exact bJy hH hw ho hd hn underlying150 underlying9 hi hz hs hb hx hy hl k
theorem bQ{b:Nat}{t:TypeId}{xs:List α}{H':List bH}(hH:cB H (.obj b (.cells (E.all xs).toArray t)) H')(hm:xs.length≤maxLen)(h:At β n Γ (E.row (.slice (some ⟨b,0,none⟩) xs.length xs.length) t xs::H') F K):At β n Γ H F K:=fun a w S f s k=>by
 have s2:=s.perm hH.perm;have hok:w.heap[b]?=some (.cells (E.all xs).toArray t):=s2.ok _ (List.mem_cons_self ..);refine h a w S f ⟨s2.kept,fun c hc=>?_,fun c hc b' hb=>?_,?_,s2.zone⟩ k
 ·rcases List.mem_cons.1 hc with rfl | hc
  ·refine⟨by rw [E.all_length],.inr ⟨b,_,_,rfl,Nat.zero_le _,hok,Nat.le_refl _,hm,by simp [E.all_length],?_⟩⟩;rw [List.take_of_length_le (by simp [E.all_length])]
  ·exact s2.ok c (List.mem_cons_of_mem _ hc)
 ·rcases List.mem_cons.1 hc with rfl | hc
  ·exact s2.own (.obj b (.cells (E.all xs).toArray t)) (List.mem_cons_self ..) b' hb
  ·exact s2.own c (List.mem_cons_of_mem _ hc) b' hb
 ·have hp:=List.pairwise_cons.1 s2.sep;exact List.pairwise_cons.2 ⟨fun d hd b hb=>hp.1 d hd b hb,hp.2⟩
end
theorem bInfo: ∃j:TypeInfo,prog.info? 152=some j∧j.size≠0:=by
 have h:(prog.info? 152).map (·.size)=some 2:=o0
 cases hi:prog.info? 152 with
 | none=>simp [hi] at h
 | some i=>simp [hi] at h;exact⟨i,rfl,n9⟩
theorem bLies:liesAt prog prog.depth 154 (4/prog.cellsOf 154) 2 152 1=true:=o0
theorem bPtr:prog.underlying 149=some (.pointer 152):=o0
theorem uPtr:prog.underlying 273=some .unsafePointer:=o0
theorem u8Ptr:prog.underlying 191=some (.pointer 5):=o0
def putM (t:Bool):List Bs→KV→KV
 | [],kv=>kv
 | s::r,kv=>putM t r (if gC s t !=0 then bBc (gC s t) (.string (bs s)) kv else kv)
def rK (t:Bool):KV:=putM t fB []
theorem bEk(k k':Int)(v:Value): ∀kv:KV,bBq k (bBc k' v kv)=if k==k' then some v else bBq k kv
 | []=>by simp [bBc,bBq]
 | p::r=>by
  unfold bBc;split
  ·rename_i h;have e:k'=p.1:=by simpa using h
   simp only [bBq];rw [e];split<;>rfl
  ·rename_i h;simp only [bBq];rw [bEk k k' v r]
   by_cases e:k=p.1
   ·subst e
    have:(p.1==k')=false:=by
     rw [beq_eq_false_iff_ne];intro e;exact h ah6
    simp [this]
   ·simp [e]
theorem put_last(t:Bool)(f:Int): ∀(l:List Bs) (kv:KV) (acc:Bs),(bBq f kv).getD (.string (bs []))= .string (bs acc)→(bBq f (putM t l kv)).getD (.string (bs []))= .string (bs (bGw t f l acc))
 | [],_,_,h=>h
 | s::r,kv,acc,h=>by
  rw [putM,bGw];refine put_last t f r _ _ ?_
  by_cases hv:(gC s t !=0)=true
  ·rw [if_pos hv,bEk]
   by_cases hf:gC s t=f
   ·have:(gC s t !=0&&gC s t==f)=true:=by simp [hf] at hv⊢;exact hv
    rw [if_pos (by simp [hf]),if_pos this];rfl
   ·have:(gC s t !=0&&gC s t==f)=false:=by simp [hf]
    rw [if_neg (by simp;exact fun e=>hf e.symm),this];exact h
  ·have:(gC s t !=0&&gC s t==f)=false:=by simp [hv]
   rw [if_neg hv,this];exact h
theorem bPn(t:Bool)(f:Int):(bBq f (rK t)).getD (.string (bs []))= .string (bs (lG t f)):=put_last t f fB [] [] rfl
theorem zeroStr(w:World):(zeroValue 9).run prog w= .ok (.string (bs [])) w:=o0
theorem mapFn:prog.underlying 147=some (.map 62 9):=o0
theorem mapInt:prog.underlying 247=some (.map 3 9):=o0
theorem marks_get(k:Int):(bBq k (bBc 7 (.string (bs [46])) (bBc 6 (.string (bs [92])) (bBc 5 (.string (bs [47])) [])))).getD (.string (bs []))= .string (bs (bSg k)):=by
 rw [bEk,bEk,bEk];unfold bSg
 by_cases h5:k=5
 ·subst h5;rfl
 ·by_cases h6:k=6
  ·subst h6;rfl
  ·by_cases h7:k=7
   ·subst h7;rfl
   ·simp [h5,h6,h7,bBq]
theorem fields_words:Lib.fields [43,32,45,32,42,32,37,32,124,32,109,105,110,32,109,97,120,32,61,32,126,32,60,32,60,61,32,62,61,32,62,32,97,110,100,32,111,114,32,112,111,119,32,114,104,111,32,116,97,107,101,32,100,114,111,112,32,99,97,116,32,105,111,116,97,32,115,104,97,112,101,32,114,97,118,101,108,32,114,101,118,32,116,117,114,110]=fB:=by decide+kernel
theorem fields_spec(s:Bs)(hs:s.length<4294967281)(ha: ∀b∈s,b.toNat<128):cN prog 91 [.string (bs s)] [] [iD] (fun x:Nat=> .slice (some ⟨x,0,none⟩) (Lib.fields s).length (Lib.fields s).length) (fun _=>[]) (fun x=>[mJ.sl (.slice (some ⟨x,0,none⟩) (Lib.fields s).length (Lib.fields s).length) (Lib.fields s)]):=fun S w s0 k=>by
 obtain⟨_,h0,_⟩:=k _ (.head _);refine(Tryz.strings_Fields (bs s) w (by rw [kS];exact hs) (fun j b hb=>ha b (j4 hb)) h0).mono ?_;rintro e w' ⟨rfl,rfl⟩;have hb:Below w.heap.size w (w.alloc (.cells ((Lib.fields (bs s).data.toList).map fun l=>Value.string ⟨l.toArray⟩).toArray 9)):=(Below.refl _ _).alloc (Nat.le_refl _) _;refine⟨w.heap.size,fun b=>S b∨b=w.heap.size,rfl,⟨nV.of_below _ hb,fun c hc=>by simp at hc,fun c hc=>by simp at hc,List.Pairwise.nil,fun b hb'=>?_⟩,All.cons ?_ (fun g hg=>by simp at hg)⟩
 ·rcases hb' with h | h
  ·exact⟨Nat.lt_of_lt_of_le (s0.zone b h).1 hb.size,.inl h⟩
  ·subst h;exact⟨o9,.inr (.inr (Nat.le_refl _))⟩
 ·refine⟨_,_,rfl,fun i x hi=>⟨w.heap.size,0,_,rfl,.inr rfl,fun j u hj=>?_,rfl⟩⟩;have hcell:(w.alloc (.cells ((Lib.fields (bs s).data.toList).map fun l=>Value.string ⟨l.toArray⟩).toArray 9)).heap[w.heap.size]?=some (.cells ((Lib.fields (bs s).data.toList).map fun l=>Value.string ⟨l.toArray⟩).toArray 9):=heap_alloc_new _ _;show World.cell? _ ⟨w.heap.size,0+i*1+j,none⟩=_;have hj':[Value.string (bs x)][j]?=some u:=hj
  have h0:j=0:=by
   cases j with
   | zero=>rfl
   | succ j=>simp at hj'
  subst h0;unfold World.cell?;rw [hcell];have hx:(Lib.fields (bs s).data.toList)[i]?=some x:=hi;simp at hj';subst hj';simp [bs];exact hx
theorem fields_verbs:cN prog 91 [.string (bs [43,32,45,32,42,32,37,32,124,32,109,105,110,32,109,97,120,32,61,32,126,32,60,32,60,61,32,62,61,32,62,32,97,110,100,32,111,114,32,112,111,119,32,114,104,111,32,116,97,107,101,32,100,114,111,112,32,99,97,116,32,105,111,116,97,32,115,104,97,112,101,32,114,97,118,101,108,32,114,101,118,32,116,117,114,110])] [] [iD] (fun x:Nat=> .slice (some ⟨x,0,none⟩) fB.length fB.length) (fun _=>[]) (fun x=>[mJ.sl (.slice (some ⟨x,0,none⟩) fB.length fB.length) fB]):=by
 have:=fields_spec (s:=[43,32,45,32,42,32,37,32,124,32,109,105,110,32,109,97,120,32,61,32,126,32,60,32,60,61,32,62,61,32,62,32,97,110,100,32,111,114,32,112,111,119,32,114,104,111,32,116,97,107,101,32,100,114,111,112,32,99,97,116,32,105,111,116,97,32,115,104,97,112,101,32,114,97,118,101,108,32,114,101,118,32,116,117,114,110]) p7 p7;rw [fields_words] at this;exact this
theorem iL{α:Type}{l:List α}{i:Nat}{x:α}(h:l[i]?=some x):l.drop i=x::l.drop (i+1):=by
 obtain⟨hl,rfl⟩:=List.getElem?_eq_some_iff.1 h;exact List.drop_eq_getElem_cons hl
theorem bFu(t:Bool)(f:Int):(lG t f).length≤5:=by
 by_cases h:lG t f=[]
 ·rw [h];decide
 ·have:=(textF_hit h).1;have key: ∀s∈fB,s.length≤5:=p7
  exact key _ this
theorem bSh(k:Int):(bSg k).length≤1:=by
 unfold bSg
 repeat' split
 all_goals simp
section
variable {it : ItemV}
theorem bNh(h:it.how=3):verbS it.it=(lG false it.fn,1):=by
 unfold verbS;rw [if_pos (show it.it.how=3 from h)];rfl
theorem bOg(h:it.how≠3)(h2:lG true it.fn=[]∨it.how=4):verbS it.it=(lG true it.fn,1):=by
 unfold verbS;rw [if_neg (show ¬it.it.how=3 from h),if_pos (show lG true it.it.fn=[]∨it.it.how=4 from h2)];rfl
theorem bMb(h:it.how≠3)(h1:lG true it.fn≠[])(h2:it.how≠4)(h3:17<it.fn):verbS it.it=([],0):=by
 unfold verbS;rw [if_neg (show ¬it.it.how=3 from h),if_neg (show ¬(lG true it.it.fn=[]∨it.it.how=4) from fun h=>h.elim h1 h2),if_pos (show 17<it.it.fn from h3)]
theorem bNy(h:it.how≠3)(h1:lG true it.fn≠[])(h2:it.how≠4)(h3:it.fn≤17):verbS it.it=(lG true it.fn++bSg it.how,2):=by
 unfold verbS;rw [if_neg (show ¬it.it.how=3 from h),if_neg (show ¬(lG true it.it.fn=[]∨it.it.how=4) from fun h=>h.elim h1 h2),if_neg (show ¬17<it.it.fn from by show ¬17<it.fn;omega)];rfl
end
theorem tO{it:ItemV}(h:it.how=2):operandS it.it=if it.fn=0∧it.nums.list=[]∧cZ it.name=true then some ⟨[it.name],0,1,true⟩ else none:=by
 unfold operandS;rw [if_pos (show it.it.how=2 from h)];rfl
theorem tN{it:ItemV}(h:it.how≠2)(hb:it.fn≠0∨it.name≠[]∨it.nums.list=[]∨256<it.nums.list.length):operandS it.it=none:=by
 unfold operandS;rw [if_neg (show ¬it.it.how=2 from h),if_pos (show it.it.fn≠0∨it.it.name≠[]∨it.it.nums=[]∨256<it.it.nums.length from hb)]
theorem operand_nums{it:ItemV}(h:it.how≠2)(h0:it.fn=0)(h1:it.name=[])(h2:((it.nums.list.length:Nat):Int)≠0)(h3:((it.nums.list.length:Nat):Int)≤256):operandS it.it=some ⟨it.nums.list.map fQ,0,it.nums.list.length,true⟩:=by
 unfold operandS;rw [if_neg (show ¬it.it.how=2 from h),if_neg (show ¬(it.it.fn≠0∨it.it.name≠[]∨it.it.nums=[]∨256<it.it.nums.length) from ?_)]
 ·rfl
 ·rintro(h | h | h | h)
  ·exact h h0
  ·exact h h1
  ·have:it.nums.list=[]:=h;rw [this] at h2;exact h2 rfl
  ·have:256<it.nums.list.length:=h;omega
theorem bOu{α β:Type}{f:α→β}{l:List α}{i:Nat}{x:α}(h:l[i]?=some x):(l.take i).map f++[f x]=(l.take (i+1)).map f:=by
 rw [List.take_add_one,h];simp
section
variable {it : ItemV}
theorem sF(h:it.how=2)(h0:it.fn=0)(h1:((it.nums.list.length:Nat):Int)=0):cZ it.name=(operandS it.it).isSome:=by
 have:it.nums.list=[]:=List.eq_nil_of_length_eq_zero n9;rw [tO h,h0,this];cases cZ it.name<;>simp
theorem qB(h:it.how=2)(h0:it.fn≠0):false=(operandS it.it).isSome:=by
 rw [tO h,if_neg (fun hh=>h0 hh.1)];rfl
theorem qG(h:it.how=2)(h1:((it.nums.list.length:Nat):Int)≠0):false=(operandS it.it).isSome:=by
 rw [tO h,if_neg (fun hh=>h1 (by rw [hh.2.1];rfl))];rfl
end
theorem mV{it:ItemV}{p:dZ}(h:it.how=2)(hp:operandS it.it=some p):(⟨[it.name],0,1,true⟩:dZ)=p:=by
 rw [tO h] at hp;split at hp
 ·exact Option.some.inj hp
 ·cases hp
theorem mM:(prog.info? 221).bind (·.zero)=some (.agg #[.slice none 0 0,.int .i64 0,.int .i64 0,.bool false]):=o0
theorem dJ(a0:Option Addr)(l0 c0:Nat)(z1:Int)(z2:Int)(b3:Bool):prog.built 221 [(0,.slice a0 l0 c0),(1,.int .i64 z1),(2,.int .i64 z2),(3,.bool b3)]=some #[.slice a0 l0 c0,.int .i64 z1,.int .i64 z2,.bool b3]:=o0
theorem gO:prog.built 221 []=some #[.slice none 0 0,.int .i64 0,.int .i64 0,.bool false]:=o0
theorem qI(z2:Int)(b3:Bool):prog.built 221 [(2,.int .i64 z2),(3,.bool b3)]=some #[.slice none 0 0,.int .i64 0,.int .i64 z2,.bool b3]:=o0
theorem bIo(b r1 r2:Nat)(G:Option Addr)(m c:Nat):cN prog 145 [.pointer (some ⟨b,2,none⟩)] [.obj b (.cells [.map (some r1),.map (some r2),.pointer none,.slice G m c].toArray 154)] [] (fun(_:Unit)=> .tuple #[]) (fun(_:Unit)=>[.obj b (.cells [.map (some r1),.map (some r2),.pointer (some ⟨b,2,none⟩),.slice G m c].toArray 154)]) (fun _=>[]):=by
 have hT:=jG;refine k8 func145 ntmps145 ?_;intro β hM;refine g6 ?_;refine ss (bHf bPtr rfl rfl) ?_;refine g6 ?_;obtain⟨j,hj,hj0⟩:=bInfo;refine ss (sti_toUnsafe .head bPtr uPtr hj hj0 rfl rfl (by show 2<4;decide)) ?_;refine ss (sti_noescape rfl rfl) ?_;refine ss (bLg .head uPtr bPtr hj rfl rfl bLies) ?_;refine g4 ?_;exact jQ () rfl (.c0 .nil) j2 (rfl)
theorem bIv(b r1 r2:Nat)(G:Option Addr)(m c:Nat):cN prog 145 [.pointer (some ⟨b,2,none⟩)] [.obj b (.cells [.map (some r1),.map (some r2),.pointer (some ⟨b,2,none⟩),.slice G m c].toArray 154)] [] (fun(_:Unit)=> .tuple #[]) (fun(_:Unit)=>[.obj b (.cells [.map (some r1),.map (some r2),.pointer (some ⟨b,2,none⟩),.slice G m c].toArray 154)]) (fun _=>[]):=by
 have hT:=jG;refine k8 func145 ntmps145 ?_;intro β hM;refine g6 ?_;refine ss (bHf bPtr rfl rfl) ?_;refine g10 ?_;obtain⟨j,hj,_⟩:=bInfo;refine ss (sti_ptr_same bPtr hj rfl rfl rfl) ?_;refine g4 ?_;exact jQ () rfl (.c0 .nil) j2 (rfl)
theorem bEw(b r1 r2:Nat)(u:Bool)(G:Option Addr)(c:Nat)(out s:Bs)(hl:out.length+s.length≤140737488355328):cN prog 127 [.pointer (some ⟨b,2,none⟩),.string (bs s)] [.obj b (.cells [.map (some r1),.map (some r2),bOr u b,.slice G out.length c].toArray 154),oU.row (.slice G out.length c) 5 out] [] (fun(_:Option Addr×Nat)=> .tuple #[.int .i64 (s.length:Nat),.nilIface]) (fun(x:Option Addr×Nat)=>[.obj b (.cells [.map (some r1),.map (some r2),.pointer (some ⟨b,2,none⟩),.slice x.1 (out++s).length x.2].toArray 154),oU.row (.slice x.1 (out++s).length x.2) 5 (out++s)]) (fun _=>[]):=by
 have hT:=jG;refine k8 func127 ntmps127 ?_;intro β hM;refine g7 ?_;cases u
 ·skip
  refine g2 ?_;refine bD func145 (bIo b r1 r2 G _ c) rfl rfl (.c0 .nil) j2 fun _=>?_;refine g10 ?_;refine bHj kT1 rfl rfl rfl rfl rfl rfl n9 fun A1 c2=>?_;refine g9 ?_;refine cP (z':=((s.length:Nat):Int)) rfl ?_;refine g5 ?_;exact rs2 (A1,c2) trivial
 skip
 refine g2 ?_;refine bD func145 (bIv b r1 r2 G _ c) rfl rfl (.c0 .nil) j2 fun _=>?_;refine g10 ?_;refine bHj kT1 rfl rfl rfl rfl rfl rfl n9 fun A3 c4=>?_;refine g9 ?_;refine cP (z':=((s.length:Nat):Int)) rfl ?_;refine g5 ?_;exact rs2 (A3,c4) trivial
theorem bBo(b r1 r2:Nat)(u:Bool)(G:Option Addr)(c:Nat)(out hd tx:Bs)(hl:out.length+hd.length+tx.length+1≤140737488355328):cN prog 94 [.pointer (some ⟨b,0,none⟩),.string (bs hd),.string (bs tx)] [.obj b (.cells [.map (some r1),.map (some r2),bOr u b,.slice G out.length c].toArray 154),oU.row (.slice G out.length c) 5 out] [] (fun(_:Option Addr×Nat)=> .tuple #[]) (fun(x:Option Addr×Nat)=>[.obj b (.cells [.map (some r1),.map (some r2),bOr true b,.slice x.1 (out++((hd++tx)++[10])).length x.2].toArray 154),oU.row (.slice x.1 (out++((hd++tx)++[10])).length x.2) 5 (out++((hd++tx)++[10]))]) (fun _=>[]):=by
 have hT:=jG;refine k8 func94 ntmps94 ?_;intro β hM;refine g6 ?_;refine ss (iN rfl rfl rfl q9) ?_;refine ss (iN rfl rfl rfl q9) ?_;refine bD func127 (bEw b r1 r2 u G c out ((hd++tx)++([10]:Bs)) r8) rfl rfl (.c0 (.c0 .nil)) j2 fun⟨A1,c2⟩=>?_;refine at_nil ?_;exact jQ (A1,c2) rfl (.c0 (.c0 .nil)) j2 (rfl)
theorem bMr(t:Bool):cN prog 54 [.bool t] [] [iD] (fun(x:Nat)=> .map (some x)) (fun _=>[]) (fun(x:Nat)=>[mapF x .u8 (rK t)]):=by
 have hT:=jG;have hvl:fB.length=25:=rfl;refine k8 func54 ntmps54 ?_;intro β hM;refine g7 ?_;refine bLd .u8 rfl rfl rfl rfl fun r1=>?_;refine g6 ?_;refine j5 func91 fields_verbs ⟨d7,j2⟩ fun x2=>?_;refine g5 ?_;refine cE (ι:=Nat×KV) [(0,_),(3,_),(9,_),(10,_)] ⟨rfl,rfl,rfl,rfl,j2⟩ (fun⟨i,kv⟩=>[(11,.int .i64 (i:Nat))]) (fun⟨i,kv⟩=>[mapC r1 .u8 kv]) (fun⟨i,kv⟩=>[Fact.pure (i≤25∧putM t (fB.drop i) kv=rK t)]) (fun⟨i,kv⟩=>25-i) (0,[]) ⟨rfl,j2⟩ (.c0 .nil) ⟨j3 (⟨n9,rfl⟩),j2⟩ ?_;rintro⟨i,kv⟩;dsimp only;refine bC d7 fun hinv3=>?_;refine g6 ?_;refine dM (fun hc12=>?_) fun hc12=>?_
 ·refine g6 ?_;obtain⟨x3,hx4⟩:=gx fB i (by have:fB.length=25:=rfl;omega);refine ss (cJ hT (k:=i) (cD d8) rfl rfl rfl rfl rfl rfl rfl (by have:fB.length=25:=rfl;omega)) ?_;refine ss (dH hx4 0) ?_;refine g7 ?_;refine j5 func92 (bGp x3 t) j2 fun _=>?_;refine g12 ?_;refine iV (fun hc21=>?_) fun hc21=>?_
  ·refine g4 ?_;refine sA .head rfl (.inl rfl) rfl mapFn underlying62 rfl rfl rfl ?_;refine g5 ?_;refine inc (i+1) ?_;refine g3 ?_;exact bk2 (i+1,_) ⟨j3 (⟨by dsimp only;omega,by have h:=hinv3.2;rw [iL hx4,putM,if_pos ‹_›] at h;exact h⟩),j2⟩
  refine g5 ?_;refine inc (i+1) ?_;refine g3 ?_;exact bk2 (i+1,_) ⟨j3 (⟨by dsimp only;omega,by have h:=hinv3.2;rw [iL hx4,putM,if_neg af4] at h;exact h⟩),j2⟩
 refine g12 ?_;have hm:kv=rK t:=by have h:=hinv3.2;rw [show i=25 by omega] at h;exact h
 subst hm;refine bOz .head ?_;exact rs1 r1 ⟨d7,j2⟩
theorem bBd(b r1 r2:Nat)(p:Value)(G:Option Addr)(m c:Nat)(it:ItemV):cN prog 129 [.pointer (some ⟨b,0,none⟩),.agg #[.int .i64 it.how,.int .i64 it.at_,.int .u8 it.fn,.string (bs it.name),.slice it.nums.addr it.nums.list.length it.nums.cap]] [.obj b (.cells [.map (some r1),.map (some r2),p,.slice G m c].toArray 154)] [mapF r1 .u8 (rK false),mapF r2 .u8 (rK true)] (fun(_:Unit)=> .tuple #[.string (bs (verbS it.it).1),.int .i64 ((verbS it.it).2:Nat)]) (fun(_:Unit)=>[.obj b (.cells [.map (some r1),.map (some r2),p,.slice G m c].toArray 154)]) (fun _=>[]):=by
 have hT:=jG;refine k8 func129 ntmps129 ?_;intro β hM;refine g2 ?_;refine j9 fun b1=>?_;refine g12 ?_;refine fE (fun hc9=>?_) fun hc9=>?_
 ·refine cL<|bU _ _ [(true,0),(true,1),(true,2),(true,3),(true,4),(true,5),(true,6),(true,7),(true,8)] bX o6 (.c0 (.c0 .nil)) bA.self ?_;refine g6 ?_;refine stM rfl (bCk (bMo d7) rfl mapFn underlying62 zeroStr rfl rfl (bPn _ _)) ?_;refine g6 ?_;exact rs2 () j2 (he:=by first | (rw [bNh ‹_›];first | done | rfl) | (rw [bOg ‹_› o7];first | done | rfl) | (rw [bMb ‹_› ‹_› ‹_› ‹_›];first | done | rfl) | (rw [bNy ‹_› ‹_› ‹_› ‹_›];first | done | rfl))
 refine g3 ?_;refine bU _ _ [(true,0),(true,1),(true,2),(true,3),(true,4),(true,5),(true,6),(true,7)] bX o6 (.c0 (.c0 .nil)) bA.self ?_;refine g6 ?_;refine stM rfl (bCk (bMo d8) rfl mapFn underlying62 zeroStr rfl rfl (bPn _ _)) ?_;refine g9 ?_;refine dP (fun hg26=>?_) (fun hg26=>?_)
 ·have hg26:(lG true it.fn)=([]:Bs):=eq_of_beq hg26;refine g16 ?_;exact rs2 () j2 (he:=by first | (rw [bNh ‹_›];first | done | rfl) | (rw [bOg ‹_› o7];first | done | rfl) | (rw [bMb ‹_› ‹_› ‹_› ‹_›];first | done | rfl) | (rw [bNy ‹_› ‹_› ‹_› ‹_›];first | done | rfl))
 have hg26:(lG true it.fn)≠([]:Bs):=fun h=>absurd (beq_iff_eq.2 h) (by rw [show((lG true it.fn)==([]:Bs))=false from hg26];simp);refine g6 ?_;refine fE (fun hc30=>?_) fun hc30=>?_
 ·refine g9 ?_;exact rs2 () j2 (he:=by first | (rw [bNh ‹_›];first | done | rfl) | (rw [bOg ‹_› o7];first | done | rfl) | (rw [bMb ‹_› ‹_› ‹_› ‹_›];first | done | rfl) | (rw [bNy ‹_› ‹_› ‹_› ‹_›];first | done | rfl))
 refine g10 ?_;refine dM (fun hc34=>?_) fun hc34=>?_
 ·refine g8 ?_;exact rs2 () j2 (he:=by first | (rw [bNh ‹_›];first | done | rfl) | (rw [bOg ‹_› o7];first | done | rfl) | (rw [bMb ‹_› ‹_› ‹_› ‹_›];first | done | rfl) | (rw [bNy ‹_› ‹_› ‹_› ‹_›];first | done | rfl))
 refine g5 ?_;refine bLd .i64 rfl rfl rfl rfl fun r2=>?_;refine sA .head rfl (.inr rfl) rfl mapInt underlying3 rfl rfl rfl ?_;refine sA .head rfl (.inr rfl) rfl mapInt underlying3 rfl rfl rfl ?_;refine sA .head rfl (.inr rfl) rfl mapInt underlying3 rfl rfl rfl ?_;refine g3 ?_;refine ss (bCk (knows_mapC .head) rfl mapInt underlying3 zeroStr rfl rfl (marks_get _)) ?_;refine ss (iN rfl rfl rfl (by have:=bFu true it.fn;have:=bSh it.how;omega)) ?_;refine g5 ?_;exact rs2 () j2 (he:=by first | (rw [bNh ‹_›];first | done | rfl) | (rw [bOg ‹_› o7];first | done | rfl) | (rw [bMb ‹_› ‹_› ‹_› ‹_›];first | done | rfl) | (rw [bNy ‹_› ‹_› ‹_› ‹_›];first | done | rfl))
theorem bCt(it:ItemV)(hn:it.name.length≤140737488355328)(hz: ∀z∈it.nums.list,-9223372036854775808≤z∧z≤9223372036854775807):cN prog 128 [.agg #[.int .i64 it.how,.int .i64 it.at_,.int .u8 it.fn,.string (bs it.name),.slice it.nums.addr it.nums.list.length it.nums.cap]] [] [numF it,iD] (fun(x:PieceV)=> .tuple #[.agg #[.slice x.words.addr x.words.list.length x.words.cap,.int .i64 (x.nest:Nat),.int .i64 (x.tokens:Nat),.bool x.plain],.bool (operandS it.it).isSome]) (fun(x:PieceV)=>[mJ.row (.slice x.words.addr x.words.list.length x.words.cap) 9 x.words.list]) (fun(x:PieceV)=>[Fact.pure (∀p,operandS it.it=some p→x.pc=p)]):=by
 have hT:=jG;refine k8 func128 ntmps128 ?_;intro β hM;refine g2 ?_;refine j9 fun b1=>?_;refine j6 mM fun b2=>?_;refine g11 ?_;refine fE (fun hc9=>?_) fun hc9=>?_
 ·refine cL<|lL _ _ (.fl 0 (.fl 1 (.fl 4 (.fl 5 (.fl 6 (.fl 7 (.fl 8 (.fl 9 (.fl 10 (.fl 11 (.fl 12 (.fl 13 (.fl 14 (.fl 15 (.two 2 16 (.fl 3 (.op 16 (.fl 17 (.op 18 (.fl 19 .nil))))) (.fl 17 (.op 2 (.fl 3 (.op 18 (.fl 19 .nil)))))))))))))))))))) bX o6 (.c1 .nil) bA.self ?_;refine g6 ?_;refine mY (fun hg17=>?_) fun hg17=>?_
  ·refine g6 ?_;refine mY (fun hg23=>?_) fun hg23=>?_
   ·refine g2 ?_;refine jD (o:=_) (o':=_) rfl rfl ?_ ?_
    ·refine jJ (m:=it.name) rfl rfl rfl rfl rfl fun b3=>?_;refine one ?_;refine sqT rfl (k7 (dJ _ _ _ _ _ _)) ?_;refine one ?_;refine bD func63 (mX _ hn) rfl rfl .nil ⟨d8,j2⟩ fun _=>?_;refine g10 ?_;refine bQ (E:=mJ) kT1 q8 ?_;exact rs2 (⟨⟨some ⟨b3,0,none⟩,_,[it.name]⟩,0,1,true⟩:PieceV) ⟨j3 (fun p hp=>mV ‹_› hp),j2⟩ (he:=congrArg (fun b:Bool=>Value.tuple #[_,.bool b]) aa2)
    refine bD func63 (mX _ hn) rfl rfl .nil ⟨d8,j2⟩ fun _=>?_;refine g3 ?_;refine jJ (m:=it.name) rfl rfl rfl rfl rfl fun b4=>?_;refine one ?_;refine sqT rfl (k7 (dJ _ _ _ _ _ _)) ?_;refine g8 ?_;refine bQ (E:=mJ) kT1 q8 ?_;exact rs2 (⟨⟨some ⟨b4,0,none⟩,_,[it.name]⟩,0,1,true⟩:PieceV) ⟨j3 (fun p hp=>mV ‹_› hp),j2⟩ (he:=congrArg (fun b:Bool=>Value.tuple #[_,.bool b]) aa2)
   refine g2 ?_;refine jD (o:=_) (o':=_) rfl rfl ?_ ?_
   ·refine jJ (m:=it.name) rfl rfl rfl rfl rfl fun b5=>?_;refine one ?_;refine sqT rfl (k7 (dJ _ _ _ _ _ _)) ?_;refine g12 ?_;refine bQ (E:=mJ) kT1 q8 ?_;exact rs2 (⟨⟨some ⟨b5,0,none⟩,_,[it.name]⟩,0,1,true⟩:PieceV) ⟨j3 (fun p hp=>mV ‹_› hp),j2⟩ (he:=congrArg (fun b:Bool=>Value.tuple #[_,.bool b]) aa2)
   refine g4 ?_;refine jJ (m:=it.name) rfl rfl rfl rfl rfl fun b6=>?_;refine one ?_;refine sqT rfl (k7 (dJ _ _ _ _ _ _)) ?_;refine g8 ?_;refine bQ (E:=mJ) kT1 q8 ?_;exact rs2 (⟨⟨some ⟨b6,0,none⟩,_,[it.name]⟩,0,1,true⟩:PieceV) ⟨j3 (fun p hp=>mV ‹_› hp),j2⟩ (he:=congrArg (fun b:Bool=>Value.tuple #[_,.bool b]) aa2)
  refine g8 ?_;refine jD (o:=_) (o':=_) rfl rfl ?_ ?_
  ·refine jJ (m:=it.name) rfl rfl rfl rfl rfl fun b7=>?_;refine one ?_;refine sqT rfl (k7 (dJ _ _ _ _ _ _)) ?_;refine g12 ?_;refine bQ (E:=mJ) kT1 q8 ?_;exact rs2 (⟨⟨some ⟨b7,0,none⟩,_,[it.name]⟩,0,1,true⟩:PieceV) ⟨j3 (fun p hp=>mV ‹_› hp),j2⟩ (he:=congrArg (fun b:Bool=>Value.tuple #[_,.bool b]) aa2)
  refine g4 ?_;refine jJ (m:=it.name) rfl rfl rfl rfl rfl fun b8=>?_;refine one ?_;refine sqT rfl (k7 (dJ _ _ _ _ _ _)) ?_;refine g8 ?_;refine bQ (E:=mJ) kT1 q8 ?_;exact rs2 (⟨⟨some ⟨b8,0,none⟩,_,[it.name]⟩,0,1,true⟩:PieceV) ⟨j3 (fun p hp=>mV ‹_› hp),j2⟩ (he:=congrArg (fun b:Bool=>Value.tuple #[_,.bool b]) aa2)
 refine g9 ?_;refine bEt (fun hg31=>?_) fun hg31=>?_
 ·refine g21 ?_;refine ss (k7 (gO)) ?_;refine g6 ?_;refine cH (t:=9) mJ ?_;have ho:=tN (it:=it) ‹_› v8;exact rs2 (⟨⟨none,0,[]⟩,0,0,false⟩:PieceV) ⟨j3 (fun p hp=>by rw [ho] at hp;cases hp),j2⟩ (he:=by rw [ho];rfl)
 refine g5 ?_;refine dP (fun hg36=>?_) (fun hg36=>?_)
 ·have hg36:it.name≠([]:Bs):=fun h=>by rw [h] at hg36;first | (simp at hg36;done) | exact absurd hg36 p7
  refine g16 ?_;refine ss (k7 (gO)) ?_;refine g6 ?_;refine cH (t:=9) mJ ?_;have ho:=tN (it:=it) ‹_› v8;exact rs2 (⟨⟨none,0,[]⟩,0,0,false⟩:PieceV) ⟨j3 (fun p hp=>by rw [ho] at hp;cases hp),j2⟩ (he:=by rw [ho];rfl)
 have hg36:it.name=([]:Bs):=eq_of_beq (bLm hg36);refine g6 ?_;refine mY (fun hg42=>?_) fun hg42=>?_
 ·refine g10 ?_;refine ss (k7 (gO)) ?_;refine g6 ?_;refine cH (t:=9) mJ ?_;have ho:=tN (it:=it) ‹_› v8;exact rs2 (⟨⟨none,0,[]⟩,0,0,false⟩:PieceV) ⟨j3 (fun p hp=>by rw [ho] at hp;cases hp),j2⟩ (he:=by rw [ho];rfl)
 refine g7 ?_;refine dM (fun hc47=>?_) fun hc47=>?_
 ·refine g2 ?_;refine ss (k7 (gO)) ?_;refine g6 ?_;refine cH (t:=9) mJ ?_;have ho:=tN (it:=it) ‹_› v8;exact rs2 (⟨⟨none,0,[]⟩,0,0,false⟩:PieceV) ⟨j3 (fun p hp=>by rw [ho] at hp;cases hp),j2⟩ (he:=by rw [ho];rfl)
 refine g7 ?_;refine ss (k7 (qI _ _)) ?_;refine j6 mM fun b9=>?_;refine g13 ?_;refine cH (t:=9) mJ ?_;refine cE (ι:=Nat×List Bs×Option Addr×Nat) [(2,_),(4,_),(54,_),(55,_)] ⟨rfl,rfl,rfl,rfl,j2⟩ (fun⟨i,ws,W,cw⟩=>[(56,.int .i64 (i:Nat))]) (fun⟨i,ws,W,cw⟩=>[.obj b9 (.cells [.slice W ws.length cw,.int .i64 0,.int .i64 (it.nums.list.length:Nat),.bool true].toArray 221),mJ.row (.slice W ws.length cw) 9 ws]) (fun⟨i,ws,W,cw⟩=>[Fact.pure (i≤it.nums.list.length∧ws=(it.nums.list.take i).map fQ∧ws.length=i)]) (fun⟨i,ws,W,cw⟩=>it.nums.list.length-i) (0,[],none,0) ⟨rfl,j2⟩ (.c1 (.c0 .nil)) ⟨j3 (⟨n9,rfl,rfl⟩),j2⟩ ?_;rintro⟨i,ws,W,cw⟩;dsimp only;refine bC d7 fun hinv7=>?_;refine g6 ?_;refine dM (fun hc57=>?_) fun hc57=>?_
 ·refine g6 ?_;obtain⟨x10,hx11⟩:=gx it.nums.list i;refine ss (ixs i) ?_;refine ss (dH hx11 0) ?_;refine g3 ?_;refine nX 7 _ _ [(true,0),(true,1),(true,2),(false,3),(false,4),(false,5),(true,6)] bX o6 (.c0 (.c1 (.c1 .nil))) bA.self ?_;refine g4 ?_;have hr:=hz x10 (j4 hx11);refine bD func93 (bEo _ hr.1 hr.2) rfl rfl .nil ⟨d9,j2⟩ fun _=>?_;refine g2 ?_;refine jJ (m:=(fQ x10)) rfl rfl rfl rfl rfl fun b12=>?_;refine g2 ?_;refine lI kT2 (cA .head rfl) rfl rfl rfl rfl rfl rfl rfl w9 fun A13 c14=>?_;refine g9 ?_;refine inc (i+1) ?_;refine g3 ?_;exact dN (i+1,ws++[fQ x10],_,_) z7 ⟨rfl,j2⟩ ⟨rfl,rfl,rfl,rfl,j2⟩ (.c0 (.c0 (.c1 (.c1 .nil)))) ⟨j3 (⟨by dsimp only;omega,by rw [hinv7.2.1];exact bOu hx11,by simp;omega⟩),j2⟩ (bA.drop 1)
 refine g13 ?_;have ho:=operand_nums (it:=it) ‹_› ‹_› ‹_› ‹_› ‹_›;have hw:ws=it.nums.list.map fQ:=by rw [hinv7.2.1,List.take_of_length_le n9]
 exact rs2 (⟨⟨_,_,ws⟩,0,it.nums.list.length,true⟩:PieceV) ⟨j3 (fun p hp=>by rw [ho] at hp;cases hp;rw [hw];rfl),j2⟩ (he:=by rw [ho];rfl)
end
end Go.Proofs.YtakphiannlpnfaaGreatDoor
