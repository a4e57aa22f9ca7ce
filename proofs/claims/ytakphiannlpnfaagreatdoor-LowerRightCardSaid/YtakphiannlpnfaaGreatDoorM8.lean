/- Texts of one proof, one behind the other: ParseB, ParseC, TysS, BuildA. -/
import Derived.Test.YtakphiannlpnfaaGreatDoorM2
import Derived.Test.YtakphiannlpnfaaGreatDoorM7
import Derived.Test.YtakphiannlpnfaaGreatDoorM4
import Derived.Test.YtakphiannlpnfaaGreatDoorM5
import Derived.Lib.Fields
namespace Go.Proofs.YtakphiannlpnfaaGreatDoor
section
open Go.RowKit Go.Proofs.Tryz
set_option maxRecDepth 100000
def sM (x:InputV):Fact:=bHq.sl (.slice x.sides.addr x.sides.list.length x.sides.cap) x.sides.list
def jE (l:List InputV):Fact:=Fact.each l sM
def bQp (x:LineV):Fact:=(mK.sl (.slice x.items.addr x.items.list.length x.items.cap) x.items.list).and (nY x.items.list)
def nE (l:List LineV):Fact:=Fact.each l bQp
theorem bNt{F:List Fact}{l:List InputV}{x:InputV}(h:Has F (jE l))(hx:Has F (sM x)):Has F (jE (l++[x])):=Has.each_snoc h hx
theorem bXn{F:List Fact}{l:List LineV}{x:LineV}(h:Has F (nE l))(hx:Has F (bQp x)):Has F (nE (l++[x])):=Has.each_snoc h hx
section
variable {toks : List TokV} {e : Int} {k : Nat} {acc : List jQ}
theorem wQ(hk:k<toks.length):toks.drop k=bG toks k::toks.drop (k+1)∧(bG toks k).at_=atP toks k e:=by
 have h:toks[k]?=some toks[k]:=List.getElem?_eq_getElem hk;rw [uU h,bHh h];exact⟨List.drop_eq_getElem_cons hk,rfl⟩
theorem bXb(hk:k<toks.length)(h2:(bG toks k).kind≠2)(hn:(bG toks k).kind≠1∨dD (bG toks k).word=false){a:List pN}:nX (toks.drop k) a=(a,(atP toks k e,41)):=by
 rw [(wQ (e:=e) hk).1,nX,if_pos ⟨h2,hn⟩,(wQ (e:=e) hk).2]
theorem sides_ok(hn:(bG toks k).kind=2∨(bG toks k).kind=1∧dD (bG toks k).word=true): ¬((bG toks k).kind≠2∧((bG toks k).kind≠1∨dD (bG toks k).word=false)):=by
 rintro⟨h1,h2⟩
 rcases hn with hn | ⟨a,b⟩
 ·exact h1 hn
 ·rcases h2 with h2 | h2
  ·exact h2 a
  ·rw [b] at h2;cases h2
theorem bPu(hk:k<toks.length)(hn:(bG toks k).kind=2∨(bG toks k).kind=1∧dD (bG toks k).word=true){a:List pN}(h4:a.length=4):nX (toks.drop k) a=(a,(atP toks k e,45)):=by
 rw [(wQ (e:=e) hk).1,nX,if_neg (sides_ok hn),if_pos h4,(wQ (e:=e) hk).2]
theorem bRr(hk:k<toks.length)(hn:(bG toks k).kind=2∨(bG toks k).kind=1∧dD (bG toks k).word=true){a:List pN}(h4:a.length≠4):nX (toks.drop k) a=nX (toks.drop (k+1)) (a++[⟨(bG toks k).word,(bG toks k).n⟩]):=by
 rw [(wQ (e:=0) hk).1,nX,if_neg (sides_ok hn),if_neg h4]
theorem sides_end(hk:toks.length≤k){a:List pN}:nX (toks.drop k) a=(a,(0,0)):=by
 rw [List.drop_of_length_le hk];rfl
variable {p : gN} {n : Nat} {over : Bool}
theorem bKk(hn:n=64):gL toks e p n over=(p,(atP toks 0 e,45)):=by rw [gL,if_pos hn]
variable (hn : n ≠ 64)
include hn
theorem bPt(hl:256<toks.length):gL toks e p n over=(p,(atP toks 256 e,45)):=by rw [gL,if_neg hn,if_pos hl]
variable (hl : ¬ 256 < toks.length)
include hl
theorem zA(h:over=true∨isW (bG toks 0) [105,110]=true∧p.lines≠[]):gL toks e p n over=(p,(atP toks 0 e,40)):=by rw [gL,if_neg hn,if_neg hl,if_pos h]
variable (ho : over = false)
include ho
theorem i_in(hi:isW (bG toks 0) [105,110]=true)(h0:p.lines=[]):gL toks e p n over=(⟨p.inputs++[(mB toks e).1],p.lines⟩,(mB toks e).2):=by
 rw [gL,if_neg hn,if_neg hl,if_neg (by rw [ho,h0];simp),if_pos hi]
variable (hi : isW (bG toks 0) [105, 110] = false)
include hi
theorem i_out(hu:isW (bG toks 0) [111,117,116]=true):gL toks e p n over=(⟨p.inputs,p.lines++[(vM toks e [] 1).1]⟩,(vM toks e [] 1).2):=by
 rw [gL,if_neg hn,if_neg hl,if_neg ai9,if_neg ag6,if_pos hu]
variable (hu : isW (bG toks 0) [111, 117, 116] = false)
include hu
theorem i_none(h:(bG toks 0).kind≠1∨dD (bG toks 0).word=false):gL toks e p n over=(p,(atP toks 0 e,40)):=by
 rw [gL,if_neg hn,if_neg hl,if_neg ai9,if_neg ag6,if_neg (by rw [hu];simp),if_pos h]
variable (h1 : (bG toks 0).kind = 1) (hm : dD (bG toks 0).word = true)
include h1 hm
theorem i_want(h:(bG toks 1).kind≠3∨(bG toks 1).word≠[58]):gL toks e p n over=(p,(atP toks 1 e,42)):=by
 rw [gL,if_neg hn,if_neg hl,if_neg ai9,if_neg ag6,if_neg (by rw [hu];simp),if_neg (by rw [h1,hm];simp),if_pos h]
theorem i_line(h3:(bG toks 1).kind=3)(hw:(bG toks 1).word=[58]):gL toks e p n over=(⟨p.inputs,p.lines++[(vM toks e (bG toks 0).word 2).1]⟩,(vM toks e (bG toks 0).word 2).2):=by
 rw [gL,if_neg hn,if_neg hl,if_neg ai9,if_neg ag6,if_neg (by rw [hu];simp),if_neg (by rw [h1,hm];simp),if_neg (by rw [h3,hw];simp)]
end
theorem bMx{toks:List TokV}{e:Int}{p:gN}{n:Nat}{over:Bool}(h:nN (gL toks e p n over).2=true):n≠64∧(gL toks e p n over).1.inputs.length+(gL toks e p n over).1.lines.length≤p.inputs.length+p.lines.length+1:=by
 refine⟨fun hn=>?_,?_⟩
 ·rw [bKk hn] at h;simp [nN,pB] at h
 ·unfold gL
  repeat' split
  all_goals (first | (simp;done) | (simp;omega))
theorem isW_ne{t:TokV}{w:Bs}(h:t.kind≠1):isW t w=false:=by simp [isW,h]
theorem isW_is{t:TokV}{w:Bs}(h:t.kind=1)(hw:t.word=w):isW t w=true:=by simp [isW,h,hw]
theorem isW_no{t:TokV}{w:Bs}(hw:t.word≠w):isW t w=false:=by simp [isW,hw]
theorem bCk{i:List gM}{l:List LineV}(h: ¬0<l.length):false=sI ⟨i,l.map LineV.ln⟩:=by
 have:l=[]:=List.eq_nil_of_length_eq_zero n7;subst this;rfl
theorem bDl{i:List gM}{l:List LineV}{x:LineV}(h:l[l.length-1]?=some x):(x.name==[])=sI ⟨i,l.map LineV.ln⟩:=by
 unfold sI;dsimp only;rw [List.getLast?_map,List.getLast?_eq_getElem?,h];rfl
theorem bMq{toks:List TokV}{n:Nat}(hn:n=(dL toks).length)(h:toks.length≤n):toks.drop n=toks.drop ((dL toks).length+1):=by
 rw [List.drop_of_length_le h,List.drop_of_length_le n7]
theorem bFh{α β:Type}{f:α→β}{l:List α}(h:0<l.length):l.map f≠[]:=fun e=>by
 have:l=[]:=List.map_eq_nil_iff.1 e;subst this;simp at h
theorem map_nil{α β:Type}{f:α→β}{l:List α}(h: ¬0<l.length):l.map f=[]:=by
 have:l=[]:=List.eq_nil_of_length_eq_zero n7;subst this;rfl
def progFct(x:ProgV):Fact:=((kR.sl (.slice x.inputs.addr x.inputs.list.length x.inputs.cap) x.inputs.list).and (jE x.inputs.list)).and ((pV.sl (.slice x.lines.addr x.lines.list.length x.lines.cap) x.lines.list).and (nE x.lines.list))
theorem bCh: ∀(f i:Nat) (s:Bs) (out:List Tok),(lexGo f i s out).1.length≤out.length+s.length
 | 0,_,_,out=>by simp [lexGo]
 | _+1,_,[],out=>by simp [lexGo]
 | f+1,i,b::r,out=>by
  unfold lexGo;split
  ·have:=bCh f (i+1) r out;simp only [List.length_cons];omega
  ·split
   ·have:=bCh f (i+runB (· !=10) (b::r)) ((b::r).drop (runB (· !=10) (b::r))) out;rw [List.length_drop] at this;omega
   ·split
    ·simp
    ·rename_i k wd v m ht;have h1:=bCh f (i+m) ((b::r).drop m) (out++[⟨k,i,wd,v⟩]);have h2:=zC ht;simp only [List.length_append,List.length_drop,List.length_cons,List.length_nil] at h1 h2⊢;omega
theorem lex_count(s:Bs):(gK s).1.length≤65536:=by
 unfold gK;split
 ·simp
 ·have:=bCh s.length 0 s [];simp only [List.length_nil] at this;omega
theorem bMr{toks:List TokV}(h: ∀t∈toks,bHm t): ∀t∈dL toks,bHm t:=fun t ht=>h t (List.mem_of_mem_take (by rw [bHx];exact ht))
theorem p_start{text:Bs}{r:gN×Flt}(hR:kP text=r)(h:nN (gK text).2=true):PInv r text.length (gK text).1 ⟨[],[]⟩ 0 false:=⟨_,Nat.le_refl _,by rw [←hR,kP,if_pos h]⟩
theorem p_lexed{text:Bs}{r:gN×Flt}(hR:kP text=r)(h:nN (gK text).2=false):r=(⟨[],[]⟩,(gK text).2):=by rw [←hR,kP,if_neg (by rw [h];simp)]
theorem vX{α:Type}{l:List α}(h:0<l.length):l≠[]:=List.length_pos_iff.1 h
theorem bMo{α:Type}{l:List α}(h:((l.length:Nat):Int)=0):l=[]:=List.eq_nil_of_length_eq_zero n7
theorem lD:(prog.info? 50).bind (·.zero)=some (.agg #[.string (bs []),.int .i64 0,.slice none 0 0]):=n9
theorem wE(s0:ByteArray)(z1:Int):prog.built 50 [(1,.int .i64 z1),(0,.string s0)]=some #[.string s0,.int .i64 z1,.slice none 0 0]:=n9
theorem pW(s0:ByteArray)(z1:Int):prog.built 76 [(0,.string s0),(1,.int .i64 z1)]=some #[.string s0,.int .i64 z1]:=n9
theorem qP(z1:Int):prog.built 54 [(1,.int .i64 z1)]=some #[.string (bs []),.int .i64 z1,.slice none 0 0]:=n9
theorem tD:(prog.info? 54).bind (·.zero)=some (.agg #[.string (bs []),.int .i64 0,.slice none 0 0]):=n9
theorem bOl(bl:Nat)(A:Option Addr)(c:Nat)(toks:List TokV)(k0:Nat)(e:Int)(h0:0<toks.length)(hl:toks.length≤1000)(hw: ∀k,(bG toks k).word.length≤65536):cM prog 62 [.pointer (some ⟨bl,0,none⟩)] [.obj bl (.cells [.slice A toks.length c,.int .i64 (k0:Nat),.int .i64 e].toArray 110)] [mY.sl (.slice A toks.length c) toks,iW] (fun(x:InputV×Nat)=> .tuple #[.agg #[.string (bs x.1.name),.int .i64 x.1.at_,.slice x.1.sides.addr x.1.sides.list.length x.1.sides.cap],.agg #[.int .i64 (mB toks e).2.1,.int .i64 (mB toks e).2.2]]) (fun(x:InputV×Nat)=>[.obj bl (.cells [.slice A toks.length c,.int .i64 (x.2:Nat),.int .i64 e].toArray 110)]) (fun(x:InputV×Nat)=>[sM x.1,Fact.pure (x.1.inp=(mB toks e).1)]):=by
 have hT:=fF;generalize hR:mB toks e=r;refine k6 func62 ntmps62 ?_;intro β hM;refine g2 ?_;refine j6 lD fun b1=>?_;refine j6 bFo fun b2=>?_;refine g13 ?_;refine bD func101 (at_spec bl A c toks (1) e) rfl rfl (.c0 .nil) ⟨d7,j0⟩ fun _=>?_;refine one ?_;refine bD func60 (iL bl A c toks (1) e) rfl rfl (.c0 .nil) ⟨d7,j0⟩ fun _=>?_;refine one ?_;refine ss (k7 (wE _ _)) ?_;refine j6 lD fun b3=>?_;refine g5 ?_;refine bU _ _ [(true,0),(true,1),(true,2),(true,3),(true,4),(true,5),(true,6),(true,7),(true,8),(true,9)] bV o5 (.c0 (.c0 (.c0 (.c0 .nil)))) bA.self ?_;refine g12 ?_;refine fN (fun hc24=>?_) fun hc24=>?_
 ·refine cO<|bU _ _ [(true,0),(true,1),(false,2),(false,3),(false,4)] bV o5 (.c0 (.c0 .nil)) bA.self ?_;refine g3 ?_;refine bD func61 (cC bl A c toks (1) e _) rfl rfl (.c1 .nil) ⟨d7,j0⟩ fun _=>?_;refine g11 ?_;have hr:=hR.symm.trans (by rw [mB,if_pos n7]);subst hr;exact rs2 (⟨(bG toks 1).word,atP toks 1 e,⟨none,0,[]⟩⟩,_) ⟨cY,j3 rfl,j0⟩
 refine g6 ?_;refine bD func60 (iL bl A c toks (1) e) rfl rfl (.c1 .nil) ⟨d7,j0⟩ fun _=>?_;refine g3 ?_;refine bHo (fun hg32=>?_) fun hg32=>?_
 ·refine g9 ?_;refine bU _ _ [(true,0),(true,1),(false,2),(false,3),(false,4)] bV o5 (.c0 (.c0 .nil)) bA.self ?_;refine g3 ?_;refine bD func61 (cC bl A c toks (1) e _) rfl rfl (.c0 .nil) ⟨d7,j0⟩ fun _=>?_;refine g11 ?_;have hr:=hR.symm.trans ae5;subst hr;exact rs2 (⟨(bG toks 1).word,atP toks 1 e,⟨none,0,[]⟩⟩,_) ⟨cY,j3 rfl,j0⟩
 refine g2 ?_;refine bD func63 (oE _ (Nat.le_trans (hw _) o9)) rfl rfl .nil ⟨d8,j0⟩ fun _=>?_;refine g4 ?_;refine jJ (fun hc37=>?_) fun hc37=>?_
 ·refine cO<|bU _ _ [(true,0),(true,1),(false,2),(false,3),(false,4)] bV o5 (.c0 (.c0 .nil)) bA.self ?_;refine g3 ?_;refine bD func61 (cC bl A c toks (1) e _) rfl rfl (.c0 .nil) ⟨d7,j0⟩ fun _=>?_;refine g11 ?_;have hr:=hR.symm.trans ae5;subst hr;exact rs2 (⟨(bG toks 1).word,atP toks 1 e,⟨none,0,[]⟩⟩,_) ⟨cY,j3 rfl,j0⟩
 refine g12 ?_;refine cK (t:=76) bHq ?_;refine cB (ι:=Nat×List jQ×Option Addr×Nat) [(0,_),(2,_),(3,_),(4,_)] ⟨rfl,rfl,rfl,rfl,j0⟩ (fun _=>[]) (fun⟨k,sides,S,c2⟩=>[.obj bl (.cells [.slice A toks.length c,.int .i64 (k:Nat),.int .i64 e].toArray 110),.obj b3 (.cells [.string (bs (bG toks 1).word),.int .i64 (atP toks 1 e),.slice S sides.length c2].toArray 50),bHq.row (.slice S sides.length c2) 76 sides]) (fun⟨k,sides,S,c2⟩=>[Fact.pure (nX (toks.drop k) (sides.map jQ.sd)=nX (toks.drop 2) []∧k≤toks.length∧sides.length≤4)]) (fun⟨k,sides,S,c2⟩=>toks.length-k) (2,[],none,0) j0 (.c1 (.c1 (.c0 .nil))) ⟨j3 (⟨rfl,jG (toks:=toks) (k:=1) n7,o6⟩),j0⟩ ?_;rintro⟨k,sides,S,c2⟩;dsimp only;refine bC d7 fun hinv8=>?_;refine g2 ?_;refine bU _ _ [(true,0),(true,1),(true,2),(true,3),(true,4),(true,5),(true,6),(true,7),(true,8),(true,9)] bV o5 (.c0 (.c0 (.c0 (.c0 (.c0 .nil))))) bA.self ?_;refine g12 ?_;refine dJ (fun hc53=>?_) fun hc53=>?_
 ·refine g7 ?_;refine bD func60 (iL bl A c toks (k) e) rfl rfl (.c0 .nil) ⟨d8,j0⟩ fun _=>?_;refine j6 bBm fun b4=>?_;refine g10 ?_;refine bHo (fun hg66=>?_) fun hg66=>?_
  ·refine g4 ?_;refine bHo (fun hg70=>?_) fun hg70=>?_
   ·refine g10 ?_;refine bU _ _ [(true,0),(true,1),(false,2),(false,3),(false,4)] bV o5 (.c0 (.c0 (.c0 (.c0 .nil)))) bA.self ?_;refine g3 ?_;refine bD func61 (cC bl A c toks (k) e _) rfl rfl (.c1 .nil) ⟨d8,j0⟩ fun _=>?_;refine g16 ?_;have hr:=hR.symm.trans ab6;subst hr;refine bE kT5 ?_;exact rs2 (⟨(bG toks 1).word,atP toks 1 e,⟨_,_,sides⟩⟩,_) ⟨d7,j3 rfl,j0⟩
   refine g2 ?_;refine bD func63 (oE _ (Nat.le_trans (hw _) o9)) rfl rfl .nil ⟨d9,j0⟩ fun _=>?_;refine g5 ?_;refine jJ (fun hc76=>?_) fun hc76=>?_
   ·refine cO<|bU _ _ [(true,0),(true,1),(false,2),(false,3),(false,4)] bV o5 (.c0 (.c0 (.c0 (.c0 .nil)))) bA.self ?_;refine g3 ?_;refine bD func61 (cC bl A c toks (k) e _) rfl rfl (.c1 .nil) ⟨d8,j0⟩ fun _=>?_;refine g16 ?_;have hr:=hR.symm.trans ab6;subst hr;refine bE kT5 ?_;exact rs2 (⟨(bG toks 1).word,atP toks 1 e,⟨_,_,sides⟩⟩,_) ⟨d7,j3 rfl,j0⟩
   refine g11 ?_;refine fN (fun hc83=>?_) fun hc83=>?_
   ·refine cO<|bU _ _ [(true,0),(true,1),(false,2),(false,3),(false,4)] bV o5 (.c0 (.c0 (.c0 (.c0 .nil)))) bA.self ?_;refine g3 ?_;refine bD func61 (cC bl A c toks (k) e _) rfl rfl (.c1 .nil) ⟨d8,j0⟩ fun _=>?_;refine g16 ?_;have hr:=hR.symm.trans aa7;subst hr;refine bE kT5 ?_;exact rs2 (⟨(bG toks 1).word,atP toks 1 e,⟨_,_,sides⟩⟩,_) ⟨d7,j3 rfl,j0⟩
   refine g9 ?_;refine ss (k7 (pW _ _)) ?_;refine bKx (m:=⟨_,_⟩) rfl rfl rfl rfl rfl fun b5=>?_;refine bKv kT4 (bW .head rfl) rfl rfl rfl rfl rfl rfl rfl y9 fun A6 c7=>?_;refine g11 ?_;refine inc (k+1) ?_;refine g5 ?_;exact dM (k+1,sides++[⟨(bG toks k).word,(bG toks k).n⟩],_,_) z8 j0 ⟨rfl,rfl,rfl,rfl,j0⟩ (.c0 (.c0 (.c0 (.c2 (.c2 .nil))))) ⟨j3 (⟨by rw [←hinv8.1,List.map_append];exact(bRr n7 ab8 q8).symm,by dsimp only;omega,by simp;omega⟩),j0⟩ (bA.drop 1)
  refine g24 ?_;refine fN (fun hc83=>?_) fun hc83=>?_
  ·refine cO<|bU _ _ [(true,0),(true,1),(false,2),(false,3),(false,4)] bV o5 (.c0 (.c0 (.c0 (.c0 .nil)))) bA.self ?_;refine g3 ?_;refine bD func61 (cC bl A c toks (k) e _) rfl rfl (.c1 .nil) ⟨d8,j0⟩ fun _=>?_;refine g16 ?_;have hr:=hR.symm.trans aa7;subst hr;refine bE kT5 ?_;exact rs2 (⟨(bG toks 1).word,atP toks 1 e,⟨_,_,sides⟩⟩,_) ⟨d7,j3 rfl,j0⟩
  refine g9 ?_;refine ss (k7 (pW _ _)) ?_;refine bKx (m:=⟨_,_⟩) rfl rfl rfl rfl rfl fun b8=>?_;refine bKv kT4 (bW .head rfl) rfl rfl rfl rfl rfl rfl rfl y9 fun A9 c10=>?_;refine g11 ?_;refine inc (k+1) ?_;refine g5 ?_;exact dM (k+1,sides++[⟨(bG toks k).word,(bG toks k).n⟩],_,_) z8 j0 ⟨rfl,rfl,rfl,rfl,j0⟩ (.c0 (.c0 (.c0 (.c2 (.c2 .nil))))) ⟨j3 (⟨by rw [←hinv8.1,List.map_append];exact(bRr n7 ab8 q8).symm,by dsimp only;omega,by simp;omega⟩),j0⟩ (bA.drop 1)
 refine g8 ?_;refine ss (k7 (bAb)) ?_;refine g5 ?_;have hr:=hR.symm.trans (by rw [mB,if_neg n7,if_neg ae9,←hinv8.1,sides_end n7]);subst hr;refine bE kT4 ?_;exact rs2 (⟨(bG toks 1).word,atP toks 1 e,⟨_,_,sides⟩⟩,_) ⟨d7,j3 rfl,j0⟩
theorem bCx(bl:Nat)(A:Option Addr)(c:Nat)(toks:List TokV)(e:Int)(bp:Nat)(I:Option Addr)(ci:Nat)(ins:List InputV)(J:Option Addr)(cj:Nat)(lns:List LineV)(n:Nat)(over:Bool)(h0:0<toks.length)(hn:n≤64)(hil:ins.length+lns.length≤n)(hw: ∀k,(bG toks k).word.length≤65536):cM prog 29 [.pointer (some ⟨bl,0,none⟩),.pointer (some ⟨bp,0,none⟩),.int .i64 (n:Nat),.bool over] [.obj bl (.cells [.slice A toks.length c,.int .i64 (0:Nat),.int .i64 e].toArray 110),.obj bp (.cells [.slice I ins.length ci,.slice J lns.length cj].toArray 25),kR.row (.slice I ins.length ci) 50 ins,pV.row (.slice J lns.length cj) 54 lns] [mY.sl (.slice A toks.length c) toks,iW,jE ins,nE lns] (fun(_:List InputV×List LineV×(Option Addr×Nat)×(Option Addr×Nat)×Nat)=> .agg #[.int .i64 (gL toks e ⟨ins.map InputV.inp,lns.map LineV.ln⟩ n over).2.1,.int .i64 (gL toks e ⟨ins.map InputV.inp,lns.map LineV.ln⟩ n over).2.2]) (fun(x:List InputV×List LineV×(Option Addr×Nat)×(Option Addr×Nat)×Nat)=>[.obj bl (.cells [.slice A toks.length c,.int .i64 (x.2.2.2.2:Nat),.int .i64 e].toArray 110),.obj bp (.cells [.slice x.2.2.1.1 x.1.length x.2.2.1.2,.slice x.2.2.2.1.1 x.2.1.length x.2.2.2.1.2].toArray 25),kR.row (.slice x.2.2.1.1 x.1.length x.2.2.1.2) 50 x.1,pV.row (.slice x.2.2.2.1.1 x.2.1.length x.2.2.2.1.2) 54 x.2.1]) (fun(x:List InputV×List LineV×(Option Addr×Nat)×(Option Addr×Nat)×Nat)=>[jE x.1,nE x.2.1,Fact.pure ((⟨x.1.map InputV.inp,x.2.1.map LineV.ln⟩:gN)=(gL toks e ⟨ins.map InputV.inp,lns.map LineV.ln⟩ n over).1)]):=by
 have hT:=fF;generalize hR:gL toks e ⟨ins.map InputV.inp,lns.map LineV.ln⟩ n over=r;refine k6 func29 ntmps29 ?_;intro β hM;refine g2 ?_;refine j6 bFo fun b1=>?_;refine g5 ?_;refine bD func60 (iL bl A c toks (0) e) rfl rfl (.c1 .nil) ⟨d7,j0⟩ fun _=>?_;refine j6 bBm fun b2=>?_;refine g4 ?_;refine bU _ _ [(true,0),(true,1),(true,2),(true,3),(true,4),(true,5),(true,6),(true,7),(true,8),(true,9),(true,10),(true,11),(true,12),(true,13),(true,14),(true,15),(true,16),(true,17)] bV o5 (.c0 (.c0 (.c0 (.c0 (.c0 (.c0 .nil)))))) bA.self ?_;refine g4 ?_;refine oX (fun hg20=>?_) fun hg20=>?_
 ·refine g7 ?_;refine bM (t':=true) (by rw [hg20];rfl) ?_;refine g6 ?_;refine cI (fun hg10=>?_) (fun hg10=>?_)
  ·have hg10:(bG toks (0)).word=([105,110]:Bs):=eq_of_beq hg10;have hin:=isW_is (t:=bG toks 0) (w:=[105,110]) ‹_› ‹_›;refine one ?_;refine cI (fun hg11=>?_) (fun hg11=>?_)
   ·have hg11:(bG toks (0)).word=([111,117,116]:Bs):=eq_of_beq hg11;have hout:=isW_is (t:=bG toks 0) (w:=[111,117,116]) ‹_› ‹_›;refine g11 ?_;refine fN (fun hc33=>?_) fun hc33=>?_
    ·refine g3 ?_;refine bD func61 (cC bl A c toks (0) e _) rfl rfl (.c1 .nil) ⟨d7,j0⟩ fun _=>?_;refine g6 ?_;have hr:=hR.symm.trans (bKk n7);subst hr;exact rs1 (ins,lns,(_,_),(_,_),_) ⟨d9,e6,j3 (rfl),j0⟩
    refine g11 ?_;refine dJ (fun hc38=>?_) fun hc38=>?_
    ·refine g11 ?_;refine bD func61 (cC bl A c toks (256) e _) rfl rfl (.c0 .nil) ⟨d7,j0⟩ fun _=>?_;refine g6 ?_;have hr:=hR.symm.trans (bPt n7 n7);subst hr;exact rs1 (ins,lns,(_,_),(_,_),_) ⟨d9,e6,j3 (rfl),j0⟩
    refine g4 ?_;refine cI (fun hg52=>?_) (fun hg52=>?_)
    ·refine g17 ?_;refine bD func61 (cC bl A c toks (0) e _) rfl rfl (.c1 .nil) ⟨d7,j0⟩ fun _=>?_;refine g6 ?_;have hr:=hR.symm.trans (zA n7 n7 aa2);subst hr;exact rs1 (ins,lns,(_,_),(_,_),_) ⟨d9,e6,j3 (rfl),j0⟩
    refine g13 ?_;refine dJ (fun hc50=>?_) fun hc50=>?_
    ·refine g3 ?_;refine bD func61 (cC bl A c toks (0) e _) rfl rfl (.c1 .nil) ⟨d7,j0⟩ fun _=>?_;refine g6 ?_;have hr:=hR.symm.trans (zA n7 n7 aa2);subst hr;exact rs1 (ins,lns,(_,_),(_,_),_) ⟨d9,e6,j3 (rfl),j0⟩
    refine g9 ?_;refine j6 lD fun b3=>?_;refine g5 ?_;refine bD func62 (bOl bl A c toks 0 e h0 n7 hw) rfl rfl (.c2 .nil) ⟨d7,d8,j0⟩ fun⟨x4,k5⟩=>?_;refine bC d8 fun hx=>?_;dsimp only at hx;refine bB (jE (ins++[x4])) (bNt e7 d7) ?_;refine g8 ?_;refine lC 10 _ _ [(true,0),(true,1),(true,2),(true,3),(true,4),(true,5),(false,6),(false,7),(true,8),(true,9)] bV o5 (.c0 (.c0 (.c0 (.c0 (.c0 (.c1 .nil)))))) bA.self ?_;refine g7 ?_;refine bGv (m:=x4) rfl rfl rfl rfl rfl fun b6=>?_;refine g2 ?_;refine bIh kT6 (bW .head rfl) rfl rfl rfl rfl rfl rfl rfl y9 fun A7 c8=>?_;refine g16 ?_;have hr:=hR.symm.trans (i_in n7 n7 ‹_› hin (map_nil n7));subst hr;exact rs1 ((ins++[x4]),lns,(_,_),(_,_),_) ⟨d7,e9,j3 (by rw [List.map_append,←hx];rfl),j0⟩
   have hg11:(bG toks (0)).word≠([111,117,116]:Bs):=fun h=>absurd (beq_iff_eq.2 h) ae8;have hout:=isW_no (t:=bG toks 0) (w:=[111,117,116]) ‹_›;refine g11 ?_;refine fN (fun hc33=>?_) fun hc33=>?_
   ·refine g3 ?_;refine bD func61 (cC bl A c toks (0) e _) rfl rfl (.c1 .nil) ⟨d7,j0⟩ fun _=>?_;refine g6 ?_;have hr:=hR.symm.trans (bKk n7);subst hr;exact rs1 (ins,lns,(_,_),(_,_),_) ⟨d9,e6,j3 (rfl),j0⟩
   refine g11 ?_;refine dJ (fun hc38=>?_) fun hc38=>?_
   ·refine g11 ?_;refine bD func61 (cC bl A c toks (256) e _) rfl rfl (.c0 .nil) ⟨d7,j0⟩ fun _=>?_;refine g6 ?_;have hr:=hR.symm.trans (bPt n7 n7);subst hr;exact rs1 (ins,lns,(_,_),(_,_),_) ⟨d9,e6,j3 (rfl),j0⟩
   refine g4 ?_;refine cI (fun hg52=>?_) (fun hg52=>?_)
   ·refine g17 ?_;refine bD func61 (cC bl A c toks (0) e _) rfl rfl (.c1 .nil) ⟨d7,j0⟩ fun _=>?_;refine g6 ?_;have hr:=hR.symm.trans (zA n7 n7 aa2);subst hr;exact rs1 (ins,lns,(_,_),(_,_),_) ⟨d9,e6,j3 (rfl),j0⟩
   refine g13 ?_;refine dJ (fun hc50=>?_) fun hc50=>?_
   ·refine g3 ?_;refine bD func61 (cC bl A c toks (0) e _) rfl rfl (.c1 .nil) ⟨d7,j0⟩ fun _=>?_;refine g6 ?_;have hr:=hR.symm.trans (zA n7 n7 aa2);subst hr;exact rs1 (ins,lns,(_,_),(_,_),_) ⟨d9,e6,j3 (rfl),j0⟩
   refine g9 ?_;refine j6 lD fun b9=>?_;refine g5 ?_;refine bD func62 (bOl bl A c toks 0 e h0 n7 hw) rfl rfl (.c2 .nil) ⟨d7,d8,j0⟩ fun⟨x10,k11⟩=>?_;refine bC d8 fun hx=>?_;dsimp only at hx;refine bB (jE (ins++[x10])) (bNt e7 d7) ?_;refine g8 ?_;refine lC 10 _ _ [(true,0),(true,1),(true,2),(true,3),(true,4),(true,5),(false,6),(false,7),(true,8),(true,9)] bV o5 (.c0 (.c0 (.c0 (.c0 (.c0 (.c1 .nil)))))) bA.self ?_;refine g7 ?_;refine bGv (m:=x10) rfl rfl rfl rfl rfl fun b12=>?_;refine g2 ?_;refine bIh kT6 (bW .head rfl) rfl rfl rfl rfl rfl rfl rfl y9 fun A13 c14=>?_;refine g16 ?_;have hr:=hR.symm.trans (i_in n7 n7 ‹_› hin (map_nil n7));subst hr;exact rs1 ((ins++[x10]),lns,(_,_),(_,_),_) ⟨d7,e9,j3 (by rw [List.map_append,←hx];rfl),j0⟩
  have hg10:(bG toks (0)).word≠([105,110]:Bs):=fun h=>absurd (beq_iff_eq.2 h) (by rw [show((bG toks (0)).word==([105,110]:Bs))=false from hg10];simp);have hin:=isW_no (t:=bG toks 0) (w:=[105,110]) ‹_›;refine one ?_;refine cI (fun hg11=>?_) (fun hg11=>?_)
  ·have hg11:(bG toks (0)).word=([111,117,116]:Bs):=eq_of_beq hg11;have hout:=isW_is (t:=bG toks 0) (w:=[111,117,116]) ‹_› ‹_›;refine g11 ?_;refine fN (fun hc33=>?_) fun hc33=>?_
   ·refine g3 ?_;refine bD func61 (cC bl A c toks (0) e _) rfl rfl (.c1 .nil) ⟨d7,j0⟩ fun _=>?_;refine g6 ?_;have hr:=hR.symm.trans (bKk n7);subst hr;exact rs1 (ins,lns,(_,_),(_,_),_) ⟨d9,e6,j3 (rfl),j0⟩
   refine g11 ?_;refine dJ (fun hc38=>?_) fun hc38=>?_
   ·refine g11 ?_;refine bD func61 (cC bl A c toks (256) e _) rfl rfl (.c0 .nil) ⟨d7,j0⟩ fun _=>?_;refine g6 ?_;have hr:=hR.symm.trans (bPt n7 n7);subst hr;exact rs1 (ins,lns,(_,_),(_,_),_) ⟨d9,e6,j3 (rfl),j0⟩
   refine g4 ?_;refine cI (fun hg52=>?_) (fun hg52=>?_)
   ·refine g17 ?_;refine bD func61 (cC bl A c toks (0) e _) rfl rfl (.c1 .nil) ⟨d7,j0⟩ fun _=>?_;refine g6 ?_;have hr:=hR.symm.trans (zA n7 n7 aa2);subst hr;exact rs1 (ins,lns,(_,_),(_,_),_) ⟨d9,e6,j3 (rfl),j0⟩
   refine g40 ?_;refine g7 ?_;refine ss (k7 (qP _)) ?_;refine j6 tD fun b15=>?_;refine g24 ?_;refine bD func64 (bUr bl A c toks (1) e n7 n7 hw) rfl rfl (.c0 .nil) ⟨d7,d8,j0⟩ fun⟨C16,e17,its18,k19⟩=>?_;refine bC d9 fun hits=>?_;dsimp only at hits;refine bB (nE (lns++[(⟨[],(bG toks 0).at_,⟨C16,e17,its18⟩⟩:LineV)])) (bXn e9 (Has.and d7 d8)) ?_;refine g9 ?_;refine lC 10 _ _ [(true,0),(true,1),(true,2),(true,3),(true,4),(true,5),(false,6),(false,7),(true,8),(true,9)] bV o5 (.c0 (.c0 (.c0 (.c0 (.c0 (.c0 .nil)))))) bA.self ?_;refine g7 ?_;refine bLs (m:=(⟨[],(bG toks 0).at_,⟨C16,e17,its18⟩⟩:LineV)) rfl rfl rfl rfl rfl fun b20=>?_;refine g2 ?_;refine bLm kT7 (bW .head rfl) rfl rfl rfl rfl rfl rfl rfl y9 fun A21 c22=>?_;refine g14 ?_;have hr:=hR.symm.trans (i_out n7 n7 ‹_› hin hout);subst hr;exact rs1 (ins,(lns++[(⟨[],(bG toks 0).at_,⟨C16,e17,its18⟩⟩:LineV)]),(_,_),(_,_),_) ⟨e9,d7,j3 (by rw [List.map_append,vM,←hits];rfl),j0⟩
  have hg11:(bG toks (0)).word≠([111,117,116]:Bs):=fun h=>absurd (beq_iff_eq.2 h) ae8;have hout:=isW_no (t:=bG toks 0) (w:=[111,117,116]) ‹_›;refine g11 ?_;refine fN (fun hc33=>?_) fun hc33=>?_
  ·refine g3 ?_;refine bD func61 (cC bl A c toks (0) e _) rfl rfl (.c1 .nil) ⟨d7,j0⟩ fun _=>?_;refine g6 ?_;have hr:=hR.symm.trans (bKk n7);subst hr;exact rs1 (ins,lns,(_,_),(_,_),_) ⟨d9,e6,j3 (rfl),j0⟩
  refine g11 ?_;refine dJ (fun hc38=>?_) fun hc38=>?_
  ·refine g11 ?_;refine bD func61 (cC bl A c toks (256) e _) rfl rfl (.c0 .nil) ⟨d7,j0⟩ fun _=>?_;refine g6 ?_;have hr:=hR.symm.trans (bPt n7 n7);subst hr;exact rs1 (ins,lns,(_,_),(_,_),_) ⟨d9,e6,j3 (rfl),j0⟩
  refine g4 ?_;refine cI (fun hg52=>?_) (fun hg52=>?_)
  ·refine g17 ?_;refine bD func61 (cC bl A c toks (0) e _) rfl rfl (.c1 .nil) ⟨d7,j0⟩ fun _=>?_;refine g6 ?_;have hr:=hR.symm.trans (zA n7 n7 aa2);subst hr;exact rs1 (ins,lns,(_,_),(_,_),_) ⟨d9,e6,j3 (rfl),j0⟩
  refine g29 ?_;refine bM (t':=false) ((congrArg not (show((bG toks (0)).kind==1)=true from (by rw [hg20];rfl)):(!_)=_)) ?_;refine g3 ?_;refine bD func63 (oE _ (Nat.le_trans (hw _) o9)) rfl rfl .nil ⟨d8,j0⟩ fun _=>?_;refine g6 ?_;refine jJ (fun hc83=>?_) fun hc83=>?_
  ·refine g3 ?_;refine bD func61 (cC bl A c toks (0) e _) rfl rfl (.c1 .nil) ⟨d7,j0⟩ fun _=>?_;refine g6 ?_;have hr:=hR.symm.trans (i_none n7 n7 ‹_› hin hout o7);subst hr;exact rs1 (ins,lns,(_,_),(_,_),_) ⟨d9,e6,j3 (rfl),j0⟩
  refine g7 ?_;refine ss (k7 (qP _)) ?_;refine j6 tD fun b23=>?_;refine g31 ?_;refine bD func60 (iL bl A c toks (1) e) rfl rfl (.c1 .nil) ⟨d7,j0⟩ fun _=>?_;refine j6 bBm fun b24=>?_;refine g9 ?_;refine bHo (fun hg115=>?_) fun hg115=>?_
  ·refine g10 ?_;refine bD func61 (cC bl A c toks (1) e _) rfl rfl (.c1 .nil) ⟨d7,j0⟩ fun _=>?_;refine g6 ?_;have hr:=hR.symm.trans (i_want n7 n7 ‹_› hin hout ‹_› ‹_› o7);subst hr;exact rs1 (ins,lns,(_,_),(_,_),_) ⟨d9,e6,j3 (rfl),j0⟩
  refine g6 ?_;refine jA (fun hc119=>?_) fun hc119=>?_
  ·have hc119:(bG toks (1)).word≠([58]:Bs):=fun h=>by rw [h] at hc119;first | (simp at hc119;done) | exact absurd hc119 o9
   refine g3 ?_;refine bD func61 (cC bl A c toks (1) e _) rfl rfl (.c1 .nil) ⟨d7,j0⟩ fun _=>?_;refine g6 ?_;have hr:=hR.symm.trans (i_want n7 n7 ‹_› hin hout ‹_› ‹_› o7);subst hr;exact rs1 (ins,lns,(_,_),(_,_),_) ⟨d9,e6,j3 (rfl),j0⟩
  have hc119:(bG toks (1)).word=([58]:Bs):=eq_of_beq (zM hc119);refine g12 ?_;refine bD func64 (bUr bl A c toks (2) e (by have:=jG (toks:=toks) (k:=1) n7;omega) n7 hw) rfl rfl (.c0 .nil) ⟨d7,d8,j0⟩ fun⟨C25,e26,its27,k28⟩=>?_;refine bC d9 fun hits=>?_;dsimp only at hits;refine bB (nE (lns++[(⟨(bG toks 0).word,(bG toks 0).at_,⟨C25,e26,its27⟩⟩:LineV)])) (bXn e9 (Has.and d7 d8)) ?_;refine g9 ?_;refine lC 10 _ _ [(true,0),(true,1),(true,2),(true,3),(true,4),(true,5),(false,6),(false,7),(true,8),(true,9)] bV o5 (.c0 (.c0 (.c0 (.c0 (.c0 (.c0 (.c0 .nil))))))) bA.self ?_;refine g7 ?_;refine bLs (m:=(⟨(bG toks 0).word,(bG toks 0).at_,⟨C25,e26,its27⟩⟩:LineV)) rfl rfl rfl rfl rfl fun b29=>?_;refine g2 ?_;refine bLm kT8 (bW .head rfl) rfl rfl rfl rfl rfl rfl rfl y9 fun A30 c31=>?_;refine g14 ?_;have hr:=hR.symm.trans (i_line n7 n7 ‹_› hin hout ‹_› ‹_› ‹_› ‹_›);subst hr;exact rs1 (ins,(lns++[(⟨(bG toks 0).word,(bG toks 0).at_,⟨C25,e26,its27⟩⟩:LineV)]),(_,_),(_,_),_) ⟨e9,d7,j3 (by rw [List.map_append,vM,←hits];rfl),j0⟩
 refine g7 ?_;refine bM (t':=false) (beq_eq_false_iff_ne.2 hg20) ?_;refine g12 ?_;have hin:=isW_ne (t:=bG toks 0) (w:=[105,110]) ‹_›;have hout:=isW_ne (t:=bG toks 0) (w:=[111,117,116]) ‹_›;refine g6 ?_;refine fN (fun hc33=>?_) fun hc33=>?_
 ·refine g3 ?_;refine bD func61 (cC bl A c toks (0) e _) rfl rfl (.c1 .nil) ⟨d7,j0⟩ fun _=>?_;refine g6 ?_;have hr:=hR.symm.trans (bKk n7);subst hr;exact rs1 (ins,lns,(_,_),(_,_),_) ⟨d9,e6,j3 (rfl),j0⟩
 refine g11 ?_;refine dJ (fun hc38=>?_) fun hc38=>?_
 ·refine g11 ?_;refine bD func61 (cC bl A c toks (256) e _) rfl rfl (.c0 .nil) ⟨d7,j0⟩ fun _=>?_;refine g6 ?_;have hr:=hR.symm.trans (bPt n7 n7);subst hr;exact rs1 (ins,lns,(_,_),(_,_),_) ⟨d9,e6,j3 (rfl),j0⟩
 refine g4 ?_;refine cI (fun hg52=>?_) (fun hg52=>?_)
 ·refine g17 ?_;refine bD func61 (cC bl A c toks (0) e _) rfl rfl (.c1 .nil) ⟨d7,j0⟩ fun _=>?_;refine g6 ?_;have hr:=hR.symm.trans (zA n7 n7 aa2);subst hr;exact rs1 (ins,lns,(_,_),(_,_),_) ⟨d9,e6,j3 (rfl),j0⟩
 refine g29 ?_;refine bM (t':=true) ((congrArg not (show((bG toks (0)).kind==1)=false from (beq_eq_false_iff_ne.2 hg20)):(!_)=_)) ?_;refine g14 ?_;refine bD func61 (cC bl A c toks (0) e _) rfl rfl (.c1 .nil) ⟨d7,j0⟩ fun _=>?_;refine g6 ?_;have hr:=hR.symm.trans (i_none n7 n7 ‹_› hin hout o7);subst hr;exact rs1 (ins,lns,(_,_),(_,_),_) ⟨d9,e6,j3 (rfl),j0⟩
section
variable {F : List Fact} {A : Option Addr} {c k : Nat} {toks : List TokV}
theorem own_fact(h:Has F (mY.sl (.slice A toks.length c) toks)):Has F (mY.sl (.slice A (dL toks).length c) (dL toks)):=by
 have:=has_take h (bQr toks)
 rwa [bHx] at this
theorem bCp(h:Has F (mY.sl (.slice A toks.length c) toks))(hc:toks.length≤c)(hk:k≤toks.length):Has F (mY.sl (.slice (iE A k mY.size c) (toks.drop k).length (c-k)) (toks.drop k)):=by
 have:=lF h hc hk
 rwa [←List.length_drop] at this
end
theorem qH:(prog.info? 25).bind (·.zero)=some (.agg #[.slice none 0 0,.slice none 0 0]):=n9
theorem gB:prog.built 25 []=some #[.slice none 0 0,.slice none 0 0]:=n9
theorem wD(z2:Int):prog.built 110 [(2,.int .i64 z2)]=some #[.slice none 0 0,.int .i64 0,.int .i64 z2]:=n9
theorem bNp(text:Bs)(hs:text.length≤140737488355328):cM prog 13 [.string (bs text)] [] [iW] (fun(x:ProgV)=> .tuple #[.agg #[.slice x.inputs.addr x.inputs.list.length x.inputs.cap,.slice x.lines.addr x.lines.list.length x.lines.cap],.agg #[.int .i64 (kP text).2.1,.int .i64 (kP text).2.2]]) (fun _=>[]) (fun(x:ProgV)=>[progFct x,Fact.pure (x.pr=(kP text).1)]):=by
 have hT:=fF;generalize hR:kP text=r;refine k6 func13 ntmps13 ?_;intro β hM;refine g2 ?_;refine j6 qH fun b1=>?_;refine j6 bFo fun b2=>?_;refine g5 ?_;refine j5 func28 (bSw text n7) ⟨d7,j0⟩ fun⟨A3,c4⟩=>?_;refine g3 ?_;refine j6 bFo fun b5=>?_;refine g8 ?_;refine ss (k7 (bAb)) ?_;refine ss (gC ⟨(gK text).2.1,(gK text).2.2⟩ ⟨0,0⟩ rfl rfl rfl) ?_;refine g2 ?_;refine jJ (fun hc18=>?_) fun hc18=>?_
 ·refine cO<|bU _ _ [(true,0),(true,1),(false,2),(false,3)] bV o5 (.c0 .nil) bA.self ?_;refine stM rfl (k7 (gB)) ?_;refine g11 ?_;obtain rfl:=p_lexed hR hc18;exact rs2 (⟨⟨none,0,[]⟩,⟨none,0,[]⟩⟩:ProgV) ⟨Has.and (Has.and cY Has.each_nil) (Has.and cY Has.each_nil),j3 rfl,j0⟩
 refine g3 ?_;have hp:=p_start hR hc18;refine one ?_;refine j6 qH fun b6=>?_;refine g10 ?_;have hlc:=lex_count text;refine bC d8 fun hcap=>cK (t:=50) kR<|cK (t:=54) pV<|bB (jE []) (Has.each_nil)<|bB (nE []) (Has.each_nil) ?_;refine cB (ι:=List TokV×Option Addr×Nat×List InputV×List LineV×Option Addr×Nat×Option Addr×Nat×Nat×Bool×Int×Int) [(0,_),(2,_),(3,_),(5,_),(6,_)] ⟨rfl,rfl,rfl,rfl,rfl,j0⟩ (fun⟨toks,A,c,ins,lns,I,ci,J,cj,n,ov,f1,f2⟩=>[(4,.slice A toks.length c),(7,.int .i64 (n:Nat)),(8,.bool ov)]) (fun⟨toks,A,c,ins,lns,I,ci,J,cj,n,ov,f1,f2⟩=>[.obj b6 (.cells [.slice I ins.length ci,.slice J lns.length cj].toArray 25),kR.row (.slice I ins.length ci) 50 ins,pV.row (.slice J lns.length cj) 54 lns,.obj b5 (.cells [.int .i64 f1,.int .i64 f2].toArray 34)]) (fun⟨toks,A,c,ins,lns,I,ci,J,cj,n,ov,f1,f2⟩=>[Fact.pure (PInv r text.length toks ⟨ins.map InputV.inp,lns.map LineV.ln⟩ n ov∧(∀t∈toks,bHm t)∧toks.length≤c∧toks.length≤65536∧n≤64∧ins.length+lns.length≤n),mY.sl (.slice A toks.length c) toks,jE ins,nE lns]) (fun⟨toks,A,c,ins,lns,I,ci,J,cj,n,ov,f1,f2⟩=>toks.length) ((gK text).1,A3,c4,[],[],none,0,none,0,0,false,(gK text).2.1,(gK text).2.2) ⟨rfl,rfl,rfl,j0⟩ (.c2 (.c1 (.c0 (.c0 .nil)))) ⟨j3 (⟨hp,lex_ok text,hcap,hlc,n7,o6⟩),d9,d8,d7,j0⟩ ?_;rintro⟨toks,A,c,ins,lns,I,ci,J,cj,n,ov,f1,f2⟩;dsimp only;refine bC d7 fun hinv6=>?_;refine g8 ?_;refine dJ (fun hc23=>?_) fun hc23=>?_
 ·refine g7 ?_;refine cP (z':=((text.length:Nat):Int)) rfl ?_;refine ss (k7 (wD _)) ?_;refine j9 fun b7=>?_;refine g10 ?_;refine cB (ι:=Nat) [(0,_),(2,_),(3,_),(4,_),(5,_),(6,_),(7,_),(8,_),(9,_)] ⟨rfl,rfl,rfl,rfl,rfl,rfl,rfl,rfl,rfl,j0⟩ (fun j=>[(10,.int .i64 (j:Nat))]) (fun _=>[]) (fun j=>[Fact.pure (j≤(dL toks).length)]) (fun j=>toks.length-j) 0 ⟨rfl,j0⟩ .nil ⟨j3 n7,j0⟩ ?_;rintro j;refine bC d7 fun hinv9=>?_;refine g8 ?_;refine jX (fun hg32=>?_) fun hg32=>?_
  ·refine g2 ?_;obtain⟨x8,hx9⟩:=gx toks j;refine ss (ixs j) ?_;refine one ?_;refine ss (fL hx9 0) ?_;refine g4 ?_;refine wG (fun hc39=>?_) fun hc39=>?_
   ·refine g6 ?_;refine inc (j+1) ?_;refine g4 ?_;exact bk2 (j+1) ⟨j3 (own_more hinv9 ‹_› ‹_›),j0⟩
   refine g6 ?_;have hj:=own_stop hinv9 ae7;subst hj;have hol:=bQr toks;refine g4 ?_;refine ss (mC hT (k:=(dL toks).length) rfl rfl rfl rfl rfl rfl n7) ?_;refine g7 ?_;refine bB (mY.sl (.slice A (dL toks).length c) (dL toks)) (own_fact d9) ?_;refine g7 ?_;refine dJ (fun hc51=>?_) fun hc51=>?_
   ·refine g5 ?_;refine ss (cF hT (k:=(dL toks).length) (cE e6) rfl rfl rfl rfl rfl rfl rfl n7) ?_;refine one ?_;refine ss (j7 hT (dQ.knows (cE e6) (k:=(dL toks).length) (x:=x8) hx9 1)) ?_;refine g8 ?_;refine inc ((dL toks).length+1) ?_;refine g7 ?_;refine ss (dO hT (k:=((dL toks).length+1)) rfl rfl rfl rfl rfl rfl n7) ?_;refine lX (v':= .slice (iE A ((dL toks).length+1) mY.size c) (toks.drop ((dL toks).length+1)).length (c-((dL toks).length+1))) ac2 ?_;refine g5 ?_;refine bB (mY.sl (.slice (iE A ((dL toks).length+1) mY.size c) (toks.drop ((dL toks).length+1)).length (c-((dL toks).length+1))) (toks.drop ((dL toks).length+1))) (bCp e6 hinv6.2.2.1 n7) ?_;refine g9 ?_;refine fN (fun hc70=>?_) fun hc70=>?_
    ·have hon:=bMo hc70;have hsk:PInv r text.length (toks.drop ((dL toks).length+1)) ⟨ins.map InputV.inp,lns.map LineV.ln⟩ n ov:=by have:=p_skip hinv6.1 (vX n7) hon;rw [hon];exact this
     refine g4 ?_;exact dM (toks.drop ((dL toks).length+1),_,_,ins,lns,_,_,_,_,n,_,_,_) aa1 ⟨rfl,rfl,rfl,j0⟩ ⟨rfl,rfl,rfl,rfl,rfl,j0⟩ (.c1 (.c1 (.c1 (.c1 (.c1 (.c1 .nil)))))) ⟨j3 (⟨hsk,fun t ht=>hinv6.2.1 t (List.mem_of_mem_drop ht),by dsimp only;rw [List.length_drop];omega,by dsimp only;rw [List.length_drop];omega,hinv6.2.2.2.2.1,hinv6.2.2.2.2.2⟩),d7,e8,e9,j0⟩ (bA.drop 7)
    refine g8 ?_;have hon:0<(dL toks).length:=n7
    refine bD func29 (bCx _ A c (dL toks) _ _ I ci ins J cj lns n ov hon hinv6.2.2.2.2.1 hinv6.2.2.2.2.2 (bDi (bMr hinv6.2.1))) rfl rfl (.c0 (.c0 (.c0 (.c0 .nil)))) ⟨d8,f9,e8,e9,j0⟩ fun⟨ins10,lns11,⟨I12,ci13⟩,⟨J14,cj15⟩,k16⟩=>?_;refine bC d9 fun hq=>?_;dsimp only at hq;have hE:x8.at_=endP toks text.length:=(bHh hx9).symm;have hpl:=p_line (q:=⟨ins10.map InputV.inp,lns11.map LineV.ln⟩) (f:=(gL (dL toks) x8.at_ ⟨ins.map InputV.inp,lns.map LineV.ln⟩ n ov).2) hinv6.1 (vX n7) (vX hon) ae6;refine g6 ?_;refine ss (k7 (bAb)) ?_;refine ss (gC ⟨(gL (dL toks) x8.at_ ⟨ins.map InputV.inp,lns.map LineV.ln⟩ n ov).2.1,(gL (dL toks) x8.at_ ⟨ins.map InputV.inp,lns.map LineV.ln⟩ n ov).2.2⟩ ⟨0,0⟩ rfl rfl rfl) ?_;refine g2 ?_;refine jJ (fun hc77=>?_) fun hc77=>?_
    ·refine cO<|bU _ _ [(true,0),(true,1),(false,2),(false,3)] bV o5 (.c0 (.c0 (.c0 (.c0 (.c0 .nil))))) bA.self ?_;refine stM rfl (k7 (gB)) ?_;refine g15 ?_;obtain rfl:=hpl.2 hc77;exact rs2 (⟨⟨none,0,[]⟩,⟨none,0,[]⟩⟩:ProgV) ⟨Has.and (Has.and cY Has.each_nil) (Has.and cY Has.each_nil),j3 rfl,j0⟩
    refine g3 ?_;have hp2:=hpl.1 hc77;have hio:=bMx hc77;have hlen:ins10.length+lns11.length≤n+1:=by have:=hio.2;rw [←hq] at this;dsimp only at this;simp only [List.length_map] at this;omega
    refine g3 ?_;refine inc (n+1) ?_;refine g7 ?_;refine cP (z':=((lns11.length:Nat):Int)) (rfl) ?_;refine g2 ?_;refine jX (fun hg86=>?_) fun hg86=>?_
    ·refine g5 ?_;refine cP (z':=((lns11.length:Nat):Int)) (rfl) ?_;refine one ?_;refine inc (lns11.length-1) ?_;obtain⟨x17,hx18⟩:=gx lns11 (lns11.length-1) (show lns11.length-1<lns11.length from by omega);refine ss (cF hT (k:=(lns11.length-1)) (cN kT4) rfl rfl rfl rfl rfl rfl rfl (show lns11.length-1<lns11.length from by omega)) ?_;refine one ?_;refine ss (fL hx18 0) ?_;refine g3 ?_;refine bM (t':=sI ⟨ins10.map InputV.inp,lns11.map LineV.ln⟩) (bDl ‹_›) ?_;refine g3 ?_;exact dM (toks.drop ((dL toks).length+1),_,_,ins10,lns11,_,_,_,_,(n+1),_,_,_) aa1 ⟨rfl,rfl,rfl,j0⟩ ⟨rfl,rfl,rfl,rfl,rfl,j0⟩ (.c2 (.c2 (.c2 (.c0 (.c1 (.c1 .nil)))))) ⟨j3 (⟨hp2,fun t ht=>hinv6.2.1 t (List.mem_of_mem_drop ht),by dsimp only;rw [List.length_drop];omega,by dsimp only;rw [List.length_drop];omega,by have:=hio.1;dsimp only;omega,by dsimp only;omega⟩),e6,d7,d8,j0⟩ (bA.drop 10)
    refine g12 ?_;refine bM (t':=sI ⟨ins10.map InputV.inp,lns11.map LineV.ln⟩) (bCk n7) ?_;refine g3 ?_;exact dM (toks.drop ((dL toks).length+1),_,_,ins10,lns11,_,_,_,_,(n+1),_,_,_) aa1 ⟨rfl,rfl,rfl,j0⟩ ⟨rfl,rfl,rfl,rfl,rfl,j0⟩ (.c2 (.c2 (.c2 (.c0 (.c1 (.c1 .nil)))))) ⟨j3 (⟨hp2,fun t ht=>hinv6.2.1 t (List.mem_of_mem_drop ht),by dsimp only;rw [List.length_drop];omega,by dsimp only;rw [List.length_drop];omega,by have:=hio.1;dsimp only;omega,by dsimp only;omega⟩),e6,d7,d8,j0⟩ (bA.drop 10)
   refine g6 ?_;refine ss (dO hT (k:=(dL toks).length) rfl rfl rfl rfl rfl rfl n7) ?_;refine lX (v':= .slice (iE A (dL toks).length mY.size c) (toks.drop (dL toks).length).length (c-(dL toks).length)) ac2 ?_;refine g5 ?_;refine bB (mY.sl (.slice (iE A (dL toks).length mY.size c) (toks.drop (dL toks).length).length (c-(dL toks).length)) (toks.drop (dL toks).length)) (bCp e6 hinv6.2.2.1 n7) ?_;refine g9 ?_;refine fN (fun hc70=>?_) fun hc70=>?_
   ·have hon:=bMo hc70;exact absurd hc70 n7
   refine g8 ?_;have hon:0<(dL toks).length:=n7
   refine bD func29 (bCx _ A c (dL toks) _ _ I ci ins J cj lns n ov hon hinv6.2.2.2.2.1 hinv6.2.2.2.2.2 (bDi (bMr hinv6.2.1))) rfl rfl (.c0 (.c0 (.c0 (.c0 .nil)))) ⟨d8,f9,e8,e9,j0⟩ fun⟨ins19,lns20,⟨I21,ci22⟩,⟨J23,cj24⟩,k25⟩=>?_;refine bC d9 fun hq=>?_;dsimp only at hq;have hE:((text.length:Nat):Int)=endP toks text.length:=(bQz n7).symm;have hpl:=p_line (q:=⟨ins19.map InputV.inp,lns20.map LineV.ln⟩) (f:=(gL (dL toks) ((text.length:Nat):Int) ⟨ins.map InputV.inp,lns.map LineV.ln⟩ n ov).2) hinv6.1 (vX n7) (vX hon) ae6;refine g6 ?_;refine ss (k7 (bAb)) ?_;refine ss (gC ⟨(gL (dL toks) ((text.length:Nat):Int) ⟨ins.map InputV.inp,lns.map LineV.ln⟩ n ov).2.1,(gL (dL toks) ((text.length:Nat):Int) ⟨ins.map InputV.inp,lns.map LineV.ln⟩ n ov).2.2⟩ ⟨0,0⟩ rfl rfl rfl) ?_;refine g2 ?_;refine jJ (fun hc77=>?_) fun hc77=>?_
   ·refine cO<|bU _ _ [(true,0),(true,1),(false,2),(false,3)] bV o5 (.c0 (.c0 (.c0 (.c0 (.c0 .nil))))) bA.self ?_;refine stM rfl (k7 (gB)) ?_;refine g15 ?_;obtain rfl:=hpl.2 hc77;exact rs2 (⟨⟨none,0,[]⟩,⟨none,0,[]⟩⟩:ProgV) ⟨Has.and (Has.and cY Has.each_nil) (Has.and cY Has.each_nil),j3 rfl,j0⟩
   refine g3 ?_;have hp2:=hpl.1 hc77;have hio:=bMx hc77;have hlen:ins19.length+lns20.length≤n+1:=by have:=hio.2;rw [←hq] at this;dsimp only at this;simp only [List.length_map] at this;omega
   refine g3 ?_;refine inc (n+1) ?_;refine g7 ?_;refine cP (z':=((lns20.length:Nat):Int)) (rfl) ?_;refine g2 ?_;refine jX (fun hg86=>?_) fun hg86=>?_
   ·refine g5 ?_;refine cP (z':=((lns20.length:Nat):Int)) (rfl) ?_;refine one ?_;refine inc (lns20.length-1) ?_;obtain⟨x26,hx27⟩:=gx lns20 (lns20.length-1) (show lns20.length-1<lns20.length from by omega);refine ss (cF hT (k:=(lns20.length-1)) (cN kT4) rfl rfl rfl rfl rfl rfl rfl (show lns20.length-1<lns20.length from by omega)) ?_;refine one ?_;refine ss (fL hx27 0) ?_;refine g3 ?_;refine bM (t':=sI ⟨ins19.map InputV.inp,lns20.map LineV.ln⟩) (bDl ‹_›) ?_;refine g3 ?_;exact dM (toks.drop (dL toks).length,_,_,ins19,lns20,_,_,_,_,(n+1),_,_,_) aa1 ⟨rfl,rfl,rfl,j0⟩ ⟨rfl,rfl,rfl,rfl,rfl,j0⟩ (.c2 (.c2 (.c2 (.c0 (.c1 (.c1 .nil)))))) ⟨j3 (⟨by dsimp only;rw [bMq (toks:=toks) rfl n7];exact hp2,fun t ht=>hinv6.2.1 t (List.mem_of_mem_drop ht),by dsimp only;rw [List.length_drop];omega,by dsimp only;rw [List.length_drop];omega,by have:=hio.1;dsimp only;omega,by dsimp only;omega⟩),e6,d7,d8,j0⟩ (bA.drop 10)
   refine g12 ?_;refine bM (t':=sI ⟨ins19.map InputV.inp,lns20.map LineV.ln⟩) (bCk n7) ?_;refine g3 ?_;exact dM (toks.drop (dL toks).length,_,_,ins19,lns20,_,_,_,_,(n+1),_,_,_) aa1 ⟨rfl,rfl,rfl,j0⟩ ⟨rfl,rfl,rfl,rfl,rfl,j0⟩ (.c2 (.c2 (.c2 (.c0 (.c1 (.c1 .nil)))))) ⟨j3 (⟨by dsimp only;rw [bMq (toks:=toks) rfl n7];exact hp2,fun t ht=>hinv6.2.1 t (List.mem_of_mem_drop ht),by dsimp only;rw [List.length_drop];omega,by dsimp only;rw [List.length_drop];omega,by have:=hio.1;dsimp only;omega,by dsimp only;omega⟩),e6,d7,d8,j0⟩ (bA.drop 10)
  refine g16 ?_;have hj:=own_stop hinv9 ae7;subst hj;have hol:=bQr toks;refine g4 ?_;refine ss (mC hT (k:=(dL toks).length) rfl rfl rfl rfl rfl rfl n7) ?_;refine g7 ?_;refine bB (mY.sl (.slice A (dL toks).length c) (dL toks)) (own_fact d9) ?_;refine g7 ?_;refine dJ (fun hc51=>?_) fun hc51=>?_
  ·refine g5 ?_;obtain⟨x28,hx29⟩:=gx toks ((dL toks).length);refine ss (cF hT (k:=(dL toks).length) (cE e6) rfl rfl rfl rfl rfl rfl rfl n7) ?_;refine one ?_;refine ss (j7 hT (dQ.knows (cE e6) (k:=(dL toks).length) (x:=x28) hx29 1)) ?_;refine g8 ?_;refine inc ((dL toks).length+1) ?_;refine g7 ?_;refine ss (dO hT (k:=((dL toks).length+1)) rfl rfl rfl rfl rfl rfl n7) ?_;refine lX (v':= .slice (iE A ((dL toks).length+1) mY.size c) (toks.drop ((dL toks).length+1)).length (c-((dL toks).length+1))) ac2 ?_;refine g5 ?_;refine bB (mY.sl (.slice (iE A ((dL toks).length+1) mY.size c) (toks.drop ((dL toks).length+1)).length (c-((dL toks).length+1))) (toks.drop ((dL toks).length+1))) (bCp e6 hinv6.2.2.1 n7) ?_;refine g9 ?_;refine fN (fun hc70=>?_) fun hc70=>?_
   ·have hon:=bMo hc70;have hsk:PInv r text.length (toks.drop ((dL toks).length+1)) ⟨ins.map InputV.inp,lns.map LineV.ln⟩ n ov:=by have:=p_skip hinv6.1 (vX n7) hon;rw [hon];exact this
    refine g4 ?_;exact dM (toks.drop ((dL toks).length+1),_,_,ins,lns,_,_,_,_,n,_,_,_) aa1 ⟨rfl,rfl,rfl,j0⟩ ⟨rfl,rfl,rfl,rfl,rfl,j0⟩ (.c1 (.c1 (.c1 (.c1 (.c1 (.c1 .nil)))))) ⟨j3 (⟨hsk,fun t ht=>hinv6.2.1 t (List.mem_of_mem_drop ht),by dsimp only;rw [List.length_drop];omega,by dsimp only;rw [List.length_drop];omega,hinv6.2.2.2.2.1,hinv6.2.2.2.2.2⟩),d7,e8,e9,j0⟩ (bA.drop 7)
   refine g8 ?_;have hon:0<(dL toks).length:=n7
   refine bD func29 (bCx _ A c (dL toks) _ _ I ci ins J cj lns n ov hon hinv6.2.2.2.2.1 hinv6.2.2.2.2.2 (bDi (bMr hinv6.2.1))) rfl rfl (.c0 (.c0 (.c0 (.c0 .nil)))) ⟨d8,f9,e8,e9,j0⟩ fun⟨ins30,lns31,⟨I32,ci33⟩,⟨J34,cj35⟩,k36⟩=>?_;refine bC d9 fun hq=>?_;dsimp only at hq;have hE:x28.at_=endP toks text.length:=(bHh hx29).symm;have hpl:=p_line (q:=⟨ins30.map InputV.inp,lns31.map LineV.ln⟩) (f:=(gL (dL toks) x28.at_ ⟨ins.map InputV.inp,lns.map LineV.ln⟩ n ov).2) hinv6.1 (vX n7) (vX hon) ae6;refine g6 ?_;refine ss (k7 (bAb)) ?_;refine ss (gC ⟨(gL (dL toks) x28.at_ ⟨ins.map InputV.inp,lns.map LineV.ln⟩ n ov).2.1,(gL (dL toks) x28.at_ ⟨ins.map InputV.inp,lns.map LineV.ln⟩ n ov).2.2⟩ ⟨0,0⟩ rfl rfl rfl) ?_;refine g2 ?_;refine jJ (fun hc77=>?_) fun hc77=>?_
   ·refine cO<|bU _ _ [(true,0),(true,1),(false,2),(false,3)] bV o5 (.c0 (.c0 (.c0 (.c0 (.c0 .nil))))) bA.self ?_;refine stM rfl (k7 (gB)) ?_;refine g15 ?_;obtain rfl:=hpl.2 hc77;exact rs2 (⟨⟨none,0,[]⟩,⟨none,0,[]⟩⟩:ProgV) ⟨Has.and (Has.and cY Has.each_nil) (Has.and cY Has.each_nil),j3 rfl,j0⟩
   refine g3 ?_;have hp2:=hpl.1 hc77;have hio:=bMx hc77;have hlen:ins30.length+lns31.length≤n+1:=by have:=hio.2;rw [←hq] at this;dsimp only at this;simp only [List.length_map] at this;omega
   refine g3 ?_;refine inc (n+1) ?_;refine g7 ?_;refine cP (z':=((lns31.length:Nat):Int)) (rfl) ?_;refine g2 ?_;refine jX (fun hg86=>?_) fun hg86=>?_
   ·refine g5 ?_;refine cP (z':=((lns31.length:Nat):Int)) (rfl) ?_;refine one ?_;refine inc (lns31.length-1) ?_;obtain⟨x37,hx38⟩:=gx lns31 (lns31.length-1) (show lns31.length-1<lns31.length from by omega);refine ss (cF hT (k:=(lns31.length-1)) (cN kT4) rfl rfl rfl rfl rfl rfl rfl (show lns31.length-1<lns31.length from by omega)) ?_;refine one ?_;refine ss (fL hx38 0) ?_;refine g3 ?_;refine bM (t':=sI ⟨ins30.map InputV.inp,lns31.map LineV.ln⟩) (bDl ‹_›) ?_;refine g3 ?_;exact dM (toks.drop ((dL toks).length+1),_,_,ins30,lns31,_,_,_,_,(n+1),_,_,_) aa1 ⟨rfl,rfl,rfl,j0⟩ ⟨rfl,rfl,rfl,rfl,rfl,j0⟩ (.c2 (.c2 (.c2 (.c0 (.c1 (.c1 .nil)))))) ⟨j3 (⟨hp2,fun t ht=>hinv6.2.1 t (List.mem_of_mem_drop ht),by dsimp only;rw [List.length_drop];omega,by dsimp only;rw [List.length_drop];omega,by have:=hio.1;dsimp only;omega,by dsimp only;omega⟩),e6,d7,d8,j0⟩ (bA.drop 10)
   refine g12 ?_;refine bM (t':=sI ⟨ins30.map InputV.inp,lns31.map LineV.ln⟩) (bCk n7) ?_;refine g3 ?_;exact dM (toks.drop ((dL toks).length+1),_,_,ins30,lns31,_,_,_,_,(n+1),_,_,_) aa1 ⟨rfl,rfl,rfl,j0⟩ ⟨rfl,rfl,rfl,rfl,rfl,j0⟩ (.c2 (.c2 (.c2 (.c0 (.c1 (.c1 .nil)))))) ⟨j3 (⟨hp2,fun t ht=>hinv6.2.1 t (List.mem_of_mem_drop ht),by dsimp only;rw [List.length_drop];omega,by dsimp only;rw [List.length_drop];omega,by have:=hio.1;dsimp only;omega,by dsimp only;omega⟩),e6,d7,d8,j0⟩ (bA.drop 10)
  refine g6 ?_;refine ss (dO hT (k:=(dL toks).length) rfl rfl rfl rfl rfl rfl n7) ?_;refine lX (v':= .slice (iE A (dL toks).length mY.size c) (toks.drop (dL toks).length).length (c-(dL toks).length)) ac2 ?_;refine g5 ?_;refine bB (mY.sl (.slice (iE A (dL toks).length mY.size c) (toks.drop (dL toks).length).length (c-(dL toks).length)) (toks.drop (dL toks).length)) (bCp e6 hinv6.2.2.1 n7) ?_;refine g9 ?_;refine fN (fun hc70=>?_) fun hc70=>?_
  ·have hon:=bMo hc70;exact absurd hc70 n7
  refine g8 ?_;have hon:0<(dL toks).length:=n7
  refine bD func29 (bCx _ A c (dL toks) _ _ I ci ins J cj lns n ov hon hinv6.2.2.2.2.1 hinv6.2.2.2.2.2 (bDi (bMr hinv6.2.1))) rfl rfl (.c0 (.c0 (.c0 (.c0 .nil)))) ⟨d8,f9,e8,e9,j0⟩ fun⟨ins39,lns40,⟨I41,ci42⟩,⟨J43,cj44⟩,k45⟩=>?_;refine bC d9 fun hq=>?_;dsimp only at hq;have hE:((text.length:Nat):Int)=endP toks text.length:=(bQz n7).symm;have hpl:=p_line (q:=⟨ins39.map InputV.inp,lns40.map LineV.ln⟩) (f:=(gL (dL toks) ((text.length:Nat):Int) ⟨ins.map InputV.inp,lns.map LineV.ln⟩ n ov).2) hinv6.1 (vX n7) (vX hon) ae6;refine g6 ?_;refine ss (k7 (bAb)) ?_;refine ss (gC ⟨(gL (dL toks) ((text.length:Nat):Int) ⟨ins.map InputV.inp,lns.map LineV.ln⟩ n ov).2.1,(gL (dL toks) ((text.length:Nat):Int) ⟨ins.map InputV.inp,lns.map LineV.ln⟩ n ov).2.2⟩ ⟨0,0⟩ rfl rfl rfl) ?_;refine g2 ?_;refine jJ (fun hc77=>?_) fun hc77=>?_
  ·refine cO<|bU _ _ [(true,0),(true,1),(false,2),(false,3)] bV o5 (.c0 (.c0 (.c0 (.c0 (.c0 .nil))))) bA.self ?_;refine stM rfl (k7 (gB)) ?_;refine g15 ?_;obtain rfl:=hpl.2 hc77;exact rs2 (⟨⟨none,0,[]⟩,⟨none,0,[]⟩⟩:ProgV) ⟨Has.and (Has.and cY Has.each_nil) (Has.and cY Has.each_nil),j3 rfl,j0⟩
  refine g3 ?_;have hp2:=hpl.1 hc77;have hio:=bMx hc77;have hlen:ins39.length+lns40.length≤n+1:=by have:=hio.2;rw [←hq] at this;dsimp only at this;simp only [List.length_map] at this;omega
  refine g3 ?_;refine inc (n+1) ?_;refine g7 ?_;refine cP (z':=((lns40.length:Nat):Int)) (rfl) ?_;refine g2 ?_;refine jX (fun hg86=>?_) fun hg86=>?_
  ·refine g5 ?_;refine cP (z':=((lns40.length:Nat):Int)) (rfl) ?_;refine one ?_;refine inc (lns40.length-1) ?_;obtain⟨x46,hx47⟩:=gx lns40 (lns40.length-1) (show lns40.length-1<lns40.length from by omega);refine ss (cF hT (k:=(lns40.length-1)) (cN kT4) rfl rfl rfl rfl rfl rfl rfl (show lns40.length-1<lns40.length from by omega)) ?_;refine one ?_;refine ss (fL hx47 0) ?_;refine g3 ?_;refine bM (t':=sI ⟨ins39.map InputV.inp,lns40.map LineV.ln⟩) (bDl ‹_›) ?_;refine g3 ?_;exact dM (toks.drop (dL toks).length,_,_,ins39,lns40,_,_,_,_,(n+1),_,_,_) aa1 ⟨rfl,rfl,rfl,j0⟩ ⟨rfl,rfl,rfl,rfl,rfl,j0⟩ (.c2 (.c2 (.c2 (.c0 (.c1 (.c1 .nil)))))) ⟨j3 (⟨by dsimp only;rw [bMq (toks:=toks) rfl n7];exact hp2,fun t ht=>hinv6.2.1 t (List.mem_of_mem_drop ht),by dsimp only;rw [List.length_drop];omega,by dsimp only;rw [List.length_drop];omega,by have:=hio.1;dsimp only;omega,by dsimp only;omega⟩),e6,d7,d8,j0⟩ (bA.drop 10)
  refine g12 ?_;refine bM (t':=sI ⟨ins39.map InputV.inp,lns40.map LineV.ln⟩) (bCk n7) ?_;refine g3 ?_;exact dM (toks.drop (dL toks).length,_,_,ins39,lns40,_,_,_,_,(n+1),_,_,_) aa1 ⟨rfl,rfl,rfl,j0⟩ ⟨rfl,rfl,rfl,rfl,rfl,j0⟩ (.c2 (.c2 (.c2 (.c0 (.c1 (.c1 .nil)))))) ⟨j3 (⟨by dsimp only;rw [bMq (toks:=toks) rfl n7];exact hp2,fun t ht=>hinv6.2.1 t (List.mem_of_mem_drop ht),by dsimp only;rw [List.length_drop];omega,by dsimp only;rw [List.length_drop];omega,by have:=hio.1;dsimp only;omega,by dsimp only;omega⟩),e6,d7,d8,j0⟩ (bA.drop 10)
 refine g12 ?_;refine jJ (fun hc99=>?_) fun hc99=>?_
 ·refine g2 ?_;refine ss (k7 (gB)) ?_;refine g2 ?_;refine cP (z':=((text.length:Nat):Int)) rfl ?_;refine ss (k7 (zF _ _)) ?_;refine g6 ?_;have hr:=by have:=p_end hinv6.1 (List.eq_nil_of_length_eq_zero n7);rw [if_neg af7] at this;exact this
  subst hr;exact rs2 (⟨⟨none,0,[]⟩,⟨none,0,[]⟩⟩:ProgV) ⟨Has.and (Has.and cY Has.each_nil) (Has.and cY Has.each_nil),j3 rfl,j0⟩
 refine g5 ?_;refine ss (k7 (bAb)) ?_;refine g5 ?_;have hr:=p_end hinv6.1 (List.eq_nil_of_length_eq_zero n7);rw [if_pos ‹_›] at hr;subst hr;refine bE kT3<|bE kT3 ?_;exact rs2 (⟨⟨_,_,ins⟩,⟨_,_,lns⟩⟩:ProgV) ⟨Has.and (Has.and d8 e7) (Has.and d7 e8),j3 rfl,j0⟩
end
section
open Go.RowKit Go.ChangeShapes Go.WideShapes Go.Proofs.Tryz
structure PieceV where
 words:(Sl Bs)
 nest:Nat
 tokens:Nat
 plain:Bool
 deriving Inhabited
def bKu:Flat PieceV where
 size:=4
 cells:=fun x=>[.slice x.words.addr x.words.list.length x.words.cap,.int .i64 (x.nest:Nat),.int .i64 (x.tokens:Nat),.bool x.plain]
 len:=fun _=>rfl
 one:=fun x u hu=>by
  simp at hu
  rcases hu with rfl | rfl | rfl | rfl<;>rfl
 pos:=o9
def show2T:Tab:=[(3,⟨.int .i64,1⟩),(2,⟨.int .i64,1⟩),(5,⟨.int .u8,1⟩),(9,⟨.string,1⟩),(4,⟨.bool,1⟩),(62,⟨.int .u8,1⟩),(32,⟨.int .i64,1⟩),(85,⟨.slice 2,1⟩),(69,⟨.slice 9,1⟩),(112,⟨.struct [(3,0),(3,1),(9,2),(2,3)],4⟩),(105,⟨.slice 112,1⟩),(34,⟨.struct [(3,0),(32,1)],2⟩),(76,⟨.struct [(9,0),(2,1)],2⟩),(48,⟨.slice 76,1⟩),(50,⟨.struct [(9,0),(3,1),(48,2)],3⟩),(22,⟨.slice 50,1⟩),(87,⟨.struct [(3,0),(3,1),(62,2),(9,3),(85,4)],5⟩),(52,⟨.slice 87,1⟩),(54,⟨.struct [(9,0),(3,1),(52,2)],3⟩),(23,⟨.slice 54,1⟩),(25,⟨.struct [(22,0),(23,1)],2⟩),(110,⟨.struct [(105,0),(3,1),(3,2)],3⟩),(221,⟨.struct [(69,0),(3,1),(3,2),(4,3)],4⟩),(219,⟨.slice 221,1⟩),(108,⟨.other,1⟩),(196,⟨.slice 1,1⟩),(1,⟨.other,1⟩),(149,⟨.other,1⟩),(150,⟨.slice 5,1⟩),(147,⟨.map 62 9,1⟩),(247,⟨.map 3 9,1⟩),(152,⟨.struct [(149,0),(150,1)],2⟩),(154,⟨.struct [(147,0),(147,1),(152,2)],4⟩)]
theorem jS:fD prog show2T:=wC.ok
 ⟨⟨by rw [underlying3];rfl,n9⟩,
  ⟨by rw [underlying2];rfl,n9⟩,
  ⟨by rw [underlying5];rfl,n9⟩,
  ⟨by rw [underlying9];rfl,n9⟩,
  ⟨by rw [underlying4];rfl,n9⟩,
  ⟨by rw [underlying62];rfl,n9⟩,
  ⟨by rw [underlying32];rfl,n9⟩,
  ⟨by rw [underlying85];rfl,n9⟩,
  ⟨by rw [underlying69];rfl,n9⟩,
  ⟨by rw [underlying112];rfl,n9⟩,
  ⟨by rw [underlying105];rfl,n9⟩,
  ⟨by rw [underlying34];rfl,n9⟩,
  ⟨by rw [underlying76];rfl,n9⟩,
  ⟨by rw [underlying48];rfl,n9⟩,
  ⟨by rw [underlying50];rfl,n9⟩,
  ⟨by rw [underlying22];rfl,n9⟩,
  ⟨by rw [underlying87];rfl,n9⟩,
  ⟨by rw [underlying52];rfl,n9⟩,
  ⟨by rw [underlying54];rfl,n9⟩,
  ⟨by rw [underlying23];rfl,n9⟩,
  ⟨by rw [underlying25];rfl,n9⟩,
  ⟨by rw [underlying110];rfl,n9⟩,
  ⟨by rw [underlying221];rfl,n9⟩,
  ⟨by rw [underlying219];rfl,n9⟩,
  ⟨by rw [underlying108];rfl,n9⟩,
  ⟨by rw [underlying196];rfl,n9⟩,
  ⟨by rw [underlying1];rfl,n9⟩,
  ⟨by rw [underlying149];rfl,n9⟩,
  ⟨by rw [underlying150];rfl,n9⟩,
  ⟨by rw [underlying147];rfl,n9⟩,
  ⟨by rw [underlying247];rfl,n9⟩,
  ⟨by rw [underlying152];rfl,n9⟩,
  ⟨by rw [underlying154];rfl,n9⟩,j0⟩
theorem bVr: ∃i:TypeInfo,prog.info? 221=some i∧i.zero=some (.agg #[.slice none 0 0,.int .i64 0,.int .i64 0,.bool false])∧i.size=4∧i.bytes=48:=by
 have h:(prog.info? 221).map (fun i=>(i.zero,i.size,i.bytes))=some (some (.agg #[.slice none 0 0,.int .i64 0,.int .i64 0,.bool false]),4,48):=n9
 cases hi:prog.info? 221 with
 | none=>simp [hi] at h
 | some i=>simp [hi] at h;exact⟨i,rfl,h.1,h.2.1,h.2.2⟩
theorem gW{β:dF}{n:Nat}{Γ:Env}{H:List bH}{F:List Fact}{Q:Exit→Act→World→Prop}{ops:Array Oper}{rest:List Oper}{o:Oper}{d:Nat}{x:Operand}{m:PieceV}(hw:want ops Γ o=some true)(ho:o.op= .buildSlice 219 1 #[(0,x)])(hd:o.dst=some d)(hn:Nat.blt d n=true)
  (hx:Γ.ev x=some (.agg #[.slice m.words.addr m.words.list.length m.words.cap,.int .i64 (m.nest:Nat),.int .i64 (m.tokens:Nat),.bool m.plain])) (k: ∀b,At β n ((d,.slice (some ⟨b,0,none⟩) 1 1)::Γ) (.obj b (.cells (bKu.all [m]).toArray 221)::H) F (wpList prog ops Q rest)):At β n Γ H F (wpList prog ops Q (o::rest)):=by
 obtain⟨i,hi,hz,hs,_⟩:=bVr;refine gG hw ho hd hn hx underlying219 hi hz n7 n7 ?_ k;rw [hs]
 kernel_rfl
theorem gX{β:dF}{n:Nat}{Γ:Env}{H:List bH}{F:List Fact}{Q:Exit→Act→World→Prop}{ops:Array Oper}{rest:List Oper}{o:Oper}{d:Nat}{x y:Operand}{c q:Nat}{v:Value}{A:Option Addr}{xs ys:List PieceV}{H':List bH}(hH:cD H (bKu.row v 221 xs) H')(hr:dQ β H F bKu A ys)(hg:o.guard=none)
  (ho:o.op= .call {callee:= .builtin .append,args:= #[x,y],argTypes:= #[219,219]}) (hd:o.dst=some d) (hn:Nat.blt d n=true)
  (hx:Γ.ev x=some v) (hy:Γ.ev y=some (.slice A q c)) (hq:q=ys.length) (hl:xs.length+ys.length≤2932031007402)
  (k: ∀A' cap',At β n ((d,.slice A' (xs++ys).length cap')::Γ) (bKu.row (.slice A' (xs++ys).length cap') 221 (xs++ys)::H') F (wpList prog ops Q rest)):At β n Γ H F (wpList prog ops Q (o::rest)):=by
 obtain⟨i,hi,hz,hs,hb⟩:=bVr;exact dK hH hr hg ho hd hn underlying219 hi hz hs hb rfl hx hy hq n7 o9 k
end
section
open Go.RowKit Go.Proofs.Tryz
theorem Sel.skip{H R:List bH}{c:bH}(h:Sel H R):Sel (c::H) R:=by
 induction h generalizing c with
 | nil=>exact .nil
 | cons h _ ih=>exact .cons (.tail h) ih
def PieceV.pc(x:PieceV):fC:=⟨x.words.list,x.nest,x.tokens,x.plain⟩
def bTq (u:Bool)(b:Nat):Value:=if u then .pointer (some ⟨b,2,none⟩) else .pointer none
section
variable {P : Program} {β : dF} {n : Nat} {Γ : Env} {H : List bH} {F : List Fact} {Q : Exit → Act → World → Prop} {K : Act → World → Prop} {ops : Array Oper} {rest : List Oper} {o : Oper} {d : Nat} {α : Type} {E : Flat α}
theorem sti_noescape{x:Operand}{ts:Array TypeId}{v:Value}(ho:o.op= .call ⟨.value (.func 164),#[x],ts⟩)(hx:Γ.ev x=some v):Sti prog β n Γ H F o v:=fun a w S f s _=>by
 have hr:(callFunc 164 #[v]).run prog w= .ok (.value v) w:=by
  rw [run_callFunc_extern func164 n9 n9 n9 (e:=Extern.AbiNoEscape.same) n9];rw [Lib.run_noEscape];rfl
 unfold execOp;simp only [ho,resolve,Act.eval,Deferred.ofValue,Sem.run_bind,Sem.run_pure,Result.andThen_ok,invoke];simp [f.ev hx,hr]
theorem u8Info: ∃i:TypeInfo,prog.info? 5=some i∧i.zero=some (.int .u8 0)∧i.size=1∧i.bytes=1:=by
 have h:(prog.info? 5).map (fun i=>(i.zero,i.size,i.bytes))=some (some (.int .u8 0),1,1):=n9
 cases hi:prog.info? 5 with
 | none=>simp [hi] at h
 | some i=>simp [hi] at h;exact⟨i,rfl,h.1,h.2.1,h.2.2⟩
theorem bMf{x y:Operand}{v:Value}{xs ys:Bs}{H':List bH}(hH:cD H (pY.row v 5 xs) H')(hw:want ops Γ o=some true)
  (ho:o.op= .call {callee:= .builtin .append,args:= #[x,y],argTypes:= #[150,9]}) (hd:o.dst=some d) (hn:Nat.blt d n=true) (hx:Γ.ev x=some v) (hy:Γ.ev y=some (.string (bs ys))) (hl:xs.length+ys.length≤140737488355328)
  (k: ∀A' cap',At β n ((d,.slice A' (xs++ys).length cap')::Γ) (pY.row (.slice A' (xs++ys).length cap') 5 (xs++ys)::H') F (wpList prog ops Q rest)):At β n Γ H F (wpList prog ops Q (o::rest)):=by
 obtain⟨i,hi,hz,hs,hb⟩:=u8Info;exact bPb hH hw ho hd hn underlying150 underlying9 hi hz hs hb hx hy hl k
theorem bR{b:Nat}{t:TypeId}{xs:List α}{H':List bH}(hH:cD H (.obj b (.cells (E.all xs).toArray t)) H')(hm:xs.length≤maxLen)(h:At β n Γ (E.row (.slice (some ⟨b,0,none⟩) xs.length xs.length) t xs::H') F K):At β n Γ H F K:=fun a w S f s k=>by
 have s2:=s.perm hH.perm;have hok:w.heap[b]?=some (.cells (E.all xs).toArray t):=s2.ok _ (List.mem_cons_self ..);refine h a w S f ⟨s2.kept,fun c hc=>?_,fun c hc b' hb=>?_,?_,s2.zone⟩ k
 ·rcases List.mem_cons.1 hc with rfl | hc
  ·refine⟨by rw [E.all_length],.inr ⟨b,_,_,rfl,Nat.zero_le _,hok,Nat.le_refl _,hm,by simp [E.all_length],?_⟩⟩;rw [List.take_of_length_le (by simp [E.all_length])]
  ·exact s2.ok c (List.mem_cons_of_mem _ hc)
 ·rcases List.mem_cons.1 hc with rfl | hc
  ·exact s2.own (.obj b (.cells (E.all xs).toArray t)) (List.mem_cons_self ..) b' hb
  ·exact s2.own c (List.mem_cons_of_mem _ hc) b' hb
 ·have hp:=List.pairwise_cons.1 s2.sep;exact List.pairwise_cons.2 ⟨fun d hd b hb=>hp.1 d hd b hb,hp.2⟩
end
theorem bInfo: ∃j:TypeInfo,prog.info? 152=some j∧j.size≠0:=by
 have h:(prog.info? 152).map (·.size)=some 2:=n9
 cases hi:prog.info? 152 with
 | none=>simp [hi] at h
 | some i=>simp [hi] at h;exact⟨i,rfl,n7⟩
theorem bLies:liesAt prog prog.depth 154 (4/prog.cellsOf 154) 2 152 1=true:=n9
theorem bPtr:prog.underlying 149=some (.pointer 152):=n9
theorem uPtr:prog.underlying 273=some .unsafePointer:=n9
theorem u8Ptr:prog.underlying 191=some (.pointer 5):=n9
def putM (t:Bool):List Bs→KV→KV
 | [],kv=>kv
 | s::r,kv=>putM t r (if fG s t !=0 then bFc (fG s t) (.string (bs s)) kv else kv)
def sS (t:Bool):KV:=putM t dU []
theorem bGo(k k':Int)(v:Value): ∀kv:KV,bFq k (bFc k' v kv)=if k==k' then some v else bFq k kv
 | []=>by simp [bFc,bFq]
 | p::r=>by
  unfold bFc;split
  ·rename_i h;have e:k'=p.1:=by simpa using h
   simp only [bFq];rw [e];split<;>rfl
  ·rename_i h;simp only [bFq];rw [bGo k k' v r]
   by_cases e:k=p.1
   ·subst e
    have:(p.1==k')=false:=by
     rw [beq_eq_false_iff_ne];intro e;exact h ai3
    simp [this]
   ·simp [e]
theorem put_last(t:Bool)(f:Int): ∀(l:List Bs) (kv:KV) (acc:Bs),(bFq f kv).getD (.string (bs []))= .string (bs acc)→(bFq f (putM t l kv)).getD (.string (bs []))= .string (bs (bAv t f l acc))
 | [],_,_,h=>h
 | s::r,kv,acc,h=>by
  rw [putM,bAv];refine put_last t f r _ _ ?_
  by_cases hv:(fG s t !=0)=true
  ·rw [if_pos hv,bGo]
   by_cases hf:fG s t=f
   ·have:(fG s t !=0&&fG s t==f)=true:=by simp [hf] at hv⊢;exact hv
    rw [if_pos (by simp [hf]),if_pos this];rfl
   ·have:(fG s t !=0&&fG s t==f)=false:=by simp [hf]
    rw [if_neg (by simp;exact fun e=>hf e.symm),this];exact h
  ·have:(fG s t !=0&&fG s t==f)=false:=by simp [hv]
   rw [if_neg hv,this];exact h
theorem bXv(t:Bool)(f:Int):(bFq f (sS t)).getD (.string (bs []))= .string (bs (lE t f)):=put_last t f dU [] [] rfl
theorem zeroStr(w:World):(zeroValue 9).run prog w= .ok (.string (bs [])) w:=n9
theorem mapFn:prog.underlying 147=some (.map 62 9):=n9
theorem mapInt:prog.underlying 247=some (.map 3 9):=n9
theorem marks_get(k:Int):(bFq k (bFc 7 (.string (bs [46])) (bFc 6 (.string (bs [92])) (bFc 5 (.string (bs [47])) [])))).getD (.string (bs []))= .string (bs (bWw k)):=by
 rw [bGo,bGo,bGo];unfold bWw
 by_cases h5:k=5
 ·subst h5;rfl
 ·by_cases h6:k=6
  ·subst h6;rfl
  ·by_cases h7:k=7
   ·subst h7;rfl
   ·simp [h5,h6,h7,bFq]
theorem fields_words:Lib.fields [43,32,45,32,42,32,37,32,124,32,109,105,110,32,109,97,120,32,61,32,126,32,60,32,60,61,32,62,61,32,62,32,97,110,100,32,111,114,32,112,111,119,32,114,104,111,32,116,97,107,101,32,100,114,111,112,32,99,97,116,32,105,111,116,97,32,115,104,97,112,101,32,114,97,118,101,108,32,114,101,118,32,116,117,114,110]=dU:=by decide+kernel
theorem fields_spec(s:Bs)(hs:s.length<4294967281)(ha: ∀b∈s,b.toNat<128):cM prog 91 [.string (bs s)] [] [iW] (fun x:Nat=> .slice (some ⟨x,0,none⟩) (Lib.fields s).length (Lib.fields s).length) (fun _=>[]) (fun x=>[nM.sl (.slice (some ⟨x,0,none⟩) (Lib.fields s).length (Lib.fields s).length) (Lib.fields s)]):=fun S w s0 k=>by
 obtain⟨_,h0,_⟩:=k _ (.head _);refine(Tryz.strings_Fields (bs s) w (by rw [lU];exact hs) (fun j b hb=>ha b (j4 hb)) h0).mono ?_;rintro e w' ⟨rfl,rfl⟩;have hb:Below w.heap.size w (w.alloc (.cells ((Lib.fields (bs s).data.toList).map fun l=>Value.string ⟨l.toArray⟩).toArray 9)):=(Below.refl _ _).alloc (Nat.le_refl _) _;refine⟨w.heap.size,fun b=>S b∨b=w.heap.size,rfl,⟨oW.of_below _ hb,fun c hc=>by simp at hc,fun c hc=>by simp at hc,List.Pairwise.nil,fun b hb'=>?_⟩,All.cons ?_ (fun g hg=>by simp at hg)⟩
 ·rcases hb' with h | h
  ·exact⟨Nat.lt_of_lt_of_le (s0.zone b h).1 hb.size,.inl h⟩
  ·subst h;exact⟨o6,.inr (.inr (Nat.le_refl _))⟩
 ·refine⟨_,_,rfl,fun i x hi=>⟨w.heap.size,0,_,rfl,.inr rfl,fun j u hj=>?_,rfl⟩⟩;have hcell:(w.alloc (.cells ((Lib.fields (bs s).data.toList).map fun l=>Value.string ⟨l.toArray⟩).toArray 9)).heap[w.heap.size]?=some (.cells ((Lib.fields (bs s).data.toList).map fun l=>Value.string ⟨l.toArray⟩).toArray 9):=heap_alloc_new _ _;show World.cell? _ ⟨w.heap.size,0+i*1+j,none⟩=_;have hj':[Value.string (bs x)][j]?=some u:=hj
  have h0:j=0:=by
   cases j with
   | zero=>rfl
   | succ j=>simp at hj'
  subst h0;unfold World.cell?;rw [hcell];have hx:(Lib.fields (bs s).data.toList)[i]?=some x:=hi;simp at hj';subst hj';simp [bs];exact hx
theorem fields_verbs:cM prog 91 [.string (bs [43,32,45,32,42,32,37,32,124,32,109,105,110,32,109,97,120,32,61,32,126,32,60,32,60,61,32,62,61,32,62,32,97,110,100,32,111,114,32,112,111,119,32,114,104,111,32,116,97,107,101,32,100,114,111,112,32,99,97,116,32,105,111,116,97,32,115,104,97,112,101,32,114,97,118,101,108,32,114,101,118,32,116,117,114,110])] [] [iW] (fun x:Nat=> .slice (some ⟨x,0,none⟩) dU.length dU.length) (fun _=>[]) (fun x=>[nM.sl (.slice (some ⟨x,0,none⟩) dU.length dU.length) dU]):=by
 have:=fields_spec (s:=[43,32,45,32,42,32,37,32,124,32,109,105,110,32,109,97,120,32,61,32,126,32,60,32,60,61,32,62,61,32,62,32,97,110,100,32,111,114,32,112,111,119,32,114,104,111,32,116,97,107,101,32,100,114,111,112,32,99,97,116,32,105,111,116,97,32,115,104,97,112,101,32,114,97,118,101,108,32,114,101,118,32,116,117,114,110]) o9 o9;rw [fields_words] at this;exact this
theorem jI{α:Type}{l:List α}{i:Nat}{x:α}(h:l[i]?=some x):l.drop i=x::l.drop (i+1):=by
 obtain⟨hl,rfl⟩:=List.getElem?_eq_some_iff.1 h;exact List.drop_eq_getElem_cons hl
theorem bJm(t:Bool)(f:Int):(lE t f).length≤5:=by
 by_cases h:lE t f=[]
 ·rw [h];decide
 ·have:=(textF_hit h).1;have key: ∀s∈dU,s.length≤5:=o9
  exact key _ this
theorem bVg(k:Int):(bWw k).length≤1:=by
 unfold bWw
 repeat' split
 all_goals simp
section
variable {it : ItemV}
theorem bNs(h:it.how=3):verbS it.it=(lE false it.fn,1):=by
 unfold verbS;rw [if_pos (show it.it.how=3 from h)];rfl
theorem bNu(h:it.how≠3)(h2:lE true it.fn=[]∨it.how=4):verbS it.it=(lE true it.fn,1):=by
 unfold verbS;rw [if_neg (show ¬it.it.how=3 from h),if_pos (show lE true it.it.fn=[]∨it.it.how=4 from h2)];rfl
theorem bOh(h:it.how≠3)(h1:lE true it.fn≠[])(h2:it.how≠4)(h3:17<it.fn):verbS it.it=([],0):=by
 unfold verbS;rw [if_neg (show ¬it.it.how=3 from h),if_neg (show ¬(lE true it.it.fn=[]∨it.it.how=4) from fun h=>h.elim h1 h2),if_pos (show 17<it.it.fn from h3)]
theorem bQx(h:it.how≠3)(h1:lE true it.fn≠[])(h2:it.how≠4)(h3:it.fn≤17):verbS it.it=(lE true it.fn++bWw it.how,2):=by
 unfold verbS;rw [if_neg (show ¬it.it.how=3 from h),if_neg (show ¬(lE true it.it.fn=[]∨it.it.how=4) from fun h=>h.elim h1 h2),if_neg (show ¬17<it.it.fn from by show ¬17<it.fn;omega)];rfl
end
theorem vA{it:ItemV}(h:it.how=2):operandS it.it=if it.fn=0∧it.nums.list=[]∧dD it.name=true then some ⟨[it.name],0,1,true⟩ else none:=by
 unfold operandS;rw [if_pos (show it.it.how=2 from h)];rfl
theorem vG{it:ItemV}(h:it.how≠2)(hb:it.fn≠0∨it.name≠[]∨it.nums.list=[]∨256<it.nums.list.length):operandS it.it=none:=by
 unfold operandS;rw [if_neg (show ¬it.it.how=2 from h),if_pos (show it.it.fn≠0∨it.it.name≠[]∨it.it.nums=[]∨256<it.it.nums.length from hb)]
theorem operand_nums{it:ItemV}(h:it.how≠2)(h0:it.fn=0)(h1:it.name=[])(h2:((it.nums.list.length:Nat):Int)≠0)(h3:((it.nums.list.length:Nat):Int)≤256):operandS it.it=some ⟨it.nums.list.map fY,0,it.nums.list.length,true⟩:=by
 unfold operandS;rw [if_neg (show ¬it.it.how=2 from h),if_neg (show ¬(it.it.fn≠0∨it.it.name≠[]∨it.it.nums=[]∨256<it.it.nums.length) from ?_)]
 ·rfl
 ·rintro(h | h | h | h)
  ·exact h h0
  ·exact h h1
  ·have:it.nums.list=[]:=h;rw [this] at h2;exact h2 rfl
  ·have:256<it.nums.list.length:=h;omega
theorem bTo{α β:Type}{f:α→β}{l:List α}{i:Nat}{x:α}(h:l[i]?=some x):(l.take i).map f++[f x]=(l.take (i+1)).map f:=by
 rw [List.take_add_one,h];simp
section
variable {it : ItemV}
theorem tP(h:it.how=2)(h0:it.fn=0)(h1:((it.nums.list.length:Nat):Int)=0):dD it.name=(operandS it.it).isSome:=by
 have:it.nums.list=[]:=List.eq_nil_of_length_eq_zero n7;rw [vA h,h0,this];cases dD it.name<;>simp
theorem rY(h:it.how=2)(h0:it.fn≠0):false=(operandS it.it).isSome:=by
 rw [vA h,if_neg (fun hh=>h0 hh.1)];rfl
theorem rS(h:it.how=2)(h1:((it.nums.list.length:Nat):Int)≠0):false=(operandS it.it).isSome:=by
 rw [vA h,if_neg (fun hh=>h1 (by rw [hh.2.1];rfl))];rfl
end
theorem oH{it:ItemV}{p:fC}(h:it.how=2)(hp:operandS it.it=some p):(⟨[it.name],0,1,true⟩:fC)=p:=by
 rw [vA h] at hp;split at hp
 ·exact Option.some.inj hp
 ·cases hp
theorem nV:(prog.info? 221).bind (·.zero)=some (.agg #[.slice none 0 0,.int .i64 0,.int .i64 0,.bool false]):=n9
theorem dN(a0:Option Addr)(l0 c0:Nat)(z1:Int)(z2:Int)(b3:Bool):prog.built 221 [(0,.slice a0 l0 c0),(1,.int .i64 z1),(2,.int .i64 z2),(3,.bool b3)]=some #[.slice a0 l0 c0,.int .i64 z1,.int .i64 z2,.bool b3]:=n9
theorem gY:prog.built 221 []=some #[.slice none 0 0,.int .i64 0,.int .i64 0,.bool false]:=n9
theorem rU(z2:Int)(b3:Bool):prog.built 221 [(2,.int .i64 z2),(3,.bool b3)]=some #[.slice none 0 0,.int .i64 0,.int .i64 z2,.bool b3]:=n9
theorem bMh(b r1 r2:Nat)(G:Option Addr)(m c:Nat):cM prog 145 [.pointer (some ⟨b,2,none⟩)] [.obj b (.cells [.map (some r1),.map (some r2),.pointer none,.slice G m c].toArray 154)] [] (fun(_:Unit)=> .tuple #[]) (fun(_:Unit)=>[.obj b (.cells [.map (some r1),.map (some r2),.pointer (some ⟨b,2,none⟩),.slice G m c].toArray 154)]) (fun _=>[]):=by
 have hT:=jS;refine k6 func145 ntmps145 ?_;intro β hM;refine g6 ?_;refine ss (bLo bPtr rfl rfl) ?_;refine g6 ?_;obtain⟨j,hj,hj0⟩:=bInfo;refine ss (sti_toUnsafe .head bPtr uPtr hj hj0 rfl rfl (by show 2<4;decide)) ?_;refine ss (sti_noescape rfl rfl) ?_;refine ss (bQc .head uPtr bPtr hj rfl rfl bLies) ?_;refine g4 ?_;exact kC () rfl (.c0 .nil) j0 (rfl)
theorem bMg(b r1 r2:Nat)(G:Option Addr)(m c:Nat):cM prog 145 [.pointer (some ⟨b,2,none⟩)] [.obj b (.cells [.map (some r1),.map (some r2),.pointer (some ⟨b,2,none⟩),.slice G m c].toArray 154)] [] (fun(_:Unit)=> .tuple #[]) (fun(_:Unit)=>[.obj b (.cells [.map (some r1),.map (some r2),.pointer (some ⟨b,2,none⟩),.slice G m c].toArray 154)]) (fun _=>[]):=by
 have hT:=jS;refine k6 func145 ntmps145 ?_;intro β hM;refine g6 ?_;refine ss (bLo bPtr rfl rfl) ?_;refine g10 ?_;obtain⟨j,hj,_⟩:=bInfo;refine ss (sti_ptr_same bPtr hj rfl rfl rfl) ?_;refine g4 ?_;exact kC () rfl (.c0 .nil) j0 (rfl)
theorem bJb(b r1 r2:Nat)(u:Bool)(G:Option Addr)(c:Nat)(out s:Bs)(hl:out.length+s.length≤140737488355328):cM prog 127 [.pointer (some ⟨b,2,none⟩),.string (bs s)] [.obj b (.cells [.map (some r1),.map (some r2),bTq u b,.slice G out.length c].toArray 154),pY.row (.slice G out.length c) 5 out] [] (fun(_:Option Addr×Nat)=> .tuple #[.int .i64 (s.length:Nat),.nilIface]) (fun(x:Option Addr×Nat)=>[.obj b (.cells [.map (some r1),.map (some r2),.pointer (some ⟨b,2,none⟩),.slice x.1 (out++s).length x.2].toArray 154),pY.row (.slice x.1 (out++s).length x.2) 5 (out++s)]) (fun _=>[]):=by
 have hT:=jS;refine k6 func127 ntmps127 ?_;intro β hM;refine g7 ?_;cases u
 ·skip
  refine g2 ?_;refine bD func145 (bMh b r1 r2 G _ c) rfl rfl (.c0 .nil) j0 fun _=>?_;refine g10 ?_;refine bMf kT1 rfl rfl rfl rfl rfl rfl n7 fun A1 c2=>?_;refine g9 ?_;refine cP (z':=((s.length:Nat):Int)) rfl ?_;refine g5 ?_;exact rs2 (A1,c2) trivial
 skip
 refine g2 ?_;refine bD func145 (bMg b r1 r2 G _ c) rfl rfl (.c0 .nil) j0 fun _=>?_;refine g10 ?_;refine bMf kT1 rfl rfl rfl rfl rfl rfl n7 fun A3 c4=>?_;refine g9 ?_;refine cP (z':=((s.length:Nat):Int)) rfl ?_;refine g5 ?_;exact rs2 (A3,c4) trivial
theorem bEs(b r1 r2:Nat)(u:Bool)(G:Option Addr)(c:Nat)(out hd tx:Bs)(hl:out.length+hd.length+tx.length+1≤140737488355328):cM prog 94 [.pointer (some ⟨b,0,none⟩),.string (bs hd),.string (bs tx)] [.obj b (.cells [.map (some r1),.map (some r2),bTq u b,.slice G out.length c].toArray 154),pY.row (.slice G out.length c) 5 out] [] (fun(_:Option Addr×Nat)=> .tuple #[]) (fun(x:Option Addr×Nat)=>[.obj b (.cells [.map (some r1),.map (some r2),bTq true b,.slice x.1 (out++((hd++tx)++[10])).length x.2].toArray 154),pY.row (.slice x.1 (out++((hd++tx)++[10])).length x.2) 5 (out++((hd++tx)++[10]))]) (fun _=>[]):=by
 have hT:=jS;refine k6 func94 ntmps94 ?_;intro β hM;refine g6 ?_;refine ss (jF rfl rfl rfl q9) ?_;refine ss (jF rfl rfl rfl q9) ?_;refine bD func127 (bJb b r1 r2 u G c out ((hd++tx)++([10]:Bs)) q8) rfl rfl (.c0 (.c0 .nil)) j0 fun⟨A1,c2⟩=>?_;refine at_nil ?_;exact kC (A1,c2) rfl (.c0 (.c0 .nil)) j0 (rfl)
theorem bOx(t:Bool):cM prog 54 [.bool t] [] [iW] (fun(x:Nat)=> .map (some x)) (fun _=>[]) (fun(x:Nat)=>[mapF x .u8 (sS t)]):=by
 have hT:=jS;have hvl:dU.length=25:=rfl;refine k6 func54 ntmps54 ?_;intro β hM;refine g7 ?_;refine bPz .u8 rfl rfl rfl rfl fun r1=>?_;refine g6 ?_;refine j5 func91 fields_verbs ⟨d7,j0⟩ fun x2=>?_;refine g5 ?_;refine cB (ι:=Nat×KV) [(0,_),(3,_),(9,_),(10,_)] ⟨rfl,rfl,rfl,rfl,j0⟩ (fun⟨i,kv⟩=>[(11,.int .i64 (i:Nat))]) (fun⟨i,kv⟩=>[mapC r1 .u8 kv]) (fun⟨i,kv⟩=>[Fact.pure (i≤25∧putM t (dU.drop i) kv=sS t)]) (fun⟨i,kv⟩=>25-i) (0,[]) ⟨rfl,j0⟩ (.c0 .nil) ⟨j3 (⟨n7,rfl⟩),j0⟩ ?_;rintro⟨i,kv⟩;dsimp only;refine bC d7 fun hinv3=>?_;refine g6 ?_;refine dJ (fun hc12=>?_) fun hc12=>?_
 ·refine g6 ?_;obtain⟨x3,hx4⟩:=gx dU i (by have:dU.length=25:=rfl;omega);refine ss (cF hT (k:=i) (cE d8) rfl rfl rfl rfl rfl rfl rfl (by have:dU.length=25:=rfl;omega)) ?_;refine ss (fL hx4 0) ?_;refine g7 ?_;refine j5 func92 (bJy x3 t) j0 fun _=>?_;refine g12 ?_;refine jA (fun hc21=>?_) fun hc21=>?_
  ·refine g4 ?_;refine tL .head rfl (.inl rfl) rfl mapFn underlying62 rfl rfl rfl ?_;refine g5 ?_;refine inc (i+1) ?_;refine g3 ?_;exact bk2 (i+1,_) ⟨j3 (⟨by dsimp only;omega,by have h:=hinv3.2;rw [jI hx4,putM,if_pos ‹_›] at h;exact h⟩),j0⟩
  refine g5 ?_;refine inc (i+1) ?_;refine g3 ?_;exact bk2 (i+1,_) ⟨j3 (⟨by dsimp only;omega,by have h:=hinv3.2;rw [jI hx4,putM,if_neg af7] at h;exact h⟩),j0⟩
 refine g12 ?_;have hm:kv=sS t:=by have h:=hinv3.2;rw [show i=25 by omega] at h;exact h
 subst hm;refine bTx .head ?_;exact rs1 r1 ⟨d7,j0⟩
theorem bFl(b r1 r2:Nat)(p:Value)(G:Option Addr)(m c:Nat)(it:ItemV):cM prog 129 [.pointer (some ⟨b,0,none⟩),.agg #[.int .i64 it.how,.int .i64 it.at_,.int .u8 it.fn,.string (bs it.name),.slice it.nums.addr it.nums.list.length it.nums.cap]] [.obj b (.cells [.map (some r1),.map (some r2),p,.slice G m c].toArray 154)] [mapF r1 .u8 (sS false),mapF r2 .u8 (sS true)] (fun(_:Unit)=> .tuple #[.string (bs (verbS it.it).1),.int .i64 ((verbS it.it).2:Nat)]) (fun(_:Unit)=>[.obj b (.cells [.map (some r1),.map (some r2),p,.slice G m c].toArray 154)]) (fun _=>[]):=by
 have hT:=jS;refine k6 func129 ntmps129 ?_;intro β hM;refine g2 ?_;refine j9 fun b1=>?_;refine g12 ?_;refine fN (fun hc9=>?_) fun hc9=>?_
 ·refine cO<|bU _ _ [(true,0),(true,1),(true,2),(true,3),(true,4),(true,5),(true,6),(true,7),(true,8)] bV o5 (.c0 (.c0 .nil)) bA.self ?_;refine g6 ?_;refine stM rfl (bFk (bTh d7) rfl mapFn underlying62 zeroStr rfl rfl (bXv _ _)) ?_;refine g6 ?_;exact rs2 () j0 (he:=by first | (rw [bNs ‹_›];first | done | rfl) | (rw [bNu ‹_› o7];first | done | rfl) | (rw [bOh ‹_› ‹_› ‹_› ‹_›];first | done | rfl) | (rw [bQx ‹_› ‹_› ‹_› ‹_›];first | done | rfl))
 refine g3 ?_;refine bU _ _ [(true,0),(true,1),(true,2),(true,3),(true,4),(true,5),(true,6),(true,7)] bV o5 (.c0 (.c0 .nil)) bA.self ?_;refine g6 ?_;refine stM rfl (bFk (bTh d8) rfl mapFn underlying62 zeroStr rfl rfl (bXv _ _)) ?_;refine g9 ?_;refine cI (fun hg26=>?_) (fun hg26=>?_)
 ·have hg26:(lE true it.fn)=([]:Bs):=eq_of_beq hg26;refine g16 ?_;exact rs2 () j0 (he:=by first | (rw [bNs ‹_›];first | done | rfl) | (rw [bNu ‹_› o7];first | done | rfl) | (rw [bOh ‹_› ‹_› ‹_› ‹_›];first | done | rfl) | (rw [bQx ‹_› ‹_› ‹_› ‹_›];first | done | rfl))
 have hg26:(lE true it.fn)≠([]:Bs):=fun h=>absurd (beq_iff_eq.2 h) (by rw [show((lE true it.fn)==([]:Bs))=false from hg26];simp);refine g6 ?_;refine fN (fun hc30=>?_) fun hc30=>?_
 ·refine g9 ?_;exact rs2 () j0 (he:=by first | (rw [bNs ‹_›];first | done | rfl) | (rw [bNu ‹_› o7];first | done | rfl) | (rw [bOh ‹_› ‹_› ‹_› ‹_›];first | done | rfl) | (rw [bQx ‹_› ‹_› ‹_› ‹_›];first | done | rfl))
 refine g10 ?_;refine dJ (fun hc34=>?_) fun hc34=>?_
 ·refine g8 ?_;exact rs2 () j0 (he:=by first | (rw [bNs ‹_›];first | done | rfl) | (rw [bNu ‹_› o7];first | done | rfl) | (rw [bOh ‹_› ‹_› ‹_› ‹_›];first | done | rfl) | (rw [bQx ‹_› ‹_› ‹_› ‹_›];first | done | rfl))
 refine g5 ?_;refine bPz .i64 rfl rfl rfl rfl fun r2=>?_;refine tL .head rfl (.inr rfl) rfl mapInt underlying3 rfl rfl rfl ?_;refine tL .head rfl (.inr rfl) rfl mapInt underlying3 rfl rfl rfl ?_;refine tL .head rfl (.inr rfl) rfl mapInt underlying3 rfl rfl rfl ?_;refine g3 ?_;refine ss (bFk (knows_mapC .head) rfl mapInt underlying3 zeroStr rfl rfl (marks_get _)) ?_;refine ss (jF rfl rfl rfl (by have:=bJm true it.fn;have:=bVg it.how;omega)) ?_;refine g5 ?_;exact rs2 () j0 (he:=by first | (rw [bNs ‹_›];first | done | rfl) | (rw [bNu ‹_› o7];first | done | rfl) | (rw [bOh ‹_› ‹_› ‹_› ‹_›];first | done | rfl) | (rw [bQx ‹_› ‹_› ‹_› ‹_›];first | done | rfl))
theorem bIm(it:ItemV)(hn:it.name.length≤140737488355328)(hz: ∀z∈it.nums.list,-9223372036854775808≤z∧z≤9223372036854775807):cM prog 128 [.agg #[.int .i64 it.how,.int .i64 it.at_,.int .u8 it.fn,.string (bs it.name),.slice it.nums.addr it.nums.list.length it.nums.cap]] [] [numF it,iW] (fun(x:PieceV)=> .tuple #[.agg #[.slice x.words.addr x.words.list.length x.words.cap,.int .i64 (x.nest:Nat),.int .i64 (x.tokens:Nat),.bool x.plain],.bool (operandS it.it).isSome]) (fun(x:PieceV)=>[nM.row (.slice x.words.addr x.words.list.length x.words.cap) 9 x.words.list]) (fun(x:PieceV)=>[Fact.pure (∀p,operandS it.it=some p→x.pc=p)]):=by
 have hT:=jS;refine k6 func128 ntmps128 ?_;intro β hM;refine g2 ?_;refine j9 fun b1=>?_;refine j6 nV fun b2=>?_;refine g11 ?_;refine fN (fun hc9=>?_) fun hc9=>?_
 ·refine cO<|mV _ _ (.fl 0 (.fl 1 (.fl 4 (.fl 5 (.fl 6 (.fl 7 (.fl 8 (.fl 9 (.fl 10 (.fl 11 (.fl 12 (.fl 13 (.fl 14 (.fl 15 (.two 2 16 (.fl 3 (.op 16 (.fl 17 (.op 18 (.fl 19 .nil))))) (.fl 17 (.op 2 (.fl 3 (.op 18 (.fl 19 .nil)))))))))))))))))))) bV o5 (.c1 .nil) bA.self ?_;refine g6 ?_;refine oX (fun hg17=>?_) fun hg17=>?_
  ·refine g6 ?_;refine oX (fun hg23=>?_) fun hg23=>?_
   ·refine g2 ?_;refine jP (o:=_) (o':=_) rfl rfl ?_ ?_
    ·refine jW (m:=it.name) rfl rfl rfl rfl rfl fun b3=>?_;refine one ?_;refine sqT rfl (k7 (dN _ _ _ _ _ _)) ?_;refine one ?_;refine bD func63 (oE _ hn) rfl rfl .nil ⟨d8,j0⟩ fun _=>?_;refine g10 ?_;refine bR (E:=nM) kT1 q7 ?_;exact rs2 (⟨⟨some ⟨b3,0,none⟩,_,[it.name]⟩,0,1,true⟩:PieceV) ⟨j3 (fun p hp=>oH ‹_› hp),j0⟩ (he:=congrArg (fun b:Bool=>Value.tuple #[_,.bool b]) aa3)
    refine bD func63 (oE _ hn) rfl rfl .nil ⟨d8,j0⟩ fun _=>?_;refine g3 ?_;refine jW (m:=it.name) rfl rfl rfl rfl rfl fun b4=>?_;refine one ?_;refine sqT rfl (k7 (dN _ _ _ _ _ _)) ?_;refine g8 ?_;refine bR (E:=nM) kT1 q7 ?_;exact rs2 (⟨⟨some ⟨b4,0,none⟩,_,[it.name]⟩,0,1,true⟩:PieceV) ⟨j3 (fun p hp=>oH ‹_› hp),j0⟩ (he:=congrArg (fun b:Bool=>Value.tuple #[_,.bool b]) aa3)
   refine g2 ?_;refine jP (o:=_) (o':=_) rfl rfl ?_ ?_
   ·refine jW (m:=it.name) rfl rfl rfl rfl rfl fun b5=>?_;refine one ?_;refine sqT rfl (k7 (dN _ _ _ _ _ _)) ?_;refine g12 ?_;refine bR (E:=nM) kT1 q7 ?_;exact rs2 (⟨⟨some ⟨b5,0,none⟩,_,[it.name]⟩,0,1,true⟩:PieceV) ⟨j3 (fun p hp=>oH ‹_› hp),j0⟩ (he:=congrArg (fun b:Bool=>Value.tuple #[_,.bool b]) aa3)
   refine g4 ?_;refine jW (m:=it.name) rfl rfl rfl rfl rfl fun b6=>?_;refine one ?_;refine sqT rfl (k7 (dN _ _ _ _ _ _)) ?_;refine g8 ?_;refine bR (E:=nM) kT1 q7 ?_;exact rs2 (⟨⟨some ⟨b6,0,none⟩,_,[it.name]⟩,0,1,true⟩:PieceV) ⟨j3 (fun p hp=>oH ‹_› hp),j0⟩ (he:=congrArg (fun b:Bool=>Value.tuple #[_,.bool b]) aa3)
  refine g8 ?_;refine jP (o:=_) (o':=_) rfl rfl ?_ ?_
  ·refine jW (m:=it.name) rfl rfl rfl rfl rfl fun b7=>?_;refine one ?_;refine sqT rfl (k7 (dN _ _ _ _ _ _)) ?_;refine g12 ?_;refine bR (E:=nM) kT1 q7 ?_;exact rs2 (⟨⟨some ⟨b7,0,none⟩,_,[it.name]⟩,0,1,true⟩:PieceV) ⟨j3 (fun p hp=>oH ‹_› hp),j0⟩ (he:=congrArg (fun b:Bool=>Value.tuple #[_,.bool b]) aa3)
  refine g4 ?_;refine jW (m:=it.name) rfl rfl rfl rfl rfl fun b8=>?_;refine one ?_;refine sqT rfl (k7 (dN _ _ _ _ _ _)) ?_;refine g8 ?_;refine bR (E:=nM) kT1 q7 ?_;exact rs2 (⟨⟨some ⟨b8,0,none⟩,_,[it.name]⟩,0,1,true⟩:PieceV) ⟨j3 (fun p hp=>oH ‹_› hp),j0⟩ (he:=congrArg (fun b:Bool=>Value.tuple #[_,.bool b]) aa3)
 refine g9 ?_;refine bHo (fun hg31=>?_) fun hg31=>?_
 ·refine g21 ?_;refine ss (k7 (gY)) ?_;refine g6 ?_;refine cK (t:=9) nM ?_;have ho:=vG (it:=it) ‹_› w6;exact rs2 (⟨⟨none,0,[]⟩,0,0,false⟩:PieceV) ⟨j3 (fun p hp=>by rw [ho] at hp;cases hp),j0⟩ (he:=by rw [ho];rfl)
 refine g5 ?_;refine cI (fun hg36=>?_) (fun hg36=>?_)
 ·have hg36:it.name≠([]:Bs):=fun h=>by rw [h] at hg36;first | (simp at hg36;done) | exact absurd hg36 o9
  refine g16 ?_;refine ss (k7 (gY)) ?_;refine g6 ?_;refine cK (t:=9) nM ?_;have ho:=vG (it:=it) ‹_› w6;exact rs2 (⟨⟨none,0,[]⟩,0,0,false⟩:PieceV) ⟨j3 (fun p hp=>by rw [ho] at hp;cases hp),j0⟩ (he:=by rw [ho];rfl)
 have hg36:it.name=([]:Bs):=eq_of_beq (zM hg36);refine g6 ?_;refine oX (fun hg42=>?_) fun hg42=>?_
 ·refine g10 ?_;refine ss (k7 (gY)) ?_;refine g6 ?_;refine cK (t:=9) nM ?_;have ho:=vG (it:=it) ‹_› w6;exact rs2 (⟨⟨none,0,[]⟩,0,0,false⟩:PieceV) ⟨j3 (fun p hp=>by rw [ho] at hp;cases hp),j0⟩ (he:=by rw [ho];rfl)
 refine g7 ?_;refine dJ (fun hc47=>?_) fun hc47=>?_
 ·refine g2 ?_;refine ss (k7 (gY)) ?_;refine g6 ?_;refine cK (t:=9) nM ?_;have ho:=vG (it:=it) ‹_› w6;exact rs2 (⟨⟨none,0,[]⟩,0,0,false⟩:PieceV) ⟨j3 (fun p hp=>by rw [ho] at hp;cases hp),j0⟩ (he:=by rw [ho];rfl)
 refine g7 ?_;refine ss (k7 (rU _ _)) ?_;refine j6 nV fun b9=>?_;refine g13 ?_;refine cK (t:=9) nM ?_;refine cB (ι:=Nat×List Bs×Option Addr×Nat) [(2,_),(4,_),(54,_),(55,_)] ⟨rfl,rfl,rfl,rfl,j0⟩ (fun⟨i,ws,W,cw⟩=>[(56,.int .i64 (i:Nat))]) (fun⟨i,ws,W,cw⟩=>[.obj b9 (.cells [.slice W ws.length cw,.int .i64 0,.int .i64 (it.nums.list.length:Nat),.bool true].toArray 221),nM.row (.slice W ws.length cw) 9 ws]) (fun⟨i,ws,W,cw⟩=>[Fact.pure (i≤it.nums.list.length∧ws=(it.nums.list.take i).map fY∧ws.length=i)]) (fun⟨i,ws,W,cw⟩=>it.nums.list.length-i) (0,[],none,0) ⟨rfl,j0⟩ (.c1 (.c0 .nil)) ⟨j3 (⟨n7,rfl,rfl⟩),j0⟩ ?_;rintro⟨i,ws,W,cw⟩;dsimp only;refine bC d7 fun hinv7=>?_;refine g6 ?_;refine dJ (fun hc57=>?_) fun hc57=>?_
 ·refine g6 ?_;obtain⟨x10,hx11⟩:=gx it.nums.list i;refine ss (ixs i) ?_;refine ss (fL hx11 0) ?_;refine g3 ?_;refine lC 7 _ _ [(true,0),(true,1),(true,2),(false,3),(false,4),(false,5),(true,6)] bV o5 (.c0 (.c1 (.c1 .nil))) bA.self ?_;refine g4 ?_;have hr:=hz x10 (j4 hx11);refine bD func93 (bHy _ hr.1 hr.2) rfl rfl .nil ⟨d9,j0⟩ fun _=>?_;refine g2 ?_;refine jW (m:=(fY x10)) rfl rfl rfl rfl rfl fun b12=>?_;refine g2 ?_;refine mQ kT2 (bW .head rfl) rfl rfl rfl rfl rfl rfl rfl y9 fun A13 c14=>?_;refine g9 ?_;refine inc (i+1) ?_;refine g3 ?_;exact dM (i+1,ws++[fY x10],_,_) z8 ⟨rfl,j0⟩ ⟨rfl,rfl,rfl,rfl,j0⟩ (.c0 (.c0 (.c1 (.c1 .nil)))) ⟨j3 (⟨by dsimp only;omega,by rw [hinv7.2.1];exact bTo hx11,by simp;omega⟩),j0⟩ (bA.drop 1)
 refine g13 ?_;have ho:=operand_nums (it:=it) ‹_› ‹_› ‹_› ‹_› ‹_›;have hw:ws=it.nums.list.map fY:=by rw [hinv7.2.1,List.take_of_length_le n7]
 exact rs2 (⟨⟨_,_,ws⟩,0,it.nums.list.length,true⟩:PieceV) ⟨j3 (fun p hp=>by rw [ho] at hp;cases hp;rw [hw];rfl),j0⟩ (he:=by rw [ho];rfl)
end
end Go.Proofs.YtakphiannlpnfaaGreatDoor
