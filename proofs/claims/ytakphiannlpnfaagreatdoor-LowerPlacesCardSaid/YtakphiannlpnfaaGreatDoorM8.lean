/- Texts of one proof, one behind the other: ParseB, ParseC, TysS, BuildA. -/
import Derived.Test.YtakphiannlpnfaaGreatDoorM2
import Derived.Test.YtakphiannlpnfaaGreatDoorM7
import Derived.Test.YtakphiannlpnfaaGreatDoorM4
import Derived.Test.YtakphiannlpnfaaGreatDoorM5
import Derived.Lib.Fields
namespace Go.Proofs.YtakphiannlpnfaaGreatDoor
section
open Go.RowKit Go.Proofs.Tryz
set_option maxRecDepth 100000
def rF (x:InputV):Fact:=bDb.sl (.slice x.sides.addr x.sides.list.length x.sides.cap) x.sides.list
def hZ (l:List InputV):Fact:=Fact.each l rF
def bLl (x:LineV):Fact:=(lN.sl (.slice x.items.addr x.items.list.length x.items.cap) x.items.list).and (mP x.items.list)
def lF (l:List LineV):Fact:=Fact.each l bLl
theorem bOn{F:List Fact}{l:List InputV}{x:InputV}(h:Has F (hZ l))(hx:Has F (rF x)):Has F (hZ (l++[x])):=Has.each_snoc h hx
theorem bQi{F:List Fact}{l:List LineV}{x:LineV}(h:Has F (lF l))(hx:Has F (bLl x)):Has F (lF (l++[x])):=Has.each_snoc h hx
section
variable {toks : List TokV} {e : Int} {k : Nat} {acc : List jK}
theorem uT(hk:k<toks.length):toks.drop k=bG toks k::toks.drop (k+1)∧(bG toks k).at_=atP toks k e:=by
 have h:toks[k]?=some toks[k]:=List.getElem?_eq_getElem hk;rw [sR h,bEs h];exact⟨List.drop_eq_getElem_cons hk,rfl⟩
theorem bSh(hk:k<toks.length)(h2:(bG toks k).kind≠2)(hn:(bG toks k).kind≠1∨cT (bG toks k).word=false){a:List oA}:lG (toks.drop k) a=(a,(atP toks k e,41)):=by
 rw [(uT (e:=e) hk).1,lG,if_pos ⟨h2,hn⟩,(uT (e:=e) hk).2]
theorem sides_ok(hn:(bG toks k).kind=2∨(bG toks k).kind=1∧cT (bG toks k).word=true): ¬((bG toks k).kind≠2∧((bG toks k).kind≠1∨cT (bG toks k).word=false)):=by
 rintro⟨h1,h2⟩
 rcases hn with hn | ⟨a,b⟩
 ·exact h1 hn
 ·rcases h2 with h2 | h2
  ·exact h2 a
  ·rw [b] at h2;cases h2
theorem bMk(hk:k<toks.length)(hn:(bG toks k).kind=2∨(bG toks k).kind=1∧cT (bG toks k).word=true){a:List oA}(h4:a.length=4):lG (toks.drop k) a=(a,(atP toks k e,45)):=by
 rw [(uT (e:=e) hk).1,lG,if_neg (sides_ok hn),if_pos h4,(uT (e:=e) hk).2]
theorem bOm(hk:k<toks.length)(hn:(bG toks k).kind=2∨(bG toks k).kind=1∧cT (bG toks k).word=true){a:List oA}(h4:a.length≠4):lG (toks.drop k) a=lG (toks.drop (k+1)) (a++[⟨(bG toks k).word,(bG toks k).n⟩]):=by
 rw [(uT (e:=0) hk).1,lG,if_neg (sides_ok hn),if_neg h4]
theorem sides_end(hk:toks.length≤k){a:List oA}:lG (toks.drop k) a=(a,(0,0)):=by
 rw [List.drop_of_length_le hk];rfl
variable {p : fT} {n : Nat} {over : Bool}
theorem bGx(hn:n=64):fP toks e p n over=(p,(atP toks 0 e,45)):=by rw [fP,if_pos hn]
variable (hn : n ≠ 64)
include hn
theorem bMl(hl:256<toks.length):fP toks e p n over=(p,(atP toks 256 e,45)):=by rw [fP,if_neg hn,if_pos hl]
variable (hl : ¬ 256 < toks.length)
include hl
theorem wI(h:over=true∨isW (bG toks 0) [105,110]=true∧p.lines≠[]):fP toks e p n over=(p,(atP toks 0 e,40)):=by rw [fP,if_neg hn,if_neg hl,if_pos h]
variable (ho : over = false)
include ho
theorem i_in(hi:isW (bG toks 0) [105,110]=true)(h0:p.lines=[]):fP toks e p n over=(⟨p.inputs++[(kC toks e).1],p.lines⟩,(kC toks e).2):=by
 rw [fP,if_neg hn,if_neg hl,if_neg (by rw [ho,h0];simp),if_pos hi]
variable (hi : isW (bG toks 0) [105, 110] = false)
include hi
theorem i_out(hu:isW (bG toks 0) [111,117,116]=true):fP toks e p n over=(⟨p.inputs,p.lines++[(rV toks e [] 1).1]⟩,(rV toks e [] 1).2):=by
 rw [fP,if_neg hn,if_neg hl,if_neg ai1,if_neg ag2,if_pos hu]
variable (hu : isW (bG toks 0) [111, 117, 116] = false)
include hu
theorem i_none(h:(bG toks 0).kind≠1∨cT (bG toks 0).word=false):fP toks e p n over=(p,(atP toks 0 e,40)):=by
 rw [fP,if_neg hn,if_neg hl,if_neg ai1,if_neg ag2,if_neg (by rw [hu];simp),if_pos h]
variable (h1 : (bG toks 0).kind = 1) (hm : cT (bG toks 0).word = true)
include h1 hm
theorem i_want(h:(bG toks 1).kind≠3∨(bG toks 1).word≠[58]):fP toks e p n over=(p,(atP toks 1 e,42)):=by
 rw [fP,if_neg hn,if_neg hl,if_neg ai1,if_neg ag2,if_neg (by rw [hu];simp),if_neg (by rw [h1,hm];simp),if_pos h]
theorem i_line(h3:(bG toks 1).kind=3)(hw:(bG toks 1).word=[58]):fP toks e p n over=(⟨p.inputs,p.lines++[(rV toks e (bG toks 0).word 2).1]⟩,(rV toks e (bG toks 0).word 2).2):=by
 rw [fP,if_neg hn,if_neg hl,if_neg ai1,if_neg ag2,if_neg (by rw [hu];simp),if_neg (by rw [h1,hm];simp),if_neg (by rw [h3,hw];simp)]
end
theorem bJi{toks:List TokV}{e:Int}{p:fT}{n:Nat}{over:Bool}(h:mJ (fP toks e p n over).2=true):n≠64∧(fP toks e p n over).1.inputs.length+(fP toks e p n over).1.lines.length≤p.inputs.length+p.lines.length+1:=by
 refine⟨fun hn=>?_,?_⟩
 ·rw [bGx hn] at h;simp [mJ,pA] at h
 ·unfold fP
  repeat' split
  all_goals (first | (simp;done) | (simp;omega))
theorem isW_ne{t:TokV}{w:Bs}(h:t.kind≠1):isW t w=false:=by simp [isW,h]
theorem isW_is{t:TokV}{w:Bs}(h:t.kind=1)(hw:t.word=w):isW t w=true:=by simp [isW,h,hw]
theorem isW_no{t:TokV}{w:Bs}(hw:t.word≠w):isW t w=false:=by simp [isW,hw]
theorem zS{i:List dQ}{l:List LineV}(h: ¬0<l.length):false=pH ⟨i,l.map LineV.ln⟩:=by
 have:l=[]:=List.eq_nil_of_length_eq_zero n0;subst this;rfl
theorem zU{i:List dQ}{l:List LineV}{x:LineV}(h:l[l.length-1]?=some x):(x.name==[])=pH ⟨i,l.map LineV.ln⟩:=by
 unfold pH;dsimp only;rw [List.getLast?_map,List.getLast?_eq_getElem?,h];rfl
theorem bJn{toks:List TokV}{n:Nat}(hn:n=(dC toks).length)(h:toks.length≤n):toks.drop n=toks.drop ((dC toks).length+1):=by
 rw [List.drop_of_length_le h,List.drop_of_length_le n0]
theorem bBq{α β:Type}{f:α→β}{l:List α}(h:0<l.length):l.map f≠[]:=fun e=>by
 have:l=[]:=List.map_eq_nil_iff.1 e;subst this;simp at h
theorem map_nil{α β:Type}{f:α→β}{l:List α}(h: ¬0<l.length):l.map f=[]:=by
 have:l=[]:=List.eq_nil_of_length_eq_zero n0;subst this;rfl
def progFct(x:ProgV):Fact:=((jJ.sl (.slice x.inputs.addr x.inputs.list.length x.inputs.cap) x.inputs.list).and (hZ x.inputs.list)).and ((nL.sl (.slice x.lines.addr x.lines.list.length x.lines.cap) x.lines.list).and (lF x.lines.list))
theorem zT: ∀(f i:Nat) (s:Bs) (out:List Tok),(lexGo f i s out).1.length≤out.length+s.length
 | 0,_,_,out=>by simp [lexGo]
 | _+1,_,[],out=>by simp [lexGo]
 | f+1,i,b::r,out=>by
  unfold lexGo;split
  ·have:=zT f (i+1) r out;simp only [List.length_cons];omega
  ·split
   ·have:=zT f (i+runB (· !=10) (b::r)) ((b::r).drop (runB (· !=10) (b::r))) out;rw [List.length_drop] at this;omega
   ·split
    ·simp
    ·rename_i k wd v m ht;have h1:=zT f (i+m) ((b::r).drop m) (out++[⟨k,i,wd,v⟩]);have h2:=vJ ht;simp only [List.length_append,List.length_drop,List.length_cons,List.length_nil] at h1 h2⊢;omega
theorem lex_count(s:Bs):(fW s).1.length≤65536:=by
 unfold fW;split
 ·simp
 ·have:=zT s.length 0 s [];simp only [List.length_nil] at this;omega
theorem bJy{toks:List TokV}(h: ∀t∈toks,bCz t): ∀t∈dC toks,bCz t:=fun t ht=>h t (List.mem_of_mem_take (by rw [bDy];exact ht))
theorem p_start{text:Bs}{r:fT×Flt}(hR:hO text=r)(h:mJ (fW text).2=true):bBi r text.length (fW text).1 ⟨[],[]⟩ 0 false:=⟨_,Nat.le_refl _,by rw [←hR,hO,if_pos h]⟩
theorem p_lexed{text:Bs}{r:fT×Flt}(hR:hO text=r)(h:mJ (fW text).2=false):r=(⟨[],[]⟩,(fW text).2):=by rw [←hR,hO,if_neg (by rw [h];simp)]
theorem uD{α:Type}{l:List α}(h:0<l.length):l≠[]:=List.length_pos_iff.1 h
theorem bJw{α:Type}{l:List α}(h:((l.length:Nat):Int)=0):l=[]:=List.eq_nil_of_length_eq_zero n0
theorem kD:(prog.info? 50).bind (·.zero)=some (.agg #[.string (bs []),.int .i64 0,.slice none 0 0]):=n7
theorem uN(s0:ByteArray)(z1:Int):prog.built 50 [(1,.int .i64 z1),(0,.string s0)]=some #[.string s0,.int .i64 z1,.slice none 0 0]:=n7
theorem oZ(s0:ByteArray)(z1:Int):prog.built 76 [(0,.string s0),(1,.int .i64 z1)]=some #[.string s0,.int .i64 z1]:=n7
theorem pL(z1:Int):prog.built 54 [(1,.int .i64 z1)]=some #[.string (bs []),.int .i64 z1,.slice none 0 0]:=n7
theorem rW:(prog.info? 54).bind (·.zero)=some (.agg #[.string (bs []),.int .i64 0,.slice none 0 0]):=n7
theorem bNb(bl:Nat)(A:Option Addr)(c:Nat)(toks:List TokV)(k0:Nat)(e:Int)(h0:0<toks.length)(hl:toks.length≤1000)(hw: ∀k,(bG toks k).word.length≤65536):cO prog 62 [.pointer (some ⟨bl,0,none⟩)] [.obj bl (.cells [.slice A toks.length c,.int .i64 (k0:Nat),.int .i64 e].toArray 110)] [lW.sl (.slice A toks.length c) toks,iB] (fun(x:InputV×Nat)=> .tuple #[.agg #[.string (bs x.1.name),.int .i64 x.1.at_,.slice x.1.sides.addr x.1.sides.list.length x.1.sides.cap],.agg #[.int .i64 (kC toks e).2.1,.int .i64 (kC toks e).2.2]]) (fun(x:InputV×Nat)=>[.obj bl (.cells [.slice A toks.length c,.int .i64 (x.2:Nat),.int .i64 e].toArray 110)]) (fun(x:InputV×Nat)=>[rF x.1,Fact.pure (x.1.inp=(kC toks e).1)]):=by
 have hT:=fB;generalize hR:kC toks e=r;refine k6 func62 ntmps62 ?_;intro β hM;refine g2 ?_;refine j5 kD fun b1=>?_;refine j5 bBh fun b2=>?_;refine g13 ?_;refine bD func101 (at_spec bl A c toks (1) e) rfl rfl (.c0 .nil) ⟨d7,j1⟩ fun _=>?_;refine one ?_;refine bD func60 (hY bl A c toks (1) e) rfl rfl (.c0 .nil) ⟨d7,j1⟩ fun _=>?_;refine one ?_;refine ss (j9 (uN _ _)) ?_;refine j5 kD fun b3=>?_;refine g5 ?_;refine bU _ _ [(true,0),(true,1),(true,2),(true,3),(true,4),(true,5),(true,6),(true,7),(true,8),(true,9)] bX o5 (.c0 (.c0 (.c0 (.c0 .nil)))) bA.self ?_;refine g12 ?_;refine fM (fun hc24=>?_) fun hc24=>?_
 ·refine cN<|bU _ _ [(true,0),(true,1),(false,2),(false,3),(false,4)] bX o5 (.c0 (.c0 .nil)) bA.self ?_;refine g3 ?_;refine bD func61 (bY bl A c toks (1) e _) rfl rfl (.c1 .nil) ⟨d7,j1⟩ fun _=>?_;refine g11 ?_;have hr:=hR.symm.trans (by rw [kC,if_pos n0]);subst hr;exact rs2 (⟨(bG toks 1).word,atP toks 1 e,⟨none,0,[]⟩⟩,_) ⟨cU,j2 rfl,j1⟩
 refine g6 ?_;refine bD func60 (hY bl A c toks (1) e) rfl rfl (.c1 .nil) ⟨d7,j1⟩ fun _=>?_;refine g3 ?_;refine bEk (fun hg32=>?_) fun hg32=>?_
 ·refine g9 ?_;refine bU _ _ [(true,0),(true,1),(false,2),(false,3),(false,4)] bX o5 (.c0 (.c0 .nil)) bA.self ?_;refine g3 ?_;refine bD func61 (bY bl A c toks (1) e _) rfl rfl (.c0 .nil) ⟨d7,j1⟩ fun _=>?_;refine g11 ?_;have hr:=hR.symm.trans ae2;subst hr;exact rs2 (⟨(bG toks 1).word,atP toks 1 e,⟨none,0,[]⟩⟩,_) ⟨cU,j2 rfl,j1⟩
 refine g2 ?_;refine bD func63 (nF _ (Nat.le_trans (hw _) o8)) rfl rfl .nil ⟨d8,j1⟩ fun _=>?_;refine g4 ?_;refine jG (fun hc37=>?_) fun hc37=>?_
 ·refine cN<|bU _ _ [(true,0),(true,1),(false,2),(false,3),(false,4)] bX o5 (.c0 (.c0 .nil)) bA.self ?_;refine g3 ?_;refine bD func61 (bY bl A c toks (1) e _) rfl rfl (.c0 .nil) ⟨d7,j1⟩ fun _=>?_;refine g11 ?_;have hr:=hR.symm.trans ae2;subst hr;exact rs2 (⟨(bG toks 1).word,atP toks 1 e,⟨none,0,[]⟩⟩,_) ⟨cU,j2 rfl,j1⟩
 refine g12 ?_;refine cH (t:=76) bDb ?_;refine cD (ι:=Nat×List jK×Option Addr×Nat) [(0,_),(2,_),(3,_),(4,_)] ⟨rfl,rfl,rfl,rfl,j1⟩ (fun _=>[]) (fun⟨k,sides,S,c2⟩=>[.obj bl (.cells [.slice A toks.length c,.int .i64 (k:Nat),.int .i64 e].toArray 110),.obj b3 (.cells [.string (bs (bG toks 1).word),.int .i64 (atP toks 1 e),.slice S sides.length c2].toArray 50),bDb.row (.slice S sides.length c2) 76 sides]) (fun⟨k,sides,S,c2⟩=>[Fact.pure (lG (toks.drop k) (sides.map jK.sd)=lG (toks.drop 2) []∧k≤toks.length∧sides.length≤4)]) (fun⟨k,sides,S,c2⟩=>toks.length-k) (2,[],none,0) j1 (.c1 (.c1 (.c0 .nil))) ⟨j2 (⟨rfl,iT (toks:=toks) (k:=1) n0,o3⟩),j1⟩ ?_;rintro⟨k,sides,S,c2⟩;dsimp only;refine bC d7 fun hinv8=>?_;refine g2 ?_;refine bU _ _ [(true,0),(true,1),(true,2),(true,3),(true,4),(true,5),(true,6),(true,7),(true,8),(true,9)] bX o5 (.c0 (.c0 (.c0 (.c0 (.c0 .nil))))) bA.self ?_;refine g12 ?_;refine dO (fun hc53=>?_) fun hc53=>?_
 ·refine g7 ?_;refine bD func60 (hY bl A c toks (k) e) rfl rfl (.c0 .nil) ⟨d8,j1⟩ fun _=>?_;refine j5 yL fun b4=>?_;refine g10 ?_;refine bEk (fun hg66=>?_) fun hg66=>?_
  ·refine g4 ?_;refine bEk (fun hg70=>?_) fun hg70=>?_
   ·refine g10 ?_;refine bU _ _ [(true,0),(true,1),(false,2),(false,3),(false,4)] bX o5 (.c0 (.c0 (.c0 (.c0 .nil)))) bA.self ?_;refine g3 ?_;refine bD func61 (bY bl A c toks (k) e _) rfl rfl (.c1 .nil) ⟨d8,j1⟩ fun _=>?_;refine g16 ?_;have hr:=hR.symm.trans ab3;subst hr;refine bE kT5 ?_;exact rs2 (⟨(bG toks 1).word,atP toks 1 e,⟨_,_,sides⟩⟩,_) ⟨d7,j2 rfl,j1⟩
   refine g2 ?_;refine bD func63 (nF _ (Nat.le_trans (hw _) o8)) rfl rfl .nil ⟨d9,j1⟩ fun _=>?_;refine g5 ?_;refine jG (fun hc76=>?_) fun hc76=>?_
   ·refine cN<|bU _ _ [(true,0),(true,1),(false,2),(false,3),(false,4)] bX o5 (.c0 (.c0 (.c0 (.c0 .nil)))) bA.self ?_;refine g3 ?_;refine bD func61 (bY bl A c toks (k) e _) rfl rfl (.c1 .nil) ⟨d8,j1⟩ fun _=>?_;refine g16 ?_;have hr:=hR.symm.trans ab3;subst hr;refine bE kT5 ?_;exact rs2 (⟨(bG toks 1).word,atP toks 1 e,⟨_,_,sides⟩⟩,_) ⟨d7,j2 rfl,j1⟩
   refine g11 ?_;refine fM (fun hc83=>?_) fun hc83=>?_
   ·refine cN<|bU _ _ [(true,0),(true,1),(false,2),(false,3),(false,4)] bX o5 (.c0 (.c0 (.c0 (.c0 .nil)))) bA.self ?_;refine g3 ?_;refine bD func61 (bY bl A c toks (k) e _) rfl rfl (.c1 .nil) ⟨d8,j1⟩ fun _=>?_;refine g16 ?_;have hr:=hR.symm.trans aa4;subst hr;refine bE kT5 ?_;exact rs2 (⟨(bG toks 1).word,atP toks 1 e,⟨_,_,sides⟩⟩,_) ⟨d7,j2 rfl,j1⟩
   refine g9 ?_;refine ss (j9 (oZ _ _)) ?_;refine bHs (m:=⟨_,_⟩) rfl rfl rfl rfl rfl fun b5=>?_;refine bHg kT4 (cA .head rfl) rfl rfl rfl rfl rfl rfl rfl w7 fun A6 c7=>?_;refine g11 ?_;refine inc (k+1) ?_;refine g5 ?_;exact dP (k+1,sides++[⟨(bG toks k).word,(bG toks k).n⟩],_,_) w9 j1 ⟨rfl,rfl,rfl,rfl,j1⟩ (.c0 (.c0 (.c0 (.c2 (.c2 .nil))))) ⟨j2 (⟨by rw [←hinv8.1,List.map_append];exact(bOm n0 ab6 q9).symm,by dsimp only;omega,by simp;omega⟩),j1⟩ (bA.drop 1)
  refine g24 ?_;refine fM (fun hc83=>?_) fun hc83=>?_
  ·refine cN<|bU _ _ [(true,0),(true,1),(false,2),(false,3),(false,4)] bX o5 (.c0 (.c0 (.c0 (.c0 .nil)))) bA.self ?_;refine g3 ?_;refine bD func61 (bY bl A c toks (k) e _) rfl rfl (.c1 .nil) ⟨d8,j1⟩ fun _=>?_;refine g16 ?_;have hr:=hR.symm.trans aa4;subst hr;refine bE kT5 ?_;exact rs2 (⟨(bG toks 1).word,atP toks 1 e,⟨_,_,sides⟩⟩,_) ⟨d7,j2 rfl,j1⟩
  refine g9 ?_;refine ss (j9 (oZ _ _)) ?_;refine bHs (m:=⟨_,_⟩) rfl rfl rfl rfl rfl fun b8=>?_;refine bHg kT4 (cA .head rfl) rfl rfl rfl rfl rfl rfl rfl w7 fun A9 c10=>?_;refine g11 ?_;refine inc (k+1) ?_;refine g5 ?_;exact dP (k+1,sides++[⟨(bG toks k).word,(bG toks k).n⟩],_,_) w9 j1 ⟨rfl,rfl,rfl,rfl,j1⟩ (.c0 (.c0 (.c0 (.c2 (.c2 .nil))))) ⟨j2 (⟨by rw [←hinv8.1,List.map_append];exact(bOm n0 ab6 q9).symm,by dsimp only;omega,by simp;omega⟩),j1⟩ (bA.drop 1)
 refine g8 ?_;refine ss (j9 (yF)) ?_;refine g5 ?_;have hr:=hR.symm.trans (by rw [kC,if_neg n0,if_neg ae6,←hinv8.1,sides_end n0]);subst hr;refine bE kT4 ?_;exact rs2 (⟨(bG toks 1).word,atP toks 1 e,⟨_,_,sides⟩⟩,_) ⟨d7,j2 rfl,j1⟩
theorem zY(bl:Nat)(A:Option Addr)(c:Nat)(toks:List TokV)(e:Int)(bp:Nat)(I:Option Addr)(ci:Nat)(ins:List InputV)(J:Option Addr)(cj:Nat)(lns:List LineV)(n:Nat)(over:Bool)(h0:0<toks.length)(hn:n≤64)(hil:ins.length+lns.length≤n)(hw: ∀k,(bG toks k).word.length≤65536):cO prog 29 [.pointer (some ⟨bl,0,none⟩),.pointer (some ⟨bp,0,none⟩),.int .i64 (n:Nat),.bool over] [.obj bl (.cells [.slice A toks.length c,.int .i64 (0:Nat),.int .i64 e].toArray 110),.obj bp (.cells [.slice I ins.length ci,.slice J lns.length cj].toArray 25),jJ.row (.slice I ins.length ci) 50 ins,nL.row (.slice J lns.length cj) 54 lns] [lW.sl (.slice A toks.length c) toks,iB,hZ ins,lF lns] (fun(_:List InputV×List LineV×(Option Addr×Nat)×(Option Addr×Nat)×Nat)=> .agg #[.int .i64 (fP toks e ⟨ins.map InputV.inp,lns.map LineV.ln⟩ n over).2.1,.int .i64 (fP toks e ⟨ins.map InputV.inp,lns.map LineV.ln⟩ n over).2.2]) (fun(x:List InputV×List LineV×(Option Addr×Nat)×(Option Addr×Nat)×Nat)=>[.obj bl (.cells [.slice A toks.length c,.int .i64 (x.2.2.2.2:Nat),.int .i64 e].toArray 110),.obj bp (.cells [.slice x.2.2.1.1 x.1.length x.2.2.1.2,.slice x.2.2.2.1.1 x.2.1.length x.2.2.2.1.2].toArray 25),jJ.row (.slice x.2.2.1.1 x.1.length x.2.2.1.2) 50 x.1,nL.row (.slice x.2.2.2.1.1 x.2.1.length x.2.2.2.1.2) 54 x.2.1]) (fun(x:List InputV×List LineV×(Option Addr×Nat)×(Option Addr×Nat)×Nat)=>[hZ x.1,lF x.2.1,Fact.pure ((⟨x.1.map InputV.inp,x.2.1.map LineV.ln⟩:fT)=(fP toks e ⟨ins.map InputV.inp,lns.map LineV.ln⟩ n over).1)]):=by
 have hT:=fB;generalize hR:fP toks e ⟨ins.map InputV.inp,lns.map LineV.ln⟩ n over=r;refine k6 func29 ntmps29 ?_;intro β hM;refine g2 ?_;refine j5 bBh fun b1=>?_;refine g5 ?_;refine bD func60 (hY bl A c toks (0) e) rfl rfl (.c1 .nil) ⟨d7,j1⟩ fun _=>?_;refine j5 yL fun b2=>?_;refine g4 ?_;refine bU _ _ [(true,0),(true,1),(true,2),(true,3),(true,4),(true,5),(true,6),(true,7),(true,8),(true,9),(true,10),(true,11),(true,12),(true,13),(true,14),(true,15),(true,16),(true,17)] bX o5 (.c0 (.c0 (.c0 (.c0 (.c0 (.c0 .nil)))))) bA.self ?_;refine g4 ?_;refine nP (fun hg20=>?_) fun hg20=>?_
 ·refine g7 ?_;refine bM (t':=true) (by rw [hg20];rfl) ?_;refine g6 ?_;refine dS (fun hg10=>?_) (fun hg10=>?_)
  ·have hg10:(bG toks (0)).word=([105,110]:Bs):=eq_of_beq hg10;have hin:=isW_is (t:=bG toks 0) (w:=[105,110]) ‹_› ‹_›;refine one ?_;refine dS (fun hg11=>?_) (fun hg11=>?_)
   ·have hg11:(bG toks (0)).word=([111,117,116]:Bs):=eq_of_beq hg11;have hout:=isW_is (t:=bG toks 0) (w:=[111,117,116]) ‹_› ‹_›;refine g11 ?_;refine fM (fun hc33=>?_) fun hc33=>?_
    ·refine g3 ?_;refine bD func61 (bY bl A c toks (0) e _) rfl rfl (.c1 .nil) ⟨d7,j1⟩ fun _=>?_;refine g6 ?_;have hr:=hR.symm.trans (bGx n0);subst hr;exact rs1 (ins,lns,(_,_),(_,_),_) ⟨d9,e6,j2 (rfl),j1⟩
    refine g11 ?_;refine dO (fun hc38=>?_) fun hc38=>?_
    ·refine g11 ?_;refine bD func61 (bY bl A c toks (256) e _) rfl rfl (.c0 .nil) ⟨d7,j1⟩ fun _=>?_;refine g6 ?_;have hr:=hR.symm.trans (bMl n0 n0);subst hr;exact rs1 (ins,lns,(_,_),(_,_),_) ⟨d9,e6,j2 (rfl),j1⟩
    refine g4 ?_;refine dS (fun hg52=>?_) (fun hg52=>?_)
    ·refine g17 ?_;refine bD func61 (bY bl A c toks (0) e _) rfl rfl (.c1 .nil) ⟨d7,j1⟩ fun _=>?_;refine g6 ?_;have hr:=hR.symm.trans (wI n0 n0 z8);subst hr;exact rs1 (ins,lns,(_,_),(_,_),_) ⟨d9,e6,j2 (rfl),j1⟩
    refine g13 ?_;refine dO (fun hc50=>?_) fun hc50=>?_
    ·refine g3 ?_;refine bD func61 (bY bl A c toks (0) e _) rfl rfl (.c1 .nil) ⟨d7,j1⟩ fun _=>?_;refine g6 ?_;have hr:=hR.symm.trans (wI n0 n0 z8);subst hr;exact rs1 (ins,lns,(_,_),(_,_),_) ⟨d9,e6,j2 (rfl),j1⟩
    refine g9 ?_;refine j5 kD fun b3=>?_;refine g5 ?_;refine bD func62 (bNb bl A c toks 0 e h0 n0 hw) rfl rfl (.c2 .nil) ⟨d7,d8,j1⟩ fun⟨x4,k5⟩=>?_;refine bC d8 fun hx=>?_;dsimp only at hx;refine bB (hZ (ins++[x4])) (bOn e7 d7) ?_;refine g8 ?_;refine oF 10 _ _ [(true,0),(true,1),(true,2),(true,3),(true,4),(true,5),(false,6),(false,7),(true,8),(true,9)] bX o5 (.c0 (.c0 (.c0 (.c0 (.c0 (.c1 .nil)))))) bA.self ?_;refine g7 ?_;refine bEw (m:=x4) rfl rfl rfl rfl rfl fun b6=>?_;refine g2 ?_;refine bEt kT6 (cA .head rfl) rfl rfl rfl rfl rfl rfl rfl w7 fun A7 c8=>?_;refine g16 ?_;have hr:=hR.symm.trans (i_in n0 n0 ‹_› hin (map_nil n0));subst hr;exact rs1 ((ins++[x4]),lns,(_,_),(_,_),_) ⟨d7,e9,j2 (by rw [List.map_append,←hx];rfl),j1⟩
   have hg11:(bG toks (0)).word≠([111,117,116]:Bs):=fun h=>absurd (beq_iff_eq.2 h) ae5;have hout:=isW_no (t:=bG toks 0) (w:=[111,117,116]) ‹_›;refine g11 ?_;refine fM (fun hc33=>?_) fun hc33=>?_
   ·refine g3 ?_;refine bD func61 (bY bl A c toks (0) e _) rfl rfl (.c1 .nil) ⟨d7,j1⟩ fun _=>?_;refine g6 ?_;have hr:=hR.symm.trans (bGx n0);subst hr;exact rs1 (ins,lns,(_,_),(_,_),_) ⟨d9,e6,j2 (rfl),j1⟩
   refine g11 ?_;refine dO (fun hc38=>?_) fun hc38=>?_
   ·refine g11 ?_;refine bD func61 (bY bl A c toks (256) e _) rfl rfl (.c0 .nil) ⟨d7,j1⟩ fun _=>?_;refine g6 ?_;have hr:=hR.symm.trans (bMl n0 n0);subst hr;exact rs1 (ins,lns,(_,_),(_,_),_) ⟨d9,e6,j2 (rfl),j1⟩
   refine g4 ?_;refine dS (fun hg52=>?_) (fun hg52=>?_)
   ·refine g17 ?_;refine bD func61 (bY bl A c toks (0) e _) rfl rfl (.c1 .nil) ⟨d7,j1⟩ fun _=>?_;refine g6 ?_;have hr:=hR.symm.trans (wI n0 n0 z8);subst hr;exact rs1 (ins,lns,(_,_),(_,_),_) ⟨d9,e6,j2 (rfl),j1⟩
   refine g13 ?_;refine dO (fun hc50=>?_) fun hc50=>?_
   ·refine g3 ?_;refine bD func61 (bY bl A c toks (0) e _) rfl rfl (.c1 .nil) ⟨d7,j1⟩ fun _=>?_;refine g6 ?_;have hr:=hR.symm.trans (wI n0 n0 z8);subst hr;exact rs1 (ins,lns,(_,_),(_,_),_) ⟨d9,e6,j2 (rfl),j1⟩
   refine g9 ?_;refine j5 kD fun b9=>?_;refine g5 ?_;refine bD func62 (bNb bl A c toks 0 e h0 n0 hw) rfl rfl (.c2 .nil) ⟨d7,d8,j1⟩ fun⟨x10,k11⟩=>?_;refine bC d8 fun hx=>?_;dsimp only at hx;refine bB (hZ (ins++[x10])) (bOn e7 d7) ?_;refine g8 ?_;refine oF 10 _ _ [(true,0),(true,1),(true,2),(true,3),(true,4),(true,5),(false,6),(false,7),(true,8),(true,9)] bX o5 (.c0 (.c0 (.c0 (.c0 (.c0 (.c1 .nil)))))) bA.self ?_;refine g7 ?_;refine bEw (m:=x10) rfl rfl rfl rfl rfl fun b12=>?_;refine g2 ?_;refine bEt kT6 (cA .head rfl) rfl rfl rfl rfl rfl rfl rfl w7 fun A13 c14=>?_;refine g16 ?_;have hr:=hR.symm.trans (i_in n0 n0 ‹_› hin (map_nil n0));subst hr;exact rs1 ((ins++[x10]),lns,(_,_),(_,_),_) ⟨d7,e9,j2 (by rw [List.map_append,←hx];rfl),j1⟩
  have hg10:(bG toks (0)).word≠([105,110]:Bs):=fun h=>absurd (beq_iff_eq.2 h) (by rw [show((bG toks (0)).word==([105,110]:Bs))=false from hg10];simp);have hin:=isW_no (t:=bG toks 0) (w:=[105,110]) ‹_›;refine one ?_;refine dS (fun hg11=>?_) (fun hg11=>?_)
  ·have hg11:(bG toks (0)).word=([111,117,116]:Bs):=eq_of_beq hg11;have hout:=isW_is (t:=bG toks 0) (w:=[111,117,116]) ‹_› ‹_›;refine g11 ?_;refine fM (fun hc33=>?_) fun hc33=>?_
   ·refine g3 ?_;refine bD func61 (bY bl A c toks (0) e _) rfl rfl (.c1 .nil) ⟨d7,j1⟩ fun _=>?_;refine g6 ?_;have hr:=hR.symm.trans (bGx n0);subst hr;exact rs1 (ins,lns,(_,_),(_,_),_) ⟨d9,e6,j2 (rfl),j1⟩
   refine g11 ?_;refine dO (fun hc38=>?_) fun hc38=>?_
   ·refine g11 ?_;refine bD func61 (bY bl A c toks (256) e _) rfl rfl (.c0 .nil) ⟨d7,j1⟩ fun _=>?_;refine g6 ?_;have hr:=hR.symm.trans (bMl n0 n0);subst hr;exact rs1 (ins,lns,(_,_),(_,_),_) ⟨d9,e6,j2 (rfl),j1⟩
   refine g4 ?_;refine dS (fun hg52=>?_) (fun hg52=>?_)
   ·refine g17 ?_;refine bD func61 (bY bl A c toks (0) e _) rfl rfl (.c1 .nil) ⟨d7,j1⟩ fun _=>?_;refine g6 ?_;have hr:=hR.symm.trans (wI n0 n0 z8);subst hr;exact rs1 (ins,lns,(_,_),(_,_),_) ⟨d9,e6,j2 (rfl),j1⟩
   refine g40 ?_;refine g7 ?_;refine ss (j9 (pL _)) ?_;refine j5 rW fun b15=>?_;refine g24 ?_;refine bD func64 (bSr bl A c toks (1) e n0 n0 hw) rfl rfl (.c0 .nil) ⟨d7,d8,j1⟩ fun⟨C16,e17,its18,k19⟩=>?_;refine bC d9 fun hits=>?_;dsimp only at hits;refine bB (lF (lns++[(⟨[],(bG toks 0).at_,⟨C16,e17,its18⟩⟩:LineV)])) (bQi e9 (Has.and d7 d8)) ?_;refine g9 ?_;refine oF 10 _ _ [(true,0),(true,1),(true,2),(true,3),(true,4),(true,5),(false,6),(false,7),(true,8),(true,9)] bX o5 (.c0 (.c0 (.c0 (.c0 (.c0 (.c0 .nil)))))) bA.self ?_;refine g7 ?_;refine bHi (m:=(⟨[],(bG toks 0).at_,⟨C16,e17,its18⟩⟩:LineV)) rfl rfl rfl rfl rfl fun b20=>?_;refine g2 ?_;refine bHo kT7 (cA .head rfl) rfl rfl rfl rfl rfl rfl rfl w7 fun A21 c22=>?_;refine g14 ?_;have hr:=hR.symm.trans (i_out n0 n0 ‹_› hin hout);subst hr;exact rs1 (ins,(lns++[(⟨[],(bG toks 0).at_,⟨C16,e17,its18⟩⟩:LineV)]),(_,_),(_,_),_) ⟨e9,d7,j2 (by rw [List.map_append,rV,←hits];rfl),j1⟩
  have hg11:(bG toks (0)).word≠([111,117,116]:Bs):=fun h=>absurd (beq_iff_eq.2 h) ae5;have hout:=isW_no (t:=bG toks 0) (w:=[111,117,116]) ‹_›;refine g11 ?_;refine fM (fun hc33=>?_) fun hc33=>?_
  ·refine g3 ?_;refine bD func61 (bY bl A c toks (0) e _) rfl rfl (.c1 .nil) ⟨d7,j1⟩ fun _=>?_;refine g6 ?_;have hr:=hR.symm.trans (bGx n0);subst hr;exact rs1 (ins,lns,(_,_),(_,_),_) ⟨d9,e6,j2 (rfl),j1⟩
  refine g11 ?_;refine dO (fun hc38=>?_) fun hc38=>?_
  ·refine g11 ?_;refine bD func61 (bY bl A c toks (256) e _) rfl rfl (.c0 .nil) ⟨d7,j1⟩ fun _=>?_;refine g6 ?_;have hr:=hR.symm.trans (bMl n0 n0);subst hr;exact rs1 (ins,lns,(_,_),(_,_),_) ⟨d9,e6,j2 (rfl),j1⟩
  refine g4 ?_;refine dS (fun hg52=>?_) (fun hg52=>?_)
  ·refine g17 ?_;refine bD func61 (bY bl A c toks (0) e _) rfl rfl (.c1 .nil) ⟨d7,j1⟩ fun _=>?_;refine g6 ?_;have hr:=hR.symm.trans (wI n0 n0 z8);subst hr;exact rs1 (ins,lns,(_,_),(_,_),_) ⟨d9,e6,j2 (rfl),j1⟩
  refine g29 ?_;refine bM (t':=false) ((congrArg not (show((bG toks (0)).kind==1)=true from (by rw [hg20];rfl)):(!_)=_)) ?_;refine g3 ?_;refine bD func63 (nF _ (Nat.le_trans (hw _) o8)) rfl rfl .nil ⟨d8,j1⟩ fun _=>?_;refine g6 ?_;refine jG (fun hc83=>?_) fun hc83=>?_
  ·refine g3 ?_;refine bD func61 (bY bl A c toks (0) e _) rfl rfl (.c1 .nil) ⟨d7,j1⟩ fun _=>?_;refine g6 ?_;have hr:=hR.symm.trans (i_none n0 n0 ‹_› hin hout o6);subst hr;exact rs1 (ins,lns,(_,_),(_,_),_) ⟨d9,e6,j2 (rfl),j1⟩
  refine g7 ?_;refine ss (j9 (pL _)) ?_;refine j5 rW fun b23=>?_;refine g31 ?_;refine bD func60 (hY bl A c toks (1) e) rfl rfl (.c1 .nil) ⟨d7,j1⟩ fun _=>?_;refine j5 yL fun b24=>?_;refine g9 ?_;refine bEk (fun hg115=>?_) fun hg115=>?_
  ·refine g10 ?_;refine bD func61 (bY bl A c toks (1) e _) rfl rfl (.c1 .nil) ⟨d7,j1⟩ fun _=>?_;refine g6 ?_;have hr:=hR.symm.trans (i_want n0 n0 ‹_› hin hout ‹_› ‹_› o6);subst hr;exact rs1 (ins,lns,(_,_),(_,_),_) ⟨d9,e6,j2 (rfl),j1⟩
  refine g6 ?_;refine jE (fun hc119=>?_) fun hc119=>?_
  ·have hc119:(bG toks (1)).word≠([58]:Bs):=fun h=>by rw [h] at hc119;first | (simp at hc119;done) | exact absurd hc119 o8
   refine g3 ?_;refine bD func61 (bY bl A c toks (1) e _) rfl rfl (.c1 .nil) ⟨d7,j1⟩ fun _=>?_;refine g6 ?_;have hr:=hR.symm.trans (i_want n0 n0 ‹_› hin hout ‹_› ‹_› o6);subst hr;exact rs1 (ins,lns,(_,_),(_,_),_) ⟨d9,e6,j2 (rfl),j1⟩
  have hc119:(bG toks (1)).word=([58]:Bs):=eq_of_beq (bOg hc119);refine g12 ?_;refine bD func64 (bSr bl A c toks (2) e (by have:=iT (toks:=toks) (k:=1) n0;omega) n0 hw) rfl rfl (.c0 .nil) ⟨d7,d8,j1⟩ fun⟨C25,e26,its27,k28⟩=>?_;refine bC d9 fun hits=>?_;dsimp only at hits;refine bB (lF (lns++[(⟨(bG toks 0).word,(bG toks 0).at_,⟨C25,e26,its27⟩⟩:LineV)])) (bQi e9 (Has.and d7 d8)) ?_;refine g9 ?_;refine oF 10 _ _ [(true,0),(true,1),(true,2),(true,3),(true,4),(true,5),(false,6),(false,7),(true,8),(true,9)] bX o5 (.c0 (.c0 (.c0 (.c0 (.c0 (.c0 (.c0 .nil))))))) bA.self ?_;refine g7 ?_;refine bHi (m:=(⟨(bG toks 0).word,(bG toks 0).at_,⟨C25,e26,its27⟩⟩:LineV)) rfl rfl rfl rfl rfl fun b29=>?_;refine g2 ?_;refine bHo kT8 (cA .head rfl) rfl rfl rfl rfl rfl rfl rfl w7 fun A30 c31=>?_;refine g14 ?_;have hr:=hR.symm.trans (i_line n0 n0 ‹_› hin hout ‹_› ‹_› ‹_› ‹_›);subst hr;exact rs1 (ins,(lns++[(⟨(bG toks 0).word,(bG toks 0).at_,⟨C25,e26,its27⟩⟩:LineV)]),(_,_),(_,_),_) ⟨e9,d7,j2 (by rw [List.map_append,rV,←hits];rfl),j1⟩
 refine g7 ?_;refine bM (t':=false) (beq_eq_false_iff_ne.2 hg20) ?_;refine g12 ?_;have hin:=isW_ne (t:=bG toks 0) (w:=[105,110]) ‹_›;have hout:=isW_ne (t:=bG toks 0) (w:=[111,117,116]) ‹_›;refine g6 ?_;refine fM (fun hc33=>?_) fun hc33=>?_
 ·refine g3 ?_;refine bD func61 (bY bl A c toks (0) e _) rfl rfl (.c1 .nil) ⟨d7,j1⟩ fun _=>?_;refine g6 ?_;have hr:=hR.symm.trans (bGx n0);subst hr;exact rs1 (ins,lns,(_,_),(_,_),_) ⟨d9,e6,j2 (rfl),j1⟩
 refine g11 ?_;refine dO (fun hc38=>?_) fun hc38=>?_
 ·refine g11 ?_;refine bD func61 (bY bl A c toks (256) e _) rfl rfl (.c0 .nil) ⟨d7,j1⟩ fun _=>?_;refine g6 ?_;have hr:=hR.symm.trans (bMl n0 n0);subst hr;exact rs1 (ins,lns,(_,_),(_,_),_) ⟨d9,e6,j2 (rfl),j1⟩
 refine g4 ?_;refine dS (fun hg52=>?_) (fun hg52=>?_)
 ·refine g17 ?_;refine bD func61 (bY bl A c toks (0) e _) rfl rfl (.c1 .nil) ⟨d7,j1⟩ fun _=>?_;refine g6 ?_;have hr:=hR.symm.trans (wI n0 n0 z8);subst hr;exact rs1 (ins,lns,(_,_),(_,_),_) ⟨d9,e6,j2 (rfl),j1⟩
 refine g29 ?_;refine bM (t':=true) ((congrArg not (show((bG toks (0)).kind==1)=false from (beq_eq_false_iff_ne.2 hg20)):(!_)=_)) ?_;refine g14 ?_;refine bD func61 (bY bl A c toks (0) e _) rfl rfl (.c1 .nil) ⟨d7,j1⟩ fun _=>?_;refine g6 ?_;have hr:=hR.symm.trans (i_none n0 n0 ‹_› hin hout o6);subst hr;exact rs1 (ins,lns,(_,_),(_,_),_) ⟨d9,e6,j2 (rfl),j1⟩
section
variable {F : List Fact} {A : Option Addr} {c k : Nat} {toks : List TokV}
theorem own_fact(h:Has F (lW.sl (.slice A toks.length c) toks)):Has F (lW.sl (.slice A (dC toks).length c) (dC toks)):=by
 have:=has_take h (bNr toks)
 rwa [bDy] at this
theorem zC(h:Has F (lW.sl (.slice A toks.length c) toks))(hc:toks.length≤c)(hk:k≤toks.length):Has F (lW.sl (.slice (gX A k lW.size c) (toks.drop k).length (c-k)) (toks.drop k)):=by
 have:=kH h hc hk
 rwa [←List.length_drop] at this
end
theorem pB:(prog.info? 25).bind (·.zero)=some (.agg #[.slice none 0 0,.slice none 0 0]):=n7
theorem fV:prog.built 25 []=some #[.slice none 0 0,.slice none 0 0]:=n7
theorem uK(z2:Int):prog.built 110 [(2,.int .i64 z2)]=some #[.slice none 0 0,.int .i64 0,.int .i64 z2]:=n7
theorem bBd(text:Bs)(hs:text.length≤140737488355328):cO prog 13 [.string (bs text)] [] [iB] (fun(x:ProgV)=> .tuple #[.agg #[.slice x.inputs.addr x.inputs.list.length x.inputs.cap,.slice x.lines.addr x.lines.list.length x.lines.cap],.agg #[.int .i64 (hO text).2.1,.int .i64 (hO text).2.2]]) (fun _=>[]) (fun(x:ProgV)=>[progFct x,Fact.pure (x.pr=(hO text).1)]):=by
 have hT:=fB;generalize hR:hO text=r;refine k6 func13 ntmps13 ?_;intro β hM;refine g2 ?_;refine j5 pB fun b1=>?_;refine j5 bBh fun b2=>?_;refine g5 ?_;refine j4 func28 (bOq text n0) ⟨d7,j1⟩ fun⟨A3,c4⟩=>?_;refine g3 ?_;refine j5 bBh fun b5=>?_;refine g8 ?_;refine ss (j9 (yF)) ?_;refine ss (gB ⟨(fW text).2.1,(fW text).2.2⟩ ⟨0,0⟩ rfl rfl rfl) ?_;refine g2 ?_;refine jG (fun hc18=>?_) fun hc18=>?_
 ·refine cN<|bU _ _ [(true,0),(true,1),(false,2),(false,3)] bX o5 (.c0 .nil) bA.self ?_;refine stM rfl (j9 (fV)) ?_;refine g11 ?_;obtain rfl:=p_lexed hR hc18;exact rs2 (⟨⟨none,0,[]⟩,⟨none,0,[]⟩⟩:ProgV) ⟨Has.and (Has.and cU Has.each_nil) (Has.and cU Has.each_nil),j2 rfl,j1⟩
 refine g3 ?_;have hp:=p_start hR hc18;refine one ?_;refine j5 pB fun b6=>?_;refine g10 ?_;have hlc:=lex_count text;refine bC d8 fun hcap=>cH (t:=50) jJ<|cH (t:=54) nL<|bB (hZ []) (Has.each_nil)<|bB (lF []) (Has.each_nil) ?_;refine cD (ι:=List TokV×Option Addr×Nat×List InputV×List LineV×Option Addr×Nat×Option Addr×Nat×Nat×Bool×Int×Int) [(0,_),(2,_),(3,_),(5,_),(6,_)] ⟨rfl,rfl,rfl,rfl,rfl,j1⟩ (fun⟨toks,A,c,ins,lns,I,ci,J,cj,n,ov,f1,f2⟩=>[(4,.slice A toks.length c),(7,.int .i64 (n:Nat)),(8,.bool ov)]) (fun⟨toks,A,c,ins,lns,I,ci,J,cj,n,ov,f1,f2⟩=>[.obj b6 (.cells [.slice I ins.length ci,.slice J lns.length cj].toArray 25),jJ.row (.slice I ins.length ci) 50 ins,nL.row (.slice J lns.length cj) 54 lns,.obj b5 (.cells [.int .i64 f1,.int .i64 f2].toArray 34)]) (fun⟨toks,A,c,ins,lns,I,ci,J,cj,n,ov,f1,f2⟩=>[Fact.pure (bBi r text.length toks ⟨ins.map InputV.inp,lns.map LineV.ln⟩ n ov∧(∀t∈toks,bCz t)∧toks.length≤c∧toks.length≤65536∧n≤64∧ins.length+lns.length≤n),lW.sl (.slice A toks.length c) toks,hZ ins,lF lns]) (fun⟨toks,A,c,ins,lns,I,ci,J,cj,n,ov,f1,f2⟩=>toks.length) ((fW text).1,A3,c4,[],[],none,0,none,0,0,false,(fW text).2.1,(fW text).2.2) ⟨rfl,rfl,rfl,j1⟩ (.c2 (.c1 (.c0 (.c0 .nil)))) ⟨j2 (⟨hp,lex_ok text,hcap,hlc,n0,o3⟩),d9,d8,d7,j1⟩ ?_;rintro⟨toks,A,c,ins,lns,I,ci,J,cj,n,ov,f1,f2⟩;dsimp only;refine bC d7 fun hinv6=>?_;refine g8 ?_;refine dO (fun hc23=>?_) fun hc23=>?_
 ·refine g7 ?_;refine cP (z':=((text.length:Nat):Int)) rfl ?_;refine ss (j9 (uK _)) ?_;refine j8 fun b7=>?_;refine g10 ?_;refine cD (ι:=Nat) [(0,_),(2,_),(3,_),(4,_),(5,_),(6,_),(7,_),(8,_),(9,_)] ⟨rfl,rfl,rfl,rfl,rfl,rfl,rfl,rfl,rfl,j1⟩ (fun j=>[(10,.int .i64 (j:Nat))]) (fun _=>[]) (fun j=>[Fact.pure (j≤(dC toks).length)]) (fun j=>toks.length-j) 0 ⟨rfl,j1⟩ .nil ⟨j2 n0,j1⟩ ?_;rintro j;refine bC d7 fun hinv9=>?_;refine g8 ?_;refine lY (fun hg32=>?_) fun hg32=>?_
  ·refine g2 ?_;obtain⟨x8,hx9⟩:=gx toks j;refine ss (ixs j) ?_;refine one ?_;refine ss (dH hx9 0) ?_;refine g4 ?_;refine tY (fun hc39=>?_) fun hc39=>?_
   ·refine g6 ?_;refine inc (j+1) ?_;refine g4 ?_;exact bk2 (j+1) ⟨j2 (own_more hinv9 ‹_› ‹_›),j1⟩
   refine g6 ?_;have hj:=own_stop hinv9 ae4;subst hj;have hol:=bNr toks;refine g4 ?_;refine ss (lC hT (k:=(dC toks).length) rfl rfl rfl rfl rfl rfl n0) ?_;refine g7 ?_;refine bB (lW.sl (.slice A (dC toks).length c) (dC toks)) (own_fact d9) ?_;refine g7 ?_;refine dO (fun hc51=>?_) fun hc51=>?_
   ·refine g5 ?_;refine ss (cK hT (k:=(dC toks).length) (cF e6) rfl rfl rfl rfl rfl rfl rfl n0) ?_;refine one ?_;refine ss (j6 hT (dU.knows (cF e6) (k:=(dC toks).length) (x:=x8) hx9 1)) ?_;refine g8 ?_;refine inc ((dC toks).length+1) ?_;refine g7 ?_;refine ss (dK hT (k:=((dC toks).length+1)) rfl rfl rfl rfl rfl rfl n0) ?_;refine jY (v':= .slice (gX A ((dC toks).length+1) lW.size c) (toks.drop ((dC toks).length+1)).length (c-((dC toks).length+1))) ab9 ?_;refine g5 ?_;refine bB (lW.sl (.slice (gX A ((dC toks).length+1) lW.size c) (toks.drop ((dC toks).length+1)).length (c-((dC toks).length+1))) (toks.drop ((dC toks).length+1))) (zC e6 hinv6.2.2.1 n0) ?_;refine g9 ?_;refine fM (fun hc70=>?_) fun hc70=>?_
    ·have hon:=bJw hc70;have hsk:bBi r text.length (toks.drop ((dC toks).length+1)) ⟨ins.map InputV.inp,lns.map LineV.ln⟩ n ov:=by have:=p_skip hinv6.1 (uD n0) hon;rw [hon];exact this
     refine g4 ?_;exact dP (toks.drop ((dC toks).length+1),_,_,ins,lns,_,_,_,_,n,_,_,_) z7 ⟨rfl,rfl,rfl,j1⟩ ⟨rfl,rfl,rfl,rfl,rfl,j1⟩ (.c1 (.c1 (.c1 (.c1 (.c1 (.c1 .nil)))))) ⟨j2 (⟨hsk,fun t ht=>hinv6.2.1 t (List.mem_of_mem_drop ht),by dsimp only;rw [List.length_drop];omega,by dsimp only;rw [List.length_drop];omega,hinv6.2.2.2.2.1,hinv6.2.2.2.2.2⟩),d7,e8,e9,j1⟩ (bA.drop 7)
    refine g8 ?_;have hon:0<(dC toks).length:=n0
    refine bD func29 (zY _ A c (dC toks) _ _ I ci ins J cj lns n ov hon hinv6.2.2.2.2.1 hinv6.2.2.2.2.2 (zA (bJy hinv6.2.1))) rfl rfl (.c0 (.c0 (.c0 (.c0 .nil)))) ⟨d8,i6,e8,e9,j1⟩ fun⟨ins10,lns11,⟨I12,ci13⟩,⟨J14,cj15⟩,k16⟩=>?_;refine bC d9 fun hq=>?_;dsimp only at hq;have hE:x8.at_=bPs toks text.length:=(bEs hx9).symm;have hpl:=bOw (q:=⟨ins10.map InputV.inp,lns11.map LineV.ln⟩) (f:=(fP (dC toks) x8.at_ ⟨ins.map InputV.inp,lns.map LineV.ln⟩ n ov).2) hinv6.1 (uD n0) (uD hon) ae3;refine g6 ?_;refine ss (j9 (yF)) ?_;refine ss (gB ⟨(fP (dC toks) x8.at_ ⟨ins.map InputV.inp,lns.map LineV.ln⟩ n ov).2.1,(fP (dC toks) x8.at_ ⟨ins.map InputV.inp,lns.map LineV.ln⟩ n ov).2.2⟩ ⟨0,0⟩ rfl rfl rfl) ?_;refine g2 ?_;refine jG (fun hc77=>?_) fun hc77=>?_
    ·refine cN<|bU _ _ [(true,0),(true,1),(false,2),(false,3)] bX o5 (.c0 (.c0 (.c0 (.c0 (.c0 .nil))))) bA.self ?_;refine stM rfl (j9 (fV)) ?_;refine g15 ?_;obtain rfl:=hpl.2 hc77;exact rs2 (⟨⟨none,0,[]⟩,⟨none,0,[]⟩⟩:ProgV) ⟨Has.and (Has.and cU Has.each_nil) (Has.and cU Has.each_nil),j2 rfl,j1⟩
    refine g3 ?_;have hp2:=hpl.1 hc77;have hio:=bJi hc77;have hlen:ins10.length+lns11.length≤n+1:=by have:=hio.2;rw [←hq] at this;dsimp only at this;simp only [List.length_map] at this;omega
    refine g3 ?_;refine inc (n+1) ?_;refine g7 ?_;refine cP (z':=((lns11.length:Nat):Int)) (rfl) ?_;refine g2 ?_;refine lY (fun hg86=>?_) fun hg86=>?_
    ·refine g5 ?_;refine cP (z':=((lns11.length:Nat):Int)) (rfl) ?_;refine one ?_;refine inc (lns11.length-1) ?_;obtain⟨x17,hx18⟩:=gx lns11 (lns11.length-1) (show lns11.length-1<lns11.length from by omega);refine ss (cK hT (k:=(lns11.length-1)) (cQ kT4) rfl rfl rfl rfl rfl rfl rfl (show lns11.length-1<lns11.length from by omega)) ?_;refine one ?_;refine ss (dH hx18 0) ?_;refine g3 ?_;refine bM (t':=pH ⟨ins10.map InputV.inp,lns11.map LineV.ln⟩) (zU ‹_›) ?_;refine g3 ?_;exact dP (toks.drop ((dC toks).length+1),_,_,ins10,lns11,_,_,_,_,(n+1),_,_,_) z7 ⟨rfl,rfl,rfl,j1⟩ ⟨rfl,rfl,rfl,rfl,rfl,j1⟩ (.c2 (.c2 (.c2 (.c0 (.c1 (.c1 .nil)))))) ⟨j2 (⟨hp2,fun t ht=>hinv6.2.1 t (List.mem_of_mem_drop ht),by dsimp only;rw [List.length_drop];omega,by dsimp only;rw [List.length_drop];omega,by have:=hio.1;dsimp only;omega,by dsimp only;omega⟩),e6,d7,d8,j1⟩ (bA.drop 10)
    refine g12 ?_;refine bM (t':=pH ⟨ins10.map InputV.inp,lns11.map LineV.ln⟩) (zS n0) ?_;refine g3 ?_;exact dP (toks.drop ((dC toks).length+1),_,_,ins10,lns11,_,_,_,_,(n+1),_,_,_) z7 ⟨rfl,rfl,rfl,j1⟩ ⟨rfl,rfl,rfl,rfl,rfl,j1⟩ (.c2 (.c2 (.c2 (.c0 (.c1 (.c1 .nil)))))) ⟨j2 (⟨hp2,fun t ht=>hinv6.2.1 t (List.mem_of_mem_drop ht),by dsimp only;rw [List.length_drop];omega,by dsimp only;rw [List.length_drop];omega,by have:=hio.1;dsimp only;omega,by dsimp only;omega⟩),e6,d7,d8,j1⟩ (bA.drop 10)
   refine g6 ?_;refine ss (dK hT (k:=(dC toks).length) rfl rfl rfl rfl rfl rfl n0) ?_;refine jY (v':= .slice (gX A (dC toks).length lW.size c) (toks.drop (dC toks).length).length (c-(dC toks).length)) ab9 ?_;refine g5 ?_;refine bB (lW.sl (.slice (gX A (dC toks).length lW.size c) (toks.drop (dC toks).length).length (c-(dC toks).length)) (toks.drop (dC toks).length)) (zC e6 hinv6.2.2.1 n0) ?_;refine g9 ?_;refine fM (fun hc70=>?_) fun hc70=>?_
   ·have hon:=bJw hc70;exact absurd hc70 n0
   refine g8 ?_;have hon:0<(dC toks).length:=n0
   refine bD func29 (zY _ A c (dC toks) _ _ I ci ins J cj lns n ov hon hinv6.2.2.2.2.1 hinv6.2.2.2.2.2 (zA (bJy hinv6.2.1))) rfl rfl (.c0 (.c0 (.c0 (.c0 .nil)))) ⟨d8,i6,e8,e9,j1⟩ fun⟨ins19,lns20,⟨I21,ci22⟩,⟨J23,cj24⟩,k25⟩=>?_;refine bC d9 fun hq=>?_;dsimp only at hq;have hE:((text.length:Nat):Int)=bPs toks text.length:=(bLn n0).symm;have hpl:=bOw (q:=⟨ins19.map InputV.inp,lns20.map LineV.ln⟩) (f:=(fP (dC toks) ((text.length:Nat):Int) ⟨ins.map InputV.inp,lns.map LineV.ln⟩ n ov).2) hinv6.1 (uD n0) (uD hon) ae3;refine g6 ?_;refine ss (j9 (yF)) ?_;refine ss (gB ⟨(fP (dC toks) ((text.length:Nat):Int) ⟨ins.map InputV.inp,lns.map LineV.ln⟩ n ov).2.1,(fP (dC toks) ((text.length:Nat):Int) ⟨ins.map InputV.inp,lns.map LineV.ln⟩ n ov).2.2⟩ ⟨0,0⟩ rfl rfl rfl) ?_;refine g2 ?_;refine jG (fun hc77=>?_) fun hc77=>?_
   ·refine cN<|bU _ _ [(true,0),(true,1),(false,2),(false,3)] bX o5 (.c0 (.c0 (.c0 (.c0 (.c0 .nil))))) bA.self ?_;refine stM rfl (j9 (fV)) ?_;refine g15 ?_;obtain rfl:=hpl.2 hc77;exact rs2 (⟨⟨none,0,[]⟩,⟨none,0,[]⟩⟩:ProgV) ⟨Has.and (Has.and cU Has.each_nil) (Has.and cU Has.each_nil),j2 rfl,j1⟩
   refine g3 ?_;have hp2:=hpl.1 hc77;have hio:=bJi hc77;have hlen:ins19.length+lns20.length≤n+1:=by have:=hio.2;rw [←hq] at this;dsimp only at this;simp only [List.length_map] at this;omega
   refine g3 ?_;refine inc (n+1) ?_;refine g7 ?_;refine cP (z':=((lns20.length:Nat):Int)) (rfl) ?_;refine g2 ?_;refine lY (fun hg86=>?_) fun hg86=>?_
   ·refine g5 ?_;refine cP (z':=((lns20.length:Nat):Int)) (rfl) ?_;refine one ?_;refine inc (lns20.length-1) ?_;obtain⟨x26,hx27⟩:=gx lns20 (lns20.length-1) (show lns20.length-1<lns20.length from by omega);refine ss (cK hT (k:=(lns20.length-1)) (cQ kT4) rfl rfl rfl rfl rfl rfl rfl (show lns20.length-1<lns20.length from by omega)) ?_;refine one ?_;refine ss (dH hx27 0) ?_;refine g3 ?_;refine bM (t':=pH ⟨ins19.map InputV.inp,lns20.map LineV.ln⟩) (zU ‹_›) ?_;refine g3 ?_;exact dP (toks.drop (dC toks).length,_,_,ins19,lns20,_,_,_,_,(n+1),_,_,_) z7 ⟨rfl,rfl,rfl,j1⟩ ⟨rfl,rfl,rfl,rfl,rfl,j1⟩ (.c2 (.c2 (.c2 (.c0 (.c1 (.c1 .nil)))))) ⟨j2 (⟨by dsimp only;rw [bJn (toks:=toks) rfl n0];exact hp2,fun t ht=>hinv6.2.1 t (List.mem_of_mem_drop ht),by dsimp only;rw [List.length_drop];omega,by dsimp only;rw [List.length_drop];omega,by have:=hio.1;dsimp only;omega,by dsimp only;omega⟩),e6,d7,d8,j1⟩ (bA.drop 10)
   refine g12 ?_;refine bM (t':=pH ⟨ins19.map InputV.inp,lns20.map LineV.ln⟩) (zS n0) ?_;refine g3 ?_;exact dP (toks.drop (dC toks).length,_,_,ins19,lns20,_,_,_,_,(n+1),_,_,_) z7 ⟨rfl,rfl,rfl,j1⟩ ⟨rfl,rfl,rfl,rfl,rfl,j1⟩ (.c2 (.c2 (.c2 (.c0 (.c1 (.c1 .nil)))))) ⟨j2 (⟨by dsimp only;rw [bJn (toks:=toks) rfl n0];exact hp2,fun t ht=>hinv6.2.1 t (List.mem_of_mem_drop ht),by dsimp only;rw [List.length_drop];omega,by dsimp only;rw [List.length_drop];omega,by have:=hio.1;dsimp only;omega,by dsimp only;omega⟩),e6,d7,d8,j1⟩ (bA.drop 10)
  refine g16 ?_;have hj:=own_stop hinv9 ae4;subst hj;have hol:=bNr toks;refine g4 ?_;refine ss (lC hT (k:=(dC toks).length) rfl rfl rfl rfl rfl rfl n0) ?_;refine g7 ?_;refine bB (lW.sl (.slice A (dC toks).length c) (dC toks)) (own_fact d9) ?_;refine g7 ?_;refine dO (fun hc51=>?_) fun hc51=>?_
  ·refine g5 ?_;obtain⟨x28,hx29⟩:=gx toks ((dC toks).length);refine ss (cK hT (k:=(dC toks).length) (cF e6) rfl rfl rfl rfl rfl rfl rfl n0) ?_;refine one ?_;refine ss (j6 hT (dU.knows (cF e6) (k:=(dC toks).length) (x:=x28) hx29 1)) ?_;refine g8 ?_;refine inc ((dC toks).length+1) ?_;refine g7 ?_;refine ss (dK hT (k:=((dC toks).length+1)) rfl rfl rfl rfl rfl rfl n0) ?_;refine jY (v':= .slice (gX A ((dC toks).length+1) lW.size c) (toks.drop ((dC toks).length+1)).length (c-((dC toks).length+1))) ab9 ?_;refine g5 ?_;refine bB (lW.sl (.slice (gX A ((dC toks).length+1) lW.size c) (toks.drop ((dC toks).length+1)).length (c-((dC toks).length+1))) (toks.drop ((dC toks).length+1))) (zC e6 hinv6.2.2.1 n0) ?_;refine g9 ?_;refine fM (fun hc70=>?_) fun hc70=>?_
   ·have hon:=bJw hc70;have hsk:bBi r text.length (toks.drop ((dC toks).length+1)) ⟨ins.map InputV.inp,lns.map LineV.ln⟩ n ov:=by have:=p_skip hinv6.1 (uD n0) hon;rw [hon];exact this
    refine g4 ?_;exact dP (toks.drop ((dC toks).length+1),_,_,ins,lns,_,_,_,_,n,_,_,_) z7 ⟨rfl,rfl,rfl,j1⟩ ⟨rfl,rfl,rfl,rfl,rfl,j1⟩ (.c1 (.c1 (.c1 (.c1 (.c1 (.c1 .nil)))))) ⟨j2 (⟨hsk,fun t ht=>hinv6.2.1 t (List.mem_of_mem_drop ht),by dsimp only;rw [List.length_drop];omega,by dsimp only;rw [List.length_drop];omega,hinv6.2.2.2.2.1,hinv6.2.2.2.2.2⟩),d7,e8,e9,j1⟩ (bA.drop 7)
   refine g8 ?_;have hon:0<(dC toks).length:=n0
   refine bD func29 (zY _ A c (dC toks) _ _ I ci ins J cj lns n ov hon hinv6.2.2.2.2.1 hinv6.2.2.2.2.2 (zA (bJy hinv6.2.1))) rfl rfl (.c0 (.c0 (.c0 (.c0 .nil)))) ⟨d8,i6,e8,e9,j1⟩ fun⟨ins30,lns31,⟨I32,ci33⟩,⟨J34,cj35⟩,k36⟩=>?_;refine bC d9 fun hq=>?_;dsimp only at hq;have hE:x28.at_=bPs toks text.length:=(bEs hx29).symm;have hpl:=bOw (q:=⟨ins30.map InputV.inp,lns31.map LineV.ln⟩) (f:=(fP (dC toks) x28.at_ ⟨ins.map InputV.inp,lns.map LineV.ln⟩ n ov).2) hinv6.1 (uD n0) (uD hon) ae3;refine g6 ?_;refine ss (j9 (yF)) ?_;refine ss (gB ⟨(fP (dC toks) x28.at_ ⟨ins.map InputV.inp,lns.map LineV.ln⟩ n ov).2.1,(fP (dC toks) x28.at_ ⟨ins.map InputV.inp,lns.map LineV.ln⟩ n ov).2.2⟩ ⟨0,0⟩ rfl rfl rfl) ?_;refine g2 ?_;refine jG (fun hc77=>?_) fun hc77=>?_
   ·refine cN<|bU _ _ [(true,0),(true,1),(false,2),(false,3)] bX o5 (.c0 (.c0 (.c0 (.c0 (.c0 .nil))))) bA.self ?_;refine stM rfl (j9 (fV)) ?_;refine g15 ?_;obtain rfl:=hpl.2 hc77;exact rs2 (⟨⟨none,0,[]⟩,⟨none,0,[]⟩⟩:ProgV) ⟨Has.and (Has.and cU Has.each_nil) (Has.and cU Has.each_nil),j2 rfl,j1⟩
   refine g3 ?_;have hp2:=hpl.1 hc77;have hio:=bJi hc77;have hlen:ins30.length+lns31.length≤n+1:=by have:=hio.2;rw [←hq] at this;dsimp only at this;simp only [List.length_map] at this;omega
   refine g3 ?_;refine inc (n+1) ?_;refine g7 ?_;refine cP (z':=((lns31.length:Nat):Int)) (rfl) ?_;refine g2 ?_;refine lY (fun hg86=>?_) fun hg86=>?_
   ·refine g5 ?_;refine cP (z':=((lns31.length:Nat):Int)) (rfl) ?_;refine one ?_;refine inc (lns31.length-1) ?_;obtain⟨x37,hx38⟩:=gx lns31 (lns31.length-1) (show lns31.length-1<lns31.length from by omega);refine ss (cK hT (k:=(lns31.length-1)) (cQ kT4) rfl rfl rfl rfl rfl rfl rfl (show lns31.length-1<lns31.length from by omega)) ?_;refine one ?_;refine ss (dH hx38 0) ?_;refine g3 ?_;refine bM (t':=pH ⟨ins30.map InputV.inp,lns31.map LineV.ln⟩) (zU ‹_›) ?_;refine g3 ?_;exact dP (toks.drop ((dC toks).length+1),_,_,ins30,lns31,_,_,_,_,(n+1),_,_,_) z7 ⟨rfl,rfl,rfl,j1⟩ ⟨rfl,rfl,rfl,rfl,rfl,j1⟩ (.c2 (.c2 (.c2 (.c0 (.c1 (.c1 .nil)))))) ⟨j2 (⟨hp2,fun t ht=>hinv6.2.1 t (List.mem_of_mem_drop ht),by dsimp only;rw [List.length_drop];omega,by dsimp only;rw [List.length_drop];omega,by have:=hio.1;dsimp only;omega,by dsimp only;omega⟩),e6,d7,d8,j1⟩ (bA.drop 10)
   refine g12 ?_;refine bM (t':=pH ⟨ins30.map InputV.inp,lns31.map LineV.ln⟩) (zS n0) ?_;refine g3 ?_;exact dP (toks.drop ((dC toks).length+1),_,_,ins30,lns31,_,_,_,_,(n+1),_,_,_) z7 ⟨rfl,rfl,rfl,j1⟩ ⟨rfl,rfl,rfl,rfl,rfl,j1⟩ (.c2 (.c2 (.c2 (.c0 (.c1 (.c1 .nil)))))) ⟨j2 (⟨hp2,fun t ht=>hinv6.2.1 t (List.mem_of_mem_drop ht),by dsimp only;rw [List.length_drop];omega,by dsimp only;rw [List.length_drop];omega,by have:=hio.1;dsimp only;omega,by dsimp only;omega⟩),e6,d7,d8,j1⟩ (bA.drop 10)
  refine g6 ?_;refine ss (dK hT (k:=(dC toks).length) rfl rfl rfl rfl rfl rfl n0) ?_;refine jY (v':= .slice (gX A (dC toks).length lW.size c) (toks.drop (dC toks).length).length (c-(dC toks).length)) ab9 ?_;refine g5 ?_;refine bB (lW.sl (.slice (gX A (dC toks).length lW.size c) (toks.drop (dC toks).length).length (c-(dC toks).length)) (toks.drop (dC toks).length)) (zC e6 hinv6.2.2.1 n0) ?_;refine g9 ?_;refine fM (fun hc70=>?_) fun hc70=>?_
  ·have hon:=bJw hc70;exact absurd hc70 n0
  refine g8 ?_;have hon:0<(dC toks).length:=n0
  refine bD func29 (zY _ A c (dC toks) _ _ I ci ins J cj lns n ov hon hinv6.2.2.2.2.1 hinv6.2.2.2.2.2 (zA (bJy hinv6.2.1))) rfl rfl (.c0 (.c0 (.c0 (.c0 .nil)))) ⟨d8,i6,e8,e9,j1⟩ fun⟨ins39,lns40,⟨I41,ci42⟩,⟨J43,cj44⟩,k45⟩=>?_;refine bC d9 fun hq=>?_;dsimp only at hq;have hE:((text.length:Nat):Int)=bPs toks text.length:=(bLn n0).symm;have hpl:=bOw (q:=⟨ins39.map InputV.inp,lns40.map LineV.ln⟩) (f:=(fP (dC toks) ((text.length:Nat):Int) ⟨ins.map InputV.inp,lns.map LineV.ln⟩ n ov).2) hinv6.1 (uD n0) (uD hon) ae3;refine g6 ?_;refine ss (j9 (yF)) ?_;refine ss (gB ⟨(fP (dC toks) ((text.length:Nat):Int) ⟨ins.map InputV.inp,lns.map LineV.ln⟩ n ov).2.1,(fP (dC toks) ((text.length:Nat):Int) ⟨ins.map InputV.inp,lns.map LineV.ln⟩ n ov).2.2⟩ ⟨0,0⟩ rfl rfl rfl) ?_;refine g2 ?_;refine jG (fun hc77=>?_) fun hc77=>?_
  ·refine cN<|bU _ _ [(true,0),(true,1),(false,2),(false,3)] bX o5 (.c0 (.c0 (.c0 (.c0 (.c0 .nil))))) bA.self ?_;refine stM rfl (j9 (fV)) ?_;refine g15 ?_;obtain rfl:=hpl.2 hc77;exact rs2 (⟨⟨none,0,[]⟩,⟨none,0,[]⟩⟩:ProgV) ⟨Has.and (Has.and cU Has.each_nil) (Has.and cU Has.each_nil),j2 rfl,j1⟩
  refine g3 ?_;have hp2:=hpl.1 hc77;have hio:=bJi hc77;have hlen:ins39.length+lns40.length≤n+1:=by have:=hio.2;rw [←hq] at this;dsimp only at this;simp only [List.length_map] at this;omega
  refine g3 ?_;refine inc (n+1) ?_;refine g7 ?_;refine cP (z':=((lns40.length:Nat):Int)) (rfl) ?_;refine g2 ?_;refine lY (fun hg86=>?_) fun hg86=>?_
  ·refine g5 ?_;refine cP (z':=((lns40.length:Nat):Int)) (rfl) ?_;refine one ?_;refine inc (lns40.length-1) ?_;obtain⟨x46,hx47⟩:=gx lns40 (lns40.length-1) (show lns40.length-1<lns40.length from by omega);refine ss (cK hT (k:=(lns40.length-1)) (cQ kT4) rfl rfl rfl rfl rfl rfl rfl (show lns40.length-1<lns40.length from by omega)) ?_;refine one ?_;refine ss (dH hx47 0) ?_;refine g3 ?_;refine bM (t':=pH ⟨ins39.map InputV.inp,lns40.map LineV.ln⟩) (zU ‹_›) ?_;refine g3 ?_;exact dP (toks.drop (dC toks).length,_,_,ins39,lns40,_,_,_,_,(n+1),_,_,_) z7 ⟨rfl,rfl,rfl,j1⟩ ⟨rfl,rfl,rfl,rfl,rfl,j1⟩ (.c2 (.c2 (.c2 (.c0 (.c1 (.c1 .nil)))))) ⟨j2 (⟨by dsimp only;rw [bJn (toks:=toks) rfl n0];exact hp2,fun t ht=>hinv6.2.1 t (List.mem_of_mem_drop ht),by dsimp only;rw [List.length_drop];omega,by dsimp only;rw [List.length_drop];omega,by have:=hio.1;dsimp only;omega,by dsimp only;omega⟩),e6,d7,d8,j1⟩ (bA.drop 10)
  refine g12 ?_;refine bM (t':=pH ⟨ins39.map InputV.inp,lns40.map LineV.ln⟩) (zS n0) ?_;refine g3 ?_;exact dP (toks.drop (dC toks).length,_,_,ins39,lns40,_,_,_,_,(n+1),_,_,_) z7 ⟨rfl,rfl,rfl,j1⟩ ⟨rfl,rfl,rfl,rfl,rfl,j1⟩ (.c2 (.c2 (.c2 (.c0 (.c1 (.c1 .nil)))))) ⟨j2 (⟨by dsimp only;rw [bJn (toks:=toks) rfl n0];exact hp2,fun t ht=>hinv6.2.1 t (List.mem_of_mem_drop ht),by dsimp only;rw [List.length_drop];omega,by dsimp only;rw [List.length_drop];omega,by have:=hio.1;dsimp only;omega,by dsimp only;omega⟩),e6,d7,d8,j1⟩ (bA.drop 10)
 refine g12 ?_;refine jG (fun hc99=>?_) fun hc99=>?_
 ·refine g2 ?_;refine ss (j9 (fV)) ?_;refine g2 ?_;refine cP (z':=((text.length:Nat):Int)) rfl ?_;refine ss (j9 (wJ _ _)) ?_;refine g6 ?_;have hr:=by have:=p_end hinv6.1 (List.eq_nil_of_length_eq_zero n0);rw [if_neg ad1] at this;exact this
  subst hr;exact rs2 (⟨⟨none,0,[]⟩,⟨none,0,[]⟩⟩:ProgV) ⟨Has.and (Has.and cU Has.each_nil) (Has.and cU Has.each_nil),j2 rfl,j1⟩
 refine g5 ?_;refine ss (j9 (yF)) ?_;refine g5 ?_;have hr:=p_end hinv6.1 (List.eq_nil_of_length_eq_zero n0);rw [if_pos ‹_›] at hr;subst hr;refine bE kT3<|bE kT3 ?_;exact rs2 (⟨⟨_,_,ins⟩,⟨_,_,lns⟩⟩:ProgV) ⟨Has.and (Has.and d8 e7) (Has.and d7 e8),j2 rfl,j1⟩
end
section
open Go.RowKit Go.ChangeShapes Go.WideShapes Go.Proofs.Tryz
structure PieceV where
 words:(Sl Bs)
 nest:Nat
 tokens:Nat
 plain:Bool
 deriving Inhabited
def bGb:Flat PieceV where
 size:=4
 cells:=fun x=>[.slice x.words.addr x.words.list.length x.words.cap,.int .i64 (x.nest:Nat),.int .i64 (x.tokens:Nat),.bool x.plain]
 len:=fun _=>rfl
 one:=fun x u hu=>by
  simp at hu
  rcases hu with rfl | rfl | rfl | rfl<;>rfl
 pos:=o8
def show2T:Tab:=[(3,⟨.int .i64,1⟩),(2,⟨.int .i64,1⟩),(5,⟨.int .u8,1⟩),(9,⟨.string,1⟩),(4,⟨.bool,1⟩),(62,⟨.int .u8,1⟩),(32,⟨.int .i64,1⟩),(85,⟨.slice 2,1⟩),(69,⟨.slice 9,1⟩),(112,⟨.struct [(3,0),(3,1),(9,2),(2,3)],4⟩),(105,⟨.slice 112,1⟩),(34,⟨.struct [(3,0),(32,1)],2⟩),(76,⟨.struct [(9,0),(2,1)],2⟩),(48,⟨.slice 76,1⟩),(50,⟨.struct [(9,0),(3,1),(48,2)],3⟩),(22,⟨.slice 50,1⟩),(87,⟨.struct [(3,0),(3,1),(62,2),(9,3),(85,4)],5⟩),(52,⟨.slice 87,1⟩),(54,⟨.struct [(9,0),(3,1),(52,2)],3⟩),(23,⟨.slice 54,1⟩),(25,⟨.struct [(22,0),(23,1)],2⟩),(110,⟨.struct [(105,0),(3,1),(3,2)],3⟩),(221,⟨.struct [(69,0),(3,1),(3,2),(4,3)],4⟩),(219,⟨.slice 221,1⟩),(108,⟨.other,1⟩),(196,⟨.slice 1,1⟩),(1,⟨.other,1⟩),(149,⟨.other,1⟩),(150,⟨.slice 5,1⟩),(147,⟨.map 62 9,1⟩),(247,⟨.map 3 9,1⟩),(152,⟨.struct [(149,0),(150,1)],2⟩),(154,⟨.struct [(147,0),(147,1),(152,2)],4⟩)]
theorem iV:fZ prog show2T:=wK.ok
 ⟨⟨by rw [underlying3];rfl,n7⟩,
  ⟨by rw [underlying2];rfl,n7⟩,
  ⟨by rw [underlying5];rfl,n7⟩,
  ⟨by rw [underlying9];rfl,n7⟩,
  ⟨by rw [underlying4];rfl,n7⟩,
  ⟨by rw [underlying62];rfl,n7⟩,
  ⟨by rw [underlying32];rfl,n7⟩,
  ⟨by rw [underlying85];rfl,n7⟩,
  ⟨by rw [underlying69];rfl,n7⟩,
  ⟨by rw [underlying112];rfl,n7⟩,
  ⟨by rw [underlying105];rfl,n7⟩,
  ⟨by rw [underlying34];rfl,n7⟩,
  ⟨by rw [underlying76];rfl,n7⟩,
  ⟨by rw [underlying48];rfl,n7⟩,
  ⟨by rw [underlying50];rfl,n7⟩,
  ⟨by rw [underlying22];rfl,n7⟩,
  ⟨by rw [underlying87];rfl,n7⟩,
  ⟨by rw [underlying52];rfl,n7⟩,
  ⟨by rw [underlying54];rfl,n7⟩,
  ⟨by rw [underlying23];rfl,n7⟩,
  ⟨by rw [underlying25];rfl,n7⟩,
  ⟨by rw [underlying110];rfl,n7⟩,
  ⟨by rw [underlying221];rfl,n7⟩,
  ⟨by rw [underlying219];rfl,n7⟩,
  ⟨by rw [underlying108];rfl,n7⟩,
  ⟨by rw [underlying196];rfl,n7⟩,
  ⟨by rw [underlying1];rfl,n7⟩,
  ⟨by rw [underlying149];rfl,n7⟩,
  ⟨by rw [underlying150];rfl,n7⟩,
  ⟨by rw [underlying147];rfl,n7⟩,
  ⟨by rw [underlying247];rfl,n7⟩,
  ⟨by rw [underlying152];rfl,n7⟩,
  ⟨by rw [underlying154];rfl,n7⟩,j1⟩
theorem bSy: ∃i:TypeInfo,prog.info? 221=some i∧i.zero=some (.agg #[.slice none 0 0,.int .i64 0,.int .i64 0,.bool false])∧i.size=4∧i.bytes=48:=by
 have h:(prog.info? 221).map (fun i=>(i.zero,i.size,i.bytes))=some (some (.agg #[.slice none 0 0,.int .i64 0,.int .i64 0,.bool false]),4,48):=n7
 cases hi:prog.info? 221 with
 | none=>simp [hi] at h
 | some i=>simp [hi] at h;exact⟨i,rfl,h.1,h.2.1,h.2.2⟩
theorem gP{β:dG}{n:Nat}{Γ:Env}{H:List bI}{F:List Fact}{Q:Exit→Act→World→Prop}{ops:Array Oper}{rest:List Oper}{o:Oper}{d:Nat}{x:Operand}{m:PieceV}(hw:want ops Γ o=some true)(ho:o.op= .buildSlice 219 1 #[(0,x)])(hd:o.dst=some d)(hn:Nat.blt d n=true)
  (hx:Γ.ev x=some (.agg #[.slice m.words.addr m.words.list.length m.words.cap,.int .i64 (m.nest:Nat),.int .i64 (m.tokens:Nat),.bool m.plain])) (k: ∀b,At β n ((d,.slice (some ⟨b,0,none⟩) 1 1)::Γ) (.obj b (.cells (bGb.all [m]).toArray 221)::H) F (wpList prog ops Q rest)):At β n Γ H F (wpList prog ops Q (o::rest)):=by
 obtain⟨i,hi,hz,hs,_⟩:=bSy;refine gF hw ho hd hn hx underlying219 hi hz n0 n0 ?_ k;rw [hs]
 kernel_rfl
theorem gR{β:dG}{n:Nat}{Γ:Env}{H:List bI}{F:List Fact}{Q:Exit→Act→World→Prop}{ops:Array Oper}{rest:List Oper}{o:Oper}{d:Nat}{x y:Operand}{c q:Nat}{v:Value}{A:Option Addr}{xs ys:List PieceV}{H':List bI}(hH:cB H (bGb.row v 221 xs) H')(hr:dU β H F bGb A ys)(hg:o.guard=none)
  (ho:o.op= .call {callee:= .builtin .append,args:= #[x,y],argTypes:= #[219,219]}) (hd:o.dst=some d) (hn:Nat.blt d n=true)
  (hx:Γ.ev x=some v) (hy:Γ.ev y=some (.slice A q c)) (hq:q=ys.length) (hl:xs.length+ys.length≤2932031007402)
  (k: ∀A' cap',At β n ((d,.slice A' (xs++ys).length cap')::Γ) (bGb.row (.slice A' (xs++ys).length cap') 221 (xs++ys)::H') F (wpList prog ops Q rest)):At β n Γ H F (wpList prog ops Q (o::rest)):=by
 obtain⟨i,hi,hz,hs,hb⟩:=bSy;exact dJ hH hr hg ho hd hn underlying219 hi hz hs hb rfl hx hy hq n0 o8 k
end
section
open Go.RowKit Go.Proofs.Tryz
theorem Sel.skip{H R:List bI}{c:bI}(h:Sel H R):Sel (c::H) R:=by
 induction h generalizing c with
 | nil=>exact .nil
 | cons h _ ih=>exact .cons (.tail h) ih
def PieceV.pc(x:PieceV):dY:=⟨x.words.list,x.nest,x.tokens,x.plain⟩
def bPj (u:Bool)(b:Nat):Value:=if u then .pointer (some ⟨b,2,none⟩) else .pointer none
section
variable {P : Program} {β : dG} {n : Nat} {Γ : Env} {H : List bI} {F : List Fact} {Q : Exit → Act → World → Prop} {K : Act → World → Prop} {ops : Array Oper} {rest : List Oper} {o : Oper} {d : Nat} {α : Type} {E : Flat α}
theorem sti_noescape{x:Operand}{ts:Array TypeId}{v:Value}(ho:o.op= .call ⟨.value (.func 164),#[x],ts⟩)(hx:Γ.ev x=some v):Sti prog β n Γ H F o v:=fun a w S f s _=>by
 have hr:(callFunc 164 #[v]).run prog w= .ok (.value v) w:=by
  rw [run_callFunc_extern func164 n7 n7 n7 (e:=Extern.AbiNoEscape.same) n7];rw [Lib.run_noEscape];rfl
 unfold execOp;simp only [ho,resolve,Act.eval,Deferred.ofValue,Sem.run_bind,Sem.run_pure,Result.andThen_ok,invoke];simp [f.ev hx,hr]
theorem u8Info: ∃i:TypeInfo,prog.info? 5=some i∧i.zero=some (.int .u8 0)∧i.size=1∧i.bytes=1:=by
 have h:(prog.info? 5).map (fun i=>(i.zero,i.size,i.bytes))=some (some (.int .u8 0),1,1):=n7
 cases hi:prog.info? 5 with
 | none=>simp [hi] at h
 | some i=>simp [hi] at h;exact⟨i,rfl,h.1,h.2.1,h.2.2⟩
theorem bHy{x y:Operand}{v:Value}{xs ys:Bs}{H':List bI}(hH:cB H (oU.row v 5 xs) H')(hw:want ops Γ o=some true)
  (ho:o.op= .call {callee:= .builtin .append,args:= #[x,y],argTypes:= #[150,9]}) (hd:o.dst=some d) (hn:Nat.blt d n=true) (hx:Γ.ev x=some v) (hy:Γ.ev y=some (.string (bs ys))) (hl:xs.length+ys.length≤140737488355328)
  (k: ∀A' cap',At β n ((d,.slice A' (xs++ys).length cap')::Γ) (oU.row (.slice A' (xs++ys).length cap') 5 (xs++ys)::H') F (wpList prog ops Q rest)):At β n Γ H F (wpList prog ops Q (o::rest)):=by
 obtain⟨i,hi,hz,hs,hb⟩:=u8Info;exact bKb hH hw ho hd hn underlying150 underlying9 hi hz hs hb hx hy hl k
theorem bQ{b:Nat}{t:TypeId}{xs:List α}{H':List bI}(hH:cB H (.obj b (.cells (E.all xs).toArray t)) H')(hm:xs.length≤maxLen)(h:At β n Γ (E.row (.slice (some ⟨b,0,none⟩) xs.length xs.length) t xs::H') F K):At β n Γ H F K:=fun a w S f s k=>by
 have s2:=s.perm hH.perm;have hok:w.heap[b]?=some (.cells (E.all xs).toArray t):=s2.ok _ (List.mem_cons_self ..);refine h a w S f ⟨s2.kept,fun c hc=>?_,fun c hc b' hb=>?_,?_,s2.zone⟩ k
 ·rcases List.mem_cons.1 hc with rfl | hc
  ·refine⟨by rw [E.all_length],.inr ⟨b,_,_,rfl,Nat.zero_le _,hok,Nat.le_refl _,hm,by simp [E.all_length],?_⟩⟩;rw [List.take_of_length_le (by simp [E.all_length])]
  ·exact s2.ok c (List.mem_cons_of_mem _ hc)
 ·rcases List.mem_cons.1 hc with rfl | hc
  ·exact s2.own (.obj b (.cells (E.all xs).toArray t)) (List.mem_cons_self ..) b' hb
  ·exact s2.own c (List.mem_cons_of_mem _ hc) b' hb
 ·have hp:=List.pairwise_cons.1 s2.sep;exact List.pairwise_cons.2 ⟨fun d hd b hb=>hp.1 d hd b hb,hp.2⟩
end
theorem bInfo: ∃j:TypeInfo,prog.info? 152=some j∧j.size≠0:=by
 have h:(prog.info? 152).map (·.size)=some 2:=n7
 cases hi:prog.info? 152 with
 | none=>simp [hi] at h
 | some i=>simp [hi] at h;exact⟨i,rfl,n0⟩
theorem bLies:liesAt prog prog.depth 154 (4/prog.cellsOf 154) 2 152 1=true:=n7
theorem bPtr:prog.underlying 149=some (.pointer 152):=n7
theorem uPtr:prog.underlying 273=some .unsafePointer:=n7
theorem u8Ptr:prog.underlying 191=some (.pointer 5):=n7
def putM (t:Bool):List Bs→KV→KV
 | [],kv=>kv
 | s::r,kv=>putM t r (if fR s t !=0 then bBv (fR s t) (.string (bs s)) kv else kv)
def rL (t:Bool):KV:=putM t cZ []
theorem bEn(k k':Int)(v:Value): ∀kv:KV,bCk k (bBv k' v kv)=if k==k' then some v else bCk k kv
 | []=>by simp [bBv,bCk]
 | p::r=>by
  unfold bBv;split
  ·rename_i h;have e:k'=p.1:=by simpa using h
   simp only [bCk];rw [e];split<;>rfl
  ·rename_i h;simp only [bCk];rw [bEn k k' v r]
   by_cases e:k=p.1
   ·subst e
    have:(p.1==k')=false:=by
     rw [beq_eq_false_iff_ne];intro e;exact h ah5
    simp [this]
   ·simp [e]
theorem put_last(t:Bool)(f:Int): ∀(l:List Bs) (kv:KV) (acc:Bs),(bCk f kv).getD (.string (bs []))= .string (bs acc)→(bCk f (putM t l kv)).getD (.string (bs []))= .string (bs (bFk t f l acc))
 | [],_,_,h=>h
 | s::r,kv,acc,h=>by
  rw [putM,bFk];refine put_last t f r _ _ ?_
  by_cases hv:(fR s t !=0)=true
  ·rw [if_pos hv,bEn]
   by_cases hf:fR s t=f
   ·have:(fR s t !=0&&fR s t==f)=true:=by simp [hf] at hv⊢;exact hv
    rw [if_pos (by simp [hf]),if_pos this];rfl
   ·have:(fR s t !=0&&fR s t==f)=false:=by simp [hf]
    rw [if_neg (by simp;exact fun e=>hf e.symm),this];exact h
  ·have:(fR s t !=0&&fR s t==f)=false:=by simp [hv]
   rw [if_neg hv,this];exact h
theorem bSt(t:Bool)(f:Int):(bCk f (rL t)).getD (.string (bs []))= .string (bs (iU t f)):=put_last t f cZ [] [] rfl
theorem zeroStr(w:World):(zeroValue 9).run prog w= .ok (.string (bs [])) w:=n7
theorem mapFn:prog.underlying 147=some (.map 62 9):=n7
theorem mapInt:prog.underlying 247=some (.map 3 9):=n7
theorem marks_get(k:Int):(bCk k (bBv 7 (.string (bs [46])) (bBv 6 (.string (bs [92])) (bBv 5 (.string (bs [47])) [])))).getD (.string (bs []))= .string (bs (markS k)):=by
 rw [bEn,bEn,bEn];unfold markS
 by_cases h5:k=5
 ·subst h5;rfl
 ·by_cases h6:k=6
  ·subst h6;rfl
  ·by_cases h7:k=7
   ·subst h7;rfl
   ·simp [h5,h6,h7,bCk]
theorem fields_words:Lib.fields [43,32,45,32,42,32,37,32,124,32,109,105,110,32,109,97,120,32,61,32,126,32,60,32,60,61,32,62,61,32,62,32,97,110,100,32,111,114,32,112,111,119,32,114,104,111,32,116,97,107,101,32,100,114,111,112,32,99,97,116,32,105,111,116,97,32,115,104,97,112,101,32,114,97,118,101,108,32,114,101,118,32,116,117,114,110]=cZ:=by decide+kernel
theorem fields_spec(s:Bs)(hs:s.length<4294967281)(ha: ∀b∈s,b.toNat<128):cO prog 91 [.string (bs s)] [] [iB] (fun x:Nat=> .slice (some ⟨x,0,none⟩) (Lib.fields s).length (Lib.fields s).length) (fun _=>[]) (fun x=>[mN.sl (.slice (some ⟨x,0,none⟩) (Lib.fields s).length (Lib.fields s).length) (Lib.fields s)]):=fun S w s0 k=>by
 obtain⟨_,h0,_⟩:=k _ (.head _);refine(Tryz.strings_Fields (bs s) w (by rw [lA];exact hs) (fun j b hb=>ha b (j3 hb)) h0).mono ?_;rintro e w' ⟨rfl,rfl⟩;have hb:Below w.heap.size w (w.alloc (.cells ((Lib.fields (bs s).data.toList).map fun l=>Value.string ⟨l.toArray⟩).toArray 9)):=(Below.refl _ _).alloc (Nat.le_refl _) _;refine⟨w.heap.size,fun b=>S b∨b=w.heap.size,rfl,⟨nX.of_below _ hb,fun c hc=>by simp at hc,fun c hc=>by simp at hc,List.Pairwise.nil,fun b hb'=>?_⟩,All.cons ?_ (fun g hg=>by simp at hg)⟩
 ·rcases hb' with h | h
  ·exact⟨Nat.lt_of_lt_of_le (s0.zone b h).1 hb.size,.inl h⟩
  ·subst h;exact⟨o3,.inr (.inr (Nat.le_refl _))⟩
 ·refine⟨_,_,rfl,fun i x hi=>⟨w.heap.size,0,_,rfl,.inr rfl,fun j u hj=>?_,rfl⟩⟩;have hcell:(w.alloc (.cells ((Lib.fields (bs s).data.toList).map fun l=>Value.string ⟨l.toArray⟩).toArray 9)).heap[w.heap.size]?=some (.cells ((Lib.fields (bs s).data.toList).map fun l=>Value.string ⟨l.toArray⟩).toArray 9):=heap_alloc_new _ _;show World.cell? _ ⟨w.heap.size,0+i*1+j,none⟩=_;have hj':[Value.string (bs x)][j]?=some u:=hj
  have h0:j=0:=by
   cases j with
   | zero=>rfl
   | succ j=>simp at hj'
  subst h0;unfold World.cell?;rw [hcell];have hx:(Lib.fields (bs s).data.toList)[i]?=some x:=hi;simp at hj';subst hj';simp [bs];exact hx
theorem fields_verbs:cO prog 91 [.string (bs [43,32,45,32,42,32,37,32,124,32,109,105,110,32,109,97,120,32,61,32,126,32,60,32,60,61,32,62,61,32,62,32,97,110,100,32,111,114,32,112,111,119,32,114,104,111,32,116,97,107,101,32,100,114,111,112,32,99,97,116,32,105,111,116,97,32,115,104,97,112,101,32,114,97,118,101,108,32,114,101,118,32,116,117,114,110])] [] [iB] (fun x:Nat=> .slice (some ⟨x,0,none⟩) cZ.length cZ.length) (fun _=>[]) (fun x=>[mN.sl (.slice (some ⟨x,0,none⟩) cZ.length cZ.length) cZ]):=by
 have:=fields_spec (s:=[43,32,45,32,42,32,37,32,124,32,109,105,110,32,109,97,120,32,61,32,126,32,60,32,60,61,32,62,61,32,62,32,97,110,100,32,111,114,32,112,111,119,32,114,104,111,32,116,97,107,101,32,100,114,111,112,32,99,97,116,32,105,111,116,97,32,115,104,97,112,101,32,114,97,118,101,108,32,114,101,118,32,116,117,114,110]) o8 o8;rw [fields_words] at this;exact this
theorem iP{α:Type}{l:List α}{i:Nat}{x:α}(h:l[i]?=some x):l.drop i=x::l.drop (i+1):=by
 obtain⟨hl,rfl⟩:=List.getElem?_eq_some_iff.1 h;exact List.drop_eq_getElem_cons hl
theorem bGs(t:Bool)(f:Int):(iU t f).length≤5:=by
 by_cases h:iU t f=[]
 ·rw [h];decide
 ·have:=(bGv h).1;have key: ∀s∈cZ,s.length≤5:=o8
  exact key _ this
theorem bSb(k:Int):(markS k).length≤1:=by
 unfold markS
 repeat' split
 all_goals simp
section
variable {it : ItemV}
theorem bKv(h:it.how=3):verbS it.it=(iU false it.fn,1):=by
 unfold verbS;rw [if_pos (show it.it.how=3 from h)];rfl
theorem bKz(h:it.how≠3)(h2:iU true it.fn=[]∨it.how=4):verbS it.it=(iU true it.fn,1):=by
 unfold verbS;rw [if_neg (show ¬it.it.how=3 from h),if_pos (show iU true it.it.fn=[]∨it.it.how=4 from h2)];rfl
theorem bLu(h:it.how≠3)(h1:iU true it.fn≠[])(h2:it.how≠4)(h3:17<it.fn):verbS it.it=([],0):=by
 unfold verbS;rw [if_neg (show ¬it.it.how=3 from h),if_neg (show ¬(iU true it.it.fn=[]∨it.it.how=4) from fun h=>h.elim h1 h2),if_pos (show 17<it.it.fn from h3)]
theorem bKd(h:it.how≠3)(h1:iU true it.fn≠[])(h2:it.how≠4)(h3:it.fn≤17):verbS it.it=(iU true it.fn++markS it.how,2):=by
 unfold verbS;rw [if_neg (show ¬it.it.how=3 from h),if_neg (show ¬(iU true it.it.fn=[]∨it.it.how=4) from fun h=>h.elim h1 h2),if_neg (show ¬17<it.it.fn from by show ¬17<it.fn;omega)];rfl
end
theorem tL{it:ItemV}(h:it.how=2):operandS it.it=if it.fn=0∧it.nums.list=[]∧cT it.name=true then some ⟨[it.name],0,1,true⟩ else none:=by
 unfold operandS;rw [if_pos (show it.it.how=2 from h)];rfl
theorem tW{it:ItemV}(h:it.how≠2)(hb:it.fn≠0∨it.name≠[]∨it.nums.list=[]∨256<it.nums.list.length):operandS it.it=none:=by
 unfold operandS;rw [if_neg (show ¬it.it.how=2 from h),if_pos (show it.it.fn≠0∨it.it.name≠[]∨it.it.nums=[]∨256<it.it.nums.length from hb)]
theorem operand_nums{it:ItemV}(h:it.how≠2)(h0:it.fn=0)(h1:it.name=[])(h2:((it.nums.list.length:Nat):Int)≠0)(h3:((it.nums.list.length:Nat):Int)≤256):operandS it.it=some ⟨it.nums.list.map dT,0,it.nums.list.length,true⟩:=by
 unfold operandS;rw [if_neg (show ¬it.it.how=2 from h),if_neg (show ¬(it.it.fn≠0∨it.it.name≠[]∨it.it.nums=[]∨256<it.it.nums.length) from ?_)]
 ·rfl
 ·rintro(h | h | h | h)
  ·exact h h0
  ·exact h h1
  ·have:it.nums.list=[]:=h;rw [this] at h2;exact h2 rfl
  ·have:256<it.nums.list.length:=h;omega
theorem bPh{α β:Type}{f:α→β}{l:List α}{i:Nat}{x:α}(h:l[i]?=some x):(l.take i).map f++[f x]=(l.take (i+1)).map f:=by
 rw [List.take_add_one,h];simp
section
variable {it : ItemV}
theorem sJ(h:it.how=2)(h0:it.fn=0)(h1:((it.nums.list.length:Nat):Int)=0):cT it.name=(operandS it.it).isSome:=by
 have:it.nums.list=[]:=List.eq_nil_of_length_eq_zero n0;rw [tL h,h0,this];cases cT it.name<;>simp
theorem qG(h:it.how=2)(h0:it.fn≠0):false=(operandS it.it).isSome:=by
 rw [tL h,if_neg (fun hh=>h0 hh.1)];rfl
theorem qF(h:it.how=2)(h1:((it.nums.list.length:Nat):Int)≠0):false=(operandS it.it).isSome:=by
 rw [tL h,if_neg (fun hh=>h1 (by rw [hh.2.1];rfl))];rfl
end
theorem nH{it:ItemV}{p:dY}(h:it.how=2)(hp:operandS it.it=some p):(⟨[it.name],0,1,true⟩:dY)=p:=by
 rw [tL h] at hp;split at hp
 ·exact Option.some.inj hp
 ·cases hp
theorem mX:(prog.info? 221).bind (·.zero)=some (.agg #[.slice none 0 0,.int .i64 0,.int .i64 0,.bool false]):=n7
theorem dI(a0:Option Addr)(l0 c0:Nat)(z1:Int)(z2:Int)(b3:Bool):prog.built 221 [(0,.slice a0 l0 c0),(1,.int .i64 z1),(2,.int .i64 z2),(3,.bool b3)]=some #[.slice a0 l0 c0,.int .i64 z1,.int .i64 z2,.bool b3]:=n7
theorem gQ:prog.built 221 []=some #[.slice none 0 0,.int .i64 0,.int .i64 0,.bool false]:=n7
theorem pZ(z2:Int)(b3:Bool):prog.built 221 [(2,.int .i64 z2),(3,.bool b3)]=some #[.slice none 0 0,.int .i64 0,.int .i64 z2,.bool b3]:=n7
theorem bJb(b r1 r2:Nat)(G:Option Addr)(m c:Nat):cO prog 145 [.pointer (some ⟨b,2,none⟩)] [.obj b (.cells [.map (some r1),.map (some r2),.pointer none,.slice G m c].toArray 154)] [] (fun(_:Unit)=> .tuple #[]) (fun(_:Unit)=>[.obj b (.cells [.map (some r1),.map (some r2),.pointer (some ⟨b,2,none⟩),.slice G m c].toArray 154)]) (fun _=>[]):=by
 have hT:=iV;refine k6 func145 ntmps145 ?_;intro β hM;refine g6 ?_;refine ss (bIc bPtr rfl rfl) ?_;refine g6 ?_;obtain⟨j,hj,hj0⟩:=bInfo;refine ss (sti_toUnsafe .head bPtr uPtr hj hj0 rfl rfl (by show 2<4;decide)) ?_;refine ss (sti_noescape rfl rfl) ?_;refine ss (bOd .head uPtr bPtr hj rfl rfl bLies) ?_;refine g4 ?_;exact jV () rfl (.c0 .nil) j1 (rfl)
theorem bJf(b r1 r2:Nat)(G:Option Addr)(m c:Nat):cO prog 145 [.pointer (some ⟨b,2,none⟩)] [.obj b (.cells [.map (some r1),.map (some r2),.pointer (some ⟨b,2,none⟩),.slice G m c].toArray 154)] [] (fun(_:Unit)=> .tuple #[]) (fun(_:Unit)=>[.obj b (.cells [.map (some r1),.map (some r2),.pointer (some ⟨b,2,none⟩),.slice G m c].toArray 154)]) (fun _=>[]):=by
 have hT:=iV;refine k6 func145 ntmps145 ?_;intro β hM;refine g6 ?_;refine ss (bIc bPtr rfl rfl) ?_;refine g10 ?_;obtain⟨j,hj,_⟩:=bInfo;refine ss (sti_ptr_same bPtr hj rfl rfl rfl) ?_;refine g4 ?_;exact jV () rfl (.c0 .nil) j1 (rfl)
theorem bFr(b r1 r2:Nat)(u:Bool)(G:Option Addr)(c:Nat)(out s:Bs)(hl:out.length+s.length≤140737488355328):cO prog 127 [.pointer (some ⟨b,2,none⟩),.string (bs s)] [.obj b (.cells [.map (some r1),.map (some r2),bPj u b,.slice G out.length c].toArray 154),oU.row (.slice G out.length c) 5 out] [] (fun(_:Option Addr×Nat)=> .tuple #[.int .i64 (s.length:Nat),.nilIface]) (fun(x:Option Addr×Nat)=>[.obj b (.cells [.map (some r1),.map (some r2),.pointer (some ⟨b,2,none⟩),.slice x.1 (out++s).length x.2].toArray 154),oU.row (.slice x.1 (out++s).length x.2) 5 (out++s)]) (fun _=>[]):=by
 have hT:=iV;refine k6 func127 ntmps127 ?_;intro β hM;refine g7 ?_;cases u
 ·skip
  refine g2 ?_;refine bD func145 (bJb b r1 r2 G _ c) rfl rfl (.c0 .nil) j1 fun _=>?_;refine g10 ?_;refine bHy kT1 rfl rfl rfl rfl rfl rfl n0 fun A1 c2=>?_;refine g9 ?_;refine cP (z':=((s.length:Nat):Int)) rfl ?_;refine g5 ?_;exact rs2 (A1,c2) trivial
 skip
 refine g2 ?_;refine bD func145 (bJf b r1 r2 G _ c) rfl rfl (.c0 .nil) j1 fun _=>?_;refine g10 ?_;refine bHy kT1 rfl rfl rfl rfl rfl rfl n0 fun A3 c4=>?_;refine g9 ?_;refine cP (z':=((s.length:Nat):Int)) rfl ?_;refine g5 ?_;exact rs2 (A3,c4) trivial
theorem bCh(b r1 r2:Nat)(u:Bool)(G:Option Addr)(c:Nat)(out hd tx:Bs)(hl:out.length+hd.length+tx.length+1≤140737488355328):cO prog 94 [.pointer (some ⟨b,0,none⟩),.string (bs hd),.string (bs tx)] [.obj b (.cells [.map (some r1),.map (some r2),bPj u b,.slice G out.length c].toArray 154),oU.row (.slice G out.length c) 5 out] [] (fun(_:Option Addr×Nat)=> .tuple #[]) (fun(x:Option Addr×Nat)=>[.obj b (.cells [.map (some r1),.map (some r2),bPj true b,.slice x.1 (out++((hd++tx)++[10])).length x.2].toArray 154),oU.row (.slice x.1 (out++((hd++tx)++[10])).length x.2) 5 (out++((hd++tx)++[10]))]) (fun _=>[]):=by
 have hT:=iV;refine k6 func94 ntmps94 ?_;intro β hM;refine g6 ?_;refine ss (iO rfl rfl rfl q7) ?_;refine ss (iO rfl rfl rfl q7) ?_;refine bD func127 (bFr b r1 r2 u G c out ((hd++tx)++([10]:Bs)) q9) rfl rfl (.c0 (.c0 .nil)) j1 fun⟨A1,c2⟩=>?_;refine at_nil ?_;exact jV (A1,c2) rfl (.c0 (.c0 .nil)) j1 (rfl)
theorem bMu(t:Bool):cO prog 54 [.bool t] [] [iB] (fun(x:Nat)=> .map (some x)) (fun _=>[]) (fun(x:Nat)=>[mapF x .u8 (rL t)]):=by
 have hT:=iV;have hvl:cZ.length=25:=rfl;refine k6 func54 ntmps54 ?_;intro β hM;refine g7 ?_;refine bOz .u8 rfl rfl rfl rfl fun r1=>?_;refine g6 ?_;refine j4 func91 fields_verbs ⟨d7,j1⟩ fun x2=>?_;refine g5 ?_;refine cD (ι:=Nat×KV) [(0,_),(3,_),(9,_),(10,_)] ⟨rfl,rfl,rfl,rfl,j1⟩ (fun⟨i,kv⟩=>[(11,.int .i64 (i:Nat))]) (fun⟨i,kv⟩=>[mapC r1 .u8 kv]) (fun⟨i,kv⟩=>[Fact.pure (i≤25∧putM t (cZ.drop i) kv=rL t)]) (fun⟨i,kv⟩=>25-i) (0,[]) ⟨rfl,j1⟩ (.c0 .nil) ⟨j2 (⟨n0,rfl⟩),j1⟩ ?_;rintro⟨i,kv⟩;dsimp only;refine bC d7 fun hinv3=>?_;refine g6 ?_;refine dO (fun hc12=>?_) fun hc12=>?_
 ·refine g6 ?_;obtain⟨x3,hx4⟩:=gx cZ i (by have:cZ.length=25:=rfl;omega);refine ss (cK hT (k:=i) (cF d8) rfl rfl rfl rfl rfl rfl rfl (by have:cZ.length=25:=rfl;omega)) ?_;refine ss (dH hx4 0) ?_;refine g7 ?_;refine j4 func92 (bFg x3 t) j1 fun _=>?_;refine g12 ?_;refine jE (fun hc21=>?_) fun hc21=>?_
  ·refine g4 ?_;refine sE .head rfl (.inl rfl) rfl mapFn underlying62 rfl rfl rfl ?_;refine g5 ?_;refine inc (i+1) ?_;refine g3 ?_;exact bk2 (i+1,_) ⟨j2 (⟨by dsimp only;omega,by have h:=hinv3.2;rw [iP hx4,putM,if_pos ‹_›] at h;exact h⟩),j1⟩
  refine g5 ?_;refine inc (i+1) ?_;refine g3 ?_;exact bk2 (i+1,_) ⟨j2 (⟨by dsimp only;omega,by have h:=hinv3.2;rw [iP hx4,putM,if_neg ad1] at h;exact h⟩),j1⟩
 refine g12 ?_;have hm:kv=rL t:=by have h:=hinv3.2;rw [show i=25 by omega] at h;exact h
 subst hm;refine bPi .head ?_;exact rs1 r1 ⟨d7,j1⟩
theorem bBj(b r1 r2:Nat)(p:Value)(G:Option Addr)(m c:Nat)(it:ItemV):cO prog 129 [.pointer (some ⟨b,0,none⟩),.agg #[.int .i64 it.how,.int .i64 it.at_,.int .u8 it.fn,.string (bs it.name),.slice it.nums.addr it.nums.list.length it.nums.cap]] [.obj b (.cells [.map (some r1),.map (some r2),p,.slice G m c].toArray 154)] [mapF r1 .u8 (rL false),mapF r2 .u8 (rL true)] (fun(_:Unit)=> .tuple #[.string (bs (verbS it.it).1),.int .i64 ((verbS it.it).2:Nat)]) (fun(_:Unit)=>[.obj b (.cells [.map (some r1),.map (some r2),p,.slice G m c].toArray 154)]) (fun _=>[]):=by
 have hT:=iV;refine k6 func129 ntmps129 ?_;intro β hM;refine g2 ?_;refine j8 fun b1=>?_;refine g12 ?_;refine fM (fun hc9=>?_) fun hc9=>?_
 ·refine cN<|bU _ _ [(true,0),(true,1),(true,2),(true,3),(true,4),(true,5),(true,6),(true,7),(true,8)] bX o5 (.c0 (.c0 .nil)) bA.self ?_;refine g6 ?_;refine stM rfl (bCg (bNq d7) rfl mapFn underlying62 zeroStr rfl rfl (bSt _ _)) ?_;refine g6 ?_;exact rs2 () j1 (he:=by first | (rw [bKv ‹_›];first | done | rfl) | (rw [bKz ‹_› o6];first | done | rfl) | (rw [bLu ‹_› ‹_› ‹_› ‹_›];first | done | rfl) | (rw [bKd ‹_› ‹_› ‹_› ‹_›];first | done | rfl))
 refine g3 ?_;refine bU _ _ [(true,0),(true,1),(true,2),(true,3),(true,4),(true,5),(true,6),(true,7)] bX o5 (.c0 (.c0 .nil)) bA.self ?_;refine g6 ?_;refine stM rfl (bCg (bNq d8) rfl mapFn underlying62 zeroStr rfl rfl (bSt _ _)) ?_;refine g9 ?_;refine dS (fun hg26=>?_) (fun hg26=>?_)
 ·have hg26:(iU true it.fn)=([]:Bs):=eq_of_beq hg26;refine g16 ?_;exact rs2 () j1 (he:=by first | (rw [bKv ‹_›];first | done | rfl) | (rw [bKz ‹_› o6];first | done | rfl) | (rw [bLu ‹_› ‹_› ‹_› ‹_›];first | done | rfl) | (rw [bKd ‹_› ‹_› ‹_› ‹_›];first | done | rfl))
 have hg26:(iU true it.fn)≠([]:Bs):=fun h=>absurd (beq_iff_eq.2 h) (by rw [show((iU true it.fn)==([]:Bs))=false from hg26];simp);refine g6 ?_;refine fM (fun hc30=>?_) fun hc30=>?_
 ·refine g9 ?_;exact rs2 () j1 (he:=by first | (rw [bKv ‹_›];first | done | rfl) | (rw [bKz ‹_› o6];first | done | rfl) | (rw [bLu ‹_› ‹_› ‹_› ‹_›];first | done | rfl) | (rw [bKd ‹_› ‹_› ‹_› ‹_›];first | done | rfl))
 refine g10 ?_;refine dO (fun hc34=>?_) fun hc34=>?_
 ·refine g8 ?_;exact rs2 () j1 (he:=by first | (rw [bKv ‹_›];first | done | rfl) | (rw [bKz ‹_› o6];first | done | rfl) | (rw [bLu ‹_› ‹_› ‹_› ‹_›];first | done | rfl) | (rw [bKd ‹_› ‹_› ‹_› ‹_›];first | done | rfl))
 refine g5 ?_;refine bOz .i64 rfl rfl rfl rfl fun r2=>?_;refine sE .head rfl (.inr rfl) rfl mapInt underlying3 rfl rfl rfl ?_;refine sE .head rfl (.inr rfl) rfl mapInt underlying3 rfl rfl rfl ?_;refine sE .head rfl (.inr rfl) rfl mapInt underlying3 rfl rfl rfl ?_;refine g3 ?_;refine ss (bCg (knows_mapC .head) rfl mapInt underlying3 zeroStr rfl rfl (marks_get _)) ?_;refine ss (iO rfl rfl rfl (by have:=bGs true it.fn;have:=bSb it.how;omega)) ?_;refine g5 ?_;exact rs2 () j1 (he:=by first | (rw [bKv ‹_›];first | done | rfl) | (rw [bKz ‹_› o6];first | done | rfl) | (rw [bLu ‹_› ‹_› ‹_› ‹_›];first | done | rfl) | (rw [bKd ‹_› ‹_› ‹_› ‹_›];first | done | rfl))
theorem bDh(it:ItemV)(hn:it.name.length≤140737488355328)(hz: ∀z∈it.nums.list,-9223372036854775808≤z∧z≤9223372036854775807):cO prog 128 [.agg #[.int .i64 it.how,.int .i64 it.at_,.int .u8 it.fn,.string (bs it.name),.slice it.nums.addr it.nums.list.length it.nums.cap]] [] [numF it,iB] (fun(x:PieceV)=> .tuple #[.agg #[.slice x.words.addr x.words.list.length x.words.cap,.int .i64 (x.nest:Nat),.int .i64 (x.tokens:Nat),.bool x.plain],.bool (operandS it.it).isSome]) (fun(x:PieceV)=>[mN.row (.slice x.words.addr x.words.list.length x.words.cap) 9 x.words.list]) (fun(x:PieceV)=>[Fact.pure (∀p,operandS it.it=some p→x.pc=p)]):=by
 have hT:=iV;refine k6 func128 ntmps128 ?_;intro β hM;refine g2 ?_;refine j8 fun b1=>?_;refine j5 mX fun b2=>?_;refine g11 ?_;refine fM (fun hc9=>?_) fun hc9=>?_
 ·refine cN<|lQ _ _ (.fl 0 (.fl 1 (.fl 4 (.fl 5 (.fl 6 (.fl 7 (.fl 8 (.fl 9 (.fl 10 (.fl 11 (.fl 12 (.fl 13 (.fl 14 (.fl 15 (.two 2 16 (.fl 3 (.op 16 (.fl 17 (.op 18 (.fl 19 .nil))))) (.fl 17 (.op 2 (.fl 3 (.op 18 (.fl 19 .nil)))))))))))))))))))) bX o5 (.c1 .nil) bA.self ?_;refine g6 ?_;refine nP (fun hg17=>?_) fun hg17=>?_
  ·refine g6 ?_;refine nP (fun hg23=>?_) fun hg23=>?_
   ·refine g2 ?_;refine jH (o:=_) (o':=_) rfl rfl ?_ ?_
    ·refine jS (m:=it.name) rfl rfl rfl rfl rfl fun b3=>?_;refine one ?_;refine sqT rfl (j9 (dI _ _ _ _ _ _)) ?_;refine one ?_;refine bD func63 (nF _ hn) rfl rfl .nil ⟨d8,j1⟩ fun _=>?_;refine g10 ?_;refine bQ (E:=mN) kT1 p8 ?_;exact rs2 (⟨⟨some ⟨b3,0,none⟩,_,[it.name]⟩,0,1,true⟩:PieceV) ⟨j2 (fun p hp=>nH ‹_› hp),j1⟩ (he:=congrArg (fun b:Bool=>Value.tuple #[_,.bool b]) aa0)
    refine bD func63 (nF _ hn) rfl rfl .nil ⟨d8,j1⟩ fun _=>?_;refine g3 ?_;refine jS (m:=it.name) rfl rfl rfl rfl rfl fun b4=>?_;refine one ?_;refine sqT rfl (j9 (dI _ _ _ _ _ _)) ?_;refine g8 ?_;refine bQ (E:=mN) kT1 p8 ?_;exact rs2 (⟨⟨some ⟨b4,0,none⟩,_,[it.name]⟩,0,1,true⟩:PieceV) ⟨j2 (fun p hp=>nH ‹_› hp),j1⟩ (he:=congrArg (fun b:Bool=>Value.tuple #[_,.bool b]) aa0)
   refine g2 ?_;refine jH (o:=_) (o':=_) rfl rfl ?_ ?_
   ·refine jS (m:=it.name) rfl rfl rfl rfl rfl fun b5=>?_;refine one ?_;refine sqT rfl (j9 (dI _ _ _ _ _ _)) ?_;refine g12 ?_;refine bQ (E:=mN) kT1 p8 ?_;exact rs2 (⟨⟨some ⟨b5,0,none⟩,_,[it.name]⟩,0,1,true⟩:PieceV) ⟨j2 (fun p hp=>nH ‹_› hp),j1⟩ (he:=congrArg (fun b:Bool=>Value.tuple #[_,.bool b]) aa0)
   refine g4 ?_;refine jS (m:=it.name) rfl rfl rfl rfl rfl fun b6=>?_;refine one ?_;refine sqT rfl (j9 (dI _ _ _ _ _ _)) ?_;refine g8 ?_;refine bQ (E:=mN) kT1 p8 ?_;exact rs2 (⟨⟨some ⟨b6,0,none⟩,_,[it.name]⟩,0,1,true⟩:PieceV) ⟨j2 (fun p hp=>nH ‹_› hp),j1⟩ (he:=congrArg (fun b:Bool=>Value.tuple #[_,.bool b]) aa0)
  refine g8 ?_;refine jH (o:=_) (o':=_) rfl rfl ?_ ?_
  ·refine jS (m:=it.name) rfl rfl rfl rfl rfl fun b7=>?_;refine one ?_;refine sqT rfl (j9 (dI _ _ _ _ _ _)) ?_;refine g12 ?_;refine bQ (E:=mN) kT1 p8 ?_;exact rs2 (⟨⟨some ⟨b7,0,none⟩,_,[it.name]⟩,0,1,true⟩:PieceV) ⟨j2 (fun p hp=>nH ‹_› hp),j1⟩ (he:=congrArg (fun b:Bool=>Value.tuple #[_,.bool b]) aa0)
  refine g4 ?_;refine jS (m:=it.name) rfl rfl rfl rfl rfl fun b8=>?_;refine one ?_;refine sqT rfl (j9 (dI _ _ _ _ _ _)) ?_;refine g8 ?_;refine bQ (E:=mN) kT1 p8 ?_;exact rs2 (⟨⟨some ⟨b8,0,none⟩,_,[it.name]⟩,0,1,true⟩:PieceV) ⟨j2 (fun p hp=>nH ‹_› hp),j1⟩ (he:=congrArg (fun b:Bool=>Value.tuple #[_,.bool b]) aa0)
 refine g9 ?_;refine bEk (fun hg31=>?_) fun hg31=>?_
 ·refine g21 ?_;refine ss (j9 (gQ)) ?_;refine g6 ?_;refine cH (t:=9) mN ?_;have ho:=tW (it:=it) ‹_› v6;exact rs2 (⟨⟨none,0,[]⟩,0,0,false⟩:PieceV) ⟨j2 (fun p hp=>by rw [ho] at hp;cases hp),j1⟩ (he:=by rw [ho];rfl)
 refine g5 ?_;refine dS (fun hg36=>?_) (fun hg36=>?_)
 ·have hg36:it.name≠([]:Bs):=fun h=>by rw [h] at hg36;first | (simp at hg36;done) | exact absurd hg36 o8
  refine g16 ?_;refine ss (j9 (gQ)) ?_;refine g6 ?_;refine cH (t:=9) mN ?_;have ho:=tW (it:=it) ‹_› v6;exact rs2 (⟨⟨none,0,[]⟩,0,0,false⟩:PieceV) ⟨j2 (fun p hp=>by rw [ho] at hp;cases hp),j1⟩ (he:=by rw [ho];rfl)
 have hg36:it.name=([]:Bs):=eq_of_beq (bOg hg36);refine g6 ?_;refine nP (fun hg42=>?_) fun hg42=>?_
 ·refine g10 ?_;refine ss (j9 (gQ)) ?_;refine g6 ?_;refine cH (t:=9) mN ?_;have ho:=tW (it:=it) ‹_› v6;exact rs2 (⟨⟨none,0,[]⟩,0,0,false⟩:PieceV) ⟨j2 (fun p hp=>by rw [ho] at hp;cases hp),j1⟩ (he:=by rw [ho];rfl)
 refine g7 ?_;refine dO (fun hc47=>?_) fun hc47=>?_
 ·refine g2 ?_;refine ss (j9 (gQ)) ?_;refine g6 ?_;refine cH (t:=9) mN ?_;have ho:=tW (it:=it) ‹_› v6;exact rs2 (⟨⟨none,0,[]⟩,0,0,false⟩:PieceV) ⟨j2 (fun p hp=>by rw [ho] at hp;cases hp),j1⟩ (he:=by rw [ho];rfl)
 refine g7 ?_;refine ss (j9 (pZ _ _)) ?_;refine j5 mX fun b9=>?_;refine g13 ?_;refine cH (t:=9) mN ?_;refine cD (ι:=Nat×List Bs×Option Addr×Nat) [(2,_),(4,_),(54,_),(55,_)] ⟨rfl,rfl,rfl,rfl,j1⟩ (fun⟨i,ws,W,cw⟩=>[(56,.int .i64 (i:Nat))]) (fun⟨i,ws,W,cw⟩=>[.obj b9 (.cells [.slice W ws.length cw,.int .i64 0,.int .i64 (it.nums.list.length:Nat),.bool true].toArray 221),mN.row (.slice W ws.length cw) 9 ws]) (fun⟨i,ws,W,cw⟩=>[Fact.pure (i≤it.nums.list.length∧ws=(it.nums.list.take i).map dT∧ws.length=i)]) (fun⟨i,ws,W,cw⟩=>it.nums.list.length-i) (0,[],none,0) ⟨rfl,j1⟩ (.c1 (.c0 .nil)) ⟨j2 (⟨n0,rfl,rfl⟩),j1⟩ ?_;rintro⟨i,ws,W,cw⟩;dsimp only;refine bC d7 fun hinv7=>?_;refine g6 ?_;refine dO (fun hc57=>?_) fun hc57=>?_
 ·refine g6 ?_;obtain⟨x10,hx11⟩:=gx it.nums.list i;refine ss (ixs i) ?_;refine ss (dH hx11 0) ?_;refine g3 ?_;refine oF 7 _ _ [(true,0),(true,1),(true,2),(false,3),(false,4),(false,5),(true,6)] bX o5 (.c0 (.c1 (.c1 .nil))) bA.self ?_;refine g4 ?_;have hr:=hz x10 (j3 hx11);refine bD func93 (bEf _ hr.1 hr.2) rfl rfl .nil ⟨d9,j1⟩ fun _=>?_;refine g2 ?_;refine jS (m:=(dT x10)) rfl rfl rfl rfl rfl fun b12=>?_;refine g2 ?_;refine lU kT2 (cA .head rfl) rfl rfl rfl rfl rfl rfl rfl w7 fun A13 c14=>?_;refine g9 ?_;refine inc (i+1) ?_;refine g3 ?_;exact dP (i+1,ws++[dT x10],_,_) w9 ⟨rfl,j1⟩ ⟨rfl,rfl,rfl,rfl,j1⟩ (.c0 (.c0 (.c1 (.c1 .nil)))) ⟨j2 (⟨by dsimp only;omega,by rw [hinv7.2.1];exact bPh hx11,by simp;omega⟩),j1⟩ (bA.drop 1)
 refine g13 ?_;have ho:=operand_nums (it:=it) ‹_› ‹_› ‹_› ‹_› ‹_›;have hw:ws=it.nums.list.map dT:=by rw [hinv7.2.1,List.take_of_length_le n0]
 exact rs2 (⟨⟨_,_,ws⟩,0,it.nums.list.length,true⟩:PieceV) ⟨j2 (fun p hp=>by rw [ho] at hp;cases hp;rw [hw];rfl),j1⟩ (he:=by rw [ho];rfl)
end
end Go.Proofs.YtakphiannlpnfaaGreatDoor
