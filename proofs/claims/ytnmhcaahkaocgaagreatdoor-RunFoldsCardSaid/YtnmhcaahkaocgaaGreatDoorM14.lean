/- Texts of one proof, one behind the other: TysR, LitH, TysV, ArrM, RfA, RfB. -/
import Derived.Test.YtnmhcaahkaocgaaGreatDoorM7
import Derived.Test.YtnmhcaahkaocgaaGreatDoorM4
import Derived.Test.YtnmhcaahkaocgaaGreatDoorM13
import Derived.Test.YtnmhcaahkaocgaaGreatDoorM2
import Derived.Test.YtnmhcaahkaocgaaGreatDoorM12
import Derived.Test.YtnmhcaahkaocgaaGreatDoorM11
namespace Go.Proofs.YtnmhcaahkaocgaaGreatDoor
open Go.RowKit Go.ChangeShapes Go.WideShapes
section
variable {α H : Type} {enc : TypeId × Value → H} {P : Program} {w : World} {t e : TypeId}
def Ty.slicec(T:Ty α)(b:Nat):Ty (Sl α):=⟨slE α,fun s=>((T.slice b).deep s).and (bR.pure (s.list.length≤s.cap))⟩
theorem opens_cap{deep:Sl α→bR}(hu:P.underlying t=some (.slice e))(he:qY enc P w t (slE α).cells deep):qY enc P w t (slE α).cells (fun s=>(deep s).and (bR.pure (s.list.length≤s.cap))):=fun fuel cs x h hw=>by
 obtain⟨a,e0,d⟩:=he fuel cs x h hw;refine⟨a,e0,d,?_⟩;have e0':cs=[.slice a.addr a.list.length a.cap]:=e0;show a.list.length≤a.cap
 rcases Deep.open_slice hu h with ⟨e1,_⟩ | ⟨a',len,cap,m,n,D,Pl,e1,_,hl,_⟩
 ·rw [e0'] at e1;simp only [List.cons.injEq,and_true,Value.slice.injEq] at e1;omega
 ·rw [e0'] at e1;simp only [List.cons.injEq,and_true,Value.slice.injEq] at e1;omega
end
set_option maxRecDepth 100000
instance : Inhabited Mono := ⟨⟨0, 0, 0, 0, 0, 0, 0⟩⟩
section
variable {S : Nat → Prop} {w : World}
theorem outs_of{l:Sl Int}(h:((intTy.slicec 8).deep l).p S w):(vQ l).p S w:=by
 obtain⟨⟨⟨a1,a2⟩,a3⟩,a4⟩:=h;exact⟨a1,a4,a3⟩
end
end Go.Proofs.YtnmhcaahkaocgaaGreatDoor
namespace Go.Proofs.YtnmhcaahkaocgaaGreatDoor
open Go.RowKit
theorem bBp{n:Nat}{Γ:Env}{a:Act}(f:jV n Γ a): ∀(l:List (Nat×Operand)) (vs:List Value),l.map (fun p=>Γ.ev p.2)=vs.map some→l.map (fun p=>(p.1,a.eval p.2))=(l.map Prod.fst).zip vs
 | [],[],_=>rfl
 | [],_::_,h=>by cases h
 | _::_,[],h=>by cases h
 | p::l,v::vs,h=>by
  rw [List.map_cons,List.map_cons] at h;injection h with h1 h2
  rw [List.map_cons,List.map_cons,List.zip_cons_cons,bBp f l vs h2,f.ev h1]
structure LitT (α:Type) where
 E:Flat α
 t:TypeId
 e:TypeId
 z:Value
 under:Tryz.prog.underlying t=some (.slice e)
 info: ∃ie,Tryz.prog.info? e=some ie∧ie.zero=some z∧ie.size=E.size
 pos:0<E.size
 few:E.size≤100
theorem qX{α:Type}(T:LitT α)(xs:List α)(l:List (Nat×Operand))(vs:List Value){β:dO}{n:Nat}{Γ:Env}{H:List bM}{F:List bR}{Q:Exit→Act→World→Prop}{ops:Array Oper}{rest:List Oper}{o:Oper}{d:Nat}(hw:want ops Γ o=some true)(ho:o.op= .buildSlice T.t xs.length l.toArray)(hd:o.dst=some d)(hn:Nat.blt d n=true)
  (hv:l.map (fun p=>Γ.ev p.2)=vs.map some) (h0:0<xs.length) (h1:xs.length≤100)
  (hf:Instr.fill (fun i=>some (i*T.E.size,T.E.size)) ((Array.range (xs.length*T.E.size)).map (T.z.cells[· %T.z.cells.size]!)) ((l.map Prod.fst).zip vs)=some (T.E.all xs).toArray)
  (k: ∀b,At β n ((d,.slice (some ⟨b,0,none⟩) xs.length xs.length)::Γ) H (T.E.sl (.slice (some ⟨b,0,none⟩) xs.length xs.length) xs::F) (wpList Tryz.prog ops Q rest)):At β n Γ H F (wpList Tryz.prog ops Q (o::rest)):=by
 obtain⟨ie,hi,hz,hs⟩:=T.info;refine zA (m:=xs.length) (parts:=l.toArray) (e:=T.e) (cs:=T.E.all xs) hw ho hd hn (fun a w f=>?_) fun b=>?_
 ·have hp:=T.pos;have hq:=T.few;have hm:xs.length*T.E.size≤100*100:=Nat.mul_le_mul h1 hq;have hm0:0<xs.length*T.E.size:=Nat.mul_pos h0 hp;refine run_buildSlice (P:=Tryz.prog) w T.t T.e xs.length _ (T.E.all xs).toArray ie T.z T.under hi hz (by rw [hs];omega) (by rw [hs];omega) ?_;rw [hs]
  have:(l.toArray.map fun(p:Nat×Operand)=>(p.1,a.eval p.2)).toList=(l.map Prod.fst).zip vs:=by
   rw [←bBp f l vs hv];simp
  rw [this];exact hf
 ·refine wF (E:=T.E) (xs:=xs) .head ?_;exact wU .head (k b)
def monoT:LitT Mono:=⟨tR,47,75,.agg #[.int .i64 0,.int .u8 0,.int .u8 0,.int .u8 0,.int .u8 0,.int .u8 0,.int .u8 0],Tryz.underlying47,by
 have h:(Tryz.prog.info? 75).map (fun i=>(i.zero,i.size))=some (some (.agg #[.int .i64 0,.int .u8 0,.int .u8 0,.int .u8 0,.int .u8 0,.int .u8 0,.int .u8 0]),7):=by kernel_rfl
 cases hi:Tryz.prog.info? 75 with
 | none=>simp [hi] at h
 | some i=>simp [hi] at h;exact⟨i,rfl,h.1,h.2⟩,by decide,by decide⟩
def polsT:LitT PolV:=⟨qU,41,47,.slice none 0 0,Tryz.underlying41,by
 have h:(Tryz.prog.info? 47).map (fun i=>(i.zero,i.size))=some (some (.slice none 0 0),1):=by kernel_rfl
 cases hi:Tryz.prog.info? 47 with
 | none=>simp [hi] at h
 | some i=>simp [hi] at h;exact⟨i,rfl,h.1,h.2⟩,by decide,by decide⟩
def opT:LitT OpV:=⟨opE,59,72,.agg #[.int .i64 0,.int .i64 0,.int .i64 0,.slice none 0 0,.int .u8 0],Tryz.underlying59,by
 have h:(Tryz.prog.info? 72).map (fun i=>(i.zero,i.size))=some (some (.agg #[.int .i64 0,.int .i64 0,.int .i64 0,.slice none 0 0,.int .u8 0]),5):=by kernel_rfl
 cases hi:Tryz.prog.info? 72 with
 | none=>simp [hi] at h
 | some i=>simp [hi] at h;exact⟨i,rfl,h.1,h.2⟩,by decide,by decide⟩
def bufT:LitT iQ:=⟨wR,27,45,.agg #[.slice none 0 0,.int .i64 0],Tryz.underlying27,by
 have h:(Tryz.prog.info? 45).map (fun i=>(i.zero,i.size))=some (some (.agg #[.slice none 0 0,.int .i64 0]),2):=by kernel_rfl
 cases hi:Tryz.prog.info? 45 with
 | none=>simp [hi] at h
 | some i=>simp [hi] at h;exact⟨i,rfl,h.1,h.2⟩,by decide,by decide⟩
def stepT:LitT cW:=⟨uL,28,61,.agg #[.int .i64 0,.int .i64 0,.slice none 0 0,.slice none 0 0,.int .u8 0,.slice none 0 0],Tryz.underlying28,by
 have h:(Tryz.prog.info? 61).map (fun i=>(i.zero,i.size))=some (some (.agg #[.int .i64 0,.int .i64 0,.slice none 0 0,.slice none 0 0,.int .u8 0,.slice none 0 0]),6):=by kernel_rfl
 cases hi:Tryz.prog.info? 61 with
 | none=>simp [hi] at h
 | some i=>simp [hi] at h;exact⟨i,rfl,h.1,h.2⟩,by decide,by decide⟩
def intT:LitT Int:=⟨cL,29,3,.int .i64 0,Tryz.underlying29,by
 have h:(Tryz.prog.info? 3).map (fun i=>(i.zero,i.size))=some (some (.int .i64 0),1):=by kernel_rfl
 cases hi:Tryz.prog.info? 3 with
 | none=>simp [hi] at h
 | some i=>simp [hi] at h;exact⟨i,rfl,h.1,h.2⟩,by decide,by decide⟩
def i64T:LitT Int:=⟨cL,63,2,.int .i64 0,Tryz.underlying63,by
 have h:(Tryz.prog.info? 2).map (fun i=>(i.zero,i.size))=some (some (.int .i64 0),1):=by kernel_rfl
 cases hi:Tryz.prog.info? 2 with
 | none=>simp [hi] at h
 | some i=>simp [hi] at h;exact⟨i,rfl,h.1,h.2⟩,by decide,by decide⟩
def arrT:LitT ArrV:=⟨oF,64,77,.agg #[.slice none 0 0,.slice none 0 0],Tryz.underlying64,by
 have h:(Tryz.prog.info? 77).map (fun i=>(i.zero,i.size))=some (some (.agg #[.slice none 0 0,.slice none 0 0]),2):=by kernel_rfl
 cases hi:Tryz.prog.info? 77 with
 | none=>simp [hi] at h
 | some i=>simp [hi] at h;exact⟨i,rfl,h.1,h.2⟩,by decide,by decide⟩
end Go.Proofs.YtnmhcaahkaocgaaGreatDoor
namespace Go.Proofs.YtnmhcaahkaocgaaGreatDoor
open Go.RowKit
end Go.Proofs.YtnmhcaahkaocgaaGreatDoor
namespace Go.Proofs.YtnmhcaahkaocgaaGreatDoor
open Go.RowKit
section
variable {F : List bR}
theorem nul_sl{α:Type}{E:Flat α}:Has F (E.sl (.slice none 0 0) []):=fun _ _ _=>⟨none,0,rfl,fun _ _ h=>by cases h⟩
theorem tS:Has F (nL ⟨none,0,[]⟩):=Has.and nul_sl (Has.pure (by decide))
theorem listF_nul:Has F (pD ⟨none,0,[]⟩):=Has.and (Has.and nul_sl Has.each_nil) (Has.pure (by decide))
end
end Go.Proofs.YtnmhcaahkaocgaaGreatDoor
namespace Go.Proofs.YtnmhcaahkaocgaaGreatDoor
open Go.RowKit
def dA (MA SA:Nat)(n:Int):Sl PolV:=⟨some ⟨SA,0,none⟩,1,[⟨some ⟨MA,0,none⟩,1,[mN n]⟩]⟩
def fB:List OpV:=[⟨3,0,0,⟨none,0,[]⟩,0⟩,⟨4,0,0,⟨none,0,[]⟩,0⟩]
def foldBl(MA SA:Nat)(n:Int):List iQ:=[⟨dA MA SA n,0⟩,⟨⟨none,0,[]⟩,-1⟩,⟨dA MA SA n,-1⟩]
def foldSl(MA SA OA:Nat)(f n:Int):List cW:=[⟨2,1,⟨none,0,[]⟩,dA MA SA n,f,⟨some ⟨OA,0,none⟩,2,fB⟩⟩,⟨3,2,⟨none,0,[]⟩,dA MA SA n,f,⟨some ⟨OA,0,none⟩,2,fB⟩⟩]
def foldV (MA SA OA BA TA UA:Nat)(f n:Int):nX:=⟨0,⟨some ⟨BA,0,none⟩,3,foldBl MA SA n⟩,⟨some ⟨TA,0,none⟩,2,foldSl MA SA OA f n⟩,⟨some ⟨UA,0,none⟩,2,[1,2]⟩⟩
section
variable {F : List bR} {MA SA OA BA TA UA : Nat} {f n : Int}
theorem foldLp_f(hm:Has F (tR.sl (.slice (some ⟨MA,0,none⟩) 1 1) [mN n]))(hs:Has F (qU.sl (.slice (some ⟨SA,0,none⟩) 1 1) (dA MA SA n).list)):Has F (pD (dA MA SA n)):=
 Has.and (Has.and hs (Has.each_cons (Has.and hm (Has.pure (by show 1≤8796093022208;decide))) Has.each_nil)) (Has.pure ⟨Nat.le_refl _,by show 1*24≤140737488355328;decide⟩)
theorem foldV_f(hm:Has F (tR.sl (.slice (some ⟨MA,0,none⟩) 1 1) [mN n]))(hs:Has F (qU.sl (.slice (some ⟨SA,0,none⟩) 1 1) (dA MA SA n).list))(ho:Has F (opE.sl (.slice (some ⟨OA,0,none⟩) 2 2) fB))
  (hb:Has F (wR.sl (.slice (some ⟨BA,0,none⟩) 3 3) (foldBl MA SA n))) (ht:Has F (uL.sl (.slice (some ⟨TA,0,none⟩) 2 2) (foldSl MA SA OA f n))) (hu:Has F (cL.sl (.slice (some ⟨UA,0,none⟩) 2 2) [1,2])):Has F (rD (foldV MA SA OA BA TA UA f n)):=by
 have hl:=foldLp_f hm hs;have hop:Has F (opsF ⟨some ⟨OA,0,none⟩,2,fB⟩):=Has.and (Has.and ho (Has.each_cons tS (Has.each_cons tS Has.each_nil))) (Has.pure ⟨Nat.le_refl _,by show 2*56≤140737488355328;decide⟩);refine Has.and (Has.and (Has.and hb ?_) (Has.pure ⟨Nat.le_refl _,by show 3*32≤140737488355328;decide⟩)) (Has.and (Has.and (Has.and ht ?_) (Has.pure ⟨Nat.le_refl _,by show 2*96≤140737488355328;decide⟩)) (Has.and hu (Has.pure ⟨Nat.le_refl _,by show 2*8≤140737488355328;decide⟩)))
 ·exact Has.each_cons hl (Has.each_cons listF_nul (Has.each_cons hl Has.each_nil))
 ·exact Has.each_cons (Has.and tS (Has.and hl hop)) (Has.each_cons (Has.and tS (Has.and hl hop)) Has.each_nil)
end
theorem built_mN(z:Int):Tryz.prog.built 75 [(0,.int .i64 z)]=some #[.int .i64 z,.int .u8 0,.int .u8 0,.int .u8 0,.int .u8 0,.int .u8 0,.int .u8 0]:=by kernel_rfl
theorem folds_out{l:List Int}{f:Int}(h0:1≤l.length)(h1:l.length≤1000){R:List Arr×Nat×Int}(hR:rnRun (foldCore f l.length) [] [⟨[(l.length:Int)],l⟩]=R){xs:List ArrV}(hx:arrL xs=R.1):
  (xs=[]∧R.2.2≠0∧R.2.1=0∧(R.2.2=11∨fE (foldCore f l.length)=false∧R.2.2=100))∨
  (R.2.2=0∧ ∃y0 y1 w s v,xs=[y0,y1]∧y0.data.list=[w]∧y1.data.list=s∧s.length=l.length∧s[l.length-1]?=some w∧s[0]?=some v∧l[0]?=some v):=by
 have h:=rn_folds (f:=f) h0 h1;rw [hR] at h
 by_cases he:R.2.2=0
 ·right;obtain⟨w,s,e1,_,e3,e4,e5⟩:=h.2 he;rw [e1] at hx
  obtain⟨y0,xs,rfl⟩: ∃y0 r,xs=y0::r:=by
   cases xs with
   | nil=>exact absurd (congrArg List.length hx) (by simp [arrL])
   | cons y r=>exact⟨y,r,rfl⟩
  obtain⟨y1,xs,rfl⟩: ∃y0 r,xs=y0::r:=by
   cases xs with
   | nil=>exact absurd (congrArg List.length hx) (by simp [arrL])
   | cons y r=>exact⟨y,r,rfl⟩
  cases xs with
  | cons y r=>exact absurd (congrArg List.length hx) (by simp [arrL])
  | nil=>
   have hx:[y0.arr,y1.arr]=_:=hx;injection hx with i0 i1
   injection i1 with i1 _
   injection i0 with _ i0
   injection i1 with _ i1
   refine⟨he,y0,y1,w,s,l[0],rfl,i0,i1,e3,?_,?_,List.getElem?_eq_getElem (by omega)⟩
   ·rw [←e3,←List.getLast?_eq_getElem?];exact e4
   ·rw [←List.head?_eq_getElem?,e5,List.head?_eq_getElem?];exact List.getElem?_eq_getElem (by omega)
 ·left;obtain⟨e1,e2,e3⟩:=h.1 he;rw [e1] at hx;refine⟨?_,he,e2,e3⟩
  cases xs with
  | nil=>rfl
  | cons y r=>exact absurd (congrArg List.length hx) (by simp [arrL])
end Go.Proofs.YtnmhcaahkaocgaaGreatDoor
namespace Go.Proofs.YtnmhcaahkaocgaaGreatDoor
open Go.RowKit
theorem kE(z0:Int):Tryz.prog.built 72 [(0,.int .i64 z0)]=some #[.int .i64 z0,.int .i64 0,.int .i64 0,.slice none 0 0,.int .u8 0]:=by kernel_rfl
theorem jP(a0:Option Addr)(l0 c0:Nat)(z1:Int):Tryz.prog.built 45 [(0,.slice a0 l0 c0),(1,.int .i64 z1)]=some #[.slice a0 l0 c0,.int .i64 z1]:=by kernel_rfl
theorem oD(z1:Int):Tryz.prog.built 45 [(1,.int .i64 z1)]=some #[.slice none 0 0,.int .i64 z1]:=by kernel_rfl
theorem nG(a1:Option Addr)(l1 c1:Nat)(a3:Option Addr)(l3 c3:Nat):Tryz.prog.built 31 [(1,.slice a1 l1 c1),(3,.slice a3 l3 c3)]=some #[.int .i64 0,.slice a1 l1 c1,.slice none 0 0,.slice a3 l3 c3]:=by kernel_rfl
theorem pW:(Tryz.prog.info? 31).bind (·.zero)=some (.agg #[.int .i64 0,.slice none 0 0,.slice none 0 0,.slice none 0 0]):=by kernel_rfl
theorem iE(z0:Int)(z1:Int)(a3:Option Addr)(l3 c3:Nat)(z4:Int)(a5:Option Addr)(l5 c5:Nat):Tryz.prog.built 61 [(0,.int .i64 z0),(1,.int .i64 z1),(3,.slice a3 l3 c3),(4,.int .u8 z4),(5,.slice a5 l5 c5)]=some #[.int .i64 z0,.int .i64 z1,.slice none 0 0,.slice a3 l3 c3,.int .u8 z4,.slice a5 l5 c5]:=by kernel_rfl
set_option maxRecDepth 100000 in
theorem lawF12_spec(f:Int)(q:Sl Int):dX Tryz.prog 8 [.int .u8 f,.slice q.addr q.list.length q.cap] [] [laidF,vQ q] (fun(_:Unit)=> .bool true) (fun _=>[]) (fun _=>[]):=by
 have hT:=cY;refine cN Tryz.func8 rfl Tryz.ntmps8 rfl ?_;intro β hM;refine bH<|cM (cL.sl (.slice q.addr q.list.length q.cap) q.list) (uJ (Has.of mT1)) ?_;refine bE<|sp hT ?_;refine nn<|sr<|cO Tryz.func16 shown12_spec rfl rfl .nil ⟨(Has.of mT1),trivial⟩ fun _=>?_;refine sp hT ?_;refine nn<|sr<|sp3 hT ?_;refine nn<|bH<|sr<|sp3 hT ?_;refine cE (fun hg18=>?_) (fun hg18=>?_)
 ·have hg18:=eq_of_beq hg18;refine sk2 ?_;refine sp hT ?_;refine nn<|cJ rfl rfl ?_;refine sr<|sp2 hT ?_;refine nn<|bJ<|bN ?_;exact bK () rfl (bI rfl) .nil trivial (rfl)
 have hg18:=beq_eq_false_iff_ne.1 hg18;refine sp3 hT ?_;refine nn<|bP rfl (fun hc21=>?_) (fun hc21=>?_)
 ·have hc21:=of_decide_eq_true hc21;refine sr<|sp2 hT ?_;refine nn<|bJ<|bN ?_;exact bK () rfl (bI rfl) .nil trivial (rfl)
 have hc21:=Int.not_lt.1 (of_decide_eq_false hc21);refine bV<|bF<|bH ?_;have hq0:1≤q.list.length:=by omega
 have hq1:q.list.length≤1000:=by omega
 refine bE<|sp hT ?_;refine ss (fW rfl rfl (built_mN (q.list.length:Int))) ?_;refine qX monoT ([mN (q.list.length:Int)]) _ ([.agg #[.int .i64 (q.list.length:Int),.int .u8 0,.int .u8 0,.int .u8 0,.int .u8 0,.int .u8 0,.int .u8 0]]) rfl rfl rfl rfl rfl (by show 0<1;decide) (by show 1≤100;decide) (by kernel_rfl) fun lb1=>?_;refine qX polsT ([(⟨some ⟨lb1,0,none⟩,1,[mN (q.list.length:Int)]⟩:PolV)]) _ ([.slice ((⟨some ⟨lb1,0,none⟩,1,[mN (q.list.length:Int)]⟩:PolV)).addr ((⟨some ⟨lb1,0,none⟩,1,[mN (q.list.length:Int)]⟩:PolV)).list.length ((⟨some ⟨lb1,0,none⟩,1,[mN (q.list.length:Int)]⟩:PolV)).cap]) rfl rfl rfl rfl rfl (by show 0<1;decide) (by show 1≤100;decide) (by kernel_rfl) fun lb2=>?_;refine sp hT ?_;refine nn<|sr<|ss (fW rfl rfl (kE _)) ?_;refine ss (fW rfl rfl (kE _)) ?_;refine qX opT (fB) _ ([.agg #[.int .i64 ((⟨3,0,0,⟨none,0,[]⟩,0⟩:OpV)).how,.int .i64 ((⟨3,0,0,⟨none,0,[]⟩,0⟩:OpV)).k,.int .i64 ((⟨3,0,0,⟨none,0,[]⟩,0⟩:OpV)).n,.slice ((⟨3,0,0,⟨none,0,[]⟩,0⟩:OpV)).p.addr ((⟨3,0,0,⟨none,0,[]⟩,0⟩:OpV)).p.list.length ((⟨3,0,0,⟨none,0,[]⟩,0⟩:OpV)).p.cap,.int .u8 ((⟨3,0,0,⟨none,0,[]⟩,0⟩:OpV)).fn],.agg #[.int .i64 ((⟨4,0,0,⟨none,0,[]⟩,0⟩:OpV)).how,.int .i64 ((⟨4,0,0,⟨none,0,[]⟩,0⟩:OpV)).k,.int .i64 ((⟨4,0,0,⟨none,0,[]⟩,0⟩:OpV)).n,.slice ((⟨4,0,0,⟨none,0,[]⟩,0⟩:OpV)).p.addr ((⟨4,0,0,⟨none,0,[]⟩,0⟩:OpV)).p.list.length ((⟨4,0,0,⟨none,0,[]⟩,0⟩:OpV)).p.cap,.int .u8 ((⟨4,0,0,⟨none,0,[]⟩,0⟩:OpV)).fn]]) rfl rfl rfl rfl rfl (by show 0<2;decide) (by show 2≤100;decide) (by kernel_rfl) fun lb3=>?_;refine sp hT ?_;refine nn<|sr<|sp hT ?_;refine ss (fW rfl rfl (jP _ _ _ _)) ?_;refine ss (fW rfl rfl (oD _)) ?_;refine sp hT ?_;refine ss (fW rfl rfl (jP _ _ _ _)) ?_;refine qX bufT (foldBl lb1 lb2 (q.list.length:Int)) _ ([.agg #[.slice ((⟨dA lb1 lb2 (q.list.length:Int),0⟩:iQ)).sides.addr ((⟨dA lb1 lb2 (q.list.length:Int),0⟩:iQ)).sides.list.length ((⟨dA lb1 lb2 (q.list.length:Int),0⟩:iQ)).sides.cap,.int .i64 ((⟨dA lb1 lb2 (q.list.length:Int),0⟩:iQ)).input],.agg #[.slice ((⟨⟨none,0,[]⟩,-1⟩:iQ)).sides.addr ((⟨⟨none,0,[]⟩,-1⟩:iQ)).sides.list.length ((⟨⟨none,0,[]⟩,-1⟩:iQ)).sides.cap,.int .i64 ((⟨⟨none,0,[]⟩,-1⟩:iQ)).input],.agg #[.slice ((⟨dA lb1 lb2 (q.list.length:Int),-1⟩:iQ)).sides.addr ((⟨dA lb1 lb2 (q.list.length:Int),-1⟩:iQ)).sides.list.length ((⟨dA lb1 lb2 (q.list.length:Int),-1⟩:iQ)).sides.cap,.int .i64 ((⟨dA lb1 lb2 (q.list.length:Int),-1⟩:iQ)).input]]) rfl rfl rfl rfl rfl (by show 0<3;decide) (by show 3≤100;decide) (by kernel_rfl) fun lb4=>?_;refine qX intT ([(1:Int),(2:Int)]) _ ([.int .i64 ((1:Int)),.int .i64 ((2:Int))]) rfl rfl rfl rfl rfl (by show 0<2;decide) (by show 2≤100;decide) (by kernel_rfl) fun lb5=>?_;refine ss (fW rfl rfl (nG _ _ _ _ _ _)) ?_;refine fM rfl rfl rfl rfl pW rfl fun b6=>?_;refine sto hT .head ?_;refine nn<|sr<|sp3 hT ?_;refine ss (fW rfl rfl (iE _ _ _ _ _ _ _ _ _)) ?_;refine sp3 hT ?_;refine ss (fW rfl rfl (iE _ _ _ _ _ _ _ _ _)) ?_;refine qX stepT (foldSl lb1 lb2 lb3 f (q.list.length:Int)) _ ([.agg #[.int .i64 ((⟨2,1,⟨none,0,[]⟩,dA lb1 lb2 (q.list.length:Int),f,⟨some ⟨lb3,0,none⟩,2,fB⟩⟩:cW)).how,.int .i64 ((⟨2,1,⟨none,0,[]⟩,dA lb1 lb2 (q.list.length:Int),f,⟨some ⟨lb3,0,none⟩,2,fB⟩⟩:cW)).buf,.slice ((⟨2,1,⟨none,0,[]⟩,dA lb1 lb2 (q.list.length:Int),f,⟨some ⟨lb3,0,none⟩,2,fB⟩⟩:cW)).at_.addr ((⟨2,1,⟨none,0,[]⟩,dA lb1 lb2 (q.list.length:Int),f,⟨some ⟨lb3,0,none⟩,2,fB⟩⟩:cW)).at_.list.length ((⟨2,1,⟨none,0,[]⟩,dA lb1 lb2 (q.list.length:Int),f,⟨some ⟨lb3,0,none⟩,2,fB⟩⟩:cW)).at_.cap,.slice ((⟨2,1,⟨none,0,[]⟩,dA lb1 lb2 (q.list.length:Int),f,⟨some ⟨lb3,0,none⟩,2,fB⟩⟩:cW)).loops.addr ((⟨2,1,⟨none,0,[]⟩,dA lb1 lb2 (q.list.length:Int),f,⟨some ⟨lb3,0,none⟩,2,fB⟩⟩:cW)).loops.list.length ((⟨2,1,⟨none,0,[]⟩,dA lb1 lb2 (q.list.length:Int),f,⟨some ⟨lb3,0,none⟩,2,fB⟩⟩:cW)).loops.cap,.int .u8 ((⟨2,1,⟨none,0,[]⟩,dA lb1 lb2 (q.list.length:Int),f,⟨some ⟨lb3,0,none⟩,2,fB⟩⟩:cW)).fn,.slice ((⟨2,1,⟨none,0,[]⟩,dA lb1 lb2 (q.list.length:Int),f,⟨some ⟨lb3,0,none⟩,2,fB⟩⟩:cW)).ops.addr ((⟨2,1,⟨none,0,[]⟩,dA lb1 lb2 (q.list.length:Int),f,⟨some ⟨lb3,0,none⟩,2,fB⟩⟩:cW)).ops.list.length ((⟨2,1,⟨none,0,[]⟩,dA lb1 lb2 (q.list.length:Int),f,⟨some ⟨lb3,0,none⟩,2,fB⟩⟩:cW)).ops.cap],.agg #[.int .i64 ((⟨3,2,⟨none,0,[]⟩,dA lb1 lb2 (q.list.length:Int),f,⟨some ⟨lb3,0,none⟩,2,fB⟩⟩:cW)).how,.int .i64 ((⟨3,2,⟨none,0,[]⟩,dA lb1 lb2 (q.list.length:Int),f,⟨some ⟨lb3,0,none⟩,2,fB⟩⟩:cW)).buf,.slice ((⟨3,2,⟨none,0,[]⟩,dA lb1 lb2 (q.list.length:Int),f,⟨some ⟨lb3,0,none⟩,2,fB⟩⟩:cW)).at_.addr ((⟨3,2,⟨none,0,[]⟩,dA lb1 lb2 (q.list.length:Int),f,⟨some ⟨lb3,0,none⟩,2,fB⟩⟩:cW)).at_.list.length ((⟨3,2,⟨none,0,[]⟩,dA lb1 lb2 (q.list.length:Int),f,⟨some ⟨lb3,0,none⟩,2,fB⟩⟩:cW)).at_.cap,.slice ((⟨3,2,⟨none,0,[]⟩,dA lb1 lb2 (q.list.length:Int),f,⟨some ⟨lb3,0,none⟩,2,fB⟩⟩:cW)).loops.addr ((⟨3,2,⟨none,0,[]⟩,dA lb1 lb2 (q.list.length:Int),f,⟨some ⟨lb3,0,none⟩,2,fB⟩⟩:cW)).loops.list.length ((⟨3,2,⟨none,0,[]⟩,dA lb1 lb2 (q.list.length:Int),f,⟨some ⟨lb3,0,none⟩,2,fB⟩⟩:cW)).loops.cap,.int .u8 ((⟨3,2,⟨none,0,[]⟩,dA lb1 lb2 (q.list.length:Int),f,⟨some ⟨lb3,0,none⟩,2,fB⟩⟩:cW)).fn,.slice ((⟨3,2,⟨none,0,[]⟩,dA lb1 lb2 (q.list.length:Int),f,⟨some ⟨lb3,0,none⟩,2,fB⟩⟩:cW)).ops.addr ((⟨3,2,⟨none,0,[]⟩,dA lb1 lb2 (q.list.length:Int),f,⟨some ⟨lb3,0,none⟩,2,fB⟩⟩:cW)).ops.list.length ((⟨3,2,⟨none,0,[]⟩,dA lb1 lb2 (q.list.length:Int),f,⟨some ⟨lb3,0,none⟩,2,fB⟩⟩:cW)).ops.cap]]) rfl rfl rfl rfl rfl (by show 0<2;decide) (by show 2≤100;decide) (by kernel_rfl) fun lb7=>?_;refine sp hT ?_;refine sto hT .head ?_;refine nn<|sr<|ss (ldN hT (fH .head)) ?_;refine sp hT ?_;refine qX i64T ([(q.list.length:Int)]) _ ([.int .i64 ((q.list.length:Int))]) rfl rfl rfl rfl rfl (by show 0<1;decide) (by show 1≤100;decide) (by kernel_rfl) fun lb8=>?_;refine sp hT ?_;refine ss (fW rfl rfl (oE _ _ _ _ _ _)) ?_;refine qX arrT ([(⟨⟨some ⟨lb8,0,none⟩,1,[(q.list.length:Int)]⟩,q⟩:ArrV)]) _ ([.agg #[.slice ((⟨⟨some ⟨lb8,0,none⟩,1,[(q.list.length:Int)]⟩,q⟩:ArrV)).sides.addr ((⟨⟨some ⟨lb8,0,none⟩,1,[(q.list.length:Int)]⟩,q⟩:ArrV)).sides.list.length ((⟨⟨some ⟨lb8,0,none⟩,1,[(q.list.length:Int)]⟩,q⟩:ArrV)).sides.cap,.slice ((⟨⟨some ⟨lb8,0,none⟩,1,[(q.list.length:Int)]⟩,q⟩:ArrV)).data.addr ((⟨⟨some ⟨lb8,0,none⟩,1,[(q.list.length:Int)]⟩,q⟩:ArrV)).data.list.length ((⟨⟨some ⟨lb8,0,none⟩,1,[(q.list.length:Int)]⟩,q⟩:ArrV)).data.cap]]) rfl rfl rfl rfl rfl (by show 0<1;decide) (by show 1≤100;decide) (by kernel_rfl) fun lb9=>?_;refine cM (rD (foldV lb1 lb2 lb3 lb4 lb7 lb5 f (q.list.length:Int))) (foldV_f (Has.of mT7) (Has.of mT6) (Has.of mT5) (Has.of mT4) (Has.of mT2) (Has.of mT3)) ?_;refine cM (bR.each [(⟨⟨some ⟨lb8,0,none⟩,1,[(q.list.length:Int)]⟩,q⟩:ArrV)] arrF) (Has.each_cons (Has.and (Has.and (Has.of mT2) (Has.pure ⟨Nat.le_refl _,by show 1*8≤140737488355328;decide⟩)) (Has.of mT11)) Has.each_nil) ?_;refine cO Tryz.func17 (bDu (foldV lb1 lb2 lb3 lb4 lb7 lb5 f (q.list.length:Int)) none 0 [] (some ⟨lb9,0,none⟩) 1 [(⟨⟨some ⟨lb8,0,none⟩,1,[(q.list.length:Int)]⟩,q⟩:ArrV)] (by decide)) rfl rfl .nil ⟨(Has.of mT1),nul_sl,(Has.of mT2),(Has.of mT0),trivial⟩ fun⟨⟨XA,xc⟩,xs⟩=>?_;refine cG (Has.of mT0) fun hx=>?_
 obtain⟨R,hR⟩: ∃R,rnRun (foldCore f q.list.length) [] [⟨[(q.list.length:Int)],q.list⟩]=R:=⟨_,rfl⟩
 have hx:arrL xs=R.1:=hR▸hx;rw [show rnRun ((foldV lb1 lb2 lb3 lb4 lb7 lb5 f (q.list.length:Int))).c [] (arrL [(⟨⟨some ⟨lb8,0,none⟩,1,[(q.list.length:Int)]⟩,q⟩:ArrV)])=R from hR]
 rcases folds_out (f:=f) hq0 hq1 hR hx with ⟨rfl,hne,hat,hcd⟩ | ⟨hok,y0,y1,w,sl,v,rfl,hd0,hd1,hsl,hsw,hsv,hqv⟩
 ·rw [show bAv ([]:List ArrV)=[] from rfl];refine sp4 hT ?_;refine sp3 hT ?_;refine nn<|bH<|sr<|sp2 hT ?_;refine fJ (t':=true) (by show(!(R.2.2==0))=true;simp [hne]) ?_;refine nn<|cJ rfl rfl ?_;refine sr<|sp4 hT ?_;refine sp hT ?_;refine fJ (t':=true) (rfl) ?_;refine sp4 hT ?_;refine fJ (t':=true) (by show(((R.2.1:Nat):Int)==0)=true;rw [hat];rfl) ?_;refine sp3 hT ?_
  rcases hcd with hcd | ⟨hrt,hcd⟩
  ·refine sp hT ?_;refine fJ (t':=true) (by show(R.2.2==11)=true;rw [hcd];rfl) ?_;refine sp hT ?_;refine sk4 ?_;refine sk3 ?_;refine sp3 hT ?_;refine nn<|bJ<|bN ?_;exact bK () rfl (bI rfl) .nil trivial (rfl)
  refine sp hT ?_;refine fJ (t':=false) (by show(R.2.2==11)=false;rw [hcd];rfl) ?_;refine sp hT ?_;refine ss (ldN hT (fH kT1)) ?_;refine cO Tryz.func15 (yR (foldV lb1 lb2 lb3 lb4 lb7 lb5 f (q.list.length:Int))) rfl rfl .nil ⟨(Has.of mT2),trivial⟩ fun _=>?_;refine fJ (t':=false) (show fE (foldCore f q.list.length)=false from hrt) ?_;refine sp4 hT ?_;refine fJ (t':=true) (by show(R.2.2==100)=true;rw [hcd];rfl) ?_;refine sp4 hT ?_;refine nn<|bJ<|bN ?_;exact bK () rfl (bI rfl) .nil trivial (rfl)
 rw [show bAv [y0,y1]=[uA y0.sides,uA y0.data,uA y1.sides,uA y1.data] from rfl];refine mR (E:=oF) .head ?_;refine mR (E:=cL) kT1 ?_;refine mR (E:=cL) kT2 ?_;refine sp4 hT ?_;refine sp3 hT ?_;refine nn<|bH<|sr<|sp2 hT ?_;refine fJ (t':=false) (by show(!(R.2.2==0))=false;rw [hok];rfl) ?_;refine nn<|nI rfl rfl ?_;refine bV<|bF<|bH<|jE _ _ [(true,0),(true,1),(true,2),(true,3),(true,4),(true,5),(true,6),(true,7),(true,8),(true,9),(true,10),(true,11),(true,12),(true,13),(true,14),(true,15),(true,16),(true,17),(true,18),(true,19),(true,20),(true,21),(true,22),(true,23),(true,24),(true,25),(true,26),(true,27),(true,28),(true,29),(true,30),(true,31),(true,32),(true,33),(true,34),(true,35),(true,36),(true,37),(true,38),(true,39),(true,40),(true,41),(true,42),(true,43),(true,44),(true,45),(true,46),(true,47),(true,48),(true,49),(true,50),(true,51),(true,52),(true,53)] gR (by decide+kernel) (.cons .head (.cons .head (.cons .head .nil))) bO.self ?_;refine puM hT ?_;refine puM hT ?_;refine puM hT ?_;refine puM hT ?_;refine puM hT ?_;refine fJ (t':=true) (rfl) ?_;refine puM hT ?_;refine puM hT ?_;refine puM hT ?_;refine stM rfl (bY hT (k:=0) (bQ (Has.of mT2)) rfl rfl rfl rfl rfl rfl rfl (by show _<2;decide)) ?_;refine puM hT ?_;refine stM rfl (bL hT (cH.knows (bQ (Has.of mT2)) (k:=0) (x:=y0) rfl 1) rfl rfl rfl rfl rfl) ?_;refine puM hT ?_;refine puM hT ?_;refine fJ (t':=true) (by show(((y0.data.list.length:Nat):Int)==1)=true;rw [hd0];rfl) ?_;refine puM hT ?_;refine puM hT ?_;refine puM hT ?_;refine stM rfl (bY hT (k:=1) (bQ (Has.of mT2)) rfl rfl rfl rfl rfl rfl rfl (by show _<2;decide)) ?_;refine puM hT ?_;refine stM rfl (bL hT (cH.knows (bQ (Has.of mT2)) (k:=1) (x:=y1) rfl 1) rfl rfl rfl rfl rfl) ?_;refine puM hT ?_;refine puM hT ?_;refine puM hT ?_;refine puM hT ?_;refine fJ (t':=true) (by show(((y1.data.list.length:Nat):Int)==_)=true;rw [hd1,hsl];exact beq_self_eq_true _) ?_;refine puM hT ?_;refine puM hT ?_;refine puM hT ?_;refine stM rfl (bY hT (k:=0) (bQ (Has.of mT2)) rfl rfl rfl rfl rfl rfl rfl (by show _<2;decide)) ?_;refine puM hT ?_;refine stM rfl (bL hT (cH.knows (bQ (Has.of mT2)) (k:=0) (x:=y0) rfl 1) rfl rfl rfl rfl rfl) ?_;refine stM rfl (bY hT (k:=0) (bQ (Has.of mT1)) rfl rfl rfl rfl rfl rfl rfl (by rw [hd0];show 0<1;decide)) ?_;refine stM rfl (bL hT (cH.knows (bQ (Has.of mT1)) (k:=0) (x:=w) (by rw [hd0];rfl) 0) rfl rfl rfl rfl rfl) ?_;refine puM hT ?_;refine stM rfl (bY hT (k:=1) (bQ (Has.of mT2)) rfl rfl rfl rfl rfl rfl rfl (by show _<2;decide)) ?_;refine puM hT ?_;refine stM rfl (bL hT (cH.knows (bQ (Has.of mT2)) (k:=1) (x:=y1) rfl 1) rfl rfl rfl rfl rfl) ?_;refine puM hT ?_;refine puM hT ?_;refine cD (z':=(((q.list.length-1):Nat):Int)) (dM (by omega) (by omega)) ?_;refine stM rfl (bY hT (k:=(q.list.length-1)) (bQ (Has.of mT0)) rfl rfl rfl rfl rfl rfl rfl (by rw [hd1,hsl];omega)) ?_;refine stM rfl (bL hT (cH.knows (bQ (Has.of mT0)) (k:=(q.list.length-1)) (x:=w) (by rw [hd1];exact hsw) 0) rfl rfl rfl rfl rfl) ?_;refine puM hT ?_;refine fJ (t':=true) (beq_self_eq_true _) ?_;refine puM hT ?_;refine puM hT ?_;refine puM hT ?_;refine stM rfl (bY hT (k:=1) (bQ (Has.of mT2)) rfl rfl rfl rfl rfl rfl rfl (by show _<2;decide)) ?_;refine puM hT ?_;refine stM rfl (bL hT (cH.knows (bQ (Has.of mT2)) (k:=1) (x:=y1) rfl 1) rfl rfl rfl rfl rfl) ?_;refine stM rfl (bY hT (k:=0) (bQ (Has.of mT0)) rfl rfl rfl rfl rfl rfl rfl (by rw [hd1,hsl];omega)) ?_;refine stM rfl (bL hT (cH.knows (bQ (Has.of mT0)) (k:=0) (x:=v) (by rw [hd1];exact hsv) 0) rfl rfl rfl rfl rfl) ?_;refine puM hT ?_;refine stM rfl (bY hT (k:=0) (bQ (Has.of mT14)) rfl rfl rfl rfl rfl rfl rfl (by omega)) ?_;refine stM rfl (bL hT (cH.knows (bQ (Has.of mT14)) (k:=0) (x:=v) hqv 0) rfl rfl rfl rfl rfl) ?_;refine puM hT ?_;refine fJ (t':=true) (beq_self_eq_true _) ?_;refine puM hT ?_;refine puM hT ?_;refine dG<|bF<|bJ ?_;exact bK () rfl (bI rfl) .nil trivial (rfl)
end Go.Proofs.YtnmhcaahkaocgaaGreatDoor
