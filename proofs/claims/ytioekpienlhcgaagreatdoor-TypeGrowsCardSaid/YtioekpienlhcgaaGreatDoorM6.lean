/- A part of one proof. -/
import Derived.Test.YtioekpienlhcgaaGreatDoorM5
set_option maxRecDepth 100000
namespace Go.Proofs.YtioekpienlhcgaaGreatDoor
open Go.RowKit Go.Proofs.Tryz
open _root_.Nat renaming le_refl->B0
open _root_.List renaming length_reverse->O8,take_succ_eq_append_getElem->V8,map_append->L2,map_singleton->V9,any_eq_true->W2
abbrev Pol:=List Mono
structure TyP where
 B:List Pol
 known:Bool
 values:List Pol
 deriving Inhabited,DecidableEq
def TyV.t (x:TyV):TyP:=⟨bN x.B.A,x.known,bN x.values.A⟩
def gK (nums:List Int):TyP:=
 if nums.any (λn=>decide ((gU n).2≠0))=true\/4<nums.length then ⟨if 1<nums.length then [bZ nums.length]else [],false,[]⟩
 else ⟨if 1<nums.length then [bZ nums.length]else [],true,nums.map bZ⟩
abbrev pQ:=Pol->Pol->Pol×Int
def xH (op:pQ):List Pol->List Pol->Option (List Pol)
 |[],_=>some []
 |_::_,[]=>none
 |p::x,q::y=>if (op p q).2≠0 then none else (xH op x y).map ((op p q).1:: ·)
def repT (x:List Pol)(n:Nat):List Pol:=(List.replicate n x).flatten
def tR (a b:TyP):List Pol:=if a.B=[]/\b.B≠[]then repT a.values b.values.length else a.values
def qV (a b:TyP):List Pol:=if b.B=[]/\a.B≠[]then repT b.values a.values.length else b.values
def lK (op:Option pQ)(a b:TyP):List Pol×Bool:=
 match op with
 |none=>([],false)
 |some op=>if a.known=false\/b.known=false then ([],false)else match xH op (tR a b) (qV a b)with
  |none=>([],false)
  |some l=>(l,true)
def addO:pQ:=λp q=>cD p q 1
def zJ:pQ:=λp q=>cD p q (-1)
def rC:Pol->List Pol->Option Pol
 |p,[]=>some p
 |p,s::r=>if (mF p s).2≠0 then none else rC (mF p s).1 r
def gZ (f:Int)(a:TyP):TyP×Int:=
 if f=32 then
  if a.B≠[]then (a,90)else if a.known=false then (a,92)else if gL (a.values.headD [])=false then (a,93)else (⟨[a.values.headD []],false,[]⟩,0)
 else if f=33 then (⟨[bZ a.B.length],true,a.B⟩,0)
 else if f=34 then match rC (bZ 1) a.B with
  |none=>(a,95)
  |some p=>(⟨[p],a.known,a.values⟩,0)
 else if f=35 then (if a.B≠[]then ⟨a.B,a.known,a.values.reverse⟩else a,0)
 else if f=36 then (⟨a.B.reverse,a.known,a.values⟩,0)
 else if f=1 then (a,0)
 else if f=2 then (⟨a.B,(lK (some zJ) ⟨[],true,[[]]⟩ a).2,(lK (some zJ) ⟨[],true,[[]]⟩ a).1⟩,0)
 else (⟨a.B,false,[]⟩,0)
def xP (a b:TyP):TyP×Int:=
 if 1<a.B.length then (a,90)else if a.known=false then (a,92)
 else if a.values.any (λv=>!gL v)=true then (a,93)
 else if b.B.any (λs=>!fO s 1)=true then (a,94)
 else (⟨a.values,false,[]⟩,0)
def bKu (m:Mono):Mono:=⟨1,m.U,m.T,m.R,m.Q,m.O,m.N⟩
def pV (v:Pol):Option Int:=
 match v with
 |[]=>some 0
 |[m]=>if fO [bKu m] 1=false then none else some m.n
 |_=>none
def xF (take:Bool)(n:Int)(l:List Pol):List Pol:=
 if take=decide (0<=n)then l.take (if n<0 then n+l.length else n).toNat else l.drop (if n<0 then n+l.length else n).toNat
def lT (take:Bool)(a b:TyP):TyP×Int:=
 if a.B≠[]\/b.B=[]then (a,90)else if a.known=false then (a,92)
 else match pV (a.values.headD [])with
  |none=>(a,93)
  |some n=>
   if fO (b.B.headD []) (max n (-n))=false then (a,93)
   else if take=true then (⟨bZ (max n (-n))::b.B.tail,b.known,if b.known=true then xF take n b.values else b.values⟩,0)
   else if (cD (b.B.headD []) (bZ (max n (-n))) (-1)).2≠0 then (a,95)
   else (⟨(cD (b.B.headD []) (bZ (max n (-n))) (-1)).1::b.B.tail,b.known,if b.known=true then xF take n b.values else b.values⟩,0)
def dT (l:List Pol):List Pol:=if l=[]then [bZ 1]else l
def xZ (a b:TyP):TyP×Int:=
 if (dT a.B).length≠(dT b.B).length\/(dT a.B).tail≠(dT b.B).tail then (a,91)
 else if (cD ((dT a.B).headD []) ((dT b.B).headD []) 1).2≠0 then (a,95)
 else if a.known=true/\b.known=true/\a.values.length+b.values.length<=4 then (⟨(cD ((dT a.B).headD []) ((dT b.B).headD []) 1).1::(dT b.B).tail,true,a.values++b.values⟩,0)
 else (⟨(cD ((dT a.B).headD []) ((dT b.B).headD []) 1).1::(dT b.B).tail,false,[]⟩,0)
def rS (f:Int):Option pQ:=if f=1 then some addO else if f=2 then some zJ else if f=3 then some mF else none
def oQ (f:Int)(a b:TyP):TyP×Int:=
 if f=37 then xP a b else if f=38 then lT true a b else if f=39 then lT false a b else if f=40 then xZ a b
 else if a.B≠[]/\b.B≠[]/\a.B≠b.B then (⟨a.B,false,[]⟩,91)
 else (⟨if a.B=[]then b.B else a.B,(lK (rS f) a b).2,(lK (rS f) a b).1⟩,0)
abbrev gD:=List (Bs×TyP)
def kH (k:Bs):gD->Option TyP
 |[]=>none
 |p::r=>if k=p.1 then some p.2 else kH k r
def lV:Bs:=[108,105,110,101,32]
def nIn:Bs:=[105,110,32]
def nameT (N:gD)(s:Bs):Option TyP:=match kH (lV++s) N with
 |some t=>some t
 |none=>match kH (nIn++s) N with
  |some t=>some t
  |none=>kH s N
def iO (N:gD)(it:fF)(st:List TyP):TyP×Int:=
 if it.H=1 then (gK it.nums,0)
 else if it.H=2 then (match nameT N it.name with
  |some t=>(t,0)
  |none=>(⟨[],false,[]⟩,83))
 else if it.H=3 then gZ it.fn (st.headD default)
 else if it.H=5 then (if (st.headD default).B=[]then st.headD default else ⟨(st.headD default).B.take ((st.headD default).B.length-1),false,[]⟩,0)
 else if it.H=6 then (if (st.headD default).B=[]then st.headD default else ⟨(st.headD default).B,false,[]⟩,0)
 else if it.H=4 then oQ it.fn (st.tail.headD default) (st.headD default)
 else (⟨(st.tail.headD default).B++(st.headD default).B,false,[]⟩,if 4<(st.tail.headD default).B.length+(st.headD default).B.length then 90 else 0)
def rY (N:gD):List fF->List TyP->List TyP->Except Flt (List TyP×List TyP)
 |[],st,all=> .ok (st,all)
 |it::r,st,all=>if (iO N it st).2≠0 then .error (it.at_,(iO N it st).2)else rY N r ((iO N it st).1::st.drop (fL it)) (all++[(iO N it st).1])
def oH (N:gD):List nF->List (List TyP)->List (List TyP)×Flt
 |[],out=>(out,(0,0))
 |l::r,out=>match rY N l.K [] []with
  |.error f=>([],f)
  |.ok (st,all)=>oH ((lV++l.name,st.getLastD default)::N) r (out++[all])
def bWm (k:Nat):TyP:=⟨[],true,[(oC k).1]⟩
def rN:List Bs->Nat->gD->gD
 |[],_,N=>N
 |s::r,k,N=>rN r (k+1) ((s,bWm k)::N)
def bHb (vars:List Bs)(d:oI):Pol:=if 0<=idxOf d.name vars 0 then (oC (idxOf d.name vars 0)).1 else bZ d.n
def inT (vars:List Bs)(x:hU):TyP:=⟨x.B.map (bHb vars),false,[]⟩
def bHt (vars:List Bs):List hU->gD->gD
 |[],N=>N
 |x::r,N=>bHt vars r ((nIn++x.name,inT vars x)::N)
def sA (p:iL):gD:=bHt (dG p) p.C (rN (dG p) 0 [])
def dX (p:iL):List (List TyP)×Flt:=
 if (dU p).2=false then ([],(0,50))
 else match p.C.find? (tS (dG p))with
  |some x=>([],(x.at_,80))
  |none=>oH (sA p) p.G []
def cM (l:Sl PolV):Fact:=((bT.sl (.slice l.I l.A.length l.cap) l.A).and (polsF l.A)).and (Fact.pure (l.A.length<=l.cap))
def tyF (x:TyV):Fact:=(cM x.B).and (cM x.values)
section
variable {F : List Fact} {l : Sl PolV} {x : TyV} {p : PolV} {xs : List PolV}
theorem oL(h:Has F (cM l)):Has F (bT.sl (j8 l) l.A):=h.left.left
theorem pK(h:Has F (cM l)):Has F (polsF l.A):=h.left.right
theorem bJq(h:Has F (cM l)):Has F (Fact.pure (l.A.length<=l.cap)):=h.right
theorem cE{β:fS}{n:Nat}{Γ:Env}{H:List bK}{F:List Fact}{K:Act->World->Prop}(l:Sl PolV)(h:cM l∈F)(k:l.A.length<=l.cap->At β n Γ H (polsF l.A::bT.sl (j8 l) l.A::F) K):At β n Γ H F K:=bB _ (oL (Has.of h)) (bB _ (Has.cons (pK (Has.of h))) (bF (Has.cons (Has.cons (bJq (Has.of h)))) k))
theorem cB{A:Option Addr}{c:Nat}(h:Has F (bT.sl (.slice A xs.length c) xs))(k:Has F (polsF xs))(hc:xs.length<=c):Has F (cM ⟨A,c,xs⟩):=(h.and k).and (i7 hc)
theorem bO:Has F (cM ⟨none,0,[]⟩):=cB sG Has.each_nil (B0 _)
theorem gP(h:Has F (kI p)):Has F (polsF [p]):=Has.each_cons h Has.each_nil
theorem bS(h:Has F (cM x.B))(k:Has F (cM x.values)):Has F (tyF x):=h.and k
theorem jR(h:Has F (tyF x)):Has F (cM x.B):=h.left
theorem jS(h:Has F (tyF x)):Has F (cM x.values):=h.right
theorem bZi(h:Has F (polsF xs)):Has F (polsF xs.reverse):=λS w k p a=>h S w k p (List.mem_reverse.1 a)
theorem sl_rev{A:Option Addr}{c:Nat}(h:Has F (bT.sl (.slice A xs.length c) xs.reverse)):Has F (bT.sl (.slice A xs.reverse.length c) xs.reverse):=by rw[O8];exact h
end
structure WfT (t:TyP):Prop where
 len:t.B.length<=4
 sr: ∀s∈t.B,dE s=true
 vr: ∀v∈t.values,dE v=true
 kn:t.known=true->t.values.length<=4/\(t.B=[]/\t.values.length=1\/t.B=[bZ t.values.length])
 un:t.known=false->t.values=[]
def tyC (x:TyV):Value:= .agg #[.slice x.B.I x.B.A.length x.B.cap,.bool x.known,.slice x.values.I x.values.A.length x.values.cap]
def bJk (nums:List Int)(l:List PolV)(i:Nat):Prop:=bN l=(nums.take i).map bZ/\(∀n∈nums.take i,(gU n).2=0)/\(0<i->nums.length<=4)
theorem bMr(nums:List Int):bJk nums [] 0:=⟨rfl,λn hn=>by simp at hn,λh=>absurd h m6⟩
section
variable {nums : List Int} {l : List PolV} {i : Nat} {n : Int} {p : PolV}
theorem bJk.len(h:bJk nums l i)(hi:i<=nums.length):l.length=i:=by have:=congrArg List.length h.1;rw[bI,List.length_map,List.length_take]at this;omega
theorem bSx(h:bJk nums l i)(hn:nums[i]?=some n)(hp:p.A=bZ n)(h0:(gU n).2=0)(h4:nums.length<=4):bJk nums (l++[p]) (i+1):=by
 obtain⟨hi,e⟩:=List.getElem?_eq_some_iff.1 hn;obtain⟨a,b,_⟩:=h;refine⟨?_,λm c=>?_,λ_=>h4⟩
 .rw[V8 hi,e,L2,<-a];unfold bN;rw[L2,V9,V9,hp]
 .rw[V8 hi,e]at c
  rcases List.mem_append.1 c with c|c
  .exact b m c
  .rw[List.mem_singleton.1 c];exact h0
theorem bDw(hn:nums[i]?=some n)(h:(gU n).2≠0\/4<nums.length):gK nums=⟨if 1<nums.length then [bZ nums.length]else [],false,[]⟩:=by
 unfold gK;rw[if_pos]
 rcases h with h|h
 .refine .inl (W2.2 ⟨n,List.mem_of_getElem? hn,?_⟩)
  simpa using h
 .exact .inr h
theorem lit_end(h:bJk nums l i)(hi:nums.length<=i)(hl:i<=nums.length):gK nums=⟨if 1<nums.length then [bZ nums.length]else [],true,bN l⟩:=by
 obtain⟨a,b,c⟩:=h;rw[List.take_of_length_le hi]at a b;unfold gK;rw[if_neg,a];rintro(k|k)
 .obtain⟨n,hn,k⟩:=W2.1 k;have:=b n hn;simp[this]at k
 .have:=c l7;omega
end
theorem bVo(l:Sl PolV)(hl:l.A.length<=5864062014805):cY prog 56 [j8 l] [] [cM l] (λ(x:Option Addr×Nat)=> .slice x.1 l.A.reverse.length x.2) (λ_=>[]) (λ(x:Option Addr×Nat)=>[cM ⟨x.1,x.2,l.A.reverse⟩]):=by have hT:=dK;refine j5 func56 ntmps56 ?_;intro β hM;refine g8 ?_;refine j2 func94 (bCi l.I l.cap l.A hl) ⟨oL d7,i6⟩ λ⟨A1,c2⟩=>?_;refine g6 ?_;refine bD func95 (bWo A1 c2 l.A l7) rfl rfl (.c0 .nil) i6 λ_=>?_;refine g9 ?_;refine fW .head λa=>bR .head ?_;exact rs1 (A1,c2) ⟨cB (sl_rev d7) (bZi (pK d8)) (by simpa using a),i6⟩ (he:=by rw[O8])
theorem bWn(A:Option Addr)(c:Nat)(nums:List Int)(hl:nums.length<=1000000):cY prog 33 [.slice A nums.length c] [] [bOt.sl (.slice A nums.length c) nums] (λ(x:TyV)=>tyC x) (λ_=>[]) (λ(x:TyV)=>[tyF x,Fact.pure (x.t=gK nums)]):=by
 have hT:=dK;refine j5 func33 ntmps33 ?_;intro β hM;refine g2 ?_;refine j1 sQ λw=>?_;refine g15 ?_;refine dP (λhc11=>?_) λhc11=>?_
 .refine g3 ?_;refine j2 func31 (lO (((nums.length:Nat):Int))) i6 λ⟨A2,c3⟩=>?_;refine j7 (m:=⟨A2,c3,bZ (((nums.length:Nat):Int))⟩) λd=>?_;refine dO (E:=bT) (xs:=[(⟨A2,c3,bZ (((nums.length:Nat):Int))⟩:PolV)]) .head aa1<|bR .head<|bB (polsF [(⟨A2,c3,bZ (((nums.length:Nat):Int))⟩:PolV)]) (gP d8) ?_;refine g6 ?_;refine j2 func30 (kV (some ⟨d,0,none⟩) none ([(⟨A2,c3,bZ (((nums.length:Nat):Int))⟩:PolV)].length) (0) 1 0) i6 λ_=>?_;refine j1 sQ λs=>?_;refine g12 ?_;refine bQ (t:=40) bT<|bB (polsF []) (Has.each_nil) ?_;refine cF (ι:=Nat×List PolV×Option Addr×Nat) [(0,_),(2,_),(3,_),(4,_),(18,_),(19,_)] ⟨rfl,rfl,rfl,rfl,rfl,rfl,i6⟩ (λ⟨i,vs,V,cv⟩=>[(20,.int .i64 (i:Nat))]) (λ⟨i,vs,V,cv⟩=>[.obj s (.cells [.slice (some ⟨d,0,none⟩) ([(⟨A2,c3,bZ (((nums.length:Nat):Int))⟩:PolV)].length) 1,.bool true,.slice V vs.length cv].toArray 38),bT.row (.slice V vs.length cv) 40 vs]) (λ⟨i,vs,V,cv⟩=>[Fact.pure (i<=nums.length/\bJk nums vs i),polsF vs]) (λ⟨i,vs,V,cv⟩=>nums.length-i) (0,[],none,0) ⟨rfl,i6⟩ (.c1 (.c0 .nil)) ⟨i7 (⟨l7,bMr nums⟩),d7,i6⟩ ?_;rintro⟨i,vs,V,cv⟩;dsimp only;refine bF d7 λa=>?_;refine g6 ?_;refine dP (λg=>?_) λg=>?_
  .refine g6 ?_;obtain⟨x6,j⟩:=gx nums i;refine ss (ixs i) ?_;refine ss (fG j 0) ?_;refine g6 ?_;refine j2 func54 (bGh x6) i6 λ⟨A8,c9⟩=>?_;refine g13 ?_;refine yQ (λe=>?_) λe=>?_
   .refine g10 ?_;refine j2 func32 (fI (some ⟨d,0,none⟩) ([(⟨A2,c3,bZ (((nums.length:Nat):Int))⟩:PolV)].length) 1) i6 λ_=>?_;refine g10 ?_;have hr:gK nums=TyV.t ⟨⟨(some ⟨d,0,none⟩),1,[(⟨A2,c3,bZ (((nums.length:Nat):Int))⟩:PolV)]⟩,false,⟨none,0,[]⟩⟩:=(bDw j z7).trans v6;exact rs1 ⟨⟨(some ⟨d,0,none⟩),1,[(⟨A2,c3,bZ (((nums.length:Nat):Int))⟩:PolV)]⟩,false,⟨none,0,[]⟩⟩ ⟨(bS (x:=⟨⟨(some ⟨d,0,none⟩),1,[(⟨A2,c3,bZ (((nums.length:Nat):Int))⟩:PolV)]⟩,false,⟨none,0,[]⟩⟩) (cB e8 e7 (B0 1)) bO),i7 hr.symm,i6⟩
   refine g6 ?_;refine dP (λf=>?_) λf=>?_
   .refine g3 ?_;refine j2 func32 (fI (some ⟨d,0,none⟩) ([(⟨A2,c3,bZ (((nums.length:Nat):Int))⟩:PolV)].length) 1) i6 λ_=>?_;refine g10 ?_;have hr:gK nums=TyV.t ⟨⟨(some ⟨d,0,none⟩),1,[(⟨A2,c3,bZ (((nums.length:Nat):Int))⟩:PolV)]⟩,false,⟨none,0,[]⟩⟩:=(bDw j z7).trans v6;exact rs1 ⟨⟨(some ⟨d,0,none⟩),1,[(⟨A2,c3,bZ (((nums.length:Nat):Int))⟩:PolV)]⟩,false,⟨none,0,[]⟩⟩ ⟨(bS (x:=⟨⟨(some ⟨d,0,none⟩),1,[(⟨A2,c3,bZ (((nums.length:Nat):Int))⟩:PolV)]⟩,false,⟨none,0,[]⟩⟩) (cB e8 e7 (B0 1)) bO),i7 hr.symm,i6⟩
   refine g6 ?_;refine j7 (m:=(⟨A8,c9,(gU x6).1⟩:PolV)) λv=>?_;refine bB (polsF (vs++[((⟨A8,c9,(gU x6).1⟩:PolV):PolV)])) (Has.each_snoc d9 d7) ?_;have l:=a.2.len a.1;refine cU kT2 (bU .head rfl) rfl rfl rfl rfl rfl rfl rfl q9 λr o=>?_;refine g7 ?_;refine inc (i+1) ?_;refine g3 ?_;exact bk2 (i+1,vs++[((⟨A8,c9,(gU x6).1⟩:PolV):PolV)],r,o) ⟨i7 (⟨by dsimp only;omega,bSx a.2 j rfl ae6 l7⟩),d7,i6⟩
  refine g6 ?_;refine fW kT1 λk=>bR kT1 ?_;refine g6 ?_;have hr:gK nums=TyV.t ⟨⟨(some ⟨d,0,none⟩),1,[(⟨A2,c3,bZ (((nums.length:Nat):Int))⟩:PolV)]⟩,true,⟨V,cv,vs⟩⟩:=(lit_end a.2 l7 a.1).trans v6;exact rs1 ⟨⟨(some ⟨d,0,none⟩),1,[(⟨A2,c3,bZ (((nums.length:Nat):Int))⟩:PolV)]⟩,true,⟨V,cv,vs⟩⟩ ⟨(bS (x:=⟨⟨(some ⟨d,0,none⟩),1,[(⟨A2,c3,bZ (((nums.length:Nat):Int))⟩:PolV)]⟩,true,⟨V,cv,vs⟩⟩) (cB e8 e7 (B0 1)) (cB d7 d9 (k))),i7 hr.symm,i6⟩
 refine g5 ?_;refine j2 func30 (kV none none (0) (0) 0 0) i6 λ_=>?_;refine j1 sQ λp=>?_;refine g12 ?_;refine bQ (t:=40) bT<|bB (polsF []) (Has.each_nil) ?_;refine cF (ι:=Nat×List PolV×Option Addr×Nat) [(0,_),(2,_),(3,_),(4,_),(18,_),(19,_)] ⟨rfl,rfl,rfl,rfl,rfl,rfl,i6⟩ (λ⟨i,vs,V,cv⟩=>[(20,.int .i64 (i:Nat))]) (λ⟨i,vs,V,cv⟩=>[.obj p (.cells [.slice none (0) 0,.bool true,.slice V vs.length cv].toArray 38),bT.row (.slice V vs.length cv) 40 vs]) (λ⟨i,vs,V,cv⟩=>[Fact.pure (i<=nums.length/\bJk nums vs i),polsF vs]) (λ⟨i,vs,V,cv⟩=>nums.length-i) (0,[],none,0) ⟨rfl,i6⟩ (.c1 (.c0 .nil)) ⟨i7 (⟨l7,bMr nums⟩),d7,i6⟩ ?_;rintro⟨i,vs,V,cv⟩;dsimp only;refine bF d7 λa=>?_;refine g6 ?_;refine dP (λg=>?_) λg=>?_
 .refine g6 ?_;obtain⟨h,b⟩:=gx nums i;refine ss (ixs i) ?_;refine ss (fG b 0) ?_;refine g6 ?_;refine j2 func54 (bGh h) i6 λ⟨A16,c17⟩=>?_;refine g13 ?_;refine yQ (λe=>?_) λe=>?_
  .refine g10 ?_;refine j2 func32 (fI none (0) 0) i6 λ_=>?_;refine g10 ?_;have hr:gK nums=TyV.t ⟨⟨none,0,[]⟩,false,⟨none,0,[]⟩⟩:=(bDw b z7).trans v6;exact rs1 ⟨⟨none,0,[]⟩,false,⟨none,0,[]⟩⟩ ⟨(bS (x:=⟨⟨none,0,[]⟩,false,⟨none,0,[]⟩⟩) bO bO),i7 hr.symm,i6⟩
  refine g6 ?_;refine dP (λf=>?_) λf=>?_
  .refine g3 ?_;refine j2 func32 (fI none (0) 0) i6 λ_=>?_;refine g10 ?_;have hr:gK nums=TyV.t ⟨⟨none,0,[]⟩,false,⟨none,0,[]⟩⟩:=(bDw b z7).trans v6;exact rs1 ⟨⟨none,0,[]⟩,false,⟨none,0,[]⟩⟩ ⟨(bS (x:=⟨⟨none,0,[]⟩,false,⟨none,0,[]⟩⟩) bO bO),i7 hr.symm,i6⟩
  refine g6 ?_;refine j7 (m:=(⟨A16,c17,(gU h).1⟩:PolV)) λu=>?_;refine bB (polsF (vs++[((⟨A16,c17,(gU h).1⟩:PolV):PolV)])) (Has.each_snoc d9 d7) ?_;have l:=a.2.len a.1;refine cU kT2 (bU .head rfl) rfl rfl rfl rfl rfl rfl rfl q9 λq n=>?_;refine g7 ?_;refine inc (i+1) ?_;refine g3 ?_;exact bk2 (i+1,vs++[((⟨A16,c17,(gU h).1⟩:PolV):PolV)],q,n) ⟨i7 (⟨by dsimp only;omega,bSx a.2 b rfl ae6 l7⟩),d7,i6⟩
 refine g6 ?_;refine fW kT1 λk=>bR kT1 ?_;refine g6 ?_;have hr:gK nums=TyV.t ⟨⟨none,0,[]⟩,true,⟨V,cv,vs⟩⟩:=(lit_end a.2 l7 a.1).trans v6;exact rs1 ⟨⟨none,0,[]⟩,true,⟨V,cv,vs⟩⟩ ⟨(bS (x:=⟨⟨none,0,[]⟩,true,⟨V,cv,vs⟩⟩) bO (cB d7 d9 (k))),i7 hr.symm,i6⟩
