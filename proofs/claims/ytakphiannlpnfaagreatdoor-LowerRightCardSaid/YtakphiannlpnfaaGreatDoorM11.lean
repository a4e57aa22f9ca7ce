/- Texts of one proof, one behind the other: CoreP, LowP, LowA, TypA. -/
import Derived.Test.YtakphiannlpnfaaGreatDoorM10
import Derived.Test.YtakphiannlpnfaaGreatDoorM2
namespace Go.Proofs.YtakphiannlpnfaaGreatDoor
open Go.RowKit Go.Proofs.Tryz
set_option maxRecDepth 100000
structure OpC where
 how:Int
 k:Int
 n:Int
 p:List Mono
 fn:Int
 deriving DecidableEq
structure rG where
 sides:List (List Mono)
 input:Int
 deriving DecidableEq
structure zI where
 how:Int
 buf:Int
 at_:List Mono
 loops:List (List Mono)
 fn:Int
 ops:List OpC
 deriving DecidableEq
structure wY where
 vars:Int
 bufs:List rG
 steps:List zI
 outs:List Int
 deriving DecidableEq
def gZ (f:Int)(two:Bool):Bool:=if f<1∨17<f then false else if f=16 then !two else two || decide (f≤7)
def fQ (h:Int):Int:=if h=1∨h=2∨h=3 then 0 else if h=4∨h=5 then 1 else if h=6 then 2 else-1
def vP:List OpC→Int→Int→Int
 | [],most,now=>if now=1 then most else-1
 | o::r,most,now=>if fQ o.how<0∨now<fQ o.how then-1 else vP r (max most (now+(1-fQ o.how))) (now+(1-fQ o.how))
def bAg (l:List OpC):Int:=vP l 0 0
def clampK(vars:Int):Nat:=(min (max vars 0) 6).toNat
def ofB (p:List Mono)(vars:Int):Bool:=p.all (fun m=>(m.E.drop (clampK vars)).all (fun e=>e==0))&&cU p
def lB (l:List (List Mono))(vars:Int):Bool:=l.all (fun p=>ofB p vars&&fS p)&&decide (l.length≤4)
def opB (vars loops buf:Int)(made:List Bool)(o:OpC):Bool:=
 if o.how=1 then o.k==0&&(o.p.isEmpty&&o.fn==0)
 else if o.how=2 then ofB o.p vars&&(o.n==0&&(o.k==0&&o.fn==0))
 else if o.how=3 then decide (0≤o.k∧o.k<loops)&&(o.n==0&&(o.p.isEmpty&&o.fn==0))
 else if o.how=4 then decide (0≤o.k∧o.k≠buf)&&(made.getD o.k.toNat false&&(o.n==0&&(o.p.isEmpty&&o.fn==0)))
 else if o.how=5∨o.how=6 then gZ o.fn (o.how==6)&&(o.n==0&&(o.k==0&&o.p.isEmpty))
 else false
def uP (vars:Int)(made:List Bool)(x:zI):Bool:=
 (ofB x.at_ vars&&fS x.at_)&&(lB x.loops vars&&(decide (x.ops.length≤256)&&(decide (0≤bAg x.ops)&&
  ((if x.how=1 then x.fn==0 else if x.how=2∨x.how=3 then !x.loops.isEmpty&&gZ x.fn true else false)&&x.ops.all (opB vars x.loops.length x.buf made)))))
def bEj (vars:Int):List rG→List Int→Bool
 | [],_=>true
 | b::r,seen=>lB b.sides vars&&(decide (-1≤b.input∧b.input<64)&&(!(seen.contains b.input)&&bEj vars r (if 0≤b.input then b.input::seen else seen)))
def bBh (vars:Int)(bufs:List rG):List zI→List Bool→Bool
 | [],_=>true
 | x::r,made=>(decide (0≤x.buf)&&(match bufs[x.buf.toNat]? with
   | some b=>decide (b.input<0)
   | none=>false))&&(uP vars made x&&bBh vars bufs r (made.set x.buf.toNat true))
def zK (bufs:List rG):List Bool:=bufs.map fun b=>decide (0≤b.input)
def wJ (c:wY):Bool:=
 decide (0≤c.vars∧c.vars≤6∧c.bufs.length≤1024∧c.steps.length≤1024∧c.outs.length≤64)&&(bEj c.vars c.bufs []&&(bBh c.vars c.bufs c.steps (zK c.bufs)&&c.outs.all fun k=>decide (0≤k∧k<c.bufs.length)))
structure iA where
 t:TyP
 buf:Int
 deriving Inhabited
def oN (n:Int):OpC:=⟨1,0,n,[],0⟩
def oV (p:Pol):OpC:=⟨2,0,0,p,0⟩
def oI (k:Int):OpC:=⟨3,k,0,[],0⟩
def oL (k:Int):OpC:=⟨4,k,0,[],0⟩
def oM (f:Int):OpC:=⟨5,0,0,[],f⟩
def oD (f:Int):OpC:=⟨6,0,0,[],f⟩
abbrev bDr:=Nat→List OpC
def yI (I:bDr):Nat→List Pol→List OpC→List OpC
 | _,[],out=>out
 | k,s::r,out=>yI I (k+1) r ([out,[oV s],[oD 3],I k,[oD 1]].flatten)
def spotL (S:List Pol)(I:bDr):List OpC:=match S with
 | []=>[oN 0]
 | _::r=>yI I 1 r (I 0)
def bVp (first:Nat):bDr:=fun k=>[oI ((first+k:Nat):Int)]
def idI:bDr:=fun k=>[oI k]
def atL (a:iA)(I:bDr):List OpC:=spotL a.t.sides I++[oL a.buf]
def fromL (a:iA)(first:Nat):List OpC:=atL a (bVp first)
structure LoS where
 bufs:List rG
 steps:List zI
def tC (how:Int)(at_:Pol)(loops:List Pol)(f:Int)(ops:List OpC)(s:LoS):LoS:=⟨s.bufs,s.steps++[⟨how,s.bufs.length,at_,loops,f,ops⟩]⟩
def iQ (loops:List Pol)(ops:List OpC)(s:LoS):LoS:=tC 1 [] loops 0 ops s
def zH:Nat→List Int→LoS→LoS
 | _,[],s=>s
 | i,x::r,s=>zH (i+1) r (tC 1 (bT i) [] 0 [oN x] s)
def sX:Nat→List Pol→LoS→LoS
 | _,[],s=>s
 | i,x::r,s=>sX (i+1) r (tC 1 (bT i) [] 0 [oV x] s)
def bKp (S:List Pol):bDr:=fun k=>if k<S.length-1 then [oI k] else [[oV (S.getD k [])],[oN 1],[oD 2],[oI k],[oD 2]].flatten
def bHd (S:List Pol):bDr:=fun k=>[oI ((S.length-1-k:Nat):Int)]
def mL (f:Int)(a:iA)(t:TyP)(s:LoS):LoS:=
 if f=32 then iQ t.sides [oI 0] s
 else if f=33 then (if a.t.sides=[] then iQ [[]] [oN 0] s else sX 0 a.t.sides s)
 else if f=34 then iQ t.sides [[oI 0],[oL a.buf]].flatten s
 else if f=35 then iQ t.sides (atL a (bKp a.t.sides)) s
 else if f=36 then iQ t.sides (atL a (bHd a.t.sides)) s
 else iQ t.sides [fromL a 0,[oM f]].flatten s
def bHv:List Pol→List OpC→List OpC
 | [],out=>out
 | s::r,out=>bHv r ([out,[oV s],[oD 3]].flatten)
def rhoL (b:iA)(t:TyP):List OpC:=match b.t.sides with
 | []=>fromL b 0
 | s::r=>[bHv r [oV s],spotL t.sides idI,[oD 5],[oL b.buf]].flatten
def bXl (v:Pol):Int:=v.foldl (fun _ m=>m.n) 0
def qW (f n:Int)(S:List Pol):bDr:=fun k=>
 if k=0∧f=38∧n<0 then [[oV (S.headD [])],[oN n],[oD 1],[oI 0],[oD 1]].flatten
 else if k=0∧f=39∧0<n then [[oN n],[oI 0],[oD 1]].flatten
 else [oI k]
def mX (f:Int)(a b:iA)(t:TyP)(s:LoS):Option LoS:=
 if f=37 then some (iQ t.sides (rhoL b t) s)
 else if f=38∨f=39 then some (iQ t.sides (atL b (qW f (bXl (a.t.values.headD [])) b.t.sides)) s)
 else if f=40 then (match lK (bT 1) a.t.sides with
  | none=>none
  | some p=>some (tC 1 p b.t.sides 0 (fromL b 0) (iQ a.t.sides (fromL a 0) s)))
 else some (iQ t.sides [fromL a 0,fromL b 0,[oD f]].flatten s)
abbrev iI:=List (Bs×iA)
def uV (k:Bs):iI→Option iA
 | []=>none
 | p::r=>if k=p.1 then some p.2 else uV k r
def yV (t:TyP)(n:Nat)(st:List iA)(s:LoS):Except Int (List iA×LoS):=
 if 1024<s.bufs.length+1∨1024<s.steps.length then .error 111 else .ok (⟨t,(s.bufs.length:Nat)⟩::st.drop n,⟨s.bufs++[⟨t.sides,-1⟩],s.steps⟩)
def iJ (N:iI)(it:cT)(t:TyP)(st:List iA)(s:LoS):Except Int (List iA×LoS):=
 if it.how=1 then yV t 0 st (zH 0 it.nums s)
 else if it.how=2 then (match uV it.name N with
  | some v=> .ok (v::st,s)
  | none=>yV t 0 st (iQ [] [oV (t.values.headD [])] s))
 else if it.how=3 then yV t 1 st (mL it.fn (st.headD default) t s)
 else if it.how=5∨it.how=6 then (if (st.headD default).t.sides=[] then .ok (st,s)
  else yV t 1 st (tC (if it.how=6 then 3 else 2) [] (st.headD default).t.sides it.fn (fromL (st.headD default) 0) s))
 else if it.how=4 then (match mX it.fn (st.tail.headD default) (st.headD default) t s with
  | none=> .error 110
  | some s'=>yV t 2 st s')
 else yV t 2 st (iQ t.sides [fromL (st.tail.headD default) 0,fromL (st.headD default) (st.tail.headD default).t.sides.length,[oD it.fn]].flatten s)
def qY (N:iI):List cT→List TyP→List iA→LoS→Except Flt (List iA×LoS)
 | [],_,st,s=> .ok (st,s)
 | it::r,T,st,s=>match iJ N it (T.headD default) st s with
  | .error e=> .error (it.at_,e)
  | .ok x=>qY N r T.tail x.1 x.2
def lO (N:iI):List mT→List (List TyP)→LoS→List Int→Except Flt (LoS×List Int)
 | [],_,s,outs=> .ok (s,outs)
 | l::r,T,s,outs=>match qY N l.items (T.headD []) [] s with
  | .error f=> .error f
  | .ok x=>lO ((l.name,x.1.getLastD default)::N) r T.tail x.2 (outs++[(x.1.getLastD default).buf])
def zT (vars:List Bs):Nat→List gM→iI→iI
 | _,[],N=>N
 | i,x::r,N=>zT vars (i+1) r ((x.name,⟨inT vars x,(i:Nat)⟩)::N)
def rB (vars:List Bs):Nat→List gM→List rG
 | _,[]=>[]
 | i,x::r=>⟨(inT vars x).sides,i⟩::rB vars (i+1) r
def noCore:wY:=⟨0,[],[],[]⟩
def gT (p:gN):wY×Flt:=
 if (fI p).2≠(0,0) then (noCore,(fI p).2)
 else match lO (zT (cJ p) 0 p.inputs []) p.lines (fI p).1 ⟨rB (cJ p) 0 p.inputs,[]⟩ [] with
  | .error f=>(noCore,f)
  | .ok x=>(⟨(cJ p).length,x.1.bufs,x.1.steps,x.2⟩,(0,0))
def Ext (s s':LoS):Prop:=s.bufs<+:s'.bufs∧s.steps<+:s'.steps
theorem Ext.refl(s:LoS):Ext s s:=⟨List.prefix_refl _,List.prefix_refl _⟩
theorem Ext.trans{a b c:LoS}(h:Ext a b)(k:Ext b c):Ext a c:=⟨h.1.trans k.1,h.2.trans k.2⟩
theorem wN(h:Int)(a:Pol)(l:List Pol)(f:Int)(o:List OpC)(s:LoS):Ext s (tC h a l f o s):=⟨List.prefix_refl _,List.prefix_append _ _⟩
theorem pG(l:List Pol)(o:List OpC)(s:LoS):Ext s (iQ l o s):=wN ..
theorem bPr: ∀(l:List Int) (i:Nat) (s:LoS),Ext s (zH i l s)
 | [],_,_=>Ext.refl _
 | _::l,i,_=>(wN ..).trans (bPr l (i+1) _)
theorem bXq: ∀(l:List Pol) (i:Nat) (s:LoS),Ext s (sX i l s)
 | [],_,_=>Ext.refl _
 | _::l,i,_=>(wN ..).trans (bXq l (i+1) _)
theorem bVi(f:Int)(a:iA)(t:TyP)(s:LoS):Ext s (mL f a t s):=by
 unfold mL
 repeat' split
 all_goals first | exact pG .. | exact bXq ..
theorem dyad_ext{f:Int}{a b:iA}{t:TyP}{s s':LoS}(h:mX f a b t s=some s'):Ext s s':=by
 unfold mX at h;split at h
 ·cases h;exact pG ..
 ·split at h
  ·cases h;exact pG ..
  ·split at h
   ·cases e:lK (bT 1) a.t.sides with
    | none=>rw [e] at h;cases h
    | some p=>rw [e] at h;cases h;exact(pG ..).trans (wN ..)
   ·cases h;exact pG ..
theorem xZ{t:TyP}{n:Nat}{st:List iA}{s:LoS}{x:List iA×LoS}(h:yV t n st s= .ok x):Ext s x.2:=by
 unfold yV at h;split at h
 ·cases h
 ·cases h;exact⟨List.prefix_append _ _,List.prefix_refl _⟩
theorem item_ext{N:iI}{it:cT}{t:TyP}{st:List iA}{s:LoS}{x:List iA×LoS}(h:iJ N it t st s= .ok x):Ext s x.2:=by
 unfold iJ at h;split at h
 ·exact(bPr ..).trans (xZ h)
 ·split at h
  ·cases e:uV it.name N with
   | none=>rw [e] at h;exact(pG ..).trans (xZ h)
   | some v=>rw [e] at h;cases h;exact Ext.refl _
  ·split at h
   ·exact(bVi ..).trans (xZ h)
   ·split at h
    ·split at h
     ·cases h;exact Ext.refl _
     ·exact(wN ..).trans (xZ h)
    ·split at h
     ·cases e:mX it.fn (st.tail.headD default) (st.headD default) t s with
      | none=>rw [e] at h;cases h
      | some s'=>rw [e] at h;exact(dyad_ext e).trans (xZ h)
     ·exact(pG ..).trans (xZ h)
theorem bSt{N:iI}: ∀{l:List cT} {T:List TyP} {st:List iA} {s:LoS} {x:List iA×LoS},qY N l T st s= .ok x→Ext s x.2
 | [],_,_,_,_,h=>by cases h;exact Ext.refl _
 | it::l,T,st,s,x,h=>by
  rw [qY] at h
  cases e:iJ N it (T.headD default) st s with
  | error _=>rw [e] at h;cases h
  | ok y=>rw [e] at h;exact(item_ext e).trans (bSt h)
theorem bXp: ∀{ls:List mT} {N:iI} {T:List (List TyP)} {s:LoS} {o:List Int} {x:LoS×List Int},lO N ls T s o= .ok x→Ext s x.1∧o<+:x.2∧x.2.length=o.length+ls.length
 | [],_,_,_,_,_,h=>by cases h;exact⟨Ext.refl _,List.prefix_refl _,rfl⟩
 | l::ls,N,T,s,o,x,h=>by
  rw [lO] at h
  cases e:qY N l.items (T.headD []) [] s with
  | error _=>rw [e] at h;cases h
  | ok y=>
   rw [e] at h;obtain⟨h1,h2,h3⟩:=bXp h;exact⟨(bSt e).trans h1,(List.prefix_append _ _).trans h2,by rw [h3,List.length_append];simp;omega⟩
theorem item_bad{N:iI}{it:cT}{t:TyP}{st:List iA}{s:LoS}{e:Int}(h:iJ N it t st s= .error e):e=110∨e=111:=by
 have hp: ∀{t n st s},yV t n st s= .error e→e=110∨e=111:=fun{t n st s} h=>by
  unfold yV at h;split at h
  ·cases h;exact .inr rfl
  ·cases h
 unfold iJ at h;split at h
 ·exact hp h
 ·split at h
  ·split at h
   ·cases h
   ·exact hp h
  ·split at h
   ·exact hp h
   ·split at h
    ·split at h
     ·cases h
     ·exact hp h
    ·split at h
     ·split at h
      ·cases h;exact .inl rfl
      ·exact hp h
     ·exact hp h
theorem line_bad{N:iI}: ∀{l:List cT} {T:List TyP} {st:List iA} {s:LoS} {f:Flt},qY N l T st s= .error f→f.2=110∨f.2=111
 | [],_,_,_,_,h=>by cases h
 | it::l,T,st,s,f,h=>by
  rw [qY] at h
  cases e:iJ N it (T.headD default) st s with
  | error _=>rw [e] at h;cases h;exact item_bad e
  | ok y=>rw [e] at h;exact line_bad h
theorem bSu: ∀{ls:List mT} {N:iI} {T:List (List TyP)} {s:LoS} {o:List Int} {f:Flt},lO N ls T s o= .error f→f.2=110∨f.2=111
 | [],_,_,_,_,_,h=>by cases h
 | l::ls,N,T,s,o,f,h=>by
  rw [lO] at h
  cases e:qY N l.items (T.headD []) [] s with
  | error _=>rw [e] at h;cases h;exact line_bad e
  | ok y=>rw [e] at h;exact bSu h
theorem lines_bad{ls:List mT}{N:iI}{T:List (List TyP)}{s:LoS}{o:List Int}{f:Flt}(h:lO N ls T s o= .error f):f.2≠0:=by
 have:=bSu h;omega
theorem bDo{N:dT}: ∀{l:List cT} {st all:List TyP} {f:Flt},mE N l st all= .error f→f.2≠0
 | [],_,_,_,h=>by cases h
 | it::l,st,all,f,h=>by
  rw [mE] at h;split at h
  ·cases h;assumption
  ·exact bDo h
theorem bEy: ∀{ls:List mT} {N:dT} {o R:List (List TyP)},kS N ls o=(R,(0,0))→o<+:R∧R.length=o.length+ls.length
 | [],N,o,R,h=>by cases h;exact⟨List.prefix_refl _,rfl⟩
 | l::ls,N,o,R,h=>by
  rw [kS] at h
  cases e:mE N l.items [] [] with
  | error f=>
   rw [e] at h;injection h with _ h
   exact absurd (by rw [h]) (bDo e)
  | ok y=>
   rw [e] at h;obtain⟨h1,h2⟩:=bEy h;exact⟨(List.prefix_append _ _).trans h1,by rw [h2,List.length_append];simp;omega⟩
theorem lowerP_ok{p:gN}(h:(gT p).2=(0,0)): ∃x,(fI p).2=(0,0)∧lO (zT (cJ p) 0 p.inputs []) p.lines (fI p).1 ⟨rB (cJ p) 0 p.inputs,[]⟩ []= .ok x∧(gT p).1=⟨(cJ p).length,x.1.bufs,x.1.steps,x.2⟩:=by
 unfold gT at h⊢;split at h
 ·rename_i hn;exact absurd h hn
 ·rename_i hn;rw [if_neg hn]
  cases e:lO (zT (cJ p) 0 p.inputs []) p.lines (fI p).1 ⟨rB (cJ p) 0 p.inputs,[]⟩ [] with
  | error f=>
   rw [e] at h;exact absurd (show f.2=0 from congrArg Prod.snd h) (lines_bad e)
  | ok x=>exact⟨x,by simpa using hn,rfl,rfl⟩
theorem bXx{p:gN}(h:(fI p).2=(0,0)):fI p=kS (pM p) p.lines []:=by
 unfold fI at h⊢;split at h
 ·cases h
 ·rename_i hn;rw [if_neg hn]
  cases e:p.inputs.find? (bDv (cJ p)) with
  | some x=>rw [e] at h;exact absurd (show(80:Int)=0 from congrArg Prod.snd h) o9
  | none=>rfl
def listF (l:Sl PolV):Fact:=((bS.sl (.slice l.addr l.list.length l.cap) l.list).and (cQ l.list)).and (Fact.pure (l.list.length≤l.cap))
def tyF (x:TyV):Fact:=(listF x.sides).and (listF x.values)
section
variable {F : List Fact} {l : Sl PolV} {x : TyV} {p : PolV} {xs : List PolV}
theorem xQ(h:Has F (listF l)):Has F (bS.sl (.slice l.addr l.list.length l.cap) l.list):=h.left.left
theorem bGf(h:Has F (listF l)):Has F (cQ l.list):=h.left.right
theorem listF_c(h:Has F (listF l)):Has F (Fact.pure (l.list.length≤l.cap)):=h.right
theorem cG{β:dF}{n:Nat}{Γ:Env}{H:List bH}{F:List Fact}{K:Act→World→Prop}(l:Sl PolV)(h:listF l∈F)(k:l.list.length≤l.cap→At β n Γ H (cQ l.list::bS.sl (.slice l.addr l.list.length l.cap) l.list::F) K):At β n Γ H F K:=bB _ (xQ (Has.of h)) (bB _ (Has.cons (bGf (Has.of h))) (bC (Has.cons (Has.cons (listF_c (Has.of h)))) k))
theorem cH{A:Option Addr}{c:Nat}(h:Has F (bS.sl (.slice A xs.length c) xs))(k:Has F (cQ xs))(hc:xs.length≤c):Has F (listF ⟨A,c,xs⟩):=(h.and k).and (j3 hc)
theorem cL:Has F (listF ⟨none,0,[]⟩):=cH qN Has.each_nil (Nat.le_refl _)
theorem jH(h:Has F (kT p)):Has F (cQ [p]):=Has.each_cons h Has.each_nil
theorem bZ(h:Has F (listF x.sides))(k:Has F (listF x.values)):Has F (tyF x):=h.and k
theorem mA(h:Has F (tyF x)):Has F (listF x.sides):=h.left
theorem mD(h:Has F (tyF x)):Has F (listF x.values):=h.right
theorem polsF_rev(h:Has F (cQ xs)):Has F (cQ xs.reverse):=fun S w k p hp=>h S w k p (List.mem_reverse.1 hp)
theorem sl_rev{A:Option Addr}{c:Nat}(h:Has F (bS.sl (.slice A xs.length c) xs.reverse)):Has F (bS.sl (.slice A xs.reverse.length c) xs.reverse):=by rw [List.length_reverse];exact h
end
structure WfT (t:TyP):Prop where
 len:t.sides.length≤4
 sr: ∀s∈t.sides,cU s=true
 vr: ∀v∈t.values,cU v=true
 kn:t.known=true→t.values.length≤4∧(t.sides=[]∧t.values.length=1∨t.sides=[bT t.values.length])
 un:t.known=false→t.values=[]
def tyC (x:TyV):Value:= .agg #[.slice x.sides.addr x.sides.list.length x.sides.cap,.bool x.known,.slice x.values.addr x.values.list.length x.values.cap]
def bLp (nums:List Int)(l:List PolV)(i:Nat):Prop:=bJ l=(nums.take i).map bT∧(∀n∈nums.take i,(iN n).2=0)∧(0<i→nums.length≤4)
theorem bWs(nums:List Int):bLp nums [] 0:=⟨rfl,fun n hn=>by simp at hn,fun h=>absurd h o9⟩
section
variable {nums : List Int} {l : List PolV} {i : Nat} {n : Int} {p : PolV}
theorem bLp.len(h:bLp nums l i)(hi:i≤nums.length):l.length=i:=by
 have:=congrArg List.length h.1;rw [bF,List.length_map,List.length_take] at this;omega
theorem lit_step(h:bLp nums l i)(hn:nums[i]?=some n)(hp:p.list=bT n)(h0:(iN n).2=0)(h4:nums.length≤4):bLp nums (l++[p]) (i+1):=by
 obtain⟨hi,e⟩:=List.getElem?_eq_some_iff.1 hn;obtain⟨a,b,_⟩:=h;refine⟨?_,fun m hm=>?_,fun _=>h4⟩
 ·rw [List.take_succ_eq_append_getElem hi,e,List.map_append,←a];unfold bJ;rw [List.map_append,List.map_singleton,List.map_singleton,hp]
 ·rw [List.take_succ_eq_append_getElem hi,e] at hm
  rcases List.mem_append.1 hm with hm | hm
  ·exact b m hm
  ·rw [List.mem_singleton.1 hm];exact h0
theorem bNb(hn:nums[i]?=some n)(h:(iN n).2≠0∨4<nums.length):jC nums=⟨if 1<nums.length then [bT nums.length] else [],false,[]⟩:=by
 unfold jC;rw [if_pos]
 rcases h with h | h
 ·refine .inl (List.any_eq_true.2 ⟨n,List.mem_of_getElem? hn,?_⟩)
  simpa using h
 ·exact .inr h
theorem lit_end(h:bLp nums l i)(hi:nums.length≤i)(hl:i≤nums.length):jC nums=⟨if 1<nums.length then [bT nums.length] else [],true,bJ l⟩:=by
 obtain⟨a,b,c⟩:=h;rw [List.take_of_length_le hi] at a b;unfold jC;rw [if_neg,a];rintro(k | k)
 ·obtain⟨n,hn,k⟩:=List.any_eq_true.1 k;have:=b n hn;simp [this] at k
 ·have:=c n7;omega
end
theorem bOk(l:Sl PolV)(hl:l.list.length≤5864062014805):cM prog 82 [.slice l.addr l.list.length l.cap] [] [listF l] (fun(x:Option Addr×Nat)=> .slice x.1 l.list.reverse.length x.2) (fun _=>[]) (fun(x:Option Addr×Nat)=>[listF ⟨x.1,x.2,l.list.reverse⟩]):=by
 have hT:=fK;refine k6 func82 ntmps82 ?_;intro β hM;refine g8 ?_;refine j5 func114 (bAr l.addr l.cap l.list hl) ⟨xQ d7,j0⟩ fun⟨A1,c2⟩=>?_;refine g6 ?_;refine bD func115 (bTp A1 c2 l.list n7) rfl rfl (.c0 .nil) j0 fun _=>?_;refine g9 ?_;refine bX .head fun hcp=>bE .head ?_;exact rs1 (A1,c2) ⟨cH (sl_rev d7) (polsF_rev (bGf d8)) (by simpa using hcp),j0⟩ (he:=by rw [List.length_reverse])
theorem bTk(A:Option Addr)(c:Nat)(nums:List Int)(hl:nums.length≤1000000):cM prog 47 [.slice A nums.length c] [] [sZ.sl (.slice A nums.length c) nums] (fun(x:TyV)=>tyC x) (fun _=>[]) (fun(x:TyV)=>[tyF x,Fact.pure (x.t=jC nums)]):=by
 have hT:=fK;refine k6 func47 ntmps47 ?_;intro β hM;refine g2 ?_;refine j6 qV fun b1=>?_;refine g15 ?_;refine dJ (fun hc11=>?_) fun hc11=>?_
 ·refine g3 ?_;refine j5 func45 (jO (((nums.length:Nat):Int))) j0 fun⟨A2,c3⟩=>?_;refine dA (m:=⟨A2,c3,bT (((nums.length:Nat):Int))⟩) rfl rfl rfl rfl rfl fun b4=>?_;refine bR (E:=bS) (xs:=[(⟨A2,c3,bT (((nums.length:Nat):Int))⟩:PolV)]) .head q7<|bE .head<|bB (cQ [(⟨A2,c3,bT (((nums.length:Nat):Int))⟩:PolV)]) (jH d8) ?_;refine g6 ?_;refine j5 func44 (jD (some ⟨b4,0,none⟩) none ([(⟨A2,c3,bT (((nums.length:Nat):Int))⟩:PolV)].length) (0) 1 0) j0 fun _=>?_;refine j6 qV fun b5=>?_;refine g12 ?_;refine cK (t:=47) bS<|bB (cQ []) (Has.each_nil) ?_;refine cB (ι:=Nat×List PolV×Option Addr×Nat) [(0,_),(2,_),(3,_),(4,_),(18,_),(19,_)] ⟨rfl,rfl,rfl,rfl,rfl,rfl,j0⟩ (fun⟨i,vs,V,cv⟩=>[(20,.int .i64 (i:Nat))]) (fun⟨i,vs,V,cv⟩=>[.obj b5 (.cells [.slice (some ⟨b4,0,none⟩) ([(⟨A2,c3,bT (((nums.length:Nat):Int))⟩:PolV)].length) 1,.bool true,.slice V vs.length cv].toArray 43),bS.row (.slice V vs.length cv) 47 vs]) (fun⟨i,vs,V,cv⟩=>[Fact.pure (i≤nums.length∧bLp nums vs i),cQ vs]) (fun⟨i,vs,V,cv⟩=>nums.length-i) (0,[],none,0) ⟨rfl,j0⟩ (.c1 (.c0 .nil)) ⟨j3 (⟨n7,bWs nums⟩),d7,j0⟩ ?_;rintro⟨i,vs,V,cv⟩;dsimp only;refine bC d7 fun hinv6=>?_;refine g6 ?_;refine dJ (fun hc21=>?_) fun hc21=>?_
  ·refine g6 ?_;obtain⟨x6,hx7⟩:=gx nums i;refine ss (ixs i) ?_;refine ss (fL hx7 0) ?_;refine g6 ?_;refine j5 func34 (yZ x6) j0 fun⟨A8,c9⟩=>?_;refine g13 ?_;refine bHo (fun hg31=>?_) fun hg31=>?_
   ·refine g10 ?_;refine j5 func46 (dE (some ⟨b4,0,none⟩) ([(⟨A2,c3,bT (((nums.length:Nat):Int))⟩:PolV)].length) 1) j0 fun _=>?_;refine g10 ?_;have hr:jC nums=TyV.t ⟨⟨(some ⟨b4,0,none⟩),1,[(⟨A2,c3,bT (((nums.length:Nat):Int))⟩:PolV)]⟩,false,⟨none,0,[]⟩⟩:=(bNb hx7 ab5).trans aa0;exact rs1 ⟨⟨(some ⟨b4,0,none⟩),1,[(⟨A2,c3,bT (((nums.length:Nat):Int))⟩:PolV)]⟩,false,⟨none,0,[]⟩⟩ ⟨(bZ (x:=⟨⟨(some ⟨b4,0,none⟩),1,[(⟨A2,c3,bT (((nums.length:Nat):Int))⟩:PolV)]⟩,false,⟨none,0,[]⟩⟩) (cH e8 e7 (Nat.le_refl 1)) cL),j3 hr.symm,j0⟩
   refine g6 ?_;refine dJ (fun hc35=>?_) fun hc35=>?_
   ·refine g3 ?_;refine j5 func46 (dE (some ⟨b4,0,none⟩) ([(⟨A2,c3,bT (((nums.length:Nat):Int))⟩:PolV)].length) 1) j0 fun _=>?_;refine g10 ?_;have hr:jC nums=TyV.t ⟨⟨(some ⟨b4,0,none⟩),1,[(⟨A2,c3,bT (((nums.length:Nat):Int))⟩:PolV)]⟩,false,⟨none,0,[]⟩⟩:=(bNb hx7 ab5).trans aa0;exact rs1 ⟨⟨(some ⟨b4,0,none⟩),1,[(⟨A2,c3,bT (((nums.length:Nat):Int))⟩:PolV)]⟩,false,⟨none,0,[]⟩⟩ ⟨(bZ (x:=⟨⟨(some ⟨b4,0,none⟩),1,[(⟨A2,c3,bT (((nums.length:Nat):Int))⟩:PolV)]⟩,false,⟨none,0,[]⟩⟩) (cH e8 e7 (Nat.le_refl 1)) cL),j3 hr.symm,j0⟩
   refine g6 ?_;refine dA (m:=(⟨A8,c9,(iN x6).1⟩:PolV)) rfl rfl rfl rfl rfl fun b10=>?_;refine bB (cQ (vs++[((⟨A8,c9,(iN x6).1⟩:PolV):PolV)])) (Has.each_snoc d9 d7) ?_;have hvl:=hinv6.2.len hinv6.1;refine fM kT2 (bW .head rfl) rfl rfl rfl rfl rfl rfl rfl q8 fun A11 c12=>?_;refine g7 ?_;refine inc (i+1) ?_;refine g3 ?_;exact bk2 (i+1,vs++[((⟨A8,c9,(iN x6).1⟩:PolV):PolV)],A11,c12) ⟨j3 (⟨by dsimp only;omega,lit_step hinv6.2 hx7 rfl ac3 n7⟩),d7,j0⟩
  refine g6 ?_;refine bX kT1 fun hcv=>bE kT1 ?_;refine g6 ?_;have hr:jC nums=TyV.t ⟨⟨(some ⟨b4,0,none⟩),1,[(⟨A2,c3,bT (((nums.length:Nat):Int))⟩:PolV)]⟩,true,⟨V,cv,vs⟩⟩:=(lit_end hinv6.2 n7 hinv6.1).trans aa0;exact rs1 ⟨⟨(some ⟨b4,0,none⟩),1,[(⟨A2,c3,bT (((nums.length:Nat):Int))⟩:PolV)]⟩,true,⟨V,cv,vs⟩⟩ ⟨(bZ (x:=⟨⟨(some ⟨b4,0,none⟩),1,[(⟨A2,c3,bT (((nums.length:Nat):Int))⟩:PolV)]⟩,true,⟨V,cv,vs⟩⟩) (cH e8 e7 (Nat.le_refl 1)) (cH d7 d9 (hcv))),j3 hr.symm,j0⟩
 refine g5 ?_;refine j5 func44 (jD none none (0) (0) 0 0) j0 fun _=>?_;refine j6 qV fun b13=>?_;refine g12 ?_;refine cK (t:=47) bS<|bB (cQ []) (Has.each_nil) ?_;refine cB (ι:=Nat×List PolV×Option Addr×Nat) [(0,_),(2,_),(3,_),(4,_),(18,_),(19,_)] ⟨rfl,rfl,rfl,rfl,rfl,rfl,j0⟩ (fun⟨i,vs,V,cv⟩=>[(20,.int .i64 (i:Nat))]) (fun⟨i,vs,V,cv⟩=>[.obj b13 (.cells [.slice none (0) 0,.bool true,.slice V vs.length cv].toArray 43),bS.row (.slice V vs.length cv) 47 vs]) (fun⟨i,vs,V,cv⟩=>[Fact.pure (i≤nums.length∧bLp nums vs i),cQ vs]) (fun⟨i,vs,V,cv⟩=>nums.length-i) (0,[],none,0) ⟨rfl,j0⟩ (.c1 (.c0 .nil)) ⟨j3 (⟨n7,bWs nums⟩),d7,j0⟩ ?_;rintro⟨i,vs,V,cv⟩;dsimp only;refine bC d7 fun hinv6=>?_;refine g6 ?_;refine dJ (fun hc21=>?_) fun hc21=>?_
 ·refine g6 ?_;obtain⟨x14,hx15⟩:=gx nums i;refine ss (ixs i) ?_;refine ss (fL hx15 0) ?_;refine g6 ?_;refine j5 func34 (yZ x14) j0 fun⟨A16,c17⟩=>?_;refine g13 ?_;refine bHo (fun hg31=>?_) fun hg31=>?_
  ·refine g10 ?_;refine j5 func46 (dE none (0) 0) j0 fun _=>?_;refine g10 ?_;have hr:jC nums=TyV.t ⟨⟨none,0,[]⟩,false,⟨none,0,[]⟩⟩:=(bNb hx15 ab5).trans aa0;exact rs1 ⟨⟨none,0,[]⟩,false,⟨none,0,[]⟩⟩ ⟨(bZ (x:=⟨⟨none,0,[]⟩,false,⟨none,0,[]⟩⟩) cL cL),j3 hr.symm,j0⟩
  refine g6 ?_;refine dJ (fun hc35=>?_) fun hc35=>?_
  ·refine g3 ?_;refine j5 func46 (dE none (0) 0) j0 fun _=>?_;refine g10 ?_;have hr:jC nums=TyV.t ⟨⟨none,0,[]⟩,false,⟨none,0,[]⟩⟩:=(bNb hx15 ab5).trans aa0;exact rs1 ⟨⟨none,0,[]⟩,false,⟨none,0,[]⟩⟩ ⟨(bZ (x:=⟨⟨none,0,[]⟩,false,⟨none,0,[]⟩⟩) cL cL),j3 hr.symm,j0⟩
  refine g6 ?_;refine dA (m:=(⟨A16,c17,(iN x14).1⟩:PolV)) rfl rfl rfl rfl rfl fun b18=>?_;refine bB (cQ (vs++[((⟨A16,c17,(iN x14).1⟩:PolV):PolV)])) (Has.each_snoc d9 d7) ?_;have hvl:=hinv6.2.len hinv6.1;refine fM kT2 (bW .head rfl) rfl rfl rfl rfl rfl rfl rfl q8 fun A19 c20=>?_;refine g7 ?_;refine inc (i+1) ?_;refine g3 ?_;exact bk2 (i+1,vs++[((⟨A16,c17,(iN x14).1⟩:PolV):PolV)],A19,c20) ⟨j3 (⟨by dsimp only;omega,lit_step hinv6.2 hx15 rfl ac3 n7⟩),d7,j0⟩
 refine g6 ?_;refine bX kT1 fun hcv=>bE kT1 ?_;refine g6 ?_;have hr:jC nums=TyV.t ⟨⟨none,0,[]⟩,true,⟨V,cv,vs⟩⟩:=(lit_end hinv6.2 n7 hinv6.1).trans aa0;exact rs1 ⟨⟨none,0,[]⟩,true,⟨V,cv,vs⟩⟩ ⟨(bZ (x:=⟨⟨none,0,[]⟩,true,⟨V,cv,vs⟩⟩) cL (cH d7 d9 (hcv))),j3 hr.symm,j0⟩
end Go.Proofs.YtakphiannlpnfaaGreatDoor
