/- Texts of one proof, one behind the other: CoreP, LowP, LowA, TypA. -/
import Derived.Test.YtakphiannlpnfaaGreatDoorM10
import Derived.Test.YtakphiannlpnfaaGreatDoorM2
namespace Go.Proofs.YtakphiannlpnfaaGreatDoor
open Go.RowKit Go.Proofs.Tryz
set_option maxRecDepth 100000
structure OpC where
 how:Int
 k:Int
 n:Int
 p:List Mono
 fn:Int
 deriving DecidableEq
structure uU where
 sides:List (List Mono)
 input:Int
 deriving DecidableEq
structure bAz where
 how:Int
 buf:Int
 at_:List Mono
 loops:List (List Mono)
 fn:Int
 ops:List OpC
 deriving DecidableEq
structure bCx where
 vars:Int
 bufs:List uU
 steps:List bAz
 outs:List Int
 deriving DecidableEq
structure iX where
 t:TyP
 buf:Int
 deriving Inhabited
def oN (n:Int):OpC:=⟨1,0,n,[],0⟩
def oV (p:Pol):OpC:=⟨2,0,0,p,0⟩
def oI (k:Int):OpC:=⟨3,k,0,[],0⟩
def oL (k:Int):OpC:=⟨4,k,0,[],0⟩
def oM (f:Int):OpC:=⟨5,0,0,[],f⟩
def oD (f:Int):OpC:=⟨6,0,0,[],f⟩
abbrev bGb:=Nat→List OpC
def bCf (I:bGb):Nat→List Pol→List OpC→List OpC
 | _,[],out=>out
 | k,s::r,out=>bCf I (k+1) r ([out,[oV s],[oD 3],I k,[oD 1]].flatten)
def spotL (S:List Pol)(I:bGb):List OpC:=match S with
 | []=>[oN 0]
 | _::r=>bCf I 1 r (I 0)
def bSk (first:Nat):bGb:=fun k=>[oI ((first+k:Nat):Int)]
def idI:bGb:=fun k=>[oI k]
def atL (a:iX)(I:bGb):List OpC:=spotL a.t.sides I++[oL a.buf]
def fromL (a:iX)(first:Nat):List OpC:=atL a (bSk first)
structure LoS where
 bufs:List uU
 steps:List bAz
def xM (how:Int)(at_:Pol)(loops:List Pol)(f:Int)(ops:List OpC)(s:LoS):LoS:=⟨s.bufs,s.steps++[⟨how,s.bufs.length,at_,loops,f,ops⟩]⟩
def kO (loops:List Pol)(ops:List OpC)(s:LoS):LoS:=xM 1 [] loops 0 ops s
def bHw:Nat→List Int→LoS→LoS
 | _,[],s=>s
 | i,x::r,s=>bHw (i+1) r (xM 1 (bT i) [] 0 [oN x] s)
def yI:Nat→List Pol→LoS→LoS
 | _,[],s=>s
 | i,x::r,s=>yI (i+1) r (xM 1 (bT i) [] 0 [oV x] s)
def bIw (S:List Pol):bGb:=fun k=>if k<S.length-1 then [oI k] else [[oV (S.getD k [])],[oN 1],[oD 2],[oI k],[oD 2]].flatten
def bDg (S:List Pol):bGb:=fun k=>[oI ((S.length-1-k:Nat):Int)]
def oH (f:Int)(a:iX)(t:TyP)(s:LoS):LoS:=
 if f=32 then kO t.sides [oI 0] s
 else if f=33 then (if a.t.sides=[] then kO [[]] [oN 0] s else yI 0 a.t.sides s)
 else if f=34 then kO t.sides [[oI 0],[oL a.buf]].flatten s
 else if f=35 then kO t.sides (atL a (bIw a.t.sides)) s
 else if f=36 then kO t.sides (atL a (bDg a.t.sides)) s
 else kO t.sides [fromL a 0,[oM f]].flatten s
def bKn:List Pol→List OpC→List OpC
 | [],out=>out
 | s::r,out=>bKn r ([out,[oV s],[oD 3]].flatten)
def rhoL (b:iX)(t:TyP):List OpC:=match b.t.sides with
 | []=>fromL b 0
 | s::r=>[bKn r [oV s],spotL t.sides idI,[oD 5],[oL b.buf]].flatten
def bPt (v:Pol):Int:=v.foldl (fun _ m=>m.n) 0
def rB (f n:Int)(S:List Pol):bGb:=fun k=>
 if k=0∧f=38∧n<0 then [[oV (S.headD [])],[oN n],[oD 1],[oI 0],[oD 1]].flatten
 else if k=0∧f=39∧0<n then [[oN n],[oI 0],[oD 1]].flatten
 else [oI k]
def nD (f:Int)(a b:iX)(t:TyP)(s:LoS):Option LoS:=
 if f=37 then some (kO t.sides (rhoL b t) s)
 else if f=38∨f=39 then some (kO t.sides (atL b (rB f (bPt (a.t.values.headD [])) b.t.sides)) s)
 else if f=40 then (match mG (bT 1) a.t.sides with
  | none=>none
  | some p=>some (xM 1 p b.t.sides 0 (fromL b 0) (kO a.t.sides (fromL a 0) s)))
 else some (kO t.sides [fromL a 0,fromL b 0,[oD f]].flatten s)
abbrev iU:=List (Bs×iX)
def xB (k:Bs):iU→Option iX
 | []=>none
 | p::r=>if k=p.1 then some p.2 else xB k r
def xZ (t:TyP)(n:Nat)(st:List iX)(s:LoS):Except Int (List iX×LoS):=
 if 1024<s.bufs.length+1∨1024<s.steps.length then .error 111 else .ok (⟨t,(s.bufs.length:Nat)⟩::st.drop n,⟨s.bufs++[⟨t.sides,-1⟩],s.steps⟩)
def iE (N:iU)(it:cT)(t:TyP)(st:List iX)(s:LoS):Except Int (List iX×LoS):=
 if it.how=1 then xZ t 0 st (bHw 0 it.nums s)
 else if it.how=2 then (match xB it.name N with
  | some v=> .ok (v::st,s)
  | none=>xZ t 0 st (kO [] [oV (t.values.headD [])] s))
 else if it.how=3 then xZ t 1 st (oH it.fn (st.headD default) t s)
 else if it.how=5∨it.how=6 then (if (st.headD default).t.sides=[] then .ok (st,s)
  else xZ t 1 st (xM (if it.how=6 then 3 else 2) [] (st.headD default).t.sides it.fn (fromL (st.headD default) 0) s))
 else if it.how=4 then (match nD it.fn (st.tail.headD default) (st.headD default) t s with
  | none=> .error 110
  | some s'=>xZ t 2 st s')
 else xZ t 2 st (kO t.sides [fromL (st.tail.headD default) 0,fromL (st.headD default) (st.tail.headD default).t.sides.length,[oD it.fn]].flatten s)
def rC (N:iU):List cT→List TyP→List iX→LoS→Except Flt (List iX×LoS)
 | [],_,st,s=> .ok (st,s)
 | it::r,T,st,s=>match iE N it (T.headD default) st s with
  | .error e=> .error (it.at_,e)
  | .ok x=>rC N r T.tail x.1 x.2
def jU (N:iU):List kY→List (List TyP)→LoS→List Int→Except Flt (LoS×List Int)
 | [],_,s,outs=> .ok (s,outs)
 | l::r,T,s,outs=>match rC N l.items (T.headD []) [] s with
  | .error f=> .error f
  | .ok x=>jU ((l.name,x.1.getLastD default)::N) r T.tail x.2 (outs++[(x.1.getLastD default).buf])
def bBv (vars:List Bs):Nat→List hO→iU→iU
 | _,[],N=>N
 | i,x::r,N=>bBv vars (i+1) r ((x.name,⟨inT vars x,(i:Nat)⟩)::N)
def bIt (vars:List Bs):Nat→List hO→List uU
 | _,[]=>[]
 | i,x::r=>⟨(inT vars x).sides,i⟩::bIt vars (i+1) r
def noCore:bCx:=⟨0,[],[],[]⟩
def dX (p:gQ):bCx×Flt:=
 if (fP p).2≠(0,0) then (noCore,(fP p).2)
 else match jU (bBv (cW p) 0 p.inputs []) p.lines (fP p).1 ⟨bIt (cW p) 0 p.inputs,[]⟩ [] with
  | .error f=>(noCore,f)
  | .ok x=>(⟨(cW p).length,x.1.bufs,x.1.steps,x.2⟩,(0,0))
def Ext (s s':LoS):Prop:=s.bufs<+:s'.bufs∧s.steps<+:s'.steps
theorem Ext.refl(s:LoS):Ext s s:=⟨List.prefix_refl _,List.prefix_refl _⟩
theorem Ext.trans{a b c:LoS}(h:Ext a b)(k:Ext b c):Ext a c:=⟨h.1.trans k.1,h.2.trans k.2⟩
theorem yK(h:Int)(a:Pol)(l:List Pol)(f:Int)(o:List OpC)(s:LoS):Ext s (xM h a l f o s):=⟨List.prefix_refl _,List.prefix_append _ _⟩
theorem tD(l:List Pol)(o:List OpC)(s:LoS):Ext s (kO l o s):=yK ..
theorem nums_ext: ∀(l:List Int) (i:Nat) (s:LoS),Ext s (bHw i l s)
 | [],_,_=>Ext.refl _
 | _::l,i,_=>(yK ..).trans (nums_ext l (i+1) _)
theorem bRi: ∀(l:List Pol) (i:Nat) (s:LoS),Ext s (yI i l s)
 | [],_,_=>Ext.refl _
 | _::l,i,_=>(yK ..).trans (bRi l (i+1) _)
theorem monad_ext(f:Int)(a:iX)(t:TyP)(s:LoS):Ext s (oH f a t s):=by
 unfold oH
 repeat' split
 all_goals first | exact tD .. | exact bRi ..
theorem dyad_ext{f:Int}{a b:iX}{t:TyP}{s s':LoS}(h:nD f a b t s=some s'):Ext s s':=by
 unfold nD at h;split at h
 ·cases h;exact tD ..
 ·split at h
  ·cases h;exact tD ..
  ·split at h
   ·cases e:mG (bT 1) a.t.sides with
    | none=>rw [e] at h;cases h
    | some p=>rw [e] at h;cases h;exact(tD ..).trans (yK ..)
   ·cases h;exact tD ..
theorem zR{t:TyP}{n:Nat}{st:List iX}{s:LoS}{x:List iX×LoS}(h:xZ t n st s= .ok x):Ext s x.2:=by
 unfold xZ at h;split at h
 ·cases h
 ·cases h;exact⟨List.prefix_append _ _,List.prefix_refl _⟩
theorem item_ext{N:iU}{it:cT}{t:TyP}{st:List iX}{s:LoS}{x:List iX×LoS}(h:iE N it t st s= .ok x):Ext s x.2:=by
 unfold iE at h;split at h
 ·exact(nums_ext ..).trans (zR h)
 ·split at h
  ·cases e:xB it.name N with
   | none=>rw [e] at h;exact(tD ..).trans (zR h)
   | some v=>rw [e] at h;cases h;exact Ext.refl _
  ·split at h
   ·exact(monad_ext ..).trans (zR h)
   ·split at h
    ·split at h
     ·cases h;exact Ext.refl _
     ·exact(yK ..).trans (zR h)
    ·split at h
     ·cases e:nD it.fn (st.tail.headD default) (st.headD default) t s with
      | none=>rw [e] at h;cases h
      | some s'=>rw [e] at h;exact(dyad_ext e).trans (zR h)
     ·exact(tD ..).trans (zR h)
theorem line_ext{N:iU}: ∀{l:List cT} {T:List TyP} {st:List iX} {s:LoS} {x:List iX×LoS},rC N l T st s= .ok x→Ext s x.2
 | [],_,_,_,_,h=>by cases h;exact Ext.refl _
 | it::l,T,st,s,x,h=>by
  rw [rC] at h
  cases e:iE N it (T.headD default) st s with
  | error _=>rw [e] at h;cases h
  | ok y=>rw [e] at h;exact(item_ext e).trans (line_ext h)
theorem bGt: ∀{ls:List kY} {N:iU} {T:List (List TyP)} {s:LoS} {o:List Int} {x:LoS×List Int},jU N ls T s o= .ok x→Ext s x.1∧o<+:x.2∧x.2.length=o.length+ls.length
 | [],_,_,_,_,_,h=>by cases h;exact⟨Ext.refl _,List.prefix_refl _,rfl⟩
 | l::ls,N,T,s,o,x,h=>by
  rw [jU] at h
  cases e:rC N l.items (T.headD []) [] s with
  | error _=>rw [e] at h;cases h
  | ok y=>
   rw [e] at h;obtain⟨h1,h2,h3⟩:=bGt h;exact⟨(line_ext e).trans h1,(List.prefix_append _ _).trans h2,by rw [h3,List.length_append];simp;omega⟩
def oW (nm:Bs):List kY→List kY
 | []=>[]
 | [l]=>[{l with name:=nm}]
 | l::m::r=>l::oW nm (m::r)
theorem bIj{nm:Bs}{m:kY}: ∀{ls:List kY} {N:iU} {T U:List (List TyP)} {s:LoS} {o:List Int} {x y:LoS×List Int},T.take ls.length=U→U.length=ls.length→
  jU N (oW nm ls++[m]) T s o= .ok x→jU N ls U s o= .ok y→Ext y.1 x.1∧y.2<+:x.2∧x.2.length=y.2.length+1
 | [],N,T,U,s,o,x,y,_,_,h,k=>by cases k;obtain⟨a,b,c⟩:=bGt h;exact⟨a,b,c⟩
 | [l],N,T,U,s,o,x,y,hT,hU,h,k=>by
  match T,U,hT,hU with
  | t::T,[u],hT,_=>
   obtain rfl:t=u:=by simpa using hT
   rw [oW,List.singleton_append,jU] at h;rw [jU] at k;simp only [List.headD_cons] at h k
   cases e:rC N l.items t [] s with
   | error _=>rw [e] at k;cases k
   | ok z=>
    rw [e] at h k;cases k;obtain⟨a,b,c⟩:=bGt h;exact⟨a,b,c⟩
 | l::l2::ls,N,T,U,s,o,x,y,hT,hU,h,k=>by
  match T,U,hT,hU with
  | t::T,u::U,hT,hU=>
   obtain⟨rfl,hT2⟩:t=u∧T.take (l2::ls).length=U:=by simpa using hT
   rw [oW,List.cons_append,jU] at h;rw [jU] at k;simp only [List.headD_cons,List.tail_cons] at h k
   cases e:rC N l.items t [] s with
   | error _=>rw [e] at k;cases k
   | ok z=>
    rw [e] at h k;exact bIj (ls:=l2::ls) hT2 (by simpa using hU) h k
theorem item_bad{N:iU}{it:cT}{t:TyP}{st:List iX}{s:LoS}{e:Int}(h:iE N it t st s= .error e):e=110∨e=111:=by
 have hp: ∀{t n st s},xZ t n st s= .error e→e=110∨e=111:=fun{t n st s} h=>by
  unfold xZ at h;split at h
  ·cases h;exact .inr rfl
  ·cases h
 unfold iE at h;split at h
 ·exact hp h
 ·split at h
  ·split at h
   ·cases h
   ·exact hp h
  ·split at h
   ·exact hp h
   ·split at h
    ·split at h
     ·cases h
     ·exact hp h
    ·split at h
     ·split at h
      ·cases h;exact .inl rfl
      ·exact hp h
     ·exact hp h
theorem line_bad{N:iU}: ∀{l:List cT} {T:List TyP} {st:List iX} {s:LoS} {f:Flt},rC N l T st s= .error f→f.2=110∨f.2=111
 | [],_,_,_,_,h=>by cases h
 | it::l,T,st,s,f,h=>by
  rw [rC] at h
  cases e:iE N it (T.headD default) st s with
  | error _=>rw [e] at h;cases h;exact item_bad e
  | ok y=>rw [e] at h;exact line_bad h
theorem bNq: ∀{ls:List kY} {N:iU} {T:List (List TyP)} {s:LoS} {o:List Int} {f:Flt},jU N ls T s o= .error f→f.2=110∨f.2=111
 | [],_,_,_,_,_,h=>by cases h
 | l::ls,N,T,s,o,f,h=>by
  rw [jU] at h
  cases e:rC N l.items (T.headD []) [] s with
  | error _=>rw [e] at h;cases h;exact line_bad e
  | ok y=>rw [e] at h;exact bNq h
theorem lines_bad{ls:List kY}{N:iU}{T:List (List TyP)}{s:LoS}{o:List Int}{f:Flt}(h:jU N ls T s o= .error f):f.2≠0:=by
 have:=bNq h;omega
theorem vB{N:fM}: ∀{l:List cT} {st all:List TyP} {f:Flt},lE N l st all= .error f→f.2≠0
 | [],_,_,_,h=>by cases h
 | it::l,st,all,f,h=>by
  rw [lE] at h;split at h
  ·cases h;assumption
  ·exact vB h
theorem sL: ∀{ls:List kY} {N:fM} {o R:List (List TyP)},jA N ls o=(R,(0,0))→o<+:R∧R.length=o.length+ls.length
 | [],N,o,R,h=>by cases h;exact⟨List.prefix_refl _,rfl⟩
 | l::ls,N,o,R,h=>by
  rw [jA] at h
  cases e:lE N l.items [] [] with
  | error f=>
   rw [e] at h;injection h with _ h
   exact absurd (by rw [h]) (vB e)
  | ok y=>
   rw [e] at h;obtain⟨h1,h2⟩:=sL h;exact⟨(List.prefix_append _ _).trans h1,by rw [h2,List.length_append];simp;omega⟩
theorem bIh{nm:Bs}{m:kY}: ∀{ls:List kY} {N:fM} {o R S:List (List TyP)},jA N ls o=(S,(0,0))→jA N (oW nm ls++[m]) o=(R,(0,0))→S<+:R
 | [],N,o,R,S,h,k=>by cases h;exact(sL k).1
 | [l],N,o,R,S,h,k=>by
  rw [oW,List.singleton_append,jA] at k;rw [jA] at h;simp only at k
  cases e:lE N l.items [] [] with
  | error f=>rw [e] at h;injection h with _ h;exact absurd (by rw [h]) (vB e)
  | ok y=>rw [e] at h k;cases h;exact(sL k).1
 | l::l2::ls,N,o,R,S,h,k=>by
  rw [oW,List.cons_append,jA] at k;rw [jA] at h
  cases e:lE N l.items [] [] with
  | error f=>rw [e] at h;injection h with _ h;exact absurd (by rw [h]) (vB e)
  | ok y=>rw [e] at h k;exact bIh h k
def xE (nm:Bs)(p:gQ)(last:List cT):gQ:=⟨p.inputs,oW nm p.lines++[⟨[],0,last⟩]⟩
theorem bPq{p:gQ}(h:(dX p).2=(0,0)): ∃x,(fP p).2=(0,0)∧jU (bBv (cW p) 0 p.inputs []) p.lines (fP p).1 ⟨bIt (cW p) 0 p.inputs,[]⟩ []= .ok x∧(dX p).1=⟨(cW p).length,x.1.bufs,x.1.steps,x.2⟩:=by
 unfold dX at h⊢;split at h
 ·rename_i hn;exact absurd h hn
 ·rename_i hn;rw [if_neg hn]
  cases e:jU (bBv (cW p) 0 p.inputs []) p.lines (fP p).1 ⟨bIt (cW p) 0 p.inputs,[]⟩ [] with
  | error f=>
   rw [e] at h;exact absurd (show f.2=0 from congrArg Prod.snd h) (lines_bad e)
  | ok x=>exact⟨x,by simpa using hn,rfl,rfl⟩
theorem bFq{p:gQ}(h:(fP p).2=(0,0)):fP p=jA (oA p) p.lines []:=by
 unfold fP at h⊢;split at h
 ·cases h
 ·rename_i hn;rw [if_neg hn]
  cases e:p.inputs.find? (bOv (cW p)) with
  | some x=>rw [e] at h;exact absurd (show(80:Int)=0 from congrArg Prod.snd h) p7
  | none=>rfl
theorem ahead_law{nm:Bs}{p:gQ}{last:List cT}(h:(dX p).2=(0,0))(k:(dX (xE nm p last)).2=(0,0)):
  (dX (xE nm p last)).1.vars=(dX p).1.vars∧(dX p).1.bufs<+:(dX (xE nm p last)).1.bufs∧(dX p).1.steps<+:(dX (xE nm p last)).1.steps∧(dX p).1.outs<+:(dX (xE nm p last)).1.outs∧(dX (xE nm p last)).1.outs.length=(dX p).1.outs.length+1:=by
 obtain⟨x,h1,h2,h3⟩:=bPq h;obtain⟨y,k1,k2,k3⟩:=bPq k;have e1:=bFq h1;have e2:=bFq k1;have g1:jA (oA p) p.lines []=((fP p).1,(0,0)):=by rw [←e1,←h1]
 have g2:jA (oA p) (oW nm p.lines++[⟨[],0,last⟩]) []=((fP (xE nm p last)).1,(0,0)):=by rw [←k1];exact e2.symm
 have hp:=bIh g1 g2;have hl:=(sL g1).2;simp only [List.length_nil,Nat.zero_add] at hl;obtain⟨r1,r2,r3⟩:=bIj (nm:=nm) (m:=⟨[],0,last⟩) (T:=(fP (xE nm p last)).1) (by rw [←hl];exact(List.prefix_iff_eq_take.1 hp).symm) hl k2 h2;rw [h3,k3];exact⟨rfl,r1.1,r1.2,r2,r3⟩
def listF (l:Sl PolV):Fact:=((bP.sl (.slice l.addr l.list.length l.cap) l.list).and (cK l.list)).and (Fact.pure (l.list.length≤l.cap))
def tyF (x:TyV):Fact:=(listF x.sides).and (listF x.values)
section
variable {F : List Fact} {l : Sl PolV} {x : TyV} {p : PolV} {xs : List PolV}
theorem vT(h:Has F (listF l)):Has F (bP.sl (.slice l.addr l.list.length l.cap) l.list):=h.left.left
theorem bDx(h:Has F (listF l)):Has F (cK l.list):=h.left.right
theorem listF_c(h:Has F (listF l)):Has F (Fact.pure (l.list.length≤l.cap)):=h.right
theorem cF{β:dE}{n:Nat}{Γ:Env}{H:List bH}{F:List Fact}{K:Act→World→Prop}(l:Sl PolV)(h:listF l∈F)(k:l.list.length≤l.cap→At β n Γ H (cK l.list::bP.sl (.slice l.addr l.list.length l.cap) l.list::F) K):At β n Γ H F K:=bB _ (vT (Has.of h)) (bB _ (Has.cons (bDx (Has.of h))) (bC (Has.cons (Has.cons (listF_c (Has.of h)))) k))
theorem cG{A:Option Addr}{c:Nat}(h:Has F (bP.sl (.slice A xs.length c) xs))(k:Has F (cK xs))(hc:xs.length≤c):Has F (listF ⟨A,c,xs⟩):=(h.and k).and (j3 hc)
theorem cI:Has F (listF ⟨none,0,[]⟩):=cG pH Has.each_nil (Nat.le_refl _)
theorem iS(h:Has F (kR p)):Has F (cK [p]):=Has.each_cons h Has.each_nil
theorem bW(h:Has F (listF x.sides))(k:Has F (listF x.values)):Has F (tyF x):=h.and k
theorem kZ(h:Has F (tyF x)):Has F (listF x.sides):=h.left
theorem lC(h:Has F (tyF x)):Has F (listF x.values):=h.right
theorem polsF_rev(h:Has F (cK xs)):Has F (cK xs.reverse):=fun S w k p hp=>h S w k p (List.mem_reverse.1 hp)
theorem sl_rev{A:Option Addr}{c:Nat}(h:Has F (bP.sl (.slice A xs.length c) xs.reverse)):Has F (bP.sl (.slice A xs.reverse.length c) xs.reverse):=by rw [List.length_reverse];exact h
end
structure WfT (t:TyP):Prop where
 len:t.sides.length≤4
 sr: ∀s∈t.sides,dO s=true
 vr: ∀v∈t.values,dO v=true
 kn:t.known=true→t.values.length≤4∧(t.sides=[]∧t.values.length=1∨t.sides=[bT t.values.length])
 un:t.known=false→t.values=[]
def tyC (x:TyV):Value:= .agg #[.slice x.sides.addr x.sides.list.length x.sides.cap,.bool x.known,.slice x.values.addr x.values.list.length x.values.cap]
def bHh (nums:List Int)(l:List PolV)(i:Nat):Prop:=bK l=(nums.take i).map bT∧(∀n∈nums.take i,(iA n).2=0)∧(0<i→nums.length≤4)
theorem bQy(nums:List Int):bHh nums [] 0:=⟨rfl,fun n hn=>by simp at hn,fun h=>absurd h p7⟩
section
variable {nums : List Int} {l : List PolV} {i : Nat} {n : Int} {p : PolV}
theorem bHh.len(h:bHh nums l i)(hi:i≤nums.length):l.length=i:=by
 have:=congrArg List.length h.1;rw [bF,List.length_map,List.length_take] at this;omega
theorem lit_step(h:bHh nums l i)(hn:nums[i]?=some n)(hp:p.list=bT n)(h0:(iA n).2=0)(h4:nums.length≤4):bHh nums (l++[p]) (i+1):=by
 obtain⟨hi,e⟩:=List.getElem?_eq_some_iff.1 hn;obtain⟨a,b,_⟩:=h;refine⟨?_,fun m hm=>?_,fun _=>h4⟩
 ·rw [List.take_succ_eq_append_getElem hi,e,List.map_append,←a];unfold bK;rw [List.map_append,List.map_singleton,List.map_singleton,hp]
 ·rw [List.take_succ_eq_append_getElem hi,e] at hm
  rcases List.mem_append.1 hm with hm | hm
  ·exact b m hm
  ·rw [List.mem_singleton.1 hm];exact h0
theorem bJg(hn:nums[i]?=some n)(h:(iA n).2≠0∨4<nums.length):jP nums=⟨if 1<nums.length then [bT nums.length] else [],false,[]⟩:=by
 unfold jP;rw [if_pos]
 rcases h with h | h
 ·refine .inl (List.any_eq_true.2 ⟨n,List.mem_of_getElem? hn,?_⟩)
  simpa using h
 ·exact .inr h
theorem lit_end(h:bHh nums l i)(hi:nums.length≤i)(hl:i≤nums.length):jP nums=⟨if 1<nums.length then [bT nums.length] else [],true,bK l⟩:=by
 obtain⟨a,b,c⟩:=h;rw [List.take_of_length_le hi] at a b;unfold jP;rw [if_neg,a];rintro(k | k)
 ·obtain⟨n,hn,k⟩:=List.any_eq_true.1 k;have:=b n hn;simp [this] at k
 ·have:=c n9;omega
end
theorem bLf(l:Sl PolV)(hl:l.list.length≤5864062014805):cN prog 82 [.slice l.addr l.list.length l.cap] [] [listF l] (fun(x:Option Addr×Nat)=> .slice x.1 l.list.reverse.length x.2) (fun _=>[]) (fun(x:Option Addr×Nat)=>[listF ⟨x.1,x.2,l.list.reverse⟩]):=by
 have hT:=fC;refine k8 func82 ntmps82 ?_;intro β hM;refine g8 ?_;refine j5 func114 (yE l.addr l.cap l.list hl) ⟨vT d7,j2⟩ fun⟨A1,c2⟩=>?_;refine g6 ?_;refine bD func115 (bOt A1 c2 l.list n9) rfl rfl (.c0 .nil) j2 fun _=>?_;refine g9 ?_;refine bV .head fun hcp=>bE .head ?_;exact rs1 (A1,c2) ⟨cG (sl_rev d7) (polsF_rev (bDx d8)) (by simpa using hcp),j2⟩ (he:=by rw [List.length_reverse])
theorem bOs(A:Option Addr)(c:Nat)(nums:List Int)(hl:nums.length≤1000000):cN prog 47 [.slice A nums.length c] [] [rJ.sl (.slice A nums.length c) nums] (fun(x:TyV)=>tyC x) (fun _=>[]) (fun(x:TyV)=>[tyF x,Fact.pure (x.t=jP nums)]):=by
 have hT:=fC;refine k8 func47 ntmps47 ?_;intro β hM;refine g2 ?_;refine j6 pO fun b1=>?_;refine g15 ?_;refine dM (fun hc11=>?_) fun hc11=>?_
 ·refine g3 ?_;refine j5 func45 (jE (((nums.length:Nat):Int))) j2 fun⟨A2,c3⟩=>?_;refine cU (m:=⟨A2,c3,bT (((nums.length:Nat):Int))⟩) rfl rfl rfl rfl rfl fun b4=>?_;refine bQ (E:=bP) (xs:=[(⟨A2,c3,bT (((nums.length:Nat):Int))⟩:PolV)]) .head q8<|bE .head<|bB (cK [(⟨A2,c3,bT (((nums.length:Nat):Int))⟩:PolV)]) (iS d8) ?_;refine g6 ?_;refine j5 func44 (iI (some ⟨b4,0,none⟩) none ([(⟨A2,c3,bT (((nums.length:Nat):Int))⟩:PolV)].length) (0) 1 0) j2 fun _=>?_;refine j6 pO fun b5=>?_;refine g12 ?_;refine cH (t:=47) bP<|bB (cK []) (Has.each_nil) ?_;refine cE (ι:=Nat×List PolV×Option Addr×Nat) [(0,_),(2,_),(3,_),(4,_),(18,_),(19,_)] ⟨rfl,rfl,rfl,rfl,rfl,rfl,j2⟩ (fun⟨i,vs,V,cv⟩=>[(20,.int .i64 (i:Nat))]) (fun⟨i,vs,V,cv⟩=>[.obj b5 (.cells [.slice (some ⟨b4,0,none⟩) ([(⟨A2,c3,bT (((nums.length:Nat):Int))⟩:PolV)].length) 1,.bool true,.slice V vs.length cv].toArray 43),bP.row (.slice V vs.length cv) 47 vs]) (fun⟨i,vs,V,cv⟩=>[Fact.pure (i≤nums.length∧bHh nums vs i),cK vs]) (fun⟨i,vs,V,cv⟩=>nums.length-i) (0,[],none,0) ⟨rfl,j2⟩ (.c1 (.c0 .nil)) ⟨j3 (⟨n9,bQy nums⟩),d7,j2⟩ ?_;rintro⟨i,vs,V,cv⟩;dsimp only;refine bC d7 fun hinv6=>?_;refine g6 ?_;refine dM (fun hc21=>?_) fun hc21=>?_
  ·refine g6 ?_;obtain⟨x6,hx7⟩:=gx nums i;refine ss (ixs i) ?_;refine ss (dH hx7 0) ?_;refine g6 ?_;refine j5 func34 (wJ x6) j2 fun⟨A8,c9⟩=>?_;refine g13 ?_;refine bEt (fun hg31=>?_) fun hg31=>?_
   ·refine g10 ?_;refine j5 func46 (dA (some ⟨b4,0,none⟩) ([(⟨A2,c3,bT (((nums.length:Nat):Int))⟩:PolV)].length) 1) j2 fun _=>?_;refine g10 ?_;have hr:jP nums=TyV.t ⟨⟨(some ⟨b4,0,none⟩),1,[(⟨A2,c3,bT (((nums.length:Nat):Int))⟩:PolV)]⟩,false,⟨none,0,[]⟩⟩:=(bJg hx7 ab5).trans z8;exact rs1 ⟨⟨(some ⟨b4,0,none⟩),1,[(⟨A2,c3,bT (((nums.length:Nat):Int))⟩:PolV)]⟩,false,⟨none,0,[]⟩⟩ ⟨(bW (x:=⟨⟨(some ⟨b4,0,none⟩),1,[(⟨A2,c3,bT (((nums.length:Nat):Int))⟩:PolV)]⟩,false,⟨none,0,[]⟩⟩) (cG e8 e7 (Nat.le_refl 1)) cI),j3 hr.symm,j2⟩
   refine g6 ?_;refine dM (fun hc35=>?_) fun hc35=>?_
   ·refine g3 ?_;refine j5 func46 (dA (some ⟨b4,0,none⟩) ([(⟨A2,c3,bT (((nums.length:Nat):Int))⟩:PolV)].length) 1) j2 fun _=>?_;refine g10 ?_;have hr:jP nums=TyV.t ⟨⟨(some ⟨b4,0,none⟩),1,[(⟨A2,c3,bT (((nums.length:Nat):Int))⟩:PolV)]⟩,false,⟨none,0,[]⟩⟩:=(bJg hx7 ab5).trans z8;exact rs1 ⟨⟨(some ⟨b4,0,none⟩),1,[(⟨A2,c3,bT (((nums.length:Nat):Int))⟩:PolV)]⟩,false,⟨none,0,[]⟩⟩ ⟨(bW (x:=⟨⟨(some ⟨b4,0,none⟩),1,[(⟨A2,c3,bT (((nums.length:Nat):Int))⟩:PolV)]⟩,false,⟨none,0,[]⟩⟩) (cG e8 e7 (Nat.le_refl 1)) cI),j3 hr.symm,j2⟩
   refine g6 ?_;refine cU (m:=(⟨A8,c9,(iA x6).1⟩:PolV)) rfl rfl rfl rfl rfl fun b10=>?_;refine bB (cK (vs++[((⟨A8,c9,(iA x6).1⟩:PolV):PolV)])) (Has.each_snoc d9 d7) ?_;have hvl:=hinv6.2.len hinv6.1;refine fD kT2 (cA .head rfl) rfl rfl rfl rfl rfl rfl rfl r8 fun A11 c12=>?_;refine g7 ?_;refine inc (i+1) ?_;refine g3 ?_;exact bk2 (i+1,vs++[((⟨A8,c9,(iA x6).1⟩:PolV):PolV)],A11,c12) ⟨j3 (⟨by dsimp only;omega,lit_step hinv6.2 hx7 rfl ac2 n9⟩),d7,j2⟩
  refine g6 ?_;refine bV kT1 fun hcv=>bE kT1 ?_;refine g6 ?_;have hr:jP nums=TyV.t ⟨⟨(some ⟨b4,0,none⟩),1,[(⟨A2,c3,bT (((nums.length:Nat):Int))⟩:PolV)]⟩,true,⟨V,cv,vs⟩⟩:=(lit_end hinv6.2 n9 hinv6.1).trans z8;exact rs1 ⟨⟨(some ⟨b4,0,none⟩),1,[(⟨A2,c3,bT (((nums.length:Nat):Int))⟩:PolV)]⟩,true,⟨V,cv,vs⟩⟩ ⟨(bW (x:=⟨⟨(some ⟨b4,0,none⟩),1,[(⟨A2,c3,bT (((nums.length:Nat):Int))⟩:PolV)]⟩,true,⟨V,cv,vs⟩⟩) (cG e8 e7 (Nat.le_refl 1)) (cG d7 d9 (hcv))),j3 hr.symm,j2⟩
 refine g5 ?_;refine j5 func44 (iI none none (0) (0) 0 0) j2 fun _=>?_;refine j6 pO fun b13=>?_;refine g12 ?_;refine cH (t:=47) bP<|bB (cK []) (Has.each_nil) ?_;refine cE (ι:=Nat×List PolV×Option Addr×Nat) [(0,_),(2,_),(3,_),(4,_),(18,_),(19,_)] ⟨rfl,rfl,rfl,rfl,rfl,rfl,j2⟩ (fun⟨i,vs,V,cv⟩=>[(20,.int .i64 (i:Nat))]) (fun⟨i,vs,V,cv⟩=>[.obj b13 (.cells [.slice none (0) 0,.bool true,.slice V vs.length cv].toArray 43),bP.row (.slice V vs.length cv) 47 vs]) (fun⟨i,vs,V,cv⟩=>[Fact.pure (i≤nums.length∧bHh nums vs i),cK vs]) (fun⟨i,vs,V,cv⟩=>nums.length-i) (0,[],none,0) ⟨rfl,j2⟩ (.c1 (.c0 .nil)) ⟨j3 (⟨n9,bQy nums⟩),d7,j2⟩ ?_;rintro⟨i,vs,V,cv⟩;dsimp only;refine bC d7 fun hinv6=>?_;refine g6 ?_;refine dM (fun hc21=>?_) fun hc21=>?_
 ·refine g6 ?_;obtain⟨x14,hx15⟩:=gx nums i;refine ss (ixs i) ?_;refine ss (dH hx15 0) ?_;refine g6 ?_;refine j5 func34 (wJ x14) j2 fun⟨A16,c17⟩=>?_;refine g13 ?_;refine bEt (fun hg31=>?_) fun hg31=>?_
  ·refine g10 ?_;refine j5 func46 (dA none (0) 0) j2 fun _=>?_;refine g10 ?_;have hr:jP nums=TyV.t ⟨⟨none,0,[]⟩,false,⟨none,0,[]⟩⟩:=(bJg hx15 ab5).trans z8;exact rs1 ⟨⟨none,0,[]⟩,false,⟨none,0,[]⟩⟩ ⟨(bW (x:=⟨⟨none,0,[]⟩,false,⟨none,0,[]⟩⟩) cI cI),j3 hr.symm,j2⟩
  refine g6 ?_;refine dM (fun hc35=>?_) fun hc35=>?_
  ·refine g3 ?_;refine j5 func46 (dA none (0) 0) j2 fun _=>?_;refine g10 ?_;have hr:jP nums=TyV.t ⟨⟨none,0,[]⟩,false,⟨none,0,[]⟩⟩:=(bJg hx15 ab5).trans z8;exact rs1 ⟨⟨none,0,[]⟩,false,⟨none,0,[]⟩⟩ ⟨(bW (x:=⟨⟨none,0,[]⟩,false,⟨none,0,[]⟩⟩) cI cI),j3 hr.symm,j2⟩
  refine g6 ?_;refine cU (m:=(⟨A16,c17,(iA x14).1⟩:PolV)) rfl rfl rfl rfl rfl fun b18=>?_;refine bB (cK (vs++[((⟨A16,c17,(iA x14).1⟩:PolV):PolV)])) (Has.each_snoc d9 d7) ?_;have hvl:=hinv6.2.len hinv6.1;refine fD kT2 (cA .head rfl) rfl rfl rfl rfl rfl rfl rfl r8 fun A19 c20=>?_;refine g7 ?_;refine inc (i+1) ?_;refine g3 ?_;exact bk2 (i+1,vs++[((⟨A16,c17,(iA x14).1⟩:PolV):PolV)],A19,c20) ⟨j3 (⟨by dsimp only;omega,lit_step hinv6.2 hx15 rfl ac2 n9⟩),d7,j2⟩
 refine g6 ?_;refine bV kT1 fun hcv=>bE kT1 ?_;refine g6 ?_;have hr:jP nums=TyV.t ⟨⟨none,0,[]⟩,true,⟨V,cv,vs⟩⟩:=(lit_end hinv6.2 n9 hinv6.1).trans z8;exact rs1 ⟨⟨none,0,[]⟩,true,⟨V,cv,vs⟩⟩ ⟨(bW (x:=⟨⟨none,0,[]⟩,true,⟨V,cv,vs⟩⟩) cI (cG d7 d9 (hcv))),j3 hr.symm,j2⟩
end Go.Proofs.YtakphiannlpnfaaGreatDoor
