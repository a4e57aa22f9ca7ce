/- Texts of one proof, one behind the other: CoreP, LowP, LowA, TypA. -/
import Derived.Test.YtakphiannlpnfaaGreatDoorM10
import Derived.Test.YtakphiannlpnfaaGreatDoorM2
namespace Go.Proofs.YtakphiannlpnfaaGreatDoor
open Go.RowKit Go.Proofs.Tryz
set_option maxRecDepth 100000
structure OpC where
 how:Int
 k:Int
 n:Int
 p:List Mono
 fn:Int
 deriving DecidableEq
structure BufC where
 sides:List (List Mono)
 input:Int
 deriving DecidableEq
structure StepC where
 how:Int
 buf:Int
 at_:List Mono
 loops:List (List Mono)
 fn:Int
 ops:List OpC
 deriving DecidableEq
structure CoreC where
 vars:Int
 bufs:List BufC
 steps:List StepC
 outs:List Int
 deriving DecidableEq
structure hY where
 t:TyP
 buf:Int
 deriving Inhabited
def oN (n:Int):OpC:=⟨1,0,n,[],0⟩
def oV (p:Pol):OpC:=⟨2,0,0,p,0⟩
def oI (k:Int):OpC:=⟨3,k,0,[],0⟩
def oL (k:Int):OpC:=⟨4,k,0,[],0⟩
def oM (f:Int):OpC:=⟨5,0,0,[],f⟩
def oD (f:Int):OpC:=⟨6,0,0,[],f⟩
abbrev bFn:=Nat→List OpC
def bAr (I:bFn):Nat→List Pol→List OpC→List OpC
 | _,[],out=>out
 | k,s::r,out=>bAr I (k+1) r ([out,[oV s],[oD 3],I k,[oD 1]].flatten)
def spotL (S:List Pol)(I:bFn):List OpC:=match S with
 | []=>[oN 0]
 | _::r=>bAr I 1 r (I 0)
def bOr (first:Nat):bFn:=fun k=>[oI ((first+k:Nat):Int)]
def idI:bFn:=fun k=>[oI k]
def atL (a:hY)(I:bFn):List OpC:=spotL a.t.sides I++[oL a.buf]
def fromL (a:hY)(first:Nat):List OpC:=atL a (bOr first)
structure LoS where
 bufs:List BufC
 steps:List StepC
def xP (how:Int)(at_:Pol)(loops:List Pol)(f:Int)(ops:List OpC)(s:LoS):LoS:=⟨s.bufs,s.steps++[⟨how,s.bufs.length,at_,loops,f,ops⟩]⟩
def kL (loops:List Pol)(ops:List OpC)(s:LoS):LoS:=xP 1 [] loops 0 ops s
def bGp:Nat→List Int→LoS→LoS
 | _,[],s=>s
 | i,x::r,s=>bGp (i+1) r (xP 1 (bT i) [] 0 [oN x] s)
def xD:Nat→List Pol→LoS→LoS
 | _,[],s=>s
 | i,x::r,s=>xD (i+1) r (xP 1 (bT i) [] 0 [oV x] s)
def bHv (S:List Pol):bFn:=fun k=>if k<S.length-1 then [oI k] else [[oV (S.getD k [])],[oN 1],[oD 2],[oI k],[oD 2]].flatten
def bDc (S:List Pol):bFn:=fun k=>[oI ((S.length-1-k:Nat):Int)]
def nV (f:Int)(a:hY)(t:TyP)(s:LoS):LoS:=
 if f=32 then kL t.sides [oI 0] s
 else if f=33 then (if a.t.sides=[] then kL [[]] [oN 0] s else xD 0 a.t.sides s)
 else if f=34 then kL t.sides [[oI 0],[oL a.buf]].flatten s
 else if f=35 then kL t.sides (atL a (bHv a.t.sides)) s
 else if f=36 then kL t.sides (atL a (bDc a.t.sides)) s
 else kL t.sides [fromL a 0,[oM f]].flatten s
def bJd:List Pol→List OpC→List OpC
 | [],out=>out
 | s::r,out=>bJd r ([out,[oV s],[oD 3]].flatten)
def rhoL (b:hY)(t:TyP):List OpC:=match b.t.sides with
 | []=>fromL b 0
 | s::r=>[bJd r [oV s],spotL t.sides idI,[oD 5],[oL b.buf]].flatten
def bPd (v:Pol):Int:=v.foldl (fun _ m=>m.n) 0
def qO (f n:Int)(S:List Pol):bFn:=fun k=>
 if k=0∧f=38∧n<0 then [[oV (S.headD [])],[oN n],[oD 1],[oI 0],[oD 1]].flatten
 else if k=0∧f=39∧0<n then [[oN n],[oI 0],[oD 1]].flatten
 else [oI k]
def mP (f:Int)(a b:hY)(t:TyP)(s:LoS):Option LoS:=
 if f=37 then some (kL t.sides (rhoL b t) s)
 else if f=38∨f=39 then some (kL t.sides (atL b (qO f (bPd (a.t.values.headD [])) b.t.sides)) s)
 else if f=40 then (match mN (bT 1) a.t.sides with
  | none=>none
  | some p=>some (xP 1 p b.t.sides 0 (fromL b 0) (kL a.t.sides (fromL a 0) s)))
 else some (kL t.sides [fromL a 0,fromL b 0,[oD f]].flatten s)
abbrev gW:=List (Bs×hY)
def sK (k:Bs):gW→Option hY
 | []=>none
 | p::r=>if k=p.1 then some p.2 else sK k r
def xA (t:TyP)(n:Nat)(st:List hY)(s:LoS):Except Int (List hY×LoS):=
 if 1024<s.bufs.length+1∨1024<s.steps.length then .error 111 else .ok (⟨t,(s.bufs.length:Nat)⟩::st.drop n,⟨s.bufs++[⟨t.sides,-1⟩],s.steps⟩)
def gY (N:gW)(it:cR)(t:TyP)(st:List hY)(s:LoS):Except Int (List hY×LoS):=
 if it.how=1 then xA t 0 st (bGp 0 it.nums s)
 else if it.how=2 then (match sK it.name N with
  | some v=> .ok (v::st,s)
  | none=>xA t 0 st (kL [] [oV (t.values.headD [])] s))
 else if it.how=3 then xA t 1 st (nV it.fn (st.headD default) t s)
 else if it.how=5∨it.how=6 then (if (st.headD default).t.sides=[] then .ok (st,s)
  else xA t 1 st (xP (if it.how=6 then 3 else 2) [] (st.headD default).t.sides it.fn (fromL (st.headD default) 0) s))
 else if it.how=4 then (match mP it.fn (st.tail.headD default) (st.headD default) t s with
  | none=> .error 110
  | some s'=>xA t 2 st s')
 else xA t 2 st (kL t.sides [fromL (st.tail.headD default) 0,fromL (st.headD default) (st.tail.headD default).t.sides.length,[oD it.fn]].flatten s)
def oK (N:gW):List cR→List TyP→List hY→LoS→Except Flt (List hY×LoS)
 | [],_,st,s=> .ok (st,s)
 | it::r,T,st,s=>match gY N it (T.headD default) st s with
  | .error e=> .error (it.at_,e)
  | .ok x=>oK N r T.tail x.1 x.2
def kI (N:gW):List lF→List (List TyP)→LoS→List Int→Except Flt (LoS×List Int)
 | [],_,s,outs=> .ok (s,outs)
 | l::r,T,s,outs=>match oK N l.items (T.headD []) [] s with
  | .error f=> .error f
  | .ok x=>kI ((l.name,x.1.getLastD default)::N) r T.tail x.2 (outs++[(x.1.getLastD default).buf])
def wY (vars:List Bs):Nat→List gE→gW→gW
 | _,[],N=>N
 | i,x::r,N=>wY vars (i+1) r ((x.name,⟨inT vars x,(i:Nat)⟩)::N)
def vL (vars:List Bs):Nat→List gE→List BufC
 | _,[]=>[]
 | i,x::r=>⟨(inT vars x).sides,i⟩::vL vars (i+1) r
def noCore:CoreC:=⟨0,[],[],[]⟩
def gF (p:gP):CoreC×Flt:=
 if (cY p).2≠(0,0) then (noCore,(cY p).2)
 else match kI (wY (cQ p) 0 p.inputs []) p.lines (cY p).1 ⟨vL (cQ p) 0 p.inputs,[]⟩ [] with
  | .error f=>(noCore,f)
  | .ok x=>(⟨(cQ p).length,x.1.bufs,x.1.steps,x.2⟩,(0,0))
def Ext (s s':LoS):Prop:=s.bufs<+:s'.bufs∧s.steps<+:s'.steps
theorem Ext.refl(s:LoS):Ext s s:=⟨List.prefix_refl _,List.prefix_refl _⟩
theorem Ext.trans{a b c:LoS}(h:Ext a b)(k:Ext b c):Ext a c:=⟨h.1.trans k.1,h.2.trans k.2⟩
theorem xR(h:Int)(a:Pol)(l:List Pol)(f:Int)(o:List OpC)(s:LoS):Ext s (xP h a l f o s):=⟨List.prefix_refl _,List.prefix_append _ _⟩
theorem sE(l:List Pol)(o:List OpC)(s:LoS):Ext s (kL l o s):=xR ..
theorem nums_ext: ∀(l:List Int) (i:Nat) (s:LoS),Ext s (bGp i l s)
 | [],_,_=>Ext.refl _
 | _::l,i,_=>(xR ..).trans (nums_ext l (i+1) _)
theorem bPx: ∀(l:List Pol) (i:Nat) (s:LoS),Ext s (xD i l s)
 | [],_,_=>Ext.refl _
 | _::l,i,_=>(xR ..).trans (bPx l (i+1) _)
theorem monad_ext(f:Int)(a:hY)(t:TyP)(s:LoS):Ext s (nV f a t s):=by
 unfold nV
 repeat' split
 all_goals first | exact sE .. | exact bPx ..
theorem dyad_ext{f:Int}{a b:hY}{t:TyP}{s s':LoS}(h:mP f a b t s=some s'):Ext s s':=by
 unfold mP at h;split at h
 ·cases h;exact sE ..
 ·split at h
  ·cases h;exact sE ..
  ·split at h
   ·cases e:mN (bT 1) a.t.sides with
    | none=>rw [e] at h;cases h
    | some p=>rw [e] at h;cases h;exact(sE ..).trans (xR ..)
   ·cases h;exact sE ..
theorem yX{t:TyP}{n:Nat}{st:List hY}{s:LoS}{x:List hY×LoS}(h:xA t n st s= .ok x):Ext s x.2:=by
 unfold xA at h;split at h
 ·cases h
 ·cases h;exact⟨List.prefix_append _ _,List.prefix_refl _⟩
theorem bKj{N:gW}{it:cR}{t:TyP}{st:List hY}{s:LoS}{x:List hY×LoS}(h:gY N it t st s= .ok x):Ext s x.2:=by
 unfold gY at h;split at h
 ·exact(nums_ext ..).trans (yX h)
 ·split at h
  ·cases e:sK it.name N with
   | none=>rw [e] at h;exact(sE ..).trans (yX h)
   | some v=>rw [e] at h;cases h;exact Ext.refl _
  ·split at h
   ·exact(monad_ext ..).trans (yX h)
   ·split at h
    ·split at h
     ·cases h;exact Ext.refl _
     ·exact(xR ..).trans (yX h)
    ·split at h
     ·cases e:mP it.fn (st.tail.headD default) (st.headD default) t s with
      | none=>rw [e] at h;cases h
      | some s'=>rw [e] at h;exact(dyad_ext e).trans (yX h)
     ·exact(sE ..).trans (yX h)
theorem bIx{N:gW}: ∀{l:List cR} {T:List TyP} {st:List hY} {s:LoS} {x:List hY×LoS},oK N l T st s= .ok x→Ext s x.2
 | [],_,_,_,_,h=>by cases h;exact Ext.refl _
 | it::l,T,st,s,x,h=>by
  rw [oK] at h
  cases e:gY N it (T.headD default) st s with
  | error _=>rw [e] at h;cases h
  | ok y=>rw [e] at h;exact(bKj e).trans (bIx h)
theorem bEo: ∀{ls:List lF} {N:gW} {T:List (List TyP)} {s:LoS} {o:List Int} {x:LoS×List Int},kI N ls T s o= .ok x→Ext s x.1∧o<+:x.2∧x.2.length=o.length+ls.length
 | [],_,_,_,_,_,h=>by cases h;exact⟨Ext.refl _,List.prefix_refl _,rfl⟩
 | l::ls,N,T,s,o,x,h=>by
  rw [kI] at h
  cases e:oK N l.items (T.headD []) [] s with
  | error _=>rw [e] at h;cases h
  | ok y=>
   rw [e] at h;obtain⟨h1,h2,h3⟩:=bEo h;exact⟨(bIx e).trans h1,(List.prefix_append _ _).trans h2,by rw [h3,List.length_append];simp;omega⟩
theorem item_bad{N:gW}{it:cR}{t:TyP}{st:List hY}{s:LoS}{e:Int}(h:gY N it t st s= .error e):e=110∨e=111:=by
 have hp: ∀{t n st s},xA t n st s= .error e→e=110∨e=111:=fun{t n st s} h=>by
  unfold xA at h;split at h
  ·cases h;exact .inr rfl
  ·cases h
 unfold gY at h;split at h
 ·exact hp h
 ·split at h
  ·split at h
   ·cases h
   ·exact hp h
  ·split at h
   ·exact hp h
   ·split at h
    ·split at h
     ·cases h
     ·exact hp h
    ·split at h
     ·split at h
      ·cases h;exact .inl rfl
      ·exact hp h
     ·exact hp h
theorem line_bad{N:gW}: ∀{l:List cR} {T:List TyP} {st:List hY} {s:LoS} {f:Flt},oK N l T st s= .error f→f.2=110∨f.2=111
 | [],_,_,_,_,h=>by cases h
 | it::l,T,st,s,f,h=>by
  rw [oK] at h
  cases e:gY N it (T.headD default) st s with
  | error _=>rw [e] at h;cases h;exact item_bad e
  | ok y=>rw [e] at h;exact line_bad h
theorem bAm: ∀{ls:List lF} {N:gW} {T:List (List TyP)} {s:LoS} {o:List Int} {f:Flt},kI N ls T s o= .error f→f.2=110∨f.2=111
 | [],_,_,_,_,_,h=>by cases h
 | l::ls,N,T,s,o,f,h=>by
  rw [kI] at h
  cases e:oK N l.items (T.headD []) [] s with
  | error _=>rw [e] at h;cases h;exact line_bad e
  | ok y=>rw [e] at h;exact bAm h
theorem lines_bad{ls:List lF}{N:gW}{T:List (List TyP)}{s:LoS}{o:List Int}{f:Flt}(h:kI N ls T s o= .error f):f.2≠0:=by
 have:=bAm h;omega
theorem yY{N:dT}: ∀{l:List cR} {st all:List TyP} {f:Flt},iY N l st all= .error f→f.2≠0
 | [],_,_,_,h=>by cases h
 | it::l,st,all,f,h=>by
  rw [iY] at h;split at h
  ·cases h;assumption
  ·exact yY h
theorem vH: ∀{ls:List lF} {N:dT} {o R:List (List TyP)},iJ N ls o=(R,(0,0))→o<+:R∧R.length=o.length+ls.length
 | [],N,o,R,h=>by cases h;exact⟨List.prefix_refl _,rfl⟩
 | l::ls,N,o,R,h=>by
  rw [iJ] at h
  cases e:iY N l.items [] [] with
  | error f=>
   rw [e] at h;injection h with _ h
   exact absurd (by rw [h]) (yY e)
  | ok y=>
   rw [e] at h;obtain⟨h1,h2⟩:=vH h;exact⟨(List.prefix_append _ _).trans h1,by rw [h2,List.length_append];simp;omega⟩
theorem lowerP_ok{p:gP}(h:(gF p).2=(0,0)): ∃x,(cY p).2=(0,0)∧kI (wY (cQ p) 0 p.inputs []) p.lines (cY p).1 ⟨vL (cQ p) 0 p.inputs,[]⟩ []= .ok x∧(gF p).1=⟨(cQ p).length,x.1.bufs,x.1.steps,x.2⟩:=by
 unfold gF at h⊢;split at h
 ·rename_i hn;exact absurd h hn
 ·rename_i hn;rw [if_neg hn]
  cases e:kI (wY (cQ p) 0 p.inputs []) p.lines (cY p).1 ⟨vL (cQ p) 0 p.inputs,[]⟩ [] with
  | error f=>
   rw [e] at h;exact absurd (show f.2=0 from congrArg Prod.snd h) (lines_bad e)
  | ok x=>exact⟨x,by simpa using hn,rfl,rfl⟩
theorem bPy{p:gP}(h:(cY p).2=(0,0)):cY p=iJ (nY p) p.lines []:=by
 unfold cY at h⊢;split at h
 ·cases h
 ·rename_i hn;rw [if_neg hn]
  cases e:p.inputs.find? (bMx (cQ p)) with
  | some x=>rw [e] at h;exact absurd (show(80:Int)=0 from congrArg Prod.snd h) o9
  | none=>rfl
def listF (l:Sl PolV):Fact:=((bQ.sl (.slice l.addr l.list.length l.cap) l.list).and (cL l.list)).and (Fact.pure (l.list.length≤l.cap))
def tyF (x:TyV):Fact:=(listF x.sides).and (listF x.values)
section
variable {F : List Fact} {l : Sl PolV} {x : TyV} {p : PolV} {xs : List PolV}
theorem tI(h:Has F (listF l)):Has F (bQ.sl (.slice l.addr l.list.length l.cap) l.list):=h.left.left
theorem zE(h:Has F (listF l)):Has F (cL l.list):=h.left.right
theorem listF_c(h:Has F (listF l)):Has F (Fact.pure (l.list.length≤l.cap)):=h.right
theorem cE{β:dF}{n:Nat}{Γ:Env}{H:List bH}{F:List Fact}{K:Act→World→Prop}(l:Sl PolV)(h:listF l∈F)(k:l.list.length≤l.cap→At β n Γ H (cL l.list::bQ.sl (.slice l.addr l.list.length l.cap) l.list::F) K):At β n Γ H F K:=bB _ (tI (Has.of h)) (bB _ (Has.cons (zE (Has.of h))) (bC (Has.cons (Has.cons (listF_c (Has.of h)))) k))
theorem cF{A:Option Addr}{c:Nat}(h:Has F (bQ.sl (.slice A xs.length c) xs))(k:Has F (cL xs))(hc:xs.length≤c):Has F (listF ⟨A,c,xs⟩):=(h.and k).and (j2 hc)
theorem cI:Has F (listF ⟨none,0,[]⟩):=cF pB Has.each_nil (Nat.le_refl _)
theorem iN(h:Has F (kU p)):Has F (cL [p]):=Has.each_cons h Has.each_nil
theorem bW(h:Has F (listF x.sides))(k:Has F (listF x.values)):Has F (tyF x):=h.and k
theorem jV(h:Has F (tyF x)):Has F (listF x.sides):=h.left
theorem kT(h:Has F (tyF x)):Has F (listF x.values):=h.right
theorem polsF_rev(h:Has F (cL xs)):Has F (cL xs.reverse):=fun S w k p hp=>h S w k p (List.mem_reverse.1 hp)
theorem sl_rev{A:Option Addr}{c:Nat}(h:Has F (bQ.sl (.slice A xs.length c) xs.reverse)):Has F (bQ.sl (.slice A xs.reverse.length c) xs.reverse):=by rw [List.length_reverse];exact h
end
structure WfT (t:TyP):Prop where
 len:t.sides.length≤4
 sr: ∀s∈t.sides,dN s=true
 vr: ∀v∈t.values,dN v=true
 kn:t.known=true→t.values.length≤4∧(t.sides=[]∧t.values.length=1∨t.sides=[bT t.values.length])
 un:t.known=false→t.values=[]
def tyC (x:TyV):Value:= .agg #[.slice x.sides.addr x.sides.list.length x.sides.cap,.bool x.known,.slice x.values.addr x.values.list.length x.values.cap]
def bHk (nums:List Int)(l:List PolV)(i:Nat):Prop:=bK l=(nums.take i).map bT∧(∀n∈nums.take i,(iD n).2=0)∧(0<i→nums.length≤4)
theorem bOw(nums:List Int):bHk nums [] 0:=⟨rfl,fun n hn=>by simp at hn,fun h=>absurd h o9⟩
section
variable {nums : List Int} {l : List PolV} {i : Nat} {n : Int} {p : PolV}
theorem bHk.len(h:bHk nums l i)(hi:i≤nums.length):l.length=i:=by
 have:=congrArg List.length h.1;rw [bF,List.length_map,List.length_take] at this;omega
theorem lit_step(h:bHk nums l i)(hn:nums[i]?=some n)(hp:p.list=bT n)(h0:(iD n).2=0)(h4:nums.length≤4):bHk nums (l++[p]) (i+1):=by
 obtain⟨hi,e⟩:=List.getElem?_eq_some_iff.1 hn;obtain⟨a,b,_⟩:=h;refine⟨?_,fun m hm=>?_,fun _=>h4⟩
 ·rw [List.take_succ_eq_append_getElem hi,e,List.map_append,←a];unfold bK;rw [List.map_append,List.map_singleton,List.map_singleton,hp]
 ·rw [List.take_succ_eq_append_getElem hi,e] at hm
  rcases List.mem_append.1 hm with hm | hm
  ·exact b m hm
  ·rw [List.mem_singleton.1 hm];exact h0
theorem bIn(hn:nums[i]?=some n)(h:(iD n).2≠0∨4<nums.length):jM nums=⟨if 1<nums.length then [bT nums.length] else [],false,[]⟩:=by
 unfold jM;rw [if_pos]
 rcases h with h | h
 ·refine .inl (List.any_eq_true.2 ⟨n,List.mem_of_getElem? hn,?_⟩)
  simpa using h
 ·exact .inr h
theorem lit_end(h:bHk nums l i)(hi:nums.length≤i)(hl:i≤nums.length):jM nums=⟨if 1<nums.length then [bT nums.length] else [],true,bK l⟩:=by
 obtain⟨a,b,c⟩:=h;rw [List.take_of_length_le hi] at a b;unfold jM;rw [if_neg,a];rintro(k | k)
 ·obtain⟨n,hn,k⟩:=List.any_eq_true.1 k;have:=b n hn;simp [this] at k
 ·have:=c n0;omega
end
theorem bNd(l:Sl PolV)(hl:l.list.length≤5864062014805):cP prog 82 [.slice l.addr l.list.length l.cap] [] [listF l] (fun(x:Option Addr×Nat)=> .slice x.1 l.list.reverse.length x.2) (fun _=>[]) (fun(x:Option Addr×Nat)=>[listF ⟨x.1,x.2,l.list.reverse⟩]):=by
 have hT:=dZ;refine k6 func82 ntmps82 ?_;intro β hM;refine g8 ?_;refine j4 func114 (xX l.addr l.cap l.list hl) ⟨tI d7,j1⟩ fun⟨A1,c2⟩=>?_;refine g6 ?_;refine bD func115 (bOi A1 c2 l.list n0) rfl rfl (.c0 .nil) j1 fun _=>?_;refine g9 ?_;refine bV .head fun hcp=>bE .head ?_;exact rs1 (A1,c2) ⟨cF (sl_rev d7) (polsF_rev (zE d8)) (by simpa using hcp),j1⟩ (he:=by rw [List.length_reverse])
theorem bOf(A:Option Addr)(c:Nat)(nums:List Int)(hl:nums.length≤1000000):cP prog 47 [.slice A nums.length c] [] [tA.sl (.slice A nums.length c) nums] (fun(x:TyV)=>tyC x) (fun _=>[]) (fun(x:TyV)=>[tyF x,Fact.pure (x.t=jM nums)]):=by
 have hT:=dZ;refine k6 func47 ntmps47 ?_;intro β hM;refine g2 ?_;refine j5 pL fun b1=>?_;refine g15 ?_;refine dO (fun hc11=>?_) fun hc11=>?_
 ·refine g3 ?_;refine j4 func45 (jF (((nums.length:Nat):Int))) j1 fun⟨A2,c3⟩=>?_;refine cV (m:=⟨A2,c3,bT (((nums.length:Nat):Int))⟩) rfl rfl rfl rfl rfl fun b4=>?_;refine bP (E:=bQ) (xs:=[(⟨A2,c3,bT (((nums.length:Nat):Int))⟩:PolV)]) .head p8<|bE .head<|bB (cL [(⟨A2,c3,bT (((nums.length:Nat):Int))⟩:PolV)]) (iN d8) ?_;refine g6 ?_;refine j4 func44 (iK (some ⟨b4,0,none⟩) none ([(⟨A2,c3,bT (((nums.length:Nat):Int))⟩:PolV)].length) (0) 1 0) j1 fun _=>?_;refine j5 pL fun b5=>?_;refine g12 ?_;refine cH (t:=47) bQ<|bB (cL []) (Has.each_nil) ?_;refine cG (ι:=Nat×List PolV×Option Addr×Nat) [(0,_),(2,_),(3,_),(4,_),(18,_),(19,_)] ⟨rfl,rfl,rfl,rfl,rfl,rfl,j1⟩ (fun⟨i,vs,V,cv⟩=>[(20,.int .i64 (i:Nat))]) (fun⟨i,vs,V,cv⟩=>[.obj b5 (.cells [.slice (some ⟨b4,0,none⟩) ([(⟨A2,c3,bT (((nums.length:Nat):Int))⟩:PolV)].length) 1,.bool true,.slice V vs.length cv].toArray 43),bQ.row (.slice V vs.length cv) 47 vs]) (fun⟨i,vs,V,cv⟩=>[Fact.pure (i≤nums.length∧bHk nums vs i),cL vs]) (fun⟨i,vs,V,cv⟩=>nums.length-i) (0,[],none,0) ⟨rfl,j1⟩ (.c1 (.c0 .nil)) ⟨j2 (⟨n0,bOw nums⟩),d7,j1⟩ ?_;rintro⟨i,vs,V,cv⟩;dsimp only;refine bC d7 fun hinv6=>?_;refine g6 ?_;refine dO (fun hc21=>?_) fun hc21=>?_
  ·refine g6 ?_;obtain⟨x6,hx7⟩:=gx nums i;refine ss (ixs i) ?_;refine ss (dW hx7 0) ?_;refine g6 ?_;refine j4 func34 (vC x6) j1 fun⟨A8,c9⟩=>?_;refine g13 ?_;refine bCk (fun hg31=>?_) fun hg31=>?_
   ·refine g10 ?_;refine j4 func46 (dB (some ⟨b4,0,none⟩) ([(⟨A2,c3,bT (((nums.length:Nat):Int))⟩:PolV)].length) 1) j1 fun _=>?_;refine g10 ?_;have hr:jM nums=TyV.t ⟨⟨(some ⟨b4,0,none⟩),1,[(⟨A2,c3,bT (((nums.length:Nat):Int))⟩:PolV)]⟩,false,⟨none,0,[]⟩⟩:=(bIn hx7 ab3).trans y9;exact rs1 ⟨⟨(some ⟨b4,0,none⟩),1,[(⟨A2,c3,bT (((nums.length:Nat):Int))⟩:PolV)]⟩,false,⟨none,0,[]⟩⟩ ⟨(bW (x:=⟨⟨(some ⟨b4,0,none⟩),1,[(⟨A2,c3,bT (((nums.length:Nat):Int))⟩:PolV)]⟩,false,⟨none,0,[]⟩⟩) (cF e8 e7 (Nat.le_refl 1)) cI),j2 hr.symm,j1⟩
   refine g6 ?_;refine dO (fun hc35=>?_) fun hc35=>?_
   ·refine g3 ?_;refine j4 func46 (dB (some ⟨b4,0,none⟩) ([(⟨A2,c3,bT (((nums.length:Nat):Int))⟩:PolV)].length) 1) j1 fun _=>?_;refine g10 ?_;have hr:jM nums=TyV.t ⟨⟨(some ⟨b4,0,none⟩),1,[(⟨A2,c3,bT (((nums.length:Nat):Int))⟩:PolV)]⟩,false,⟨none,0,[]⟩⟩:=(bIn hx7 ab3).trans y9;exact rs1 ⟨⟨(some ⟨b4,0,none⟩),1,[(⟨A2,c3,bT (((nums.length:Nat):Int))⟩:PolV)]⟩,false,⟨none,0,[]⟩⟩ ⟨(bW (x:=⟨⟨(some ⟨b4,0,none⟩),1,[(⟨A2,c3,bT (((nums.length:Nat):Int))⟩:PolV)]⟩,false,⟨none,0,[]⟩⟩) (cF e8 e7 (Nat.le_refl 1)) cI),j2 hr.symm,j1⟩
   refine g6 ?_;refine cV (m:=(⟨A8,c9,(iD x6).1⟩:PolV)) rfl rfl rfl rfl rfl fun b10=>?_;refine bB (cL (vs++[((⟨A8,c9,(iD x6).1⟩:PolV):PolV)])) (Has.each_snoc d9 d7) ?_;have hvl:=hinv6.2.len hinv6.1;refine fC kT2 (cA .head rfl) rfl rfl rfl rfl rfl rfl rfl q9 fun A11 c12=>?_;refine g7 ?_;refine inc (i+1) ?_;refine g3 ?_;exact bk2 (i+1,vs++[((⟨A8,c9,(iD x6).1⟩:PolV):PolV)],A11,c12) ⟨j2 (⟨by dsimp only;omega,lit_step hinv6.2 hx7 rfl ac0 n0⟩),d7,j1⟩
  refine g6 ?_;refine bV kT1 fun hcv=>bE kT1 ?_;refine g6 ?_;have hr:jM nums=TyV.t ⟨⟨(some ⟨b4,0,none⟩),1,[(⟨A2,c3,bT (((nums.length:Nat):Int))⟩:PolV)]⟩,true,⟨V,cv,vs⟩⟩:=(lit_end hinv6.2 n0 hinv6.1).trans y9;exact rs1 ⟨⟨(some ⟨b4,0,none⟩),1,[(⟨A2,c3,bT (((nums.length:Nat):Int))⟩:PolV)]⟩,true,⟨V,cv,vs⟩⟩ ⟨(bW (x:=⟨⟨(some ⟨b4,0,none⟩),1,[(⟨A2,c3,bT (((nums.length:Nat):Int))⟩:PolV)]⟩,true,⟨V,cv,vs⟩⟩) (cF e8 e7 (Nat.le_refl 1)) (cF d7 d9 (hcv))),j2 hr.symm,j1⟩
 refine g5 ?_;refine j4 func44 (iK none none (0) (0) 0 0) j1 fun _=>?_;refine j5 pL fun b13=>?_;refine g12 ?_;refine cH (t:=47) bQ<|bB (cL []) (Has.each_nil) ?_;refine cG (ι:=Nat×List PolV×Option Addr×Nat) [(0,_),(2,_),(3,_),(4,_),(18,_),(19,_)] ⟨rfl,rfl,rfl,rfl,rfl,rfl,j1⟩ (fun⟨i,vs,V,cv⟩=>[(20,.int .i64 (i:Nat))]) (fun⟨i,vs,V,cv⟩=>[.obj b13 (.cells [.slice none (0) 0,.bool true,.slice V vs.length cv].toArray 43),bQ.row (.slice V vs.length cv) 47 vs]) (fun⟨i,vs,V,cv⟩=>[Fact.pure (i≤nums.length∧bHk nums vs i),cL vs]) (fun⟨i,vs,V,cv⟩=>nums.length-i) (0,[],none,0) ⟨rfl,j1⟩ (.c1 (.c0 .nil)) ⟨j2 (⟨n0,bOw nums⟩),d7,j1⟩ ?_;rintro⟨i,vs,V,cv⟩;dsimp only;refine bC d7 fun hinv6=>?_;refine g6 ?_;refine dO (fun hc21=>?_) fun hc21=>?_
 ·refine g6 ?_;obtain⟨x14,hx15⟩:=gx nums i;refine ss (ixs i) ?_;refine ss (dW hx15 0) ?_;refine g6 ?_;refine j4 func34 (vC x14) j1 fun⟨A16,c17⟩=>?_;refine g13 ?_;refine bCk (fun hg31=>?_) fun hg31=>?_
  ·refine g10 ?_;refine j4 func46 (dB none (0) 0) j1 fun _=>?_;refine g10 ?_;have hr:jM nums=TyV.t ⟨⟨none,0,[]⟩,false,⟨none,0,[]⟩⟩:=(bIn hx15 ab3).trans y9;exact rs1 ⟨⟨none,0,[]⟩,false,⟨none,0,[]⟩⟩ ⟨(bW (x:=⟨⟨none,0,[]⟩,false,⟨none,0,[]⟩⟩) cI cI),j2 hr.symm,j1⟩
  refine g6 ?_;refine dO (fun hc35=>?_) fun hc35=>?_
  ·refine g3 ?_;refine j4 func46 (dB none (0) 0) j1 fun _=>?_;refine g10 ?_;have hr:jM nums=TyV.t ⟨⟨none,0,[]⟩,false,⟨none,0,[]⟩⟩:=(bIn hx15 ab3).trans y9;exact rs1 ⟨⟨none,0,[]⟩,false,⟨none,0,[]⟩⟩ ⟨(bW (x:=⟨⟨none,0,[]⟩,false,⟨none,0,[]⟩⟩) cI cI),j2 hr.symm,j1⟩
  refine g6 ?_;refine cV (m:=(⟨A16,c17,(iD x14).1⟩:PolV)) rfl rfl rfl rfl rfl fun b18=>?_;refine bB (cL (vs++[((⟨A16,c17,(iD x14).1⟩:PolV):PolV)])) (Has.each_snoc d9 d7) ?_;have hvl:=hinv6.2.len hinv6.1;refine fC kT2 (cA .head rfl) rfl rfl rfl rfl rfl rfl rfl q9 fun A19 c20=>?_;refine g7 ?_;refine inc (i+1) ?_;refine g3 ?_;exact bk2 (i+1,vs++[((⟨A16,c17,(iD x14).1⟩:PolV):PolV)],A19,c20) ⟨j2 (⟨by dsimp only;omega,lit_step hinv6.2 hx15 rfl ac0 n0⟩),d7,j1⟩
 refine g6 ?_;refine bV kT1 fun hcv=>bE kT1 ?_;refine g6 ?_;have hr:jM nums=TyV.t ⟨⟨none,0,[]⟩,true,⟨V,cv,vs⟩⟩:=(lit_end hinv6.2 n0 hinv6.1).trans y9;exact rs1 ⟨⟨none,0,[]⟩,true,⟨V,cv,vs⟩⟩ ⟨(bW (x:=⟨⟨none,0,[]⟩,true,⟨V,cv,vs⟩⟩) cI (cF d7 d9 (hcv))),j2 hr.symm,j1⟩
end Go.Proofs.YtakphiannlpnfaaGreatDoor
