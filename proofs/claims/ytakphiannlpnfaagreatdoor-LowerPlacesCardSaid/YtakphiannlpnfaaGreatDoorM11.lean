/- Texts of one proof, one behind the other: CoreP, LowP, LowA, TypA. -/
import Derived.Test.YtakphiannlpnfaaGreatDoorM10
import Derived.Test.YtakphiannlpnfaaGreatDoorM2
namespace Go.Proofs.YtakphiannlpnfaaGreatDoor
open Go.RowKit Go.Proofs.Tryz
set_option maxRecDepth 100000
structure OpC where
 how:Int
 k:Int
 n:Int
 p:List Mono
 fn:Int
 deriving DecidableEq
structure uB where
 sides:List (List Mono)
 input:Int
 deriving DecidableEq
structure bAs where
 how:Int
 buf:Int
 at_:List Mono
 loops:List (List Mono)
 fn:Int
 ops:List OpC
 deriving DecidableEq
structure bHv where
 vars:Int
 bufs:List uB
 steps:List bAs
 outs:List Int
 deriving DecidableEq
structure kY where
 t:TyP
 buf:Int
 deriving Inhabited
def oN (n:Int):OpC:=⟨1,0,n,[],0⟩
def oV (p:Pol):OpC:=⟨2,0,0,p,0⟩
def oI (k:Int):OpC:=⟨3,k,0,[],0⟩
def oL (k:Int):OpC:=⟨4,k,0,[],0⟩
def oM (f:Int):OpC:=⟨5,0,0,[],f⟩
def oD (f:Int):OpC:=⟨6,0,0,[],f⟩
abbrev bFs:=Nat→List OpC
def bBx (I:bFs):Nat→List Pol→List OpC→List OpC
 | _,[],out=>out
 | k,s::r,out=>bBx I (k+1) r ([out,[oV s],[oD 3],I k,[oD 1]].flatten)
def spotL (S:List Pol)(I:bFs):List OpC:=match S with
 | []=>[oN 0]
 | _::r=>bBx I 1 r (I 0)
def bQh (first:Nat):bFs:=fun k=>[oI ((first+k:Nat):Int)]
def idI:bFs:=fun k=>[oI k]
def atL (a:kY)(I:bFs):List OpC:=spotL a.t.sides I++[oL a.buf]
def fromL (a:kY)(first:Nat):List OpC:=atL a (bQh first)
structure LoS where
 bufs:List uB
 steps:List bAs
def bAo (how:Int)(at_:Pol)(loops:List Pol)(f:Int)(ops:List OpC)(s:LoS):LoS:=⟨s.bufs,s.steps++[⟨how,s.bufs.length,at_,loops,f,ops⟩]⟩
def lI (loops:List Pol)(ops:List OpC)(s:LoS):LoS:=bAo 1 [] loops 0 ops s
def bKp:Nat→List Int→LoS→LoS
 | _,[],s=>s
 | i,x::r,s=>bKp (i+1) r (bAo 1 (bT i) [] 0 [oN x] s)
def bBm:Nat→List Pol→LoS→LoS
 | _,[],s=>s
 | i,x::r,s=>bBm (i+1) r (bAo 1 (bT i) [] 0 [oV x] s)
def bIw (S:List Pol):bFs:=fun k=>if k<S.length-1 then [oI k] else [[oV (S.getD k [])],[oN 1],[oD 2],[oI k],[oD 2]].flatten
def bCt (S:List Pol):bFs:=fun k=>[oI ((S.length-1-k:Nat):Int)]
def qQ (f:Int)(a:kY)(t:TyP)(s:LoS):LoS:=
 if f=32 then lI t.sides [oI 0] s
 else if f=33 then (if a.t.sides=[] then lI [[]] [oN 0] s else bBm 0 a.t.sides s)
 else if f=34 then lI t.sides [[oI 0],[oL a.buf]].flatten s
 else if f=35 then lI t.sides (atL a (bIw a.t.sides)) s
 else if f=36 then lI t.sides (atL a (bCt a.t.sides)) s
 else lI t.sides [fromL a 0,[oM f]].flatten s
def bNs:List Pol→List OpC→List OpC
 | [],out=>out
 | s::r,out=>bNs r ([out,[oV s],[oD 3]].flatten)
def rhoL (b:kY)(t:TyP):List OpC:=match b.t.sides with
 | []=>fromL b 0
 | s::r=>[bNs r [oV s],spotL t.sides idI,[oD 5],[oL b.buf]].flatten
def bQf (v:Pol):Int:=v.foldl (fun _ m=>m.n) 0
def rJ (f n:Int)(S:List Pol):bFs:=fun k=>
 if k=0∧f=38∧n<0 then [[oV (S.headD [])],[oN n],[oD 1],[oI 0],[oD 1]].flatten
 else if k=0∧f=39∧0<n then [[oN n],[oI 0],[oD 1]].flatten
 else [oI k]
def pK (f:Int)(a b:kY)(t:TyP)(s:LoS):Option LoS:=
 if f=37 then some (lI t.sides (rhoL b t) s)
 else if f=38∨f=39 then some (lI t.sides (atL b (rJ f (bQf (a.t.values.headD [])) b.t.sides)) s)
 else if f=40 then (match nT (bT 1) a.t.sides with
  | none=>none
  | some p=>some (bAo 1 p b.t.sides 0 (fromL b 0) (lI a.t.sides (fromL a 0) s)))
 else some (lI t.sides [fromL a 0,fromL b 0,[oD f]].flatten s)
abbrev kO:=List (Bs×kY)
def xV (k:Bs):kO→Option kY
 | []=>none
 | p::r=>if k=p.1 then some p.2 else xV k r
def bAy (t:TyP)(n:Nat)(st:List kY)(s:LoS):Except Int (List kY×LoS):=
 if 1024<s.bufs.length+1∨1024<s.steps.length then .error 111 else .ok (⟨t,(s.bufs.length:Nat)⟩::st.drop n,⟨s.bufs++[⟨t.sides,-1⟩],s.steps⟩)
def iS (N:kO)(it:cM)(t:TyP)(st:List kY)(s:LoS):Except Int (List kY×LoS):=
 if it.how=1 then bAy t 0 st (bKp 0 it.nums s)
 else if it.how=2 then (match xV it.name N with
  | some v=> .ok (v::st,s)
  | none=>bAy t 0 st (lI [] [oV (t.values.headD [])] s))
 else if it.how=3 then bAy t 1 st (qQ it.fn (st.headD default) t s)
 else if it.how=5∨it.how=6 then (if (st.headD default).t.sides=[] then .ok (st,s)
  else bAy t 1 st (bAo (if it.how=6 then 3 else 2) [] (st.headD default).t.sides it.fn (fromL (st.headD default) 0) s))
 else if it.how=4 then (match pK it.fn (st.tail.headD default) (st.headD default) t s with
  | none=> .error 110
  | some s'=>bAy t 2 st s')
 else bAy t 2 st (lI t.sides [fromL (st.tail.headD default) 0,fromL (st.headD default) (st.tail.headD default).t.sides.length,[oD it.fn]].flatten s)
def rX (N:kO):List cM→List TyP→List kY→LoS→Except Flt (List kY×LoS)
 | [],_,st,s=> .ok (st,s)
 | it::r,T,st,s=>match iS N it (T.headD default) st s with
  | .error e=> .error (it.at_,e)
  | .ok x=>rX N r T.tail x.1 x.2
def oJ (N:kO):List iD→List (List TyP)→LoS→List Int→Except Flt (LoS×List Int)
 | [],_,s,outs=> .ok (s,outs)
 | l::r,T,s,outs=>match rX N l.items (T.headD []) [] s with
  | .error f=> .error f
  | .ok x=>oJ ((l.name,x.1.getLastD default)::N) r T.tail x.2 (outs++[(x.1.getLastD default).buf])
def xC (vars:List Bs):Nat→List dQ→kO→kO
 | _,[],N=>N
 | i,x::r,N=>xC vars (i+1) r ((x.name,⟨inT vars x,(i:Nat)⟩)::N)
def bBw (vars:List Bs):Nat→List dQ→List uB
 | _,[]=>[]
 | i,x::r=>⟨(inT vars x).sides,i⟩::bBw vars (i+1) r
def noCore:bHv:=⟨0,[],[],[]⟩
def iN (p:fT):bHv×Flt:=
 if (fF p).2≠(0,0) then (noCore,(fF p).2)
 else match oJ (xC (cW p) 0 p.inputs []) p.lines (fF p).1 ⟨bBw (cW p) 0 p.inputs,[]⟩ [] with
  | .error f=>(noCore,f)
  | .ok x=>(⟨(cW p).length,x.1.bufs,x.1.steps,x.2⟩,(0,0))
def Ext (s s':LoS):Prop:=s.bufs<+:s'.bufs∧s.steps<+:s'.steps
theorem Ext.refl(s:LoS):Ext s s:=⟨List.prefix_refl _,List.prefix_refl _⟩
theorem Ext.trans{a b c:LoS}(h:Ext a b)(k:Ext b c):Ext a c:=⟨h.1.trans k.1,h.2.trans k.2⟩
theorem item_bad{N:kO}{it:cM}{t:TyP}{st:List kY}{s:LoS}{e:Int}(h:iS N it t st s= .error e):e=110∨e=111:=by
 have hp: ∀{t n st s},bAy t n st s= .error e→e=110∨e=111:=fun{t n st s} h=>by
  unfold bAy at h;split at h
  ·cases h;exact .inr rfl
  ·cases h
 unfold iS at h;split at h
 ·exact hp h
 ·split at h
  ·split at h
   ·cases h
   ·exact hp h
  ·split at h
   ·exact hp h
   ·split at h
    ·split at h
     ·cases h
     ·exact hp h
    ·split at h
     ·split at h
      ·cases h;exact .inl rfl
      ·exact hp h
     ·exact hp h
theorem zH{N:fI}: ∀{l:List cM} {st all:List TyP} {f:Flt},jN N l st all= .error f→f.2≠0
 | [],_,_,_,h=>by cases h
 | it::l,st,all,f,h=>by
  rw [jN] at h;split at h
  ·cases h;assumption
  ·exact zH h
theorem bOv: ∀{ls:List iD} {N:fI} {o R:List (List TyP)},iY N ls o=(R,(0,0))→o<+:R∧R.length=o.length+ls.length
 | [],N,o,R,h=>by cases h;exact⟨List.prefix_refl _,rfl⟩
 | l::ls,N,o,R,h=>by
  rw [iY] at h
  cases e:jN N l.items [] [] with
  | error f=>
   rw [e] at h;injection h with _ h
   exact absurd (by rw [h]) (zH e)
  | ok y=>
   rw [e] at h;obtain⟨h1,h2⟩:=bOv h;exact⟨(List.prefix_append _ _).trans h1,by rw [h2,List.length_append];simp;omega⟩
theorem typesP_go{p:fT}(h:(fF p).2=(0,0)):fF p=iY (nS p) p.lines []:=by
 unfold fF at h⊢;split at h
 ·cases h
 ·rename_i hn;rw [if_neg hn]
  cases e:p.inputs.find? (yY (cW p)) with
  | some x=>rw [e] at h;exact absurd (show(80:Int)=0 from congrArg Prod.snd h) o8
  | none=>rfl
def listF (l:Sl PolV):Fact:=((bP.sl (.slice l.addr l.list.length l.cap) l.list).and (cL l.list)).and (Fact.pure (l.list.length≤l.cap))
def tyF (x:TyV):Fact:=(listF x.sides).and (listF x.values)
section
variable {F : List Fact} {l : Sl PolV} {x : TyV} {p : PolV} {xs : List PolV}
theorem vV(h:Has F (listF l)):Has F (bP.sl (.slice l.addr l.list.length l.cap) l.list):=h.left.left
theorem bCq(h:Has F (listF l)):Has F (cL l.list):=h.left.right
theorem listF_c(h:Has F (listF l)):Has F (Fact.pure (l.list.length≤l.cap)):=h.right
theorem cE{β:dG}{n:Nat}{Γ:Env}{H:List bI}{F:List Fact}{K:Act→World→Prop}(l:Sl PolV)(h:listF l∈F)(k:l.list.length≤l.cap→At β n Γ H (cL l.list::bP.sl (.slice l.addr l.list.length l.cap) l.list::F) K):At β n Γ H F K:=bB _ (vV (Has.of h)) (bB _ (Has.cons (bCq (Has.of h))) (bC (Has.cons (Has.cons (listF_c (Has.of h)))) k))
theorem cG{A:Option Addr}{c:Nat}(h:Has F (bP.sl (.slice A xs.length c) xs))(k:Has F (cL xs))(hc:xs.length≤c):Has F (listF ⟨A,c,xs⟩):=(h.and k).and (j2 hc)
theorem cJ:Has F (listF ⟨none,0,[]⟩):=cG pT Has.each_nil (Nat.le_refl _)
theorem iR(h:Has F (kV p)):Has F (cL [p]):=Has.each_cons h Has.each_nil
theorem bW(h:Has F (listF x.sides))(k:Has F (listF x.values)):Has F (tyF x):=h.and k
theorem lK(h:Has F (tyF x)):Has F (listF x.sides):=h.left
theorem lJ(h:Has F (tyF x)):Has F (listF x.values):=h.right
theorem polsF_rev(h:Has F (cL xs)):Has F (cL xs.reverse):=fun S w k p hp=>h S w k p (List.mem_reverse.1 hp)
theorem sl_rev{A:Option Addr}{c:Nat}(h:Has F (bP.sl (.slice A xs.length c) xs.reverse)):Has F (bP.sl (.slice A xs.reverse.length c) xs.reverse):=by rw [List.length_reverse];exact h
end
structure WfT (t:TyP):Prop where
 len:t.sides.length≤4
 sr: ∀s∈t.sides,dR s=true
 vr: ∀v∈t.values,dR v=true
 kn:t.known=true→t.values.length≤4∧(t.sides=[]∧t.values.length=1∨t.sides=[bT t.values.length])
 un:t.known=false→t.values=[]
def tyC (x:TyV):Value:= .agg #[.slice x.sides.addr x.sides.list.length x.sides.cap,.bool x.known,.slice x.values.addr x.values.list.length x.values.cap]
def bHt (nums:List Int)(l:List PolV)(i:Nat):Prop:=bK l=(nums.take i).map bT∧(∀n∈nums.take i,(iE n).2=0)∧(0<i→nums.length≤4)
theorem bSk(nums:List Int):bHt nums [] 0:=⟨rfl,fun n hn=>by simp at hn,fun h=>absurd h o8⟩
section
variable {nums : List Int} {l : List PolV} {i : Nat} {n : Int} {p : PolV}
theorem bHt.len(h:bHt nums l i)(hi:i≤nums.length):l.length=i:=by
 have:=congrArg List.length h.1;rw [bF,List.length_map,List.length_take] at this;omega
theorem lit_step(h:bHt nums l i)(hn:nums[i]?=some n)(hp:p.list=bT n)(h0:(iE n).2=0)(h4:nums.length≤4):bHt nums (l++[p]) (i+1):=by
 obtain⟨hi,e⟩:=List.getElem?_eq_some_iff.1 hn;obtain⟨a,b,_⟩:=h;refine⟨?_,fun m hm=>?_,fun _=>h4⟩
 ·rw [List.take_succ_eq_append_getElem hi,e,List.map_append,←a];unfold bK;rw [List.map_append,List.map_singleton,List.map_singleton,hp]
 ·rw [List.take_succ_eq_append_getElem hi,e] at hm
  rcases List.mem_append.1 hm with hm | hm
  ·exact b m hm
  ·rw [List.mem_singleton.1 hm];exact h0
theorem bJr(hn:nums[i]?=some n)(h:(iE n).2≠0∨4<nums.length):jT nums=⟨if 1<nums.length then [bT nums.length] else [],false,[]⟩:=by
 unfold jT;rw [if_pos]
 rcases h with h | h
 ·refine .inl (List.any_eq_true.2 ⟨n,List.mem_of_getElem? hn,?_⟩)
  simpa using h
 ·exact .inr h
theorem lit_end(h:bHt nums l i)(hi:nums.length≤i)(hl:i≤nums.length):jT nums=⟨if 1<nums.length then [bT nums.length] else [],true,bK l⟩:=by
 obtain⟨a,b,c⟩:=h;rw [List.take_of_length_le hi] at a b;unfold jT;rw [if_neg,a];rintro(k | k)
 ·obtain⟨n,hn,k⟩:=List.any_eq_true.1 k;have:=b n hn;simp [this] at k
 ·have:=c n0;omega
end
theorem bKh(l:Sl PolV)(hl:l.list.length≤5864062014805):cO prog 82 [.slice l.addr l.list.length l.cap] [] [listF l] (fun(x:Option Addr×Nat)=> .slice x.1 l.list.reverse.length x.2) (fun _=>[]) (fun(x:Option Addr×Nat)=>[listF ⟨x.1,x.2,l.list.reverse⟩]):=by
 have hT:=fH;refine k6 func82 ntmps82 ?_;intro β hM;refine g8 ?_;refine j4 func114 (yG l.addr l.cap l.list hl) ⟨vV d7,j1⟩ fun⟨A1,c2⟩=>?_;refine g6 ?_;refine bD func115 (bPf A1 c2 l.list n0) rfl rfl (.c0 .nil) j1 fun _=>?_;refine g9 ?_;refine bV .head fun hcp=>bE .head ?_;exact rs1 (A1,c2) ⟨cG (sl_rev d7) (polsF_rev (bCq d8)) (by simpa using hcp),j1⟩ (he:=by rw [List.length_reverse])
theorem bPo(A:Option Addr)(c:Nat)(nums:List Int)(hl:nums.length≤1000000):cO prog 47 [.slice A nums.length c] [] [tA.sl (.slice A nums.length c) nums] (fun(x:TyV)=>tyC x) (fun _=>[]) (fun(x:TyV)=>[tyF x,Fact.pure (x.t=jT nums)]):=by
 have hT:=fH;refine k6 func47 ntmps47 ?_;intro β hM;refine g2 ?_;refine j5 pW fun b1=>?_;refine g15 ?_;refine dO (fun hc11=>?_) fun hc11=>?_
 ·refine g3 ?_;refine j4 func45 (jI (((nums.length:Nat):Int))) j1 fun⟨A2,c3⟩=>?_;refine cX (m:=⟨A2,c3,bT (((nums.length:Nat):Int))⟩) rfl rfl rfl rfl rfl fun b4=>?_;refine bQ (E:=bP) (xs:=[(⟨A2,c3,bT (((nums.length:Nat):Int))⟩:PolV)]) .head p8<|bE .head<|bB (cL [(⟨A2,c3,bT (((nums.length:Nat):Int))⟩:PolV)]) (iR d8) ?_;refine g6 ?_;refine j4 func44 (iM (some ⟨b4,0,none⟩) none ([(⟨A2,c3,bT (((nums.length:Nat):Int))⟩:PolV)].length) (0) 1 0) j1 fun _=>?_;refine j5 pW fun b5=>?_;refine g12 ?_;refine cH (t:=47) bP<|bB (cL []) (Has.each_nil) ?_;refine cD (ι:=Nat×List PolV×Option Addr×Nat) [(0,_),(2,_),(3,_),(4,_),(18,_),(19,_)] ⟨rfl,rfl,rfl,rfl,rfl,rfl,j1⟩ (fun⟨i,vs,V,cv⟩=>[(20,.int .i64 (i:Nat))]) (fun⟨i,vs,V,cv⟩=>[.obj b5 (.cells [.slice (some ⟨b4,0,none⟩) ([(⟨A2,c3,bT (((nums.length:Nat):Int))⟩:PolV)].length) 1,.bool true,.slice V vs.length cv].toArray 43),bP.row (.slice V vs.length cv) 47 vs]) (fun⟨i,vs,V,cv⟩=>[Fact.pure (i≤nums.length∧bHt nums vs i),cL vs]) (fun⟨i,vs,V,cv⟩=>nums.length-i) (0,[],none,0) ⟨rfl,j1⟩ (.c1 (.c0 .nil)) ⟨j2 (⟨n0,bSk nums⟩),d7,j1⟩ ?_;rintro⟨i,vs,V,cv⟩;dsimp only;refine bC d7 fun hinv6=>?_;refine g6 ?_;refine dO (fun hc21=>?_) fun hc21=>?_
  ·refine g6 ?_;obtain⟨x6,hx7⟩:=gx nums i;refine ss (ixs i) ?_;refine ss (dH hx7 0) ?_;refine g6 ?_;refine j4 func34 (wF x6) j1 fun⟨A8,c9⟩=>?_;refine g13 ?_;refine bEk (fun hg31=>?_) fun hg31=>?_
   ·refine g10 ?_;refine j4 func46 (dB (some ⟨b4,0,none⟩) ([(⟨A2,c3,bT (((nums.length:Nat):Int))⟩:PolV)].length) 1) j1 fun _=>?_;refine g10 ?_;have hr:jT nums=TyV.t ⟨⟨(some ⟨b4,0,none⟩),1,[(⟨A2,c3,bT (((nums.length:Nat):Int))⟩:PolV)]⟩,false,⟨none,0,[]⟩⟩:=(bJr hx7 ab2).trans y9;exact rs1 ⟨⟨(some ⟨b4,0,none⟩),1,[(⟨A2,c3,bT (((nums.length:Nat):Int))⟩:PolV)]⟩,false,⟨none,0,[]⟩⟩ ⟨(bW (x:=⟨⟨(some ⟨b4,0,none⟩),1,[(⟨A2,c3,bT (((nums.length:Nat):Int))⟩:PolV)]⟩,false,⟨none,0,[]⟩⟩) (cG e8 e7 (Nat.le_refl 1)) cJ),j2 hr.symm,j1⟩
   refine g6 ?_;refine dO (fun hc35=>?_) fun hc35=>?_
   ·refine g3 ?_;refine j4 func46 (dB (some ⟨b4,0,none⟩) ([(⟨A2,c3,bT (((nums.length:Nat):Int))⟩:PolV)].length) 1) j1 fun _=>?_;refine g10 ?_;have hr:jT nums=TyV.t ⟨⟨(some ⟨b4,0,none⟩),1,[(⟨A2,c3,bT (((nums.length:Nat):Int))⟩:PolV)]⟩,false,⟨none,0,[]⟩⟩:=(bJr hx7 ab2).trans y9;exact rs1 ⟨⟨(some ⟨b4,0,none⟩),1,[(⟨A2,c3,bT (((nums.length:Nat):Int))⟩:PolV)]⟩,false,⟨none,0,[]⟩⟩ ⟨(bW (x:=⟨⟨(some ⟨b4,0,none⟩),1,[(⟨A2,c3,bT (((nums.length:Nat):Int))⟩:PolV)]⟩,false,⟨none,0,[]⟩⟩) (cG e8 e7 (Nat.le_refl 1)) cJ),j2 hr.symm,j1⟩
   refine g6 ?_;refine cX (m:=(⟨A8,c9,(iE x6).1⟩:PolV)) rfl rfl rfl rfl rfl fun b10=>?_;refine bB (cL (vs++[((⟨A8,c9,(iE x6).1⟩:PolV):PolV)])) (Has.each_snoc d9 d7) ?_;have hvl:=hinv6.2.len hinv6.1;refine fJ kT2 (cA .head rfl) rfl rfl rfl rfl rfl rfl rfl q9 fun A11 c12=>?_;refine g7 ?_;refine inc (i+1) ?_;refine g3 ?_;exact bk2 (i+1,vs++[((⟨A8,c9,(iE x6).1⟩:PolV):PolV)],A11,c12) ⟨j2 (⟨by dsimp only;omega,lit_step hinv6.2 hx7 rfl ac0 n0⟩),d7,j1⟩
  refine g6 ?_;refine bV kT1 fun hcv=>bE kT1 ?_;refine g6 ?_;have hr:jT nums=TyV.t ⟨⟨(some ⟨b4,0,none⟩),1,[(⟨A2,c3,bT (((nums.length:Nat):Int))⟩:PolV)]⟩,true,⟨V,cv,vs⟩⟩:=(lit_end hinv6.2 n0 hinv6.1).trans y9;exact rs1 ⟨⟨(some ⟨b4,0,none⟩),1,[(⟨A2,c3,bT (((nums.length:Nat):Int))⟩:PolV)]⟩,true,⟨V,cv,vs⟩⟩ ⟨(bW (x:=⟨⟨(some ⟨b4,0,none⟩),1,[(⟨A2,c3,bT (((nums.length:Nat):Int))⟩:PolV)]⟩,true,⟨V,cv,vs⟩⟩) (cG e8 e7 (Nat.le_refl 1)) (cG d7 d9 (hcv))),j2 hr.symm,j1⟩
 refine g5 ?_;refine j4 func44 (iM none none (0) (0) 0 0) j1 fun _=>?_;refine j5 pW fun b13=>?_;refine g12 ?_;refine cH (t:=47) bP<|bB (cL []) (Has.each_nil) ?_;refine cD (ι:=Nat×List PolV×Option Addr×Nat) [(0,_),(2,_),(3,_),(4,_),(18,_),(19,_)] ⟨rfl,rfl,rfl,rfl,rfl,rfl,j1⟩ (fun⟨i,vs,V,cv⟩=>[(20,.int .i64 (i:Nat))]) (fun⟨i,vs,V,cv⟩=>[.obj b13 (.cells [.slice none (0) 0,.bool true,.slice V vs.length cv].toArray 43),bP.row (.slice V vs.length cv) 47 vs]) (fun⟨i,vs,V,cv⟩=>[Fact.pure (i≤nums.length∧bHt nums vs i),cL vs]) (fun⟨i,vs,V,cv⟩=>nums.length-i) (0,[],none,0) ⟨rfl,j1⟩ (.c1 (.c0 .nil)) ⟨j2 (⟨n0,bSk nums⟩),d7,j1⟩ ?_;rintro⟨i,vs,V,cv⟩;dsimp only;refine bC d7 fun hinv6=>?_;refine g6 ?_;refine dO (fun hc21=>?_) fun hc21=>?_
 ·refine g6 ?_;obtain⟨x14,hx15⟩:=gx nums i;refine ss (ixs i) ?_;refine ss (dH hx15 0) ?_;refine g6 ?_;refine j4 func34 (wF x14) j1 fun⟨A16,c17⟩=>?_;refine g13 ?_;refine bEk (fun hg31=>?_) fun hg31=>?_
  ·refine g10 ?_;refine j4 func46 (dB none (0) 0) j1 fun _=>?_;refine g10 ?_;have hr:jT nums=TyV.t ⟨⟨none,0,[]⟩,false,⟨none,0,[]⟩⟩:=(bJr hx15 ab2).trans y9;exact rs1 ⟨⟨none,0,[]⟩,false,⟨none,0,[]⟩⟩ ⟨(bW (x:=⟨⟨none,0,[]⟩,false,⟨none,0,[]⟩⟩) cJ cJ),j2 hr.symm,j1⟩
  refine g6 ?_;refine dO (fun hc35=>?_) fun hc35=>?_
  ·refine g3 ?_;refine j4 func46 (dB none (0) 0) j1 fun _=>?_;refine g10 ?_;have hr:jT nums=TyV.t ⟨⟨none,0,[]⟩,false,⟨none,0,[]⟩⟩:=(bJr hx15 ab2).trans y9;exact rs1 ⟨⟨none,0,[]⟩,false,⟨none,0,[]⟩⟩ ⟨(bW (x:=⟨⟨none,0,[]⟩,false,⟨none,0,[]⟩⟩) cJ cJ),j2 hr.symm,j1⟩
  refine g6 ?_;refine cX (m:=(⟨A16,c17,(iE x14).1⟩:PolV)) rfl rfl rfl rfl rfl fun b18=>?_;refine bB (cL (vs++[((⟨A16,c17,(iE x14).1⟩:PolV):PolV)])) (Has.each_snoc d9 d7) ?_;have hvl:=hinv6.2.len hinv6.1;refine fJ kT2 (cA .head rfl) rfl rfl rfl rfl rfl rfl rfl q9 fun A19 c20=>?_;refine g7 ?_;refine inc (i+1) ?_;refine g3 ?_;exact bk2 (i+1,vs++[((⟨A16,c17,(iE x14).1⟩:PolV):PolV)],A19,c20) ⟨j2 (⟨by dsimp only;omega,lit_step hinv6.2 hx15 rfl ac0 n0⟩),d7,j1⟩
 refine g6 ?_;refine bV kT1 fun hcv=>bE kT1 ?_;refine g6 ?_;have hr:jT nums=TyV.t ⟨⟨none,0,[]⟩,true,⟨V,cv,vs⟩⟩:=(lit_end hinv6.2 n0 hinv6.1).trans y9;exact rs1 ⟨⟨none,0,[]⟩,true,⟨V,cv,vs⟩⟩ ⟨(bW (x:=⟨⟨none,0,[]⟩,true,⟨V,cv,vs⟩⟩) cJ (cG d7 d9 (hcv))),j2 hr.symm,j1⟩
end Go.Proofs.YtakphiannlpnfaaGreatDoor
